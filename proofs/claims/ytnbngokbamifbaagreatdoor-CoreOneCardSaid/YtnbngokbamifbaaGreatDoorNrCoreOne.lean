/- For every input the law's Go function returns true and leaves its arguments as they were, where the package's tables are as the program's text lays them; and the card that ties them to the text. No other condition. -/
import Derived.Test.YtnbngokbamifbaaGreatDoorCards
import Derived.Test.YtnbngokbamifbaaGreatDoorTie
import Derived.Test.YtnbngokbamifbaaGreatDoorNr31
import Derived.Test.YtnbngokbamifbaaGreatDoorNr24
import Derived.WalkKit
import Derived.ProofKit
import Derived.OpenShut
import Derived.ChangeOld
import Derived.Below
import Derived.Carry
import Derived.LaidMore
import Derived.Stop.Joined
import Derived.SevenTiedAt
set_option linter.unusedVariables false
set_option linter.unusedSimpArgs false
namespace Go.Proofs.YtnbngokbamifbaaGreatDoor.coreOneRow
open Go.ChangeShapes Go.WideShapes Go.ChangeAt Go.RowKit
theorem own:ownKnob Tryz.prog.godebug=none:=by kernel_rfl
theorem laidOut:laidOutB Tryz.prog=true:=by kernel_rfl
set_option maxRecDepth 100000 in
theorem lifted (os:Os) (started:os.Started) (H:Type) (enc:TypeId × Value->H) :
  ReturnsInHanded {} Tryz.checked os 7 .any (fun w args=>(Rows.coreOneSpec.pre enc Tryz.prog Tryz.f7 [] false w args/\laidMetH Tryz.prog dU.gv w)/\sizedMet enc Tryz.prog Tryz.f7 (OpenSpec.ofChange Rows.coreOneSpec) false w args)
   (Rows.coreOneSpec.post enc Tryz.prog Tryz.f7 false true false false):=by
 refine returnsInHanded_of_change_and (C:=Tryz.checked) (X:=fun w _=>laidMetH Tryz.prog dU.gv w) (fun _ _ _ hh h=>h.of_heap hh) own started (by kernel_rfl) Tryz.func7
  (ChangeSpec.witness_shaped (enc:=enc) (C:=Tryz.checked) (os:=os) (X:=fun w _=>laidMetH Tryz.prog dU.gv w) false (World.doorLaid Tryz.prog dU.fuel os) #[.agg #[.int .i64 0,.int .i64 0,.int .i64 0,.int .i64 0,.int .i64 0,.int .i64 0,.int .i64 0,.int .i64 0,.int .i64 0,.int .i64 0,.int .i64 0],.agg #[.int .u32 0,.int .u32 0,.int .u32 0,.int .u32 0,.int .u32 0,.int .u32 0,.int .u32 0,.int .u32 0,.int .u32 0,.int .u32 0,.int .u32 0,.int .u32 0,.int .u32 0,.int .u32 0,.int .u32 0,.int .u32 0,.int .u32 0,.int .u32 0,.int .u32 0,.int .u32 0],.slice none 0 0] 8 rfl (World.shaped_of_RefB (by kernel_rfl) (by kernel_rfl)) (by kernel_rfl) (by kernel_rfl) (by kernel_rfl) (dU.zp os _)) ?_
 intro W base args ds gs before z6 hW _ fA hL _
 have tL:∀ (j:Nat) t v,Tryz.f7.params[j]?=some t->args[j]?=some v->Value.okWide Tryz.prog W .any base t v:=z6
 have hW':=hW
 obtain⟨p,q,Vk,hV,rfl,hfz,FU⟩:=hW
 have hA:DataW.TrodAll enc Tryz.prog W 0 (fun _=>true) true Tryz.f7.params.toList args.toList ds p:=Vk
 have tM:(DataW.weightsEach Tryz.prog (Tryz.f7.params.toList++Rows.coreOneSpec.plain.varTypes Tryz.prog) (ds++gs)).all (·<=reachBytes)=true:=fA
 rw[Tryz.params7] at hA tL tM
 obtain⟨v0,vs0,d0,ds0,p0,q0,hargs,rfl,rfl,h0,r0⟩:=trodAll_cons hA
 obtain⟨v1,vs1,d1,ds1,p1,q1,rfl,rfl,rfl,h1,r1⟩:=trodAll_cons r0
 obtain⟨v2,vs2,d2,ds2,p2,q2,rfl,rfl,rfl,h2,r2⟩:=trodAll_cons r1
 obtain⟨rfl,rfl,rfl⟩:=trodAll_nil r2
 obtain rfl:args = #[v0,v1,v2]:=by cases args; simp_all
 obtain⟨rfl,rfl⟩:=trodVars_none hV
 have k0:=h0
 have lt0:∀ x∈p0,x.block < W.heap.size:=by obtain⟨m,hm⟩:=k0; exact DataW.trod_lt m _ _ _ hm
 obtain⟨a0,rfl,_⟩:=okWide_struct Tryz.underlying76 (tL 0 76 v0 rfl rfl)
 obtain⟨x0,s0,i0⟩:=Go.Proofs.YtnbngokbamifbaaGreatDoor.Pw.Op.U6 Go.Proofs.YtnbngokbamifbaaGreatDoor.Pw.ZI Go.Proofs.YtnbngokbamifbaaGreatDoor.Pw.Io h0 (Go.Proofs.YtnbngokbamifbaaGreatDoor.Pw.jk tM (i:=0) (t:=76) rfl rfl)
 have k1:=h1
 have lt1:∀ x∈p1,x.block < W.heap.size:=by obtain⟨m,hm⟩:=k1; exact DataW.trod_lt m _ _ _ hm
 obtain⟨a1,rfl,_⟩:=okWide_struct Tryz.underlying42 (tL 1 42 v1 rfl rfl)
 obtain⟨x1,s1,i1⟩:=Go.Proofs.YtnbngokbamifbaaGreatDoor.Pw.Op.U6 Go.Proofs.YtnbngokbamifbaaGreatDoor.Pw.DK Go.Proofs.YtnbngokbamifbaaGreatDoor.Pw.qw h1 (Go.Proofs.YtnbngokbamifbaaGreatDoor.Pw.jk tM (i:=1) (t:=42) rfl rfl)
 have k2:=h2
 have lt2:∀ x∈p2,x.block < W.heap.size:=by obtain⟨m,hm⟩:=k2; exact DataW.trod_lt m _ _ _ hm
 obtain⟨a2,l2,c2,rfl⟩:=okWide_slice Tryz.underlying77 (tL 2 77 v2 rfl rfl)
 obtain⟨x2,s2,i2⟩:=Go.Proofs.YtnbngokbamifbaaGreatDoor.Pw.JY.G7 (Go.Proofs.YtnbngokbamifbaaGreatDoor.Pw.FX.cell) rfl h2 (Go.Proofs.YtnbngokbamifbaaGreatDoor.Pw.jk tM (i:=2) (t:=77) rfl rfl)
 clear Vk z6
 refine ((Go.Proofs.YtnbngokbamifbaaGreatDoor.Pw.uk x0 s0 x1 s1 x2 s2).calls (Go.Proofs.YtnbngokbamifbaaGreatDoor.Pw.C2 hL) (Go.Proofs.YtnbngokbamifbaaGreatDoor.Pw.fP i0 (Go.Proofs.YtnbngokbamifbaaGreatDoor.Pw.fP i1 (Go.Proofs.YtnbngokbamifbaaGreatDoor.Pw.fP i2 Go.Proofs.YtnbngokbamifbaaGreatDoor.Pw.qF))) (.bool true) Go.Proofs.YtnbngokbamifbaaGreatDoor.Pw.Cc).mono fun e W' ⟨he,JZ⟩=>?_
 subst he
 exact⟨_,rfl,_,_,_,[],_,[],hW',trodAll_mk1 (shut_bool Tryz.underlying4 _),(trodAll_cons_mk (Below.trod laidOut (by kernel_rfl) (of_decide_eq_true (by kernel_rfl)) k0 JZ lt0) (trodAll_cons_mk (Below.trod laidOut (by kernel_rfl) (of_decide_eq_true (by kernel_rfl)) k1 JZ lt1) (trodAll_cons_mk (Below.trod laidOut (by kernel_rfl) (of_decide_eq_true (by kernel_rfl)) k2 JZ lt2) trodAll_mk0))),rfl,JZ.frame _,fun h=>by cases h⟩
theorem over:Rows.coreOneRow.holds Tryz.pinned (OpenSpec.ofChange Rows.coreOneSpec) :=
 OpenClaim.holds_of_wide 7 Tryz.f7 rfl rfl rfl rfl rfl rfl rfl ⟨rfl,rfl,rfl,rfl,rfl⟩ rfl rfl rfl rfl rfl (by kernel_rfl) Tryz.func7 (by kernel_rfl)
  (of_decide_eq_true (by kernel_rfl)) (by unfold Func.isWrapper; first|(rw[if_pos (by decide +kernel)]; kernel_rfl)|(rw[if_neg (by decide +kernel)]; exact⟨rfl,rfl⟩))
  (fun os started H enc _=>lifted os started H enc)
theorem proved:Rows.CoreOneCardSaid :=
 Claim7.holds_tied_plain_at .later [] [.data,.data] true Rows.coreOneCard.stood.harness false
  over (fun _ h=>by cases h) (by kernel_rfl) (fun _ h=>by cases h) coreOne_row_tie rfl ⟨rfl,rfl⟩ (by kernel_rfl) rfl
  (fun f fn hf ZQ=>by
   obtain rfl:f=7:=Option.some.inj ((show Tryz.prog.funcNamed "remontoire/remontoirelaw07.CoreOne"=some 7 by kernel_rfl).symm.trans hf) |>.symm
   obtain rfl:fn=Tryz.f7:=(Option.some.inj (Tryz.func7.symm.trans ZQ)).symm
   exact⟨by kernel_rfl,fun j t ht=>by
    rw[Tryz.params7] at ht
    have hm:t∈([76,42,77]:List TypeId):=by simpa using Array.mem_of_getElem? ht
    have du:(([76,42,77]:List TypeId).all fun u=>!Tryz.prog.wantsStandIn u)=true:=by kernel_rfl
    exact (show Tryz.prog.wantsStandIn t=false by simpa using List.all_eq_true.1 du t hm)⟩)
  (by kernel_rfl)
#print axioms proved
end Go.Proofs.YtnbngokbamifbaaGreatDoor.coreOneRow

/- For every input the law's Go function returns true and leaves its arguments as they were, where the package's tables are as the program's text lays them; and the card that ties them to the text. No other condition. -/
import Derived.Test.YtnbngokbamifbaaGreatDoorCards
import Derived.Test.YtnbngokbamifbaaGreatDoorTie
import Derived.Test.YtnbngokbamifbaaGreatDoorNr31
import Derived.Test.YtnbngokbamifbaaGreatDoorNr24
import Derived.WalkKit
import Derived.ProofKit
import Derived.OpenShut
import Derived.ChangeOld
import Derived.Below
import Derived.Carry
import Derived.LaidMore
import Derived.Stop.Joined
import Derived.SevenTiedAt
set_option linter.unusedVariables false
set_option linter.unusedSimpArgs false
namespace Go.Proofs.YtnbngokbamifbaaGreatDoor.coreStepsRow
open Go.ChangeShapes Go.WideShapes Go.ChangeAt Go.RowKit
theorem own:ownKnob Tryz.prog.godebug=none:=by kernel_rfl
theorem laidOut:laidOutB Tryz.prog=true:=by kernel_rfl
set_option maxRecDepth 100000 in
theorem lifted (os:Os) (started:os.Started) (H:Type) (enc:TypeId × Value->H) :
  ReturnsInHanded {} Tryz.checked os 6 .any (fun w args=>(Rows.coreStepsSpec.pre enc Tryz.prog Tryz.f6 [] false w args/\laidMetH Tryz.prog dU.gv w)/\sizedMet enc Tryz.prog Tryz.f6 (OpenSpec.ofChange Rows.coreStepsSpec) false w args)
   (Rows.coreStepsSpec.post enc Tryz.prog Tryz.f6 false true false false):=by
 refine returnsInHanded_of_change_and (C:=Tryz.checked) (X:=fun w _=>laidMetH Tryz.prog dU.gv w) (fun _ _ _ hh h=>h.of_heap hh) own started (by kernel_rfl) Tryz.func6
  (ChangeSpec.witness_shaped (enc:=enc) (C:=Tryz.checked) (os:=os) (X:=fun w _=>laidMetH Tryz.prog dU.gv w) false (World.doorLaid Tryz.prog dU.fuel os) #[.slice none 0 0,.slice none 0 0,.int .i64 0,.agg #[.int .u32 0,.int .u32 0,.int .u32 0,.int .u32 0,.int .u32 0,.int .u32 0,.int .u32 0,.int .u32 0,.int .u32 0,.int .u32 0,.int .u32 0,.int .u32 0,.int .u32 0,.int .u32 0,.int .u32 0,.int .u32 0,.int .u32 0,.int .u32 0,.int .u32 0,.int .u32 0],.int .i64 0] 8 rfl (World.shaped_of_RefB (by kernel_rfl) (by kernel_rfl)) (by kernel_rfl) (by kernel_rfl) (by kernel_rfl) (dU.zp os _)) ?_
 intro W base args ds gs before z6 hW _ fA hL _
 have tL:∀ (j:Nat) t v,Tryz.f6.params[j]?=some t->args[j]?=some v->Value.okWide Tryz.prog W .any base t v:=z6
 have hW':=hW
 obtain⟨p,q,Vk,hV,rfl,hfz,FU⟩:=hW
 have hA:DataW.TrodAll enc Tryz.prog W 0 (fun _=>true) true Tryz.f6.params.toList args.toList ds p:=Vk
 have tM:(DataW.weightsEach Tryz.prog (Tryz.f6.params.toList++Rows.coreStepsSpec.plain.varTypes Tryz.prog) (ds++gs)).all (·<=reachBytes)=true:=fA
 rw[Tryz.params6] at hA tL tM
 obtain⟨v0,vs0,d0,ds0,p0,q0,hargs,rfl,rfl,h0,r0⟩:=trodAll_cons hA
 obtain⟨v1,vs1,d1,ds1,p1,q1,rfl,rfl,rfl,h1,r1⟩:=trodAll_cons r0
 obtain⟨v2,vs2,d2,ds2,p2,q2,rfl,rfl,rfl,h2,r2⟩:=trodAll_cons r1
 obtain⟨v3,vs3,d3,ds3,p3,q3,rfl,rfl,rfl,h3,r3⟩:=trodAll_cons r2
 obtain⟨v4,vs4,d4,ds4,p4,q4,rfl,rfl,rfl,h4,r4⟩:=trodAll_cons r3
 obtain⟨rfl,rfl,rfl⟩:=trodAll_nil r4
 obtain rfl:args = #[v0,v1,v2,v3,v4]:=by cases args; simp_all
 obtain⟨rfl,rfl⟩:=trodVars_none hV
 have k0:=h0
 have lt0:∀ x∈p0,x.block < W.heap.size:=by obtain⟨m,hm⟩:=k0; exact DataW.trod_lt m _ _ _ hm
 obtain⟨a0,l0,c0,rfl⟩:=okWide_slice Tryz.underlying46 (tL 0 46 v0 rfl rfl)
 obtain⟨x0,s0,i0⟩:=Go.Proofs.YtnbngokbamifbaaGreatDoor.Pw.VV.G7 (Go.Proofs.YtnbngokbamifbaaGreatDoor.Pw.FX.cell) rfl h0 (Go.Proofs.YtnbngokbamifbaaGreatDoor.Pw.jk tM (i:=0) (t:=46) rfl rfl)
 have k1:=h1
 have lt1:∀ x∈p1,x.block < W.heap.size:=by obtain⟨m,hm⟩:=k1; exact DataW.trod_lt m _ _ _ hm
 obtain⟨a1,l1,c1,rfl⟩:=okWide_slice Tryz.underlying27 (tL 1 27 v1 rfl rfl)
 obtain⟨x1,s1,i1⟩:=Go.Proofs.YtnbngokbamifbaaGreatDoor.Pw.Ip.G7 (Go.Proofs.YtnbngokbamifbaaGreatDoor.Pw.FX.cell) rfl h1 (Go.Proofs.YtnbngokbamifbaaGreatDoor.Pw.jk tM (i:=1) (t:=27) rfl rfl)
 have k2:=h2
 have lt2:∀ x∈p2,x.block < W.heap.size:=by obtain⟨m,hm⟩:=k2; exact DataW.trod_lt m _ _ _ hm
 obtain⟨b2,rfl,_,_,_⟩:=open_int Tryz.underlying3 (tL 2 3 v2 rfl rfl) h2
 obtain⟨x2,s2,i2⟩:=Go.Proofs.YtnbngokbamifbaaGreatDoor.Pw.iq.G7 (Go.Proofs.YtnbngokbamifbaaGreatDoor.Pw.SInt.cell) rfl h2 (Go.Proofs.YtnbngokbamifbaaGreatDoor.Pw.jk tM (i:=2) (t:=3) rfl rfl)
 have k3:=h3
 have lt3:∀ x∈p3,x.block < W.heap.size:=by obtain⟨m,hm⟩:=k3; exact DataW.trod_lt m _ _ _ hm
 obtain⟨a3,rfl,_⟩:=okWide_struct Tryz.underlying42 (tL 3 42 v3 rfl rfl)
 obtain⟨x3,s3,i3⟩:=Go.Proofs.YtnbngokbamifbaaGreatDoor.Pw.Op.U6 Go.Proofs.YtnbngokbamifbaaGreatDoor.Pw.DK Go.Proofs.YtnbngokbamifbaaGreatDoor.Pw.qw h3 (Go.Proofs.YtnbngokbamifbaaGreatDoor.Pw.jk tM (i:=3) (t:=42) rfl rfl)
 have k4:=h4
 have lt4:∀ x∈p4,x.block < W.heap.size:=by obtain⟨m,hm⟩:=k4; exact DataW.trod_lt m _ _ _ hm
 obtain⟨b4,rfl,_,_,_⟩:=open_int Tryz.underlying3 (tL 4 3 v4 rfl rfl) h4
 obtain⟨x4,s4,i4⟩:=Go.Proofs.YtnbngokbamifbaaGreatDoor.Pw.iq.G7 (Go.Proofs.YtnbngokbamifbaaGreatDoor.Pw.SInt.cell) rfl h4 (Go.Proofs.YtnbngokbamifbaaGreatDoor.Pw.jk tM (i:=4) (t:=3) rfl rfl)
 clear Vk z6
 refine ((Go.Proofs.YtnbngokbamifbaaGreatDoor.Pw.qQ x0 s0 x1 s1 x2 s2 x3 s3 x4 s4).calls (Go.Proofs.YtnbngokbamifbaaGreatDoor.Pw.C2 hL) (Go.Proofs.YtnbngokbamifbaaGreatDoor.Pw.fP i0 (Go.Proofs.YtnbngokbamifbaaGreatDoor.Pw.fP i1 (Go.Proofs.YtnbngokbamifbaaGreatDoor.Pw.fP i2 (Go.Proofs.YtnbngokbamifbaaGreatDoor.Pw.fP i3 (Go.Proofs.YtnbngokbamifbaaGreatDoor.Pw.fP i4 Go.Proofs.YtnbngokbamifbaaGreatDoor.Pw.qF))))) (.bool true) Go.Proofs.YtnbngokbamifbaaGreatDoor.Pw.Cc).mono fun e W' ⟨he,JZ⟩=>?_
 subst he
 exact⟨_,rfl,_,_,_,[],_,[],hW',trodAll_mk1 (shut_bool Tryz.underlying4 _),(trodAll_cons_mk (Below.trod laidOut (by kernel_rfl) (of_decide_eq_true (by kernel_rfl)) k0 JZ lt0) (trodAll_cons_mk (Below.trod laidOut (by kernel_rfl) (of_decide_eq_true (by kernel_rfl)) k1 JZ lt1) (trodAll_cons_mk (Below.trod laidOut (by kernel_rfl) (of_decide_eq_true (by kernel_rfl)) k2 JZ lt2) (trodAll_cons_mk (Below.trod laidOut (by kernel_rfl) (of_decide_eq_true (by kernel_rfl)) k3 JZ lt3) (trodAll_cons_mk (Below.trod laidOut (by kernel_rfl) (of_decide_eq_true (by kernel_rfl)) k4 JZ lt4) trodAll_mk0))))),rfl,JZ.frame _,fun h=>by cases h⟩
theorem over:Rows.coreStepsRow.holds Tryz.pinned (OpenSpec.ofChange Rows.coreStepsSpec) :=
 OpenClaim.holds_of_wide 6 Tryz.f6 rfl rfl rfl rfl rfl rfl rfl ⟨rfl,rfl,rfl,rfl,rfl⟩ rfl rfl rfl rfl rfl (by kernel_rfl) Tryz.func6 (by kernel_rfl)
  (of_decide_eq_true (by kernel_rfl)) (by unfold Func.isWrapper; first|(rw[if_pos (by decide +kernel)]; kernel_rfl)|(rw[if_neg (by decide +kernel)]; exact⟨rfl,rfl⟩))
  (fun os started H enc _=>lifted os started H enc)
theorem proved:Rows.CoreStepsCardSaid :=
 Claim7.holds_tied_plain_at .later [] [.data,.data] true Rows.coreStepsCard.stood.harness false
  over (fun _ h=>by cases h) (by kernel_rfl) (fun _ h=>by cases h) coreSteps_row_tie rfl ⟨rfl,rfl⟩ (by kernel_rfl) rfl
  (fun f fn hf ZQ=>by
   obtain rfl:f=6:=Option.some.inj ((show Tryz.prog.funcNamed "remontoire/remontoirelaw07.CoreSteps"=some 6 by kernel_rfl).symm.trans hf) |>.symm
   obtain rfl:fn=Tryz.f6:=(Option.some.inj (Tryz.func6.symm.trans ZQ)).symm
   exact⟨by kernel_rfl,fun j t ht=>by
    rw[Tryz.params6] at ht
    have hm:t∈([46,27,3,42,3]:List TypeId):=by simpa using Array.mem_of_getElem? ht
    have du:(([46,27,3,42,3]:List TypeId).all fun u=>!Tryz.prog.wantsStandIn u)=true:=by kernel_rfl
    exact (show Tryz.prog.wantsStandIn t=false by simpa using List.all_eq_true.1 du t hm)⟩)
  (by kernel_rfl)
#print axioms proved
end Go.Proofs.YtnbngokbamifbaaGreatDoor.coreStepsRow

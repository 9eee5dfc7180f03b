/- For every input the law's Go function returns true and leaves its arguments as they were, where the package's tables are as the program's text lays them; and the card that ties them to the text. No other condition. -/
import Derived.Test.YtnbhdacpogplgaaGreatDoorCards
import Derived.Test.YtnbhdacpogplgaaGreatDoorTie
import Derived.Test.YtnbhdacpogplgaaGreatDoorPn23
import Derived.WalkKit
import Derived.ProofKit
import Derived.OpenShut
import Derived.ChangeOld
import Derived.Below
import Derived.Carry
import Derived.LaidMore
import Derived.Stop.Joined
import Derived.SevenTiedAt
set_option linter.unusedVariables false
set_option linter.unusedSimpArgs false
namespace Go.Proofs.YtnbhdacpogplgaaGreatDoor.planPlainRow
open Go.ChangeShapes Go.WideShapes Go.ChangeAt Go.RowKit
theorem own:ownKnob Tryz.prog.godebug=none:=by kernel_rfl
theorem laidOut:laidOutB Tryz.prog=true:=by kernel_rfl
set_option maxRecDepth 100000 in
theorem lifted (os:Os) (started:os.Started) (H:Type) (enc:TypeId × Value->H) :
  ReturnsInHanded {} Tryz.checked os 3 .any (fun w args=>(Rows.planPlainSpec.pre enc Tryz.prog Tryz.f3 [] false w args/\laidMetH Tryz.prog dW.gf w)/\sizedMet enc Tryz.prog Tryz.f3 (OpenSpec.ofChange Rows.planPlainSpec) false w args)
   (Rows.planPlainSpec.post enc Tryz.prog Tryz.f3 false true false false):=by
 refine returnsInHanded_of_change_and (C:=Tryz.checked) (X:=fun w _=>laidMetH Tryz.prog dW.gf w) (fun _ _ _ hh h=>h.of_heap hh) own started (by kernel_rfl) Tryz.func3
  (ChangeSpec.witness_shaped (enc:=enc) (C:=Tryz.checked) (os:=os) (X:=fun w _=>laidMetH Tryz.prog dW.gf w) false (World.doorLaid Tryz.prog dW.fuel os) #[.slice none 0 0,.int .i64 0,.int .i64 0] 8 rfl (World.shaped_of_RefB (by kernel_rfl) (by kernel_rfl)) (by kernel_rfl) (by kernel_rfl) (by kernel_rfl) (dW.Bz os _)) ?_
 intro W base args ds gs before E8 hW _ dK hL _
 have Eg:∀ (j:Nat) t v,Tryz.f3.params[j]?=some t->args[j]?=some v->Value.okWide Tryz.prog W .any base t v:=E8
 have Wy:=hW
 obtain⟨p,q,Uc,hV,rfl,Xd,FU⟩:=hW
 have hA:DataW.TrodAll enc Tryz.prog W 0 (fun _=>true) true Tryz.f3.params.toList args.toList ds p:=Uc
 have Eh:(DataW.weightsEach Tryz.prog (Tryz.f3.params.toList++Rows.planPlainSpec.plain.varTypes Tryz.prog) (ds++gs)).all (·<=reachBytes)=true:=dK
 rw[Tryz.params3] at hA Eg Eh
 obtain⟨v0,Xe,d0,Xf,p0,q0,Ud,rfl,rfl,h0,r0⟩:=trodAll_cons hA
 obtain⟨v1,Xg,d1,Xh,p1,q1,rfl,rfl,rfl,h1,r1⟩:=trodAll_cons r0
 obtain⟨v2,Xi,d2,Xj,p2,q2,rfl,rfl,rfl,h2,r2⟩:=trodAll_cons r1
 obtain⟨rfl,rfl,rfl⟩:=trodAll_nil r2
 obtain rfl:args = #[v0,v1,v2]:=by cases args; simp_all
 obtain⟨rfl,rfl⟩:=trodVars_none hV
 have k0:=h0
 have Wz:∀ x∈p0,x.block < W.heap.size:=by obtain⟨m,hm⟩:=k0; exact DataW.trod_lt m _ _ _ hm
 obtain⟨a0,l0,c0,rfl⟩:=okWide_slice Tryz.underlying22 (Eg 0 22 v0 rfl rfl)
 obtain⟨x0,s0,i0⟩:=Go.Proofs.YtnbhdacpogplgaaGreatDoor.Pw.BB.F3 (Go.Proofs.YtnbhdacpogplgaaGreatDoor.Pw.Lq.cell) rfl h0 (Go.Proofs.YtnbhdacpogplgaaGreatDoor.Pw.pV Eh (i:=0) (t:=22) rfl rfl)
 have k1:=h1
 have WA:∀ x∈p1,x.block < W.heap.size:=by obtain⟨m,hm⟩:=k1; exact DataW.trod_lt m _ _ _ hm
 obtain⟨b1,rfl,_,_,_⟩:=open_int Tryz.underlying3 (Eg 1 3 v1 rfl rfl) h1
 obtain⟨x1,s1,i1⟩:=Go.Proofs.YtnbhdacpogplgaaGreatDoor.Pw.BA.F3 (Go.Proofs.YtnbhdacpogplgaaGreatDoor.Pw.SInt.cell) rfl h1 (Go.Proofs.YtnbhdacpogplgaaGreatDoor.Pw.pV Eh (i:=1) (t:=3) rfl rfl)
 have k2:=h2
 have WB:∀ x∈p2,x.block < W.heap.size:=by obtain⟨m,hm⟩:=k2; exact DataW.trod_lt m _ _ _ hm
 obtain⟨b2,rfl,_,_,_⟩:=open_int Tryz.underlying3 (Eg 2 3 v2 rfl rfl) h2
 obtain⟨x2,s2,i2⟩:=Go.Proofs.YtnbhdacpogplgaaGreatDoor.Pw.BA.F3 (Go.Proofs.YtnbhdacpogplgaaGreatDoor.Pw.SInt.cell) rfl h2 (Go.Proofs.YtnbhdacpogplgaaGreatDoor.Pw.pV Eh (i:=2) (t:=3) rfl rfl)
 clear Uc E8
 refine ((Go.Proofs.YtnbhdacpogplgaaGreatDoor.Pw.lS x0 s0 x1 s1 x2 s2).calls (Go.Proofs.YtnbhdacpogplgaaGreatDoor.Pw.Ee hL) (Go.Proofs.YtnbhdacpogplgaaGreatDoor.Pw.ub i0 (Go.Proofs.YtnbhdacpogplgaaGreatDoor.Pw.ub i1 (Go.Proofs.YtnbhdacpogplgaaGreatDoor.Pw.ub i2 Go.Proofs.YtnbhdacpogplgaaGreatDoor.Pw.Gb))) (.bool true) Go.Proofs.YtnbhdacpogplgaaGreatDoor.Pw.CA).mono fun e W' ⟨he,PG⟩=>?_
 subst he
 exact⟨_,rfl,_,_,_,[],_,[],Wy,trodAll_mk1 (shut_bool Tryz.underlying4 _),(trodAll_cons_mk (Below.trod laidOut (by kernel_rfl) (of_decide_eq_true (by kernel_rfl)) k0 PG Wz) (trodAll_cons_mk (Below.trod laidOut (by kernel_rfl) (of_decide_eq_true (by kernel_rfl)) k1 PG WA) (trodAll_cons_mk (Below.trod laidOut (by kernel_rfl) (of_decide_eq_true (by kernel_rfl)) k2 PG WB) trodAll_mk0))),rfl,PG.frame _,fun h=>by cases h⟩
theorem over:Rows.planPlainRow.holds Tryz.pinned (OpenSpec.ofChange Rows.planPlainSpec) :=
 OpenClaim.holds_of_wide 3 Tryz.f3 rfl rfl rfl rfl rfl rfl rfl ⟨rfl,rfl,rfl,rfl,rfl⟩ rfl rfl rfl rfl rfl (by kernel_rfl) Tryz.func3 (by kernel_rfl)
  (of_decide_eq_true (by kernel_rfl)) (by unfold Func.isWrapper; first|(rw[if_pos (by decide +kernel)]; kernel_rfl)|(rw[if_neg (by decide +kernel)]; exact⟨rfl,rfl⟩))
  (fun os started H enc _=>lifted os started H enc)
theorem proved:Rows.PlanPlainCardSaid :=
 Claim7.holds_tied_plain_at .later [] [.data,.data,.data] true Rows.planPlainCard.stood.harness false
  over (fun _ h=>by cases h) (by kernel_rfl) (fun _ h=>by cases h) planPlain_row_tie rfl ⟨rfl,rfl⟩ (by kernel_rfl) rfl
  (fun f fn hf WC=>by
   obtain rfl:f=3:=Option.some.inj ((show Tryz.prog.funcNamed "remontoire/remontoirelaw22.PlanPlain"=some 3 by kernel_rfl).symm.trans hf) |>.symm
   obtain rfl:fn=Tryz.f3:=(Option.some.inj (Tryz.func3.symm.trans WC)).symm
   exact⟨by kernel_rfl,fun j t ht=>by
    rw[Tryz.params3] at ht
    have hm:t∈([22,3,3]:List TypeId):=by simpa using Array.mem_of_getElem? ht
    have cr:(([22,3,3]:List TypeId).all fun u=>!Tryz.prog.wantsStandIn u)=true:=by kernel_rfl
    exact (show Tryz.prog.wantsStandIn t=false by simpa using List.all_eq_true.1 cr t hm)⟩)
  (by kernel_rfl)
#print axioms proved
end Go.Proofs.YtnbhdacpogplgaaGreatDoor.planPlainRow

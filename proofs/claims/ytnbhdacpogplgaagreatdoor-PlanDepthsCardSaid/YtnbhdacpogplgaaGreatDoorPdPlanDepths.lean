/- For every input the law's Go function returns true and leaves its arguments as they were, where the package's tables are as the program's text lays them; and the card that ties them to the text. No other condition. -/
import Derived.Test.YtnbhdacpogplgaaGreatDoorCards
import Derived.Test.YtnbhdacpogplgaaGreatDoorTie
import Derived.Test.YtnbhdacpogplgaaGreatDoorPd27
import Derived.Test.YtnbhdacpogplgaaGreatDoorPd24
import Derived.WalkKit
import Derived.ProofKit
import Derived.OpenShut
import Derived.ChangeOld
import Derived.Below
import Derived.Carry
import Derived.LaidMore
import Derived.Stop.Joined
import Derived.SevenTiedAt
set_option linter.unusedVariables false
set_option linter.unusedSimpArgs false
namespace Go.Proofs.YtnbhdacpogplgaaGreatDoor.planDepthsRow
open Go.ChangeShapes Go.WideShapes Go.ChangeAt Go.RowKit
theorem own:ownKnob Tryz.prog.godebug=none:=by kernel_rfl
theorem laidOut:laidOutB Tryz.prog=true:=by kernel_rfl
set_option maxRecDepth 100000 in
theorem lifted (os:Os) (started:os.Started) (H:Type) (enc:TypeId × Value->H) :
  ReturnsInHanded {} Tryz.checked os 4 .any (fun w args=>(Rows.planDepthsSpec.pre enc Tryz.prog Tryz.f4 [] false w args/\laidMetH Tryz.prog fF.iW w)/\sizedMet enc Tryz.prog Tryz.f4 (OpenSpec.ofChange Rows.planDepthsSpec) false w args)
   (Rows.planDepthsSpec.post enc Tryz.prog Tryz.f4 false true false false):=by
 refine returnsInHanded_of_change_and (C:=Tryz.checked) (X:=fun w _=>laidMetH Tryz.prog fF.iW w) (fun _ _ _ hh h=>h.of_heap hh) own started (by kernel_rfl) Tryz.func4
  (ChangeSpec.witness_shaped (enc:=enc) (C:=Tryz.checked) (os:=os) (X:=fun w _=>laidMetH Tryz.prog fF.iW w) false (World.doorLaid Tryz.prog fF.fuel os) #[.slice none 0 0,.int .i64 0,.slice none 0 0] 8 rfl (World.shaped_of_RefB (by kernel_rfl) (by kernel_rfl)) (by kernel_rfl) (by kernel_rfl) (by kernel_rfl) (fF.FP os _)) ?_
 intro W base args ds gs before Ko hW _ eI hL _
 have Jx:∀ (j:Nat) t v,Tryz.f4.params[j]?=some t->args[j]?=some v->Value.okWide Tryz.prog W .any base t v:=Ko
 have hW':=hW
 obtain⟨p,q,hA0,hV,rfl,hfz,K9⟩:=hW
 have hA:DataW.TrodAll enc Tryz.prog W 0 (fun _=>true) true Tryz.f4.params.toList args.toList ds p:=hA0
 have Jy:(DataW.weightsEach Tryz.prog (Tryz.f4.params.toList++Rows.planDepthsSpec.plain.varTypes Tryz.prog) (ds++gs)).all (·<=reachBytes)=true:=eI
 rw[Tryz.params4] at hA Jx Jy
 obtain⟨v0,vs0,d0,ds0,p0,q0,hargs,rfl,rfl,h0,r0⟩:=trodAll_cons hA
 obtain⟨v1,vs1,d1,ds1,p1,q1,rfl,rfl,rfl,h1,r1⟩:=trodAll_cons r0
 obtain⟨v2,vs2,d2,ds2,p2,q2,rfl,rfl,rfl,h2,r2⟩:=trodAll_cons r1
 obtain⟨rfl,rfl,rfl⟩:=trodAll_nil r2
 obtain rfl:args = #[v0,v1,v2]:=by cases args; simp_all
 obtain⟨rfl,rfl⟩:=trodVars_none hV
 have k0:=h0
 have lt0:∀ x∈p0,x.block < W.heap.size:=by obtain⟨m,hm⟩:=k0; exact DataW.trod_lt m _ _ _ hm
 obtain⟨a0,l0,c0,rfl⟩:=okWide_slice Tryz.underlying22 (Jx 0 22 v0 rfl rfl)
 obtain⟨x0,s0,i0⟩:=Go.Proofs.YtnbhdacpogplgaaGreatDoor.Pw.FQ.Le (Go.Proofs.YtnbhdacpogplgaaGreatDoor.Pw.mh.cell) rfl h0 (Go.Proofs.YtnbhdacpogplgaaGreatDoor.Pw.tz Jy (i:=0) (t:=22) rfl rfl)
 have k1:=h1
 have lt1:∀ x∈p1,x.block < W.heap.size:=by obtain⟨m,hm⟩:=k1; exact DataW.trod_lt m _ _ _ hm
 obtain⟨b1,rfl,_,_,_⟩:=open_int Tryz.underlying3 (Jx 1 3 v1 rfl rfl) h1
 obtain⟨x1,s1,i1⟩:=Go.Proofs.YtnbhdacpogplgaaGreatDoor.Pw.iu.Le (Go.Proofs.YtnbhdacpogplgaaGreatDoor.Pw.SInt.cell) rfl h1 (Go.Proofs.YtnbhdacpogplgaaGreatDoor.Pw.tz Jy (i:=1) (t:=3) rfl rfl)
 have k2:=h2
 have lt2:∀ x∈p2,x.block < W.heap.size:=by obtain⟨m,hm⟩:=k2; exact DataW.trod_lt m _ _ _ hm
 obtain⟨a2,l2,c2,rfl⟩:=okWide_slice Tryz.underlying35 (Jx 2 35 v2 rfl rfl)
 obtain⟨x2,s2,i2⟩:=Go.Proofs.YtnbhdacpogplgaaGreatDoor.Pw.YI.Le (Go.Proofs.YtnbhdacpogplgaaGreatDoor.Pw.mh.cell) rfl h2 (Go.Proofs.YtnbhdacpogplgaaGreatDoor.Pw.tz Jy (i:=2) (t:=35) rfl rfl)
 clear hA0 Ko
 refine ((Go.Proofs.YtnbhdacpogplgaaGreatDoor.Pw.nL x0 s0 x1 s1 x2 s2).calls (Go.Proofs.YtnbhdacpogplgaaGreatDoor.Pw.Jj hL) (Go.Proofs.YtnbhdacpogplgaaGreatDoor.Pw.x5 i0 (Go.Proofs.YtnbhdacpogplgaaGreatDoor.Pw.x5 i1 (Go.Proofs.YtnbhdacpogplgaaGreatDoor.Pw.x5 i2 Go.Proofs.YtnbhdacpogplgaaGreatDoor.Pw.Lr))) (.bool true) Go.Proofs.YtnbhdacpogplgaaGreatDoor.Pw.Hp).mono fun e W' ⟨he,VQ⟩=>?_
 subst he
 exact⟨_,rfl,_,_,_,[],_,[],hW',trodAll_mk1 (shut_bool Tryz.underlying4 _),(trodAll_cons_mk (Below.trod laidOut (by kernel_rfl) (of_decide_eq_true (by kernel_rfl)) k0 VQ lt0) (trodAll_cons_mk (Below.trod laidOut (by kernel_rfl) (of_decide_eq_true (by kernel_rfl)) k1 VQ lt1) (trodAll_cons_mk (Below.trod laidOut (by kernel_rfl) (of_decide_eq_true (by kernel_rfl)) k2 VQ lt2) trodAll_mk0))),rfl,VQ.frame _,fun h=>by cases h⟩
theorem over:Rows.planDepthsRow.holds Tryz.pinned (OpenSpec.ofChange Rows.planDepthsSpec) :=
 OpenClaim.holds_of_wide 4 Tryz.f4 rfl rfl rfl rfl rfl rfl rfl ⟨rfl,rfl,rfl,rfl,rfl⟩ rfl rfl rfl rfl rfl (by kernel_rfl) Tryz.func4 (by kernel_rfl)
  (of_decide_eq_true (by kernel_rfl)) (by unfold Func.isWrapper; first|(rw[if_pos (by decide +kernel)]; kernel_rfl)|(rw[if_neg (by decide +kernel)]; exact⟨rfl,rfl⟩))
  (fun os started H enc _=>lifted os started H enc)
theorem proved:Rows.PlanDepthsCardSaid :=
 Claim7.holds_tied_plain_at .later [] [.data,.data,.data] true Rows.planDepthsCard.stood.harness false
  over (fun _ h=>by cases h) (by kernel_rfl) (fun _ h=>by cases h) planDepths_row_tie rfl ⟨rfl,rfl⟩ (by kernel_rfl) rfl
  (fun f fn hf hfn=>by
   obtain rfl:f=4:=Option.some.inj ((show Tryz.prog.funcNamed "remontoire/remontoirelaw22.PlanDepths"=some 4 by kernel_rfl).symm.trans hf) |>.symm
   obtain rfl:fn=Tryz.f4:=(Option.some.inj (Tryz.func4.symm.trans hfn)).symm
   exact⟨by kernel_rfl,fun j t ht=>by
    rw[Tryz.params4] at ht
    have hm:t∈([22,3,35]:List TypeId):=by simpa using Array.mem_of_getElem? ht
    have cZ:(([22,3,35]:List TypeId).all fun u=>!Tryz.prog.wantsStandIn u)=true:=by kernel_rfl
    exact (show Tryz.prog.wantsStandIn t=false by simpa using List.all_eq_true.1 cZ t hm)⟩)
  (by kernel_rfl)
#print axioms proved
end Go.Proofs.YtnbhdacpogplgaaGreatDoor.planDepthsRow

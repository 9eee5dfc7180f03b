/- For every input the law's Go function returns true and leaves its arguments as they were, where the package's tables are as the program's text lays them; and the card that ties them to the text. No other condition. -/
import Derived.Test.YtnbhdacpogplgaaGreatDoorCards
import Derived.Test.YtnbhdacpogplgaaGreatDoorTie
import Derived.Test.YtnbhdacpogplgaaGreatDoorPv23
import Derived.WalkKit
import Derived.ProofKit
import Derived.OpenShut
import Derived.ChangeOld
import Derived.Below
import Derived.Carry
import Derived.LaidMore
import Derived.Stop.Joined
import Derived.SevenTiedAt
import Derived.Deep.DeepHandedRow
import Derived.Deep.DeepWitnessRowRef
set_option linter.unusedVariables false
set_option linter.unusedSimpArgs false
namespace Go.Proofs.YtnbhdacpogplgaaGreatDoor.planWaysUptoRow
open Go.ChangeShapes Go.WideShapes Go.ChangeAt Go.RowKit
theorem own:ownKnob Tryz.prog.godebug=none:=by kernel_rfl
theorem laidOut:laidOutB Tryz.prog=true:=by kernel_rfl
def OW:Array Value:=#[.slice none 0 0,.int .i64 0,.slice none 0 0,.slice none 0 0,.int .i64 0]
theorem reads (os:Os) {H:Type} (enc:TypeId × Value->H):∃ places,DataW.whole enc Tryz.prog ((World.doorLaid Tryz.prog l9.fuel os).forCall (fun _ _=>0) ⟨#[],OW,[]⟩).memory Tryz.f5.params.toList Rows.planWaysSpec.vars false OW.toList 8=some ([.nil,.lit (.int .i64 0),.nil,.nil,.lit (.int .i64 0)],[],places) :=
 ⟨[],by kernel_rfl⟩
set_option maxRecDepth 100000 in
theorem lifted (os:Os) (started:os.Started) (H:Type) (enc:TypeId × Value->H) (F:Stop.Interp) :
  ReturnsInHanded {} Tryz.checked os 5 .any ((Rows.OpenSpec.upto Rows.planWaysSpec).preRow enc Tryz.prog Tryz.f5 Rows.planWaysUptoRow.domain false Rows.planWaysUptoRow.laid) (((Rows.OpenSpec.upto Rows.planWaysSpec).at F).post enc Tryz.prog Tryz.f5 false true false false):=by
 obtain⟨places,hx⟩:=reads os enc
 refine returnsInHanded_of_row (C:=Tryz.checked) (s:=Rows.OpenSpec.upto Rows.planWaysSpec) own started (by kernel_rfl) Tryz.func5
  (witness_row_atRef (enc:=enc) (C:=Tryz.checked) false (World.doorLaid Tryz.prog l9.fuel os) OW rfl (by kernel_rfl) (by kernel_rfl) (by kernel_rfl)
   (OpenSpec.preRow_of_cond 8 hx (by kernel_rfl) (fun k hk=>by cases hk; kernel_rfl) (by kernel_rfl) (l9.N1 os _))) ?_
 intro W base args ds gs before Tu hW _ Bi fY hL _ _
 have Sd:=Bi _ rfl
 have DA:∀ (j:Nat) t v,Tryz.f5.params[j]?=some t->args[j]?=some v->Value.okWide Tryz.prog W .any base t v:=Tu
 have hW':=hW
 obtain⟨p,q,hA0,hV,rfl,hfz,Ua⟩:=hW
 have hA:DataW.TrodAll enc Tryz.prog W 0 (fun _=>true) true Tryz.f5.params.toList args.toList ds p:=hA0
 have Ka:(DataW.weightsEach Tryz.prog (Tryz.f5.params.toList++Rows.planWaysSpec.plain.varTypes Tryz.prog) (ds++gs)).all (·<=reachBytes)=true:=fY
 rw[Tryz.params5] at hA DA Ka
 obtain⟨v0,vs0,d0,ds0,p0,q0,hargs,rfl,rfl,h0,r0⟩:=trodAll_cons hA
 obtain⟨v1,vs1,d1,ds1,p1,q1,rfl,rfl,rfl,h1,r1⟩:=trodAll_cons r0
 obtain⟨v2,vs2,d2,ds2,p2,q2,rfl,rfl,rfl,h2,r2⟩:=trodAll_cons r1
 obtain⟨v3,vs3,d3,ds3,p3,q3,rfl,rfl,rfl,h3,r3⟩:=trodAll_cons r2
 obtain⟨v4,vs4,d4,ds4,p4,q4,rfl,rfl,rfl,h4,r4⟩:=trodAll_cons r3
 obtain⟨rfl,rfl,rfl⟩:=trodAll_nil r4
 obtain rfl:args = #[v0,v1,v2,v3,v4]:=by cases args; simp_all
 obtain⟨rfl,rfl⟩:=trodVars_none hV
 have xM:Rows.uptoBulk d2<=1048576:=by
  have h:=of_decide_eq_true Sd
  simp only[List.append_nil,Rows.uptoBulkAll] at h
  omega
 have k0:=h0
 have lt0:∀ x∈p0,x.block < W.heap.size:=by obtain⟨m,hm⟩:=k0; exact DataW.trod_lt m _ _ _ hm
 obtain⟨a0,l0,c0,rfl⟩:=okWide_slice Tryz.underlying22 (DA 0 22 v0 rfl rfl)
 obtain⟨x0,s0,i0⟩:=Go.Proofs.YtnbhdacpogplgaaGreatDoor.Pw.N2.Ik (Go.Proofs.YtnbhdacpogplgaaGreatDoor.Pw.P0.cell) rfl h0 (Go.Proofs.YtnbhdacpogplgaaGreatDoor.Pw.qZ Ka (i:=0) (t:=22) rfl rfl)
 have k1:=h1
 have lt1:∀ x∈p1,x.block < W.heap.size:=by obtain⟨m,hm⟩:=k1; exact DataW.trod_lt m _ _ _ hm
 obtain⟨b1,rfl,_,_,_⟩:=open_int Tryz.underlying3 (DA 1 3 v1 rfl rfl) h1
 obtain⟨x1,s1,i1⟩:=Go.Proofs.YtnbhdacpogplgaaGreatDoor.Pw.kC.Ik (Go.Proofs.YtnbhdacpogplgaaGreatDoor.Pw.SInt.cell) rfl h1 (Go.Proofs.YtnbhdacpogplgaaGreatDoor.Pw.qZ Ka (i:=1) (t:=3) rfl rfl)
 have k2:=h2
 have lt2:∀ x∈p2,x.block < W.heap.size:=by obtain⟨m,hm⟩:=k2; exact DataW.trod_lt m _ _ _ hm
 obtain⟨a2,l2,c2,rfl⟩:=okWide_slice Tryz.underlying35 (DA 2 35 v2 rfl rfl)
 obtain⟨x2,s2,i2⟩:=Go.Proofs.YtnbhdacpogplgaaGreatDoor.Pw.n_.Ik Go.Proofs.YtnbhdacpogplgaaGreatDoor.Pw.opSsB Go.Proofs.YtnbhdacpogplgaaGreatDoor.Pw.OV rfl h2 (Go.Proofs.YtnbhdacpogplgaaGreatDoor.Pw.qZ Ka (i:=2) (t:=35) rfl rfl)
 have k3:=h3
 have lt3:∀ x∈p3,x.block < W.heap.size:=by obtain⟨m,hm⟩:=k3; exact DataW.trod_lt m _ _ _ hm
 obtain⟨a3,l3,c3,rfl⟩:=okWide_slice Tryz.underlying56 (DA 3 56 v3 rfl rfl)
 obtain⟨x3,s3,i3⟩:=Go.Proofs.YtnbhdacpogplgaaGreatDoor.Pw.Z0.Ik (Go.Proofs.YtnbhdacpogplgaaGreatDoor.Pw.P0.cell) rfl h3 (Go.Proofs.YtnbhdacpogplgaaGreatDoor.Pw.qZ Ka (i:=3) (t:=56) rfl rfl)
 have k4:=h4
 have lt4:∀ x∈p4,x.block < W.heap.size:=by obtain⟨m,hm⟩:=k4; exact DataW.trod_lt m _ _ _ hm
 obtain⟨b4,rfl,_,_,_⟩:=open_int Tryz.underlying3 (DA 4 3 v4 rfl rfl) h4
 obtain⟨x4,s4,i4⟩:=Go.Proofs.YtnbhdacpogplgaaGreatDoor.Pw.kC.Ik (Go.Proofs.YtnbhdacpogplgaaGreatDoor.Pw.SInt.cell) rfl h4 (Go.Proofs.YtnbhdacpogplgaaGreatDoor.Pw.qZ Ka (i:=4) (t:=3) rfl rfl)
 clear hA0 Tu
 refine ((Go.Proofs.YtnbhdacpogplgaaGreatDoor.Pw.xw x0 s0 x1 s1 _ xM x2 s2 x3 s3 x4 s4).calls (Go.Proofs.YtnbhdacpogplgaaGreatDoor.Pw.RH hL) (Go.Proofs.YtnbhdacpogplgaaGreatDoor.Pw.Ac i0 (Go.Proofs.YtnbhdacpogplgaaGreatDoor.Pw.Ac i1 (Go.Proofs.YtnbhdacpogplgaaGreatDoor.Pw.Ac i2 (Go.Proofs.YtnbhdacpogplgaaGreatDoor.Pw.Ac i3 (Go.Proofs.YtnbhdacpogplgaaGreatDoor.Pw.Ac i4 Go.Proofs.YtnbhdacpogplgaaGreatDoor.Pw.Uw))))) (.bool true) Go.Proofs.YtnbhdacpogplgaaGreatDoor.Pw.PY).mono fun e W' ⟨he,bel⟩=>?_
 subst he
 exact⟨_,rfl,_,_,_,[],_,[],hW',trodAll_mk1 (shut_bool Tryz.underlying4 _),(trodAll_cons_mk (Below.trod laidOut (by kernel_rfl) (of_decide_eq_true (by kernel_rfl)) k0 bel lt0) (trodAll_cons_mk (Below.trod laidOut (by kernel_rfl) (of_decide_eq_true (by kernel_rfl)) k1 bel lt1) (trodAll_cons_mk (Below.trod laidOut (by kernel_rfl) (of_decide_eq_true (by kernel_rfl)) k2 bel lt2) (trodAll_cons_mk (Below.trod laidOut (by kernel_rfl) (of_decide_eq_true (by kernel_rfl)) k3 bel lt3) (trodAll_cons_mk (Below.trod laidOut (by kernel_rfl) (of_decide_eq_true (by kernel_rfl)) k4 bel lt4) trodAll_mk0))))),rfl,bel.frame _,fun h=>by cases h⟩
theorem over:Rows.planWaysUptoRow.holds Tryz.pinned (Rows.OpenSpec.upto Rows.planWaysSpec) :=
 OpenClaim.holds_of_cond 5 Tryz.f5 rfl rfl rfl rfl rfl rfl rfl ⟨rfl,rfl,rfl,rfl,rfl⟩ rfl rfl rfl rfl rfl (by kernel_rfl) Tryz.func5 (by kernel_rfl)
  (of_decide_eq_true (by kernel_rfl)) (by unfold Func.isWrapper; first|(rw[if_pos (by decide +kernel)]; kernel_rfl)|(rw[if_neg (by decide +kernel)]; exact⟨rfl,rfl⟩))
  (fun os started H enc _ F=>by rw[OpenClaim.pre_eq_preRow]; exact lifted os started H enc F)
theorem proved:Rows.PlanWaysUptoCardSaid :=
 Claim7.holds_tied_plain_at .later [] [.data,.data,.data] true Rows.planWaysUptoCard.stood.harness false
  over (fun _ h=>by cases h) (by kernel_rfl) (fun _ h=>by cases h) planWaysUpto_row_tie rfl ⟨rfl,rfl⟩ (by kernel_rfl) rfl
  (fun f fn hf hfn=>by
   obtain rfl:f=5:=Option.some.inj ((show Tryz.prog.funcNamed "remontoire/remontoirelaw22.PlanWays"=some 5 by kernel_rfl).symm.trans hf) |>.symm
   obtain rfl:fn=Tryz.f5:=(Option.some.inj (Tryz.func5.symm.trans hfn)).symm
   exact⟨by kernel_rfl,fun j t ht=>by
    rw[Tryz.params5] at ht
    have hm:t∈([22,3,35,56,3]:List TypeId):=by simpa using Array.mem_of_getElem? ht
    have cA:(([22,3,35,56,3]:List TypeId).all fun u=>!Tryz.prog.wantsStandIn u)=true:=by kernel_rfl
    exact (show Tryz.prog.wantsStandIn t=false by simpa using List.all_eq_true.1 cA t hm)⟩)
  (by kernel_rfl)
#print axioms proved
end Go.Proofs.YtnbhdacpogplgaaGreatDoor.planWaysUptoRow

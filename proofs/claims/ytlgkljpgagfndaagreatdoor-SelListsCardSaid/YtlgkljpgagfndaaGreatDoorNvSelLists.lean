/- For every input the law's Go function returns true and leaves its arguments as they were, where the package's tables are as the program's text lays them; and the card that ties them to the text. No other condition. -/
import Derived.Test.YtlgkljpgagfndaaGreatDoorCards
import Derived.Test.YtlgkljpgagfndaaGreatDoorTie
import Derived.Test.YtlgkljpgagfndaaGreatDoorNv32
import Derived.Test.YtlgkljpgagfndaaGreatDoorNv27
import Derived.WalkKit
import Derived.ProofKit
import Derived.OpenShut
import Derived.ChangeOld
import Derived.Below
import Derived.Carry
import Derived.LaidMore
import Derived.Stop.Joined
import Derived.SevenTiedAt
set_option linter.unusedVariables false
set_option linter.unusedSimpArgs false
namespace Go.Proofs.YtlgkljpgagfndaaGreatDoor.selListsRow
open Go.ChangeShapes Go.WideShapes Go.ChangeAt Go.RowKit
theorem own:ownKnob Tryz.prog.godebug=none:=by kernel_rfl
theorem laidOut:laidOutB Tryz.prog=true:=by kernel_rfl
set_option maxRecDepth 100000 in
theorem lifted (os:Os) (started:os.Started) (H:Type) (enc:TypeId × Value->H) :
  ReturnsInHanded {} Tryz.checked os 5 .any (fun w args=>(Rows.selListsSpec.pre enc Tryz.prog Tryz.f5 [] false w args/\laidMetH Tryz.prog jd.jI w)/\sizedMet enc Tryz.prog Tryz.f5 (OpenSpec.ofChange Rows.selListsSpec) false w args)
   (Rows.selListsSpec.post enc Tryz.prog Tryz.f5 false true false false):=by
 refine returnsInHanded_of_change_and (C:=Tryz.checked) (X:=fun w _=>laidMetH Tryz.prog jd.jI w) (fun _ _ _ hh h=>h.of_heap hh) own started (by kernel_rfl) Tryz.func5
  (ChangeSpec.witness_shaped (enc:=enc) (C:=Tryz.checked) (os:=os) (X:=fun w _=>laidMetH Tryz.prog jd.jI w) false (World.doorLaid Tryz.prog jd.fuel os) #[.slice none 0 0,.slice none 0 0] 8 rfl (World.shaped_of_RefB (by kernel_rfl) (by kernel_rfl)) (by kernel_rfl) (by kernel_rfl) (by kernel_rfl) (jd.Gi os _)) ?_
 intro W base args ds gs before N1 hW _ fF hL _
 have UW:∀ (j:Nat) t v,Tryz.f5.params[j]?=some t->args[j]?=some v->Value.okWide Tryz.prog W .any base t v:=N1
 have hW':=hW
 obtain⟨p,q,hA0,hV,rfl,hfz,OJ⟩:=hW
 have hA:DataW.TrodAll enc Tryz.prog W 0 (fun _=>true) true Tryz.f5.params.toList args.toList ds p:=hA0
 have UX:(DataW.weightsEach Tryz.prog (Tryz.f5.params.toList++Rows.selListsSpec.plain.varTypes Tryz.prog) (ds++gs)).all (·<=reachBytes)=true:=fF
 rw[Tryz.params5] at hA UW UX
 obtain⟨v0,vs0,d0,ds0,p0,q0,hargs,rfl,rfl,h0,r0⟩:=trodAll_cons hA
 obtain⟨v1,vs1,d1,ds1,p1,q1,rfl,rfl,rfl,h1,r1⟩:=trodAll_cons r0
 obtain⟨rfl,rfl,rfl⟩:=trodAll_nil r1
 obtain rfl:args = #[v0,v1]:=by cases args; simp_all
 obtain⟨rfl,rfl⟩:=trodVars_none hV
 have k0:=h0
 have lt0:∀ x∈p0,x.block < W.heap.size:=by obtain⟨m,hm⟩:=k0; exact DataW.trod_lt m _ _ _ hm
 obtain⟨a0,l0,c0,rfl⟩:=okWide_slice Tryz.underlying68 (UW 0 68 v0 rfl rfl)
 obtain⟨x0,s0,i0⟩:=Go.Proofs.YtlgkljpgagfndaaGreatDoor.Pw.WS.V' (Go.Proofs.YtlgkljpgagfndaaGreatDoor.Pw.J5.cell) rfl h0 (Go.Proofs.YtlgkljpgagfndaaGreatDoor.Pw.AD UX (i:=0) (t:=68) rfl rfl)
 have k1:=h1
 have lt1:∀ x∈p1,x.block < W.heap.size:=by obtain⟨m,hm⟩:=k1; exact DataW.trod_lt m _ _ _ hm
 obtain⟨a1,l1,c1,rfl⟩:=okWide_slice Tryz.underlying38 (UW 1 38 v1 rfl rfl)
 obtain⟨x1,s1,i1⟩:=Go.Proofs.YtlgkljpgagfndaaGreatDoor.Pw.Ja.V' (Go.Proofs.YtlgkljpgagfndaaGreatDoor.Pw.J5.cell) rfl h1 (Go.Proofs.YtlgkljpgagfndaaGreatDoor.Pw.AD UX (i:=1) (t:=38) rfl rfl)
 clear hA0 N1
 refine ((Go.Proofs.YtlgkljpgagfndaaGreatDoor.Pw.sk x0 s0 x1 s1).calls (Go.Proofs.YtlgkljpgagfndaaGreatDoor.Pw.Pt hL) (Go.Proofs.YtlgkljpgagfndaaGreatDoor.Pw.ic i0 (Go.Proofs.YtlgkljpgagfndaaGreatDoor.Pw.ic i1 Go.Proofs.YtlgkljpgagfndaaGreatDoor.Pw.rh)) (.bool true) Go.Proofs.YtlgkljpgagfndaaGreatDoor.Pw.J3).mono fun e W' ⟨he,bel⟩=>?_
 subst he
 exact⟨_,rfl,_,_,_,[],_,[],hW',trodAll_mk1 (shut_bool Tryz.underlying4 _),(trodAll_cons_mk (Below.trod laidOut (by kernel_rfl) (of_decide_eq_true (by kernel_rfl)) k0 bel lt0) (trodAll_cons_mk (Below.trod laidOut (by kernel_rfl) (of_decide_eq_true (by kernel_rfl)) k1 bel lt1) trodAll_mk0)),rfl,bel.frame _,fun h=>by cases h⟩
theorem over:Rows.selListsRow.holds Tryz.pinned (OpenSpec.ofChange Rows.selListsSpec) :=
 OpenClaim.holds_of_wide 5 Tryz.f5 rfl rfl rfl rfl rfl rfl rfl ⟨rfl,rfl,rfl,rfl,rfl⟩ rfl rfl rfl rfl rfl (by kernel_rfl) Tryz.func5 (by kernel_rfl)
  (of_decide_eq_true (by kernel_rfl)) (by unfold Func.isWrapper; first|(rw[if_pos (by decide +kernel)]; kernel_rfl)|(rw[if_neg (by decide +kernel)]; exact⟨rfl,rfl⟩))
  (fun os started H enc _=>lifted os started H enc)
theorem proved:Rows.SelListsCardSaid :=
 Claim7.holds_tied_plain_at .later [] [.data,.data,.data] true Rows.selListsCard.stood.harness false
  over (fun _ h=>by cases h) (by kernel_rfl) (fun _ h=>by cases h) selLists_row_tie rfl ⟨rfl,rfl⟩ (by kernel_rfl) rfl
  (fun f fn hf hfn=>by
   obtain rfl:f=5:=Option.some.inj ((show Tryz.prog.funcNamed "remontoire/remontoirelaw18.SelLists"=some 5 by kernel_rfl).symm.trans hf) |>.symm
   obtain rfl:fn=Tryz.f5:=(Option.some.inj (Tryz.func5.symm.trans hfn)).symm
   exact⟨by kernel_rfl,fun j t ht=>by
    rw[Tryz.params5] at ht
    have hm:t∈([68,38]:List TypeId):=by simpa using Array.mem_of_getElem? ht
    have dx:(([68,38]:List TypeId).all fun u=>!Tryz.prog.wantsStandIn u)=true:=by kernel_rfl
    exact (show Tryz.prog.wantsStandIn t=false by simpa using List.all_eq_true.1 dx t hm)⟩)
  (by kernel_rfl)
#print axioms proved
end Go.Proofs.YtlgkljpgagfndaaGreatDoor.selListsRow

/- For every input the law's Go function returns true and leaves its arguments as they were, where the package's tables are as the program's text lays them; and the card that ties them to the text. No other condition. -/
import Derived.Test.YtbnoodjnpooocaaGreatDoorCards
import Derived.Test.YtbnoodjnpooocaaGreatDoorTie
import Derived.Test.YtbnoodjnpooocaaGreatDoorNw26
import Derived.Test.YtbnoodjnpooocaaGreatDoorNwTeYh
import Derived.WalkKit
import Derived.ProofKit
import Derived.OpenShut
import Derived.ChangeOld
import Derived.Below
import Derived.Carry
import Derived.LaidMore
import Derived.Stop.Joined
import Derived.SevenTiedAt
set_option linter.unusedVariables false
set_option linter.unusedSimpArgs false
namespace Go.Proofs.YtbnoodjnpooocaaGreatDoor.wholeAnyRow
open Go.ChangeShapes Go.WideShapes Go.ChangeAt Go.RowKit
theorem own:ownKnob Tryz.prog.godebug=none:=by kernel_rfl
theorem laidOut:laidOutB Tryz.prog=true:=by kernel_rfl
set_option maxRecDepth 100000 in
theorem lifted (os:Os) (started:os.Started) (H:Type) (enc:TypeId × Value->H) :
  ReturnsInHanded {} Tryz.checked os 3 .any (fun w args=>(Rows.wholeAnySpec.pre enc Tryz.prog Tryz.f3 [] false w args/\laidMetH Tryz.prog gr.kK w)/\sizedMet enc Tryz.prog Tryz.f3 (OpenSpec.ofChange Rows.wholeAnySpec) false w args)
   (Rows.wholeAnySpec.post enc Tryz.prog Tryz.f3 false true false false):=by
 refine returnsInHanded_of_change_and (C:=Tryz.checked) (X:=fun w _=>laidMetH Tryz.prog gr.kK w) (fun _ _ _ hh h=>h.of_heap hh) own started (by kernel_rfl) Tryz.func3
  (ChangeSpec.witness_shaped (enc:=enc) (C:=Tryz.checked) (os:=os) (X:=fun w _=>laidMetH Tryz.prog gr.kK w) false (World.doorLaid Tryz.prog gr.fuel os) #[.slice none 0 0,.agg #[.int .u32 0,.int .u32 0,.int .u32 0,.int .u32 0,.int .u32 0,.int .u32 0,.int .u32 0,.int .u32 0,.int .u32 0,.int .u32 0,.int .u32 0,.int .u32 0,.int .u32 0,.int .u32 0,.int .u32 0,.int .u32 0,.int .u32 0,.int .u32 0,.int .u32 0,.int .u32 0],.int .i64 0,.int .i64 0] 8 rfl (World.shaped_of_RefB (by kernel_rfl) (by kernel_rfl)) (by kernel_rfl) (by kernel_rfl) (by kernel_rfl) (gr.Mt os _)) ?_
 intro W base args ds gs before Ro hW _ eL hL _
 have Mw:∀ (j:Nat) t v,Tryz.f3.params[j]?=some t->args[j]?=some v->Value.okWide Tryz.prog W .any base t v:=Ro
 have hW':=hW
 obtain⟨p,q,Hd,hV,rfl,hfz,Sm⟩:=hW
 have hA:DataW.TrodAll enc Tryz.prog W 0 (fun _=>true) true Tryz.f3.params.toList args.toList ds p:=Hd
 have Mx:(DataW.weightsEach Tryz.prog (Tryz.f3.params.toList++Rows.wholeAnySpec.plain.varTypes Tryz.prog) (ds++gs)).all (·<=reachBytes)=true:=eL
 rw[Tryz.params3] at hA Mw Mx
 obtain⟨v0,vs0,d0,ds0,p0,q0,hargs,rfl,rfl,h0,r0⟩:=trodAll_cons hA
 obtain⟨v1,vs1,d1,ds1,p1,q1,rfl,rfl,rfl,h1,r1⟩:=trodAll_cons r0
 obtain⟨v2,vs2,d2,ds2,p2,q2,rfl,rfl,rfl,h2,r2⟩:=trodAll_cons r1
 obtain⟨v3,vs3,d3,ds3,p3,q3,rfl,rfl,rfl,h3,r3⟩:=trodAll_cons r2
 obtain⟨rfl,rfl,rfl⟩:=trodAll_nil r3
 obtain rfl:args = #[v0,v1,v2,v3]:=by cases args; simp_all
 obtain⟨rfl,rfl⟩:=trodVars_none hV
 have k0:=h0
 have lt0:∀ x∈p0,x.block < W.heap.size:=by obtain⟨m,hm⟩:=k0; exact DataW.trod_lt m _ _ _ hm
 obtain⟨a0,l0,c0,rfl⟩:=okWide_slice Tryz.underlying22 (Mw 0 22 v0 rfl rfl)
 obtain⟨x0,s0,i0⟩:=Go.Proofs.YtbnoodjnpooocaaGreatDoor.Pw.K3.Sx (Go.Proofs.YtbnoodjnpooocaaGreatDoor.Pw.YC.cell) rfl h0 (Go.Proofs.YtbnoodjnpooocaaGreatDoor.Pw.sj Mx (i:=0) (t:=22) rfl rfl)
 have k1:=h1
 have lt1:∀ x∈p1,x.block < W.heap.size:=by obtain⟨m,hm⟩:=k1; exact DataW.trod_lt m _ _ _ hm
 obtain⟨a1,rfl,_⟩:=okWide_struct Tryz.underlying26 (Mw 1 26 v1 rfl rfl)
 obtain⟨x1,s1,i1⟩:=Go.Proofs.YtbnoodjnpooocaaGreatDoor.Pw.Op.argS Go.Proofs.YtbnoodjnpooocaaGreatDoor.Pw.Qn Go.Proofs.YtbnoodjnpooocaaGreatDoor.Pw.Bb h1 (Go.Proofs.YtbnoodjnpooocaaGreatDoor.Pw.sj Mx (i:=1) (t:=26) rfl rfl)
 have k2:=h2
 have lt2:∀ x∈p2,x.block < W.heap.size:=by obtain⟨m,hm⟩:=k2; exact DataW.trod_lt m _ _ _ hm
 obtain⟨b2,rfl,_,_,_⟩:=open_int Tryz.underlying3 (Mw 2 3 v2 rfl rfl) h2
 obtain⟨x2,s2,i2⟩:=Go.Proofs.YtbnoodjnpooocaaGreatDoor.Pw.K2.Sx (Go.Proofs.YtbnoodjnpooocaaGreatDoor.Pw.SInt.cell) rfl h2 (Go.Proofs.YtbnoodjnpooocaaGreatDoor.Pw.sj Mx (i:=2) (t:=3) rfl rfl)
 have k3:=h3
 have lt3:∀ x∈p3,x.block < W.heap.size:=by obtain⟨m,hm⟩:=k3; exact DataW.trod_lt m _ _ _ hm
 obtain⟨b3,rfl,_,_,_⟩:=open_int Tryz.underlying3 (Mw 3 3 v3 rfl rfl) h3
 obtain⟨x3,s3,i3⟩:=Go.Proofs.YtbnoodjnpooocaaGreatDoor.Pw.K2.Sx (Go.Proofs.YtbnoodjnpooocaaGreatDoor.Pw.SInt.cell) rfl h3 (Go.Proofs.YtbnoodjnpooocaaGreatDoor.Pw.sj Mx (i:=3) (t:=3) rfl rfl)
 clear Hd Ro
 refine ((Go.Proofs.YtbnoodjnpooocaaGreatDoor.Pw.uM x0 s0 x1 s1 x2 s2 x3 s3).calls (Go.Proofs.YtbnoodjnpooocaaGreatDoor.Pw.Mu hL) (Go.Proofs.YtbnoodjnpooocaaGreatDoor.Pw.kz i0 (Go.Proofs.YtbnoodjnpooocaaGreatDoor.Pw.kz i1 (Go.Proofs.YtbnoodjnpooocaaGreatDoor.Pw.kz i2 (Go.Proofs.YtbnoodjnpooocaaGreatDoor.Pw.kz i3 Go.Proofs.YtbnoodjnpooocaaGreatDoor.Pw.Am)))) (.bool true) Go.Proofs.YtbnoodjnpooocaaGreatDoor.Pw.Ns).mono fun e W' ⟨he,bel⟩=>?_
 subst he
 exact⟨_,rfl,_,_,_,[],_,[],hW',trodAll_mk1 (shut_bool Tryz.underlying4 _),(trodAll_cons_mk (Below.trod laidOut (by kernel_rfl) (of_decide_eq_true (by kernel_rfl)) k0 bel lt0) (trodAll_cons_mk (Below.trod laidOut (by kernel_rfl) (of_decide_eq_true (by kernel_rfl)) k1 bel lt1) (trodAll_cons_mk (Below.trod laidOut (by kernel_rfl) (of_decide_eq_true (by kernel_rfl)) k2 bel lt2) (trodAll_cons_mk (Below.trod laidOut (by kernel_rfl) (of_decide_eq_true (by kernel_rfl)) k3 bel lt3) trodAll_mk0)))),rfl,bel.frame _,fun h=>by cases h⟩
theorem over:Rows.wholeAnyRow.holds Tryz.pinned (OpenSpec.ofChange Rows.wholeAnySpec) :=
 OpenClaim.holds_of_wide 3 Tryz.f3 rfl rfl rfl rfl rfl rfl rfl ⟨rfl,rfl,rfl,rfl,rfl⟩ rfl rfl rfl rfl rfl (by kernel_rfl) Tryz.func3 gh.closed
  (of_decide_eq_true (by kernel_rfl)) (by unfold Func.isWrapper; first|(rw[if_pos (by decide +kernel)]; kernel_rfl)|(rw[if_neg (by decide +kernel)]; exact⟨rfl,rfl⟩))
  (fun os started H enc _=>lifted os started H enc)
theorem G3 {P:Program} (h:P.funcs.any Func.goes=false) (f:FuncId):P.goes f=false:=by
 have h1:∀ g:Nat,(P.funcs[g]?).any Func.goes=false:=fun g=>by
  cases e:P.funcs[g]? with
  | none=>rfl
  | some fn =>
   obtain⟨hg,e⟩:=Array.getElem?_eq_some_iff.1 e
   rw[Array.any_eq_false] at h
   have:=h g hg
   rw[e] at this
   simpa using this
 unfold Program.goes
 rw[h]
 simp[h1]
theorem Qo:false=Rows.wholeAnyRow.goesBy Tryz.pinned.checked.prog:=by
 show false=(Tryz.prog.goesFrom Rows.wholeAnyRow.func || false)
 unfold Program.goesFrom
 cases Tryz.prog.funcNamed Rows.wholeAnyRow.func with
 | none=>rfl
 | some f=>simp[G3 (P:=Tryz.prog) gh.Mv f]
theorem proved:Rows.WholeAnyCardSaid :=
 Claim7.holds_tied_plain_at .later [] [.data,.data,.data,.data,.data,.data,.widerDeep,.data,.data,.data,.data] true Rows.wholeAnyCard.stood.harness false
  over (fun _ h=>by cases h) (by kernel_rfl) (fun _ h=>by cases h) wholeAny_row_tie rfl ⟨rfl,rfl⟩ (by kernel_rfl) rfl
  (fun f fn hf hfn=>by
   obtain rfl:f=3:=Option.some.inj ((show Tryz.prog.funcNamed "remontoire/remontoiretop.WholeAny"=some 3 by kernel_rfl).symm.trans hf) |>.symm
   obtain rfl:fn=Tryz.f3:=(Option.some.inj (Tryz.func3.symm.trans hfn)).symm
   exact⟨by kernel_rfl,fun j t ht=>by
    rw[Tryz.params3] at ht
    have hm:t∈([22,26,3,3]:List TypeId):=by simpa using Array.mem_of_getElem? ht
    have eC:(([22,26,3,3]:List TypeId).all fun u=>!Tryz.prog.wantsStandIn u)=true:=by kernel_rfl
    exact (show Tryz.prog.wantsStandIn t=false by simpa using List.all_eq_true.1 eC t hm)⟩)
  Qo
#print axioms proved
end Go.Proofs.YtbnoodjnpooocaaGreatDoor.wholeAnyRow

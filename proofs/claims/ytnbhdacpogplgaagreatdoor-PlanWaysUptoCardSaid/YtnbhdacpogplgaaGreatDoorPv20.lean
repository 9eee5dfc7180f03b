/- What this claim is proved with: no condition. -/
import Derived.Test.YtnbhdacpogplgaaGreatDoorPv19
import Derived.Test.YtnbhdacpogplgaaGreatDoorPv8
import Derived.Test.YtnbhdacpogplgaaGreatDoorPv18
import Derived.Test.YtnbhdacpogplgaaGreatDoorPv16
set_option maxRecDepth 100000
set_option maxHeartbeats 8000000
set_option linter.unusedVariables false
set_option linter.unusedSimpArgs false
namespace Go.Proofs.YtnbhdacpogplgaaGreatDoor.Pw
open Go Go.RowKit
def JQ:List (Nat × aJ):=[(10,.pure 0 <| .pure 1 <| .pure 2 <| .pure 4 <| .load 3 [16,15,13,12,11,10] <| .load 5 [16,15,13,12,11,10,7,6] <| .pure 6 <| .pure 7 <| .load 8 [16,15,13,12,11,10,9] <| .aR 9 (.aR 10 (.pure 11 <| .pure 12 <| .pure 13 <| .aR 14 (.aR 15 (.pure 16 <| .done) (.nil)) (.nil)) (.cons 14 (.aR 10 (.pure 11 <| .pure 12 <| .pure 13 <| .aR 15 (.pure 16 <| .done) (.nil)) (.nil)) (.nil))) (.cons 14 (.aR 9 (.aR 10 (.pure 11 <| .pure 12 <| .pure 13 <| .aR 15 (.pure 16 <| .done) (.nil)) (.nil)) (.nil)) (.nil))),(11,.pure 0 <| .pure 2 <| .pure 4 <| .load 1 [9,7] <| .load 3 [9,7] <| .aR 5 (.aR 6 (.pure 7 <| .aR 8 (.aR 9 (.done) (.nil)) (.nil)) (.sub 8 (.aR 6 (.pure 7 <| .aR 9 (.done) (.nil)) (.nil)) (.nil))) (.sub 8 (.aR 5 (.aR 6 (.pure 7 <| .aR 9 (.done) (.nil)) (.nil)) (.nil)) (.nil))),(12,.pure 0 <| .load 2 [6,5,4] <| .aR 1 (.aR 3 (.aR 4 (.aR 5 (.aR 6 (.done) (.nil)) (.nil)) (.nil)) (.nil)) (.nil))]
noncomputable def AK (b:List Int) (s:ST) (w:WK) (mm nn:Int):aN:=⟨(Tryz.f81).ntmps,ll [(4,.ptr 1 0),(8,.int .i64 nn),(12,.ptr 2 0)] .nil,[gO b w,zC,⟨.loc,30,1,.w,true,Jq (db s.h mm)⟩],1,[]⟩
theorem Og (b:List Int) (h:SH) (w:WK) (mm:Int) (hm:0<=mm/\mm<=2):aj gT 45 [.sl 12 [bx (ak 0 (kO b w)),bx (db h mm),bx (ak 1 0)]] (bx (aq [ak 0 (kO b w),db h mm,ak 1 0])):=by
 have h1:=fL b w
 exact fj (B:=8) (((Wd.flat (Int.le_refl 0) h1.1).cons ((Wd.one (c:=db h mm) (show (5:Int)≠1 by decide) (show (5:Int)≠2 by decide)).cons ((Wd.flat (show (0:Int)<=1 by decide) (Int.le_refl 0)).cons .nil))).more (by omega)) (by decide)
theorem Oh (b:List Int) (hb:pq b) (hl:b.length<=2000) (w:WK) (hI:bX w.at_) (s:ST) (hO:s.Ok) (hA:eD s.h.A):Spec gT 81 [.ptr 0 0,iq s] [gO b w] [] fun y S'=>y=bx (iV b s.h w)/\S' = [gO b (cl b s.h w)]:=by
 have hS:=s.rW hO
 have Oi:=iU hA
 have O_:s.h.A.op=(cJ s.h.A).op:=by rw[← iT,← Oi]
 have Pa:s.h.A.n=(cJ s.h.A).num:=by rw[← l_,← Oi]
 have Oj:gn s.h.A=cz (cJ s.h.A):=by rw[← dA,← Oi]
 have Pb:tR (.sl 3 (gn s.h.A)) (.sl 3 (cz (cJ s.h.A))):=by rw[Oj]; exact rfl
 refine Spec.rf (Spec.enter ao JQ 100 Tryz.func81 rfl (by kernel_rfl) ?_)
 have Z6:∀ cond:Int,(s.h.size≠0->cond=2)->(¬ s.h.size≠0->cond=0)->cond=if s.h.size≠0 then 2 else 0:=fun cond h1 h2=>by
  split
  ·rename_i h; exact h1 h
  ·rename_i h; exact h2 h
 have Kc:∀ k,(s.h.size≠0->k=1)->(¬ s.h.size≠0->k=2)->k=if s.h.size≠0 then (1:Int) else 2:=fun cond h1 h2=>by
  split
  ·rename_i h; exact h1 h
  ·rename_i h; exact h2 h
 unfold iV
 have hW:cl b s.h w=aE (aE (aE (cu b w (if s.h.size≠0 then 2 else 0)) (dK b w=s.h.stub)) (eA b s.h.stub=0)) ((iA b s.h.stub).form=45/\(iA b s.h.stub).aC=if s.h.size≠0 then 1 else 2):=rfl
 refine⟨fun hz=>?_,fun hz=>?_⟩
 ·rw[← Z6 2 (fun _=>rfl) (fun h=>absurd hz h),← Kc 1 (fun _=>rfl) (fun h=>absurd hz h)] at hW
  refine (j9 b hb (by omega) w hI 2).e ?_
  generalize cu b w 2=w1 at hW ⊢
  refine (bO b w1 (dK b w=s.h.stub)).e ?_
  generalize aE w1 (dK b w=s.h.stub)=w2 at hW ⊢
  refine (u_ b hb (by omega) w2 s.h.stub hS.1.2.2.2.1).e ?_
  have hiR:=@bN b s.h.stub
  have mV:∀ p,¬ (aE (aE w2 (eA b s.h.stub=0)) p).e≠0->eA b s.h.stub=0:=fun p h=>(oh (w:=w2) (p:=eA b s.h.stub=0) (fun k=>k (oh h).2)).1
  generalize iA b s.h.stub=i at hiR hW ⊢
  generalize aE w2 (eA b s.h.stub=0)=w3 at hW mV ⊢
  refine⟨fun ZB=>?_,fun ZB=>?_⟩
  ·refine (bO b w3 (i.aC=1)).e ?_
   rw[show aE w3 (i.aC=1)=cl b s.h w from hW.symm ▸ congrArg _ (propext ⟨fun k=>⟨ZB,k⟩,fun k=>k.2⟩)]
   have mV:=fun k:¬ (cl b s.h w).e≠0=>mV (i.form=45/\i.aC=1) (hW ▸ k)
   generalize cl b s.h w=w4 at hW mV ⊢
   refine⟨fun he=>?_,fun he=>?_⟩
   ·rw[if_pos (show w4.e≠0 from he)]
    exact rS
   rw[if_neg (show ¬ w4.e≠0 from he)]
   obtain⟨⟨p0,p1⟩,p2,p3⟩:=hiR (mV he)
   have hs:=gV p2
   have ux:=gS i
   have hf:=@mN w4.full (Classical.propDecidable _) w4.line (134217728+s.h.stub) (aX i.form) ⟨by omega,by omega⟩ hs
   have hm:@rE w4.full (Classical.propDecidable _) w4.line (134217728+s.h.stub) (aX i.form)=dG w4 s.h.stub (aX i.form):=rfl
   rw[hm] at hf
   have Ti:=jr w4 s.h.stub (aX i.form)
   generalize dG w4 s.h.stub (aX i.form)=mm at *
   generalize aX i.form=z at *
   refine lu ?_ (show 0<=s.h.stub/\s.h.stub<=4294967295 by omega)
   refine lu ?_ (show 0<=134217728+s.h.stub/\134217728+s.h.stub<=4294967295 by omega)
   refine ux.u ?_
   refine hf.u ?_
   refine And.intro (And.intro ?_ (And.intro ?a5 ?t5)) (And.intro ?a6 ?t6)
   case t5=>(conv=>whnf); exact trivial
   case t6=>(conv=>whnf); exact trivial
   case a6 =>
    conv=>whnf
    refine hf.u ?_
    exact rfl
   case a5 =>
    conv=>whnf
    refine ux.u ?_
    refine hf.u ?_
    exact rfl
   have hfx:=bQ 4 mm
   refine hfx.u ?_
   refine Exists.intro (AK b s w4 mm (kO b w)) (And.intro ?_ (And.intro (Exists.intro (AK b s w4 mm (kO b w)) (And.intro Sub.refl (And.intro ?_ (And.intro ?_ ?_)))) (And.intro ?_ ?_)))
   ·refine Sub.trans (Sub.mL 5 6 11 12 [bx (ak 4 mm)] rfl rfl (Or.inl rfl) rfl rfl rfl) ?_
    refine aT ao.ok (π:=[some 0,some 2,some 6]) ?_
    repeat' first|exact trivial|exact rfl|exact Iff.rfl|exact not_false|refine And.intro ?_ ?_
    all_goals first
     | exact (show s.h.A.op=(cJ s.h.A).op from O_)
     | exact (show s.h.A.n=(cJ s.h.A).num from Pa)
     | exact Pb
   ·refine (bQ 0 (kO b w)).u ?_
    refine (bQ 1 0).u ?_
    refine⟨[],az,(Og b s.h w mm Ti).ic [3] rfl (by repeat' first|exact trivial|exact rfl|exact Iff.rfl|exact Or.inl rfl|refine And.intro ?_ ?_) rfl rfl ?_⟩
    exact rS
   ·conv=>whnf
    refine hfx.u ?_
    refine Sub.trans (Sub.mL 6 5 11 12 [bx (ak 4 mm)] rfl rfl (Or.inl rfl) rfl rfl rfl) ?_
    refine aT ao.ok (π:=[some 0,some 2,some 5]) ?_
    repeat' first|exact trivial|exact rfl|exact Iff.rfl|exact not_false|refine And.intro ?_ ?_
    all_goals first
     | exact (show s.h.A.op=(cJ s.h.A).op from O_)
     | exact (show s.h.A.n=(cJ s.h.A).num from Pa)
     | exact Pb
   ·exact trivial
   ·refine Sub.trans (Sub.mL 6 5 11 12 [bx (ak 4 mm)] rfl rfl (Or.inl rfl) rfl rfl rfl) ?_
    refine aT ao.ok (π:=[some 0,some 2,some 5]) ?_
    repeat' first|exact trivial|exact rfl|exact Iff.rfl|exact not_false|refine And.intro ?_ ?_
    all_goals first
     | exact (show s.h.A.op=(cJ s.h.A).op from O_)
     | exact (show s.h.A.n=(cJ s.h.A).num from Pa)
     | exact Pb
   ·exact trivial
  ·refine (cG b w3).e ?_
   rw[eM (fun k=>ZB k.1)] at hW
   rw[hW]
   refine⟨fun he=>?_,fun he=>absurd (show ¬ (201:Int)=0 by decide) he⟩
   rw[if_pos (show ({ w3 with e:=201 }:WK).e≠0 from he)]
   exact rS
 ·rw[← Z6 0 (fun h=>absurd h hz) (fun _=>rfl),← Kc 2 (fun h=>absurd h hz) (fun _=>rfl)] at hW
  refine (j9 b hb (by omega) w hI 0).e ?_
  generalize cu b w 0=w1 at hW ⊢
  refine (bO b w1 (dK b w=s.h.stub)).e ?_
  generalize aE w1 (dK b w=s.h.stub)=w2 at hW ⊢
  refine (u_ b hb (by omega) w2 s.h.stub hS.1.2.2.2.1).e ?_
  have hiR:=@bN b s.h.stub
  have mV:∀ p,¬ (aE (aE w2 (eA b s.h.stub=0)) p).e≠0->eA b s.h.stub=0:=fun p h=>(oh (w:=w2) (p:=eA b s.h.stub=0) (fun k=>k (oh h).2)).1
  generalize iA b s.h.stub=i at hiR hW ⊢
  generalize aE w2 (eA b s.h.stub=0)=w3 at hW mV ⊢
  refine⟨fun ZB=>?_,fun ZB=>?_⟩
  ·refine (bO b w3 (i.aC=2)).e ?_
   rw[show aE w3 (i.aC=2)=cl b s.h w from hW.symm ▸ congrArg _ (propext ⟨fun k=>⟨ZB,k⟩,fun k=>k.2⟩)]
   have mV:=fun k:¬ (cl b s.h w).e≠0=>mV (i.form=45/\i.aC=2) (hW ▸ k)
   generalize cl b s.h w=w4 at hW mV ⊢
   refine⟨fun he=>?_,fun he=>?_⟩
   ·rw[if_pos (show w4.e≠0 from he)]
    exact rS
   rw[if_neg (show ¬ w4.e≠0 from he)]
   obtain⟨⟨p0,p1⟩,p2,p3⟩:=hiR (mV he)
   have hs:=gV p2
   have ux:=gS i
   have hf:=@mN w4.full (Classical.propDecidable _) w4.line (134217728+s.h.stub) (aX i.form) ⟨by omega,by omega⟩ hs
   have hm:@rE w4.full (Classical.propDecidable _) w4.line (134217728+s.h.stub) (aX i.form)=dG w4 s.h.stub (aX i.form):=rfl
   rw[hm] at hf
   have Ti:=jr w4 s.h.stub (aX i.form)
   generalize dG w4 s.h.stub (aX i.form)=mm at *
   generalize aX i.form=z at *
   refine lu ?_ (show 0<=s.h.stub/\s.h.stub<=4294967295 by omega)
   refine lu ?_ (show 0<=134217728+s.h.stub/\134217728+s.h.stub<=4294967295 by omega)
   refine ux.u ?_
   refine hf.u ?_
   refine And.intro (And.intro ?_ (And.intro ?a5 ?t5)) (And.intro ?a6 ?t6)
   case t5=>(conv=>whnf); exact trivial
   case t6=>(conv=>whnf); exact trivial
   case a6 =>
    conv=>whnf
    refine hf.u ?_
    exact rfl
   case a5 =>
    conv=>whnf
    refine ux.u ?_
    refine hf.u ?_
    exact rfl
   have hfx:=bQ 4 mm
   refine hfx.u ?_
   refine Exists.intro (AK b s w4 mm (kO b w)) (And.intro ?_ (And.intro (Exists.intro (AK b s w4 mm (kO b w)) (And.intro Sub.refl (And.intro ?_ (And.intro ?_ ?_)))) (And.intro ?_ ?_)))
   ·refine Sub.trans (Sub.mL 5 6 11 12 [bx (ak 4 mm)] rfl rfl (Or.inl rfl) rfl rfl rfl) ?_
    refine aT ao.ok (π:=[some 0,some 2,some 6]) ?_
    repeat' first|exact trivial|exact rfl|exact Iff.rfl|exact not_false|refine And.intro ?_ ?_
    all_goals first
     | exact (show s.h.A.op=(cJ s.h.A).op from O_)
     | exact (show s.h.A.n=(cJ s.h.A).num from Pa)
     | exact Pb
   ·refine (bQ 0 (kO b w)).u ?_
    refine (bQ 1 0).u ?_
    refine⟨[],az,(Og b s.h w mm Ti).ic [3] rfl (by repeat' first|exact trivial|exact rfl|exact Iff.rfl|exact Or.inl rfl|refine And.intro ?_ ?_) rfl rfl ?_⟩
    exact rS
   ·conv=>whnf
    refine hfx.u ?_
    refine Sub.trans (Sub.mL 6 5 11 12 [bx (ak 4 mm)] rfl rfl (Or.inl rfl) rfl rfl rfl) ?_
    refine aT ao.ok (π:=[some 0,some 2,some 5]) ?_
    repeat' first|exact trivial|exact rfl|exact Iff.rfl|exact not_false|refine And.intro ?_ ?_
    all_goals first
     | exact (show s.h.A.op=(cJ s.h.A).op from O_)
     | exact (show s.h.A.n=(cJ s.h.A).num from Pa)
     | exact Pb
   ·exact trivial
   ·refine Sub.trans (Sub.mL 6 5 11 12 [bx (ak 4 mm)] rfl rfl (Or.inl rfl) rfl rfl rfl) ?_
    refine aT ao.ok (π:=[some 0,some 2,some 5]) ?_
    repeat' first|exact trivial|exact rfl|exact Iff.rfl|exact not_false|refine And.intro ?_ ?_
    all_goals first
     | exact (show s.h.A.op=(cJ s.h.A).op from O_)
     | exact (show s.h.A.n=(cJ s.h.A).num from Pa)
     | exact Pb
   ·exact trivial
  ·refine (cG b w3).e ?_
   rw[eM (fun k=>ZB k.1)] at hW
   rw[hW]
   refine⟨fun he=>?_,fun he=>absurd (show ¬ (201:Int)=0 by decide) he⟩
   rw[if_pos (show ({ w3 with e:=201 }:WK).e≠0 from he)]
   exact rS
def Fu:List (Nat × aJ):=[(3,.pure 0 <| .pure 2 <| .pure 3 <| .load 4 [9,7,6,5] <| .aR 1 (.aR 5 (.aR 6 (.aR 7 (.aR 8 (.aR 9 (.done) (.nil)) (.nil)) (.sub 8 (.aR 7 (.aR 9 (.done) (.nil)) (.nil)) (.nil))) (.sub 8 (.aR 6 (.aR 7 (.aR 9 (.done) (.nil)) (.nil)) (.nil)) (.nil))) (.sub 8 (.aR 5 (.aR 6 (.aR 7 (.aR 9 (.done) (.nil)) (.nil)) (.nil)) (.nil)) (.nil))) (.sub 8 (.aR 1 (.aR 5 (.aR 6 (.aR 7 (.aR 9 (.done) (.nil)) (.nil)) (.nil)) (.nil)) (.nil)) (.nil))),(4,.pure 0 <| .pure 1 <| .pure 2 <| .pure 3 <| .load 4 [35,34,33,32,31,30,29,28,27,26,25,24,23,22,21,20,19,18,17,16,15,14,13,12,11,10,9,8,7,6,5] <| .pure 5 <| .pure 6 <| .pure 7 <| .pure 8 <| .pure 9 <| .pure 11 <| .load 10 [35,34,33,32,31,30,29,28,27,26,25,24,23,22,21,20,19,18,17,16,15,14,13] <| .load 12 [35,34,33,32,31,30,29,28,27,26,25,24,23,22,21,20,19,18,17,16,15,14,13] <| .pure 13 <| .pure 14 <| .pure 15 <| .load 16 [35,34,33,32,31,30,29,28,27,26,25,24,23,22,21,20,19,18,17] <| .pure 17 <| .pure 18 <| .pure 19 <| .pure 20 <| .pure 21 <| .pure 23 <| .load 22 [35,34,33,32,31,30,29,28,27,26,25] <| .load 24 [35,34,33,32,31,30,29,28,27,26,25] <| .pure 25 <| .pure 26 <| .pure 27 <| .pure 28 <| .load 29 [35,34,33,32,31,30] <| .pure 30 <| .pure 31 <| .pure 32 <| .pure 33 <| .pure 34 <| .aR 35 (.done) (.nil)),(8,.pure 1 <| .load 0 [5,4,3] <| .aR 2 (.aR 3 (.aR 4 (.aR 5 (.done) (.nil)) (.nil)) (.nil)) (.nil)),(11,.pure 0 <| .pure 1 <| .pure 2 <| .pure 4 <| .pure 5 <| .pure 6 <| .load 3 [11,10,9,8] <| .load 7 [11,10,9,8] <| .pure 8 <| .aR 9 (.pure 10 <| .aR 11 (.done) (.nil)) (.nil)),(13,.pure 1 <| .load 0 [6,5,4] <| .aR 2 (.aR 3 (.aR 4 (.aR 5 (.aR 6 (.done) (.nil)) (.nil)) (.nil)) (.nil)) (.nil)),(14,.pure 0 <| .pure 2 <| .load 3 [8,6,5,4] <| .aR 1 (.aR 4 (.aR 5 (.aR 6 (.aR 7 (.aR 8 (.done) (.nil)) (.nil)) (.sub 7 (.aR 6 (.aR 8 (.done) (.nil)) (.nil)) (.nil))) (.sub 7 (.aR 5 (.aR 6 (.aR 8 (.done) (.nil)) (.nil)) (.nil)) (.nil))) (.sub 7 (.aR 4 (.aR 5 (.aR 6 (.aR 8 (.done) (.nil)) (.nil)) (.nil)) (.nil)) (.nil))) (.sub 7 (.aR 1 (.aR 4 (.aR 5 (.aR 6 (.aR 8 (.done) (.nil)) (.nil)) (.nil)) (.nil)) (.nil)) (.nil))),(16,.load 0 [5,4,3] <| .aR 1 (.aR 2 (.aR 3 (.aR 4 (.aR 5 (.done) (.nil)) (.nil)) (.nil)) (.nil)) (.nil)),(100005,.done),(100009,.done),(100014,.done),(100016,.done),(100017,.done),(100019,.done)]
def jZ (b:List Int) (l:List ST) (F:WK->List C × WK):Prop:=∀ w:WK,bX w.at_->Spec gT 21 [.ptr 0 0,.sl 17 (l.map sr)] [gO b w] [] fun y S'=>y=bx (aq (F w).1)/\S' = [gO b (F w).2]
def ly (c:C):an:=⟨.loc,30,1,.w,true,Jq c⟩
noncomputable def JR (b:List Int) (s:ST) (to_ n:Int) (w w1:WK) (c:C):aN:=⟨(Tryz.f82).ntmps,ll [(0,.ptr 0 0),(3,.ptr 1 0),(4,.ptr 2 0),(5,.int .i64 to_),(6,.int .i64 n),(7,.ptr 3 0),(8,.ptr 4 0)] .nil,[gO b w,NF (qv s),zC,gO b w1,ly c],1,[]⟩
noncomputable def choT (b:List Int) (s:ST) (n:Int) (w w1:WK) (c:C) (no:WK):aN:=⟨(Tryz.f82).ntmps,ll [(0,.ptr 0 0),(3,.ptr 1 0),(4,.ptr 2 0),(6,.int .i64 n),(8,.ptr 4 0),(11,.ptr 5 0)] .nil,[gO b w,NF (qv s),zC,gO b w1,ly c,gO b no],1,[]⟩
noncomputable def Fv (b:List Int) (s:ST) (w w1:WK) (c:C) (no:WK) (d:C):aN:=⟨(Tryz.f82).ntmps,ll [(0,.ptr 0 0),(3,.ptr 1 0),(4,.ptr 2 0),(8,.ptr 4 0),(11,.ptr 5 0),(12,.ptr 6 0)] .nil,[gO b w,NF (qv s),zC,gO b w1,ly c,gO b no,ly d],1,[]⟩
theorem JS (b:List Int) (hb:pq b) (hl:b.length<=2000) (w:WK) (hI:bX w.at_) (s:ST) (hO:s.Ok) (hA:eD s.h.A) (BD EL:WK->List C × WK) (hB:jZ b s.bd BD) (hE:jZ b s.el EL) (gB:fK b KS BD) (gE:fK b KS EL):Spec gT 82 [.ptr 0 0,iq s] [gO b w] [] fun y S'=>y=bx (de b s.h (eT s.el=0) BD EL w).1/\S' = [gO b (de b s.h (eT s.el=0) BD EL w).2]:=by
 have hS:=s.rW hO
 have Oi:=iU hA
 have O_:s.h.A.op=(cJ s.h.A).op:=by rw[← iT,← Oi]
 have Pa:s.h.A.n=(cJ s.h.A).num:=by rw[← l_,← Oi]
 have Oj:gn s.h.A=cz (cJ s.h.A):=by rw[← dA,← Oi]
 have Pb:tR (.sl 3 (gn s.h.A)) (.sl 3 (cz (cJ s.h.A))):=by rw[Oj]; exact rfl
 refine Spec.rf (Spec.enter ao Fu 100 Tryz.func82 rfl (by kernel_rfl) ?_)
 refine (j9 b hb (by omega) w hI 0).e ?_
 unfold de
 simp only
 have ht:=hS.1.2.2.1
 have fU:=k_ hl 0 hI
 have hn:=fL b w
 have hB1:=hB (cu b w 0) fU
 have O1:=bQ 1 (kO b w)
 have hwB:=gB.wd hl (by decide) (cu b w 0) fU
 have hj0:g_ 400000 [ak 1 (kO b w),aq (BD (cu b w 0)).1]:=((Wd.flat (by decide) hn.1).cons (hwB.join.cons .nil)).more (by unfold KS; omega)
 have O6:=fj hj0 (by decide)
 have Z5:=hj0.join
 clear hj0
 generalize aq (BD (cu b w 0)).1=cB at *
 have gBI:=gB.I (cu b w 0) fU
 generalize (BD (cu b w 0)).2=wB at *
 generalize Sw:cu b w 0=w1 at *
 generalize Pc:dK b w=tn at *
 generalize kO b w=n at *
 generalize aq [ak 1 n,cB]=y1 at *
 refine O1.u ?_
 refine (hB1).e ?_
 refine⟨[],az,O6.ic [4] rfl (by repeat' first|exact trivial|exact rfl|exact Iff.rfl|exact Or.inl rfl|refine And.intro ?_ ?_) rfl rfl ?_⟩
 refine Exists.intro (JR b s tn n wB w1 y1) (And.intro ?_ (And.intro (Exists.intro (JR b s tn n wB w1 y1) (And.intro Sub.refl (And.intro (Exists.intro (JR b s tn n wB w1 y1) (And.intro Sub.refl (And.intro (Exists.intro (JR b s tn n wB w1 y1) (And.intro Sub.refl (And.intro ?_ (And.intro ?_ trivial)))) (And.intro ?_ trivial)))) (And.intro ?_ trivial)))) (And.intro ?_ trivial)))
 ·refine aT ao.ok (π:=[some 0,some 1,some 2,some 3,some 5]) ?_
  repeat' first|exact trivial|exact rfl|exact Iff.rfl|exact not_false|refine And.intro ?_ ?_
 ·have HA:bX (pQ s.h (eT s.el=0) wB).at_:=gBI
  have hg3:∀ p,(p↔(¬ wB.last/\(wB.at_=s.h.skip\/(s.h.skip = -1/\wB.at_=s.h.till/\eT s.el=0))))->aE wB p=pQ s.h (eT s.el=0) wB:=fun p h=>by unfold pQ; rw[propext h]
  have hy3:(¬ wB.last/\(wB.at_=s.h.skip\/(s.h.skip = -1/\wB.at_=s.h.till/\eT s.el=0)))->wB=pQ s.h (eT s.el=0) wB:=fun h=>(bu h).symm
  have hn3:¬ (¬ wB.last/\(wB.at_=s.h.skip\/(s.h.skip = -1/\wB.at_=s.h.till/\eT s.el=0)))->({ wB with e:=201 }:WK)=pQ s.h (eT s.el=0) wB:=fun h=>(eM h).symm
  generalize pQ s.h (eT s.el=0) wB=w3 at *
  refine Exists.intro (JR b s tn n w3 w1 y1) (And.intro ?_ ?_)
  ·have fin:∀ w':WK,w'=w3->gO b w'=gO b w3:=fun w' h=>by rw[h]
   refine⟨fun h1=>?p1,fun h1=>?p2⟩
   case' p1 =>
    refine⟨fun h2=>?q1,fun h2=>And.intro (fun h3=>And.intro (fun h4=>?q2) (fun h4=>?q3)) (fun h3=>?q4)⟩
   case' q1 =>
    refine (rO b wB).e ?_
    rw[hy3 ⟨h1,.inl h2⟩]
   case' q2 =>
    refine fun hm=>?_
    refine (bO b wB (eT s.el=0)).e ?_
    rw[hg3 (eT s.el=0) ⟨fun k=>⟨h1,.inr ⟨h3,h4,k⟩⟩,fun k=>k.2.elim (fun q=>absurd q h2) fun q=>q.2.2⟩]
   case' q3 =>
    refine (cG b wB).e ?_
    rw[hn3 fun k=>k.2.elim h2 fun q=>h4 q.2.1]
   case' q4 =>
    refine (cG b wB).e ?_
    rw[hn3 fun k=>k.2.elim h2 fun q=>h3 q.1]
   case' p2 =>
    refine (cG b wB).e ?_
    rw[hn3 fun k=>h1 k.1]
   all_goals
    refine aT ao.ok (π:=[some 0,some 1,some 2,some 3,some 4]) ?_
    repeat' first|exact trivial|exact rfl|exact Iff.rfl|exact not_false|refine And.intro ?_ ?_
  
  have tp:bX (gw b s.h w3).at_:=Dj hl HA
  have n3:=fL b w3
  have D0:g_ 400010 [y1,ak 3 (kO b w3)]:=(Z5.cons ((Wd.flat (by decide) n3.1).cons .nil)).more (by omega)
  have hcA:s.h.skip≠-1/\w3.e=0->gw b s.h w3=aE (cu b w3 (-1)) (dK b w3=s.h.till)/\nm b s.h w3 y1=aq [y1,ak 3 (kO b w3)]:=fun h=>⟨if_pos h,if_pos h⟩
  have hcB:¬ (s.h.skip≠-1/\w3.e=0)->gw b s.h w3=w3/\nm b s.h w3 y1=y1:=fun h=>⟨if_neg h,if_neg h⟩
  have hy2:Wd 400010 (nm b s.h w3 y1):=by
   by_cases k:s.h.skip≠-1/\w3.e=0
   ·rw[(hcA k).2]; exact D0.join
   ·rw[(hcB k).2]; exact Z5.more (by decide)
  generalize gw b s.h w3=w4 at *
  generalize nm b s.h w3 y1=y2 at *
  refine Exists.intro (JR b s tn n w4 w1 y2) (And.intro ?_ ?_)
  ·refine⟨fun h5=>And.intro (fun h6=>?r1) (fun h6=>?r2),fun h5=>?r3⟩
   case r1 =>
    obtain⟨e4,e5⟩:=hcA ⟨h5,h6⟩
    rw[e4,e5]
    refine (j9 b hb (by omega) w3 HA (-1)).e ?_
    refine (bO b (cu b w3 (-1)) (dK b w3=s.h.till)).e ?_
    refine (bQ 3 (kO b w3)).u ?_
    refine⟨[],az,(fj D0 (by decide)).ic [5] rfl (by repeat' first|exact trivial|exact rfl|exact Iff.rfl|exact Or.inl rfl|refine And.intro ?_ ?_) rfl rfl ?_⟩
    refine aT ao.ok (π:=[some 0,some 1,some 2,some 3,some 4]) ?_
    repeat' first|exact trivial|exact rfl|exact Iff.rfl|exact not_false|refine And.intro ?_ ?_
   case r2 =>
    obtain⟨e4,e5⟩:=hcB fun k=>h6 k.2
    rw[e4,e5]
    refine aT ao.ok (π:=[some 0,some 1,some 2,some 3,some 4]) ?_
    repeat' first|exact trivial|exact rfl|exact Iff.rfl|exact not_false|refine And.intro ?_ ?_
   case r3 =>
    obtain⟨e4,e5⟩:=hcB fun k=>h5 k.1
    rw[e4,e5]
    refine aT ao.ok (π:=[some 0,some 1,some 2,some 3,some 4]) ?_
    repeat' first|exact trivial|exact rfl|exact Iff.rfl|exact not_false|refine And.intro ?_ ?_
  clear hcA hcB D0
  
  refine (bO b w4 (tn=w4.at_)).e ?_
  rw[show aE w4 (tn=w4.at_)=zo tn w4 from rfl]
  have hI5:bX (zo tn w4).at_:=tp
  generalize zo tn w4=w5 at *
  refine (Hs b w5 s.h.till).e ?_
  have hI6:bX (bR w5 s.h.till).at_:=by rw[ma]; exact ht
  have n6:=dC b (bR w5 s.h.till)
  have hj3:g_ 400020 [y2,ak 0 (bC b (bR w5 s.h.till))]:=(hy2.cons ((Wd.flat (by decide) n6.1).cons .nil)).more (by omega)
  refine Exists.intro (choT b s n (Hw b s.h w5) w1 (Ob b s.h w5 y2) (kG w1 w5)) (And.intro ?_ ?_)
  ·refine (rX b hb (by omega) (bR w5 s.h.till) hI6).e ?_
   refine (bQ 0 (bC b (bR w5 s.h.till))).u ?_
   refine⟨[],az,(fj hj3 (by decide)).ic [6] rfl (by repeat' first|exact trivial|exact rfl|exact Iff.rfl|exact Or.inl rfl|refine And.intro ?_ ?_) rfl rfl ?_⟩
   refine aT ao.ok (π:=[some 0,some 1,some 2,some 3,some 4,some 5]) ?_
   repeat' first|exact trivial|exact rfl|exact Iff.rfl|exact not_false|refine And.intro ?_ ?_
  have hI7:bX (kG w1 w5).at_:=hI5
  generalize Hw b s.h w5=w7 at *
  generalize Ob b s.h w5 y2=y3 at *
  generalize kG w1 w5=no at *
  
  have Gb:=hE no hI7
  have hwE:=gE.wd hl (by decide) no hI7
  have gEI:=gE.I no hI7
  have hf3:=bQ 3 n
  have hj4:g_ 400000 [ak 3 n,aq (EL no).1]:=((Wd.flat (by decide) hn.1).cons (hwE.join.cons .nil)).more (by unfold KS; omega)
  have hj5:=fj hj4 (by decide)
  have Kc:=hj4.join
  clear hj4
  generalize aq (EL no).1=cE at *
  generalize (EL no).2=wE at *
  generalize aq [ak 3 n,cE]=z1 at *
  refine hf3.u ?_
  refine (Gb).q [5] ?_
  refine⟨[],az,hj5.ic [6] rfl (by repeat' first|exact trivial|exact rfl|exact Iff.rfl|exact Or.inl rfl|refine And.intro ?_ ?_) rfl rfl ?_⟩
  refine Exists.intro (Fv b s w7 w1 y3 wE z1) (And.intro ?_ (And.intro (Exists.intro (Fv b s w7 w1 y3 wE z1) (And.intro Sub.refl (And.intro (Exists.intro (Fv b s w7 w1 y3 wE z1) (And.intro Sub.refl (And.intro (Exists.intro (Fv b s w7 w1 y3 wE z1) (And.intro Sub.refl (And.intro ?_ (And.intro ?_ trivial)))) (And.intro ?_ trivial)))) (And.intro ?_ trivial)))) (And.intro ?_ trivial)))
  ·refine aT ao.ok (π:=[some 0,some 1,some 2,some 3,some 4,some 5,some 7]) ?_
   repeat' first|exact trivial|exact rfl|exact Iff.rfl|exact not_false|refine And.intro ?_ ?_
  ·have hI8:bX (Hx s.h wE).at_:=gEI
   have hg:∀ p,(p↔(wE.at_=s.h.till/\¬ wE.last))->aE wE p=Hx s.h wE:=fun p h=>by unfold Hx; rw[propext h]
   have hn2:¬ wE.at_=s.h.till->({ wE with e:=201 }:WK)=Hx s.h wE:=fun h=>(eM fun k=>h k.1).symm
   generalize Hx s.h wE=RL at *
   refine Exists.intro (Fv b s w7 w1 y3 RL z1) (And.intro ?_ ?_)
   ·refine⟨fun k1=>?u1,fun k1=>?u2⟩
    case' u1 =>
     refine (bO b wE (¬ wE.last)).q [5] ?_
     rw[hg (¬ wE.last) ⟨fun q=>⟨k1,q⟩,fun q=>q.2⟩]
    case' u2 =>
     refine (cG b wE).q [5] ?_
     rw[hn2 k1]
    all_goals
     refine aT ao.ok (π:=[some 0,some 1,some 2,some 3,some 4,some 5,some 6]) ?_
     repeat' first|exact trivial|exact rfl|exact Iff.rfl|exact not_false|refine And.intro ?_ ?_
   have n8:=dC b RL
   have hj6:g_ 400020 [z1,ak 0 (bC b RL)]:=(Kc.cons ((Wd.flat (by decide) n8.1).cons .nil)).more (by omega)
   have hj7:=fj hj6 (by decide)
   have hfe:=rX b hb (by omega) RL hI8
   generalize bC b RL=f2 at *
   generalize aD b RL=Hz at *
   generalize aq [z1,ak 0 f2]=z2 at *
   refine Exists.intro (Fv b s w7 w1 y3 Hz z2) (And.intro ?_ ?_)
   ·refine (hfe).q [5] ?_
    refine (bQ 0 f2).u ?_
    refine⟨[],az,hj7.ic [7] rfl (by repeat' first|exact trivial|exact rfl|exact Iff.rfl|exact Or.inl rfl|refine And.intro ?_ ?_) rfl rfl ?_⟩
    refine aT ao.ok (π:=[some 0,some 1,some 2,some 3,some 4,some 5,some 6]) ?_
    repeat' first|exact trivial|exact rfl|exact Iff.rfl|exact not_false|refine And.intro ?_ ?_
   refine Exists.intro (Fv b s (Hy w7 Hz) w1 y3 Hz z2) (And.intro ?_ ?_)
   ·refine⟨fun k1=>?u3,fun k1=>?u4⟩
    case u3 =>
     rw[show Hy w7 Hz = { w7 with e:=Hz.e } from if_pos k1]
     refine aT ao.ok (π:=[some 0,some 1,some 2,some 3,some 4,some 5,some 6]) ?_
     repeat' first|exact trivial|exact rfl|exact Iff.rfl|exact not_false|refine And.intro ?_ ?_
    case u4 =>
     rw[show Hy w7 Hz=w7 from if_neg k1]
     refine aT ao.ok (π:=[some 0,some 1,some 2,some 3,some 4,some 5,some 6]) ?_
     repeat' first|exact trivial|exact rfl|exact Iff.rfl|exact not_false|refine And.intro ?_ ?_
   refine fy ?_ ?_
   ·repeat' first|exact trivial|exact rfl|exact Iff.rfl|exact not_false|refine And.intro ?_ ?_
    all_goals first
     | exact (show s.h.A.op=(cJ s.h.A).op from O_)
     | exact (show s.h.A.n=(cJ s.h.A).num from Pa)
     | exact Pb
   ·repeat' first|exact trivial|exact rfl|exact Iff.rfl|exact not_false|refine And.intro ?_ ?_
  ·conv=>whnf
   refine hf3.u ?_
   refine (Gb).q [5] ?_
   refine⟨[],az,hj5.ic [7] rfl (by repeat' first|exact trivial|exact rfl|exact Iff.rfl|exact Or.inl rfl|refine And.intro ?_ ?_) rfl rfl ?_⟩
   refine aT ao.ok (π:=[some 0,some 1,some 2,some 3,some 4,some 5,some 6]) ?_
   repeat' first|exact trivial|exact rfl|exact Iff.rfl|exact not_false|refine And.intro ?_ ?_
  ·conv=>whnf
   refine (Gb).q [5] ?_
   refine⟨[],az,hj5.ic [7] rfl (by repeat' first|exact trivial|exact rfl|exact Iff.rfl|exact Or.inl rfl|refine And.intro ?_ ?_) rfl rfl ?_⟩
   refine aT ao.ok (π:=[some 0,some 1,some 2,some 3,some 4,some 5,some 6]) ?_
   repeat' first|exact trivial|exact rfl|exact Iff.rfl|exact not_false|refine And.intro ?_ ?_
  ·conv=>whnf
   refine⟨[],az,hj5.ic [7] rfl (by repeat' first|exact trivial|exact rfl|exact Iff.rfl|exact Or.inl rfl|refine And.intro ?_ ?_) rfl rfl ?_⟩
   refine aT ao.ok (π:=[some 0,some 1,some 2,some 3,some 4,some 5,some 6]) ?_
   repeat' first|exact trivial|exact rfl|exact Iff.rfl|exact not_false|refine And.intro ?_ ?_
  ·conv=>whnf
   refine⟨[],az,hj5.ic [6] rfl (by repeat' first|exact trivial|exact rfl|exact Iff.rfl|exact Or.inl rfl|refine And.intro ?_ ?_) rfl rfl ?_⟩
   refine aT ao.ok (π:=[some 0,some 1,some 2,some 3,some 4,some 5,some 7]) ?_
   repeat' first|exact trivial|exact rfl|exact Iff.rfl|exact not_false|refine And.intro ?_ ?_
 ·conv=>whnf
  refine O1.u ?_
  refine (hB1).e ?_
  refine⟨[],az,O6.ic [5] rfl (by repeat' first|exact trivial|exact rfl|exact Iff.rfl|exact Or.inl rfl|refine And.intro ?_ ?_) rfl rfl ?_⟩
  refine aT ao.ok (π:=[some 0,some 1,some 2,some 3,some 4]) ?_
  repeat' first|exact trivial|exact rfl|exact Iff.rfl|exact not_false|refine And.intro ?_ ?_
 ·conv=>whnf
  refine (hB1).e ?_
  refine⟨[],az,O6.ic [5] rfl (by repeat' first|exact trivial|exact rfl|exact Iff.rfl|exact Or.inl rfl|refine And.intro ?_ ?_) rfl rfl ?_⟩
  refine aT ao.ok (π:=[some 0,some 1,some 2,some 3,some 4]) ?_
  repeat' first|exact trivial|exact rfl|exact Iff.rfl|exact not_false|refine And.intro ?_ ?_
 ·conv=>whnf
  refine⟨[],az,O6.ic [5] rfl (by repeat' first|exact trivial|exact rfl|exact Iff.rfl|exact Or.inl rfl|refine And.intro ?_ ?_) rfl rfl ?_⟩
  refine aT ao.ok (π:=[some 0,some 1,some 2,some 3,some 4]) ?_
  repeat' first|exact trivial|exact rfl|exact Iff.rfl|exact not_false|refine And.intro ?_ ?_
 ·conv=>whnf
  refine⟨[],az,O6.ic [4] rfl (by repeat' first|exact trivial|exact rfl|exact Iff.rfl|exact Or.inl rfl|refine And.intro ?_ ?_) rfl rfl ?_⟩
  refine aT ao.ok (π:=[some 0,some 1,some 2,some 3,some 5]) ?_
  repeat' first|exact trivial|exact rfl|exact Iff.rfl|exact not_false|refine And.intro ?_ ?_
def Fw:List (Nat × aJ):=[(3,.pure 0 <| .pure 1 <| .pure 2 <| .pure 3 <| .pure 5 <| .load 4 [8,7] <| .load 6 [8,7] <| .pure 7 <| .aR 8 (.done) (.nil)),(7,.pure 0 <| .pure 1 <| .pure 2 <| .pure 3 <| .pure 5 <| .load 4 [8,7] <| .load 6 [8,7] <| .pure 7 <| .aR 8 (.done) (.nil)),(9,.pure 0 <| .pure 1 <| .pure 2 <| .load 3 [20,19,18,17,16,15,14,13,12,11,10,9,8,7,6,5,4] <| .pure 4 <| .pure 5 <| .pure 6 <| .pure 7 <| .pure 8 <| .pure 10 <| .load 9 [20,19,18,17,16,15,14,13,12] <| .load 11 [20,19,18,17,16,15,14,13,12] <| .pure 12 <| .pure 13 <| .pure 14 <| .pure 15 <| .pure 16 <| .load 17 [20,19,18] <| .pure 18 <| .pure 19 <| .aR 20 (.done) (.nil)),(12,.pure 1 <| .pure 4 <| .load 0 [10,8,7] <| .load 3 [10,8,7] <| .load 6 [10,8,7] <| .aR 2 (.aR 5 (.aR 7 (.aR 8 (.aR 9 (.aR 10 (.done) (.nil)) (.nil)) (.sub 9 (.aR 8 (.aR 10 (.done) (.nil)) (.nil)) (.nil))) (.sub 9 (.aR 7 (.aR 8 (.aR 10 (.done) (.nil)) (.nil)) (.nil)) (.nil))) (.sub 9 (.aR 5 (.aR 7 (.aR 8 (.aR 10 (.done) (.nil)) (.nil)) (.nil)) (.nil)) (.nil))) (.sub 9 (.aR 2 (.aR 5 (.aR 7 (.aR 8 (.aR 10 (.done) (.nil)) (.nil)) (.nil)) (.nil)) (.nil)) (.nil))),(13,.pure 0 <| .pure 1 <| .pure 2 <| .pure 3 <| .pure 5 <| .load 4 [15,14,13,12,11,10,9,8,7] <| .pure 7 <| .pure 8 <| .load 6 [15,14,13] <| .aR 9 (.pure 10 <| .pure 11 <| .aR 12 (.pure 13 <| .pure 14 <| .aR 15 (.done) (.nil)) (.nil)) (.nil)),(15,.pure 3 <| .load 0 [7,6,5] <| .load 1 [7,6,5] <| .load 2 [7,6,5] <| .aR 4 (.aR 5 (.aR 6 (.aR 7 (.done) (.nil)) (.nil)) (.nil)) (.nil)),(100003,.done),(100010,.done),(100012,.done),(100015,.done)]
noncomputable def roS0 (b:List Int) (s:ST) (w:WK) (c0 c1:C):aN:=⟨(Tryz.f83).ntmps,ll [(0,.ptr 0 0),(3,.ptr 1 0),(4,.ptr 2 0),(5,.ptr 3 0),(6,.ptr 4 0)] .nil,[gO b w,NF (qv s),zC,ly c0,ly c1],1,[]⟩
noncomputable def roS1 (b:List Int) (s:ST) (n m:Int) (w w4:WK) (c0 c1 c2:C):aN:=⟨(Tryz.f83).ntmps,ll [(0,.ptr 0 0),(3,.ptr 1 0),(4,.ptr 2 0),(5,.ptr 3 0),(6,.ptr 4 0),(8,.int .i64 n),(9,.ptr 5 0),(10,.ptr 6 0),(12,.int .i64 m)] .nil,[gO b w,NF (qv s),zC,ly c0,ly c1,gO b w4,ly c2],1,[]⟩
noncomputable def roS2 (b:List Int) (s:ST) (n m:Int) (w w4:WK) (c0 c1 c2 c3:C):aN:=⟨(Tryz.f83).ntmps,ll [(0,.ptr 0 0),(3,.ptr 1 0),(4,.ptr 2 0),(5,.ptr 3 0),(6,.ptr 4 0),(8,.int .i64 n),(9,.ptr 5 0),(10,.ptr 6 0),(12,.int .i64 m),(13,.ptr 7 0)] .nil,[gO b w,NF (qv s),zC,ly c0,ly c1,gO b w4,ly c2,ly c3],1,[]⟩
noncomputable def RN (b:List Int) (s:ST) (n:Int) (w w4:WK) (c0 c1 c2:C):aN:=⟨(Tryz.f83).ntmps,ll [(0,.ptr 0 0),(3,.ptr 1 0),(4,.ptr 2 0),(5,.ptr 3 0),(6,.ptr 4 0),(8,.int .i64 n),(9,.ptr 5 0),(14,.ptr 6 0)] .nil,[gO b w,NF (qv s),zC,ly c0,ly c1,gO b w4,ly c2],1,[]⟩
noncomputable def roS4 (b:List Int) (n:Int) (w:WK) (c0 c1 c2:C):aN:=⟨(Tryz.f83).ntmps,ll [(4,.ptr 1 0),(5,.ptr 2 0),(6,.ptr 3 0),(8,.int .i64 n),(15,.ptr 4 0)] .nil,[gO b w,zC,ly c0,ly c1,ly c2],1,[]⟩
theorem JT (b:List Int) (hb:pq b) (hl:b.length<=2000) (w:WK) (hI:bX w.at_) (s:ST) (hO:s.Ok) (hA:eD s.h.A) (hAB:eD s.h.B) (HD BD:WK->List C × WK) (hH:jZ b s.hd HD) (hB:jZ b s.bd BD) (gH:fK b KR HD) (gB:fK b KS BD):Spec gT 83 [.ptr 0 0,iq s] [gO b w] [] fun y S'=>y=bx (cr b s.h HD BD w).1/\S' = [gO b (cr b s.h HD BD w).2]:=by
 have hS:=s.rW hO
 have Oi:=iU hA
 have O_:s.h.A.op=(cJ s.h.A).op:=by rw[← iT,← Oi]
 have Pa:s.h.A.n=(cJ s.h.A).num:=by rw[← l_,← Oi]
 have Oj:gn s.h.A=cz (cJ s.h.A):=by rw[← dA,← Oi]
 have Pb:tR (.sl 3 (gn s.h.A)) (.sl 3 (cz (cJ s.h.A))):=by rw[Oj]; exact rfl
 have hTB:=iU hAB
 have hBo:s.h.B.op=(cJ s.h.B).op:=by rw[← iT,← hTB]
 have hBn:s.h.B.n=(cJ s.h.B).num:=by rw[← l_,← hTB]
 have hBk0:gn s.h.B=cz (cJ s.h.B):=by rw[← dA,← hTB]
 have hBk:tR (.sl 3 (gn s.h.B)) (.sl 3 (cz (cJ s.h.B))):=by rw[hBk0]; exact rfl
 have ht:=hS.1.2.2.1
 have pD:=hS.1.2.1
 refine Spec.rf (Spec.enter ao Fw 100 Tryz.func83 rfl (by kernel_rfl) ?_)
 refine (rX b hb (by omega) w hI).e ?_
 have n0:=dC b w
 have fU:bX (aD b w).at_:=by rw[dU]; exact hI
 have hH1:=hH (aD b w) fU
 have gH1:=gH.wd hl (by decide) (aD b w) fU
 have gHI:=gH.I (aD b w) fU
 unfold cr
 simp only
 generalize bC b w=f0 at *
 generalize aD b w=w1 at *
 generalize hhl:(HD w1).1=uQ at *
 generalize (HD w1).2=wH at *
 refine (bQ 0 f0).u ?_
 refine Exists.intro (roS0 b s wH (ak 0 f0) (aq uQ)) (And.intro ?_ ?_)
 ·refine (hH1).e ?_
  refine aT ao.ok (π:=[some 0,some 1,some 2,some 3,some 4]) ?_
  repeat' first|exact trivial|exact rfl|exact Iff.rfl|exact not_false|refine And.intro ?_ ?_
 refine (bO b wH (wH.at_=s.h.stub)).e ?_
 rw[show aE wH (wH.at_=s.h.stub)=lz s.h wH from rfl]
 have HA:bX (lz s.h wH).at_:=gHI
 generalize lz s.h wH=w3 at *
 refine (j9 b hb (by omega) w3 HA 0).e ?_
 have n1:=fL b w3
 have tp:=k_ hl 0 HA
 generalize dK b w3=tn at *
 generalize kO b w3=n at *
 generalize cu b w3 0=w4 at *
 
 have hB1:=hB w4 tp
 have gB1:=gB.wd hl (by decide) w4 tp
 have gBI:=gB.I w4 tp
 generalize hbl:(BD w4).1=bl at *
 generalize (BD w4).2=wB at *
 refine (hB1).e ?_
 refine (bO b wB (wB.at_=s.h.skip)).e ?_
 rw[show aE wB (wB.at_=s.h.skip)=A6 s.h wB from rfl]
 have hI6:bX (A6 s.h wB).at_:=gBI
 generalize A6 s.h wB=w6 at *
 refine (j9 b hb (by omega) w6 hI6 (-1)).e ?_
 have n6:=fL b w6
 have hg8:∀ p,(p↔(dK b w6=s.h.fr/\(cu b w6 (-1)).at_=s.h.till/\tn=s.h.till))->aE (cu b w6 (-1)) p=JP b s.h tn w6:=fun p h=>by unfold JP; rw[propext h]
 have hb8:¬ (dK b w6=s.h.fr/\(cu b w6 (-1)).at_=s.h.till/\tn=s.h.till)->({ cu b w6 (-1) with e:=201 }:WK)=JP b s.h tn w6:=fun h=>(eM h).symm
 generalize JP b s.h tn w6=w8 at *
 generalize dK b w6=back at *
 generalize kO b w6=m at *
 generalize cu b w6 (-1)=w7 at *
 refine Exists.intro (roS1 b s n m w8 w4 (ak 0 f0) (aq uQ) (aq bl)) (And.intro ?_ ?_)
 ·refine⟨fun k1=>And.intro (fun k2=>?u1) (fun k2=>?u2),fun k1=>?u3⟩
  case' u1 =>
   refine (bO b w7 (tn=s.h.till)).e ?_
   rw[hg8 (tn=s.h.till) ⟨fun q=>⟨k1,k2,q⟩,fun q=>q.2.2⟩]
  case' u2 =>
   refine (cG b w7).e ?_
   rw[hb8 fun q=>k2 q.2.1]
  case' u3 =>
   refine (cG b w7).e ?_
   rw[hb8 fun q=>k1 q.1]
  all_goals
   refine aT ao.ok (π:=[some 0,some 1,some 2,some 3,some 4,some 5,some 6]) ?_
   repeat' first|exact trivial|exact rfl|exact Iff.rfl|exact not_false|refine And.intro ?_ ?_
 
 refine (Hs b w8 s.h.fr).e ?_
 have hI9:bX (bR w8 s.h.fr).at_:=by rw[ma]; exact pD
 have n9:=dC b (bR w8 s.h.fr)
 have hf9:=rX b hb (by omega) (bR w8 s.h.fr) hI9
 have O6:g_ 700000 [aq uQ,ak 1 n,aq bl,ak 3 m,ak 0 (bC b (bR w8 s.h.fr))]:=(gH1.join.cons ((Wd.flat (by decide) n1.1).cons (gB1.join.cons ((Wd.flat (by decide) n6.1).cons ((Wd.flat (by decide) n9.1).cons .nil))))).more (by unfold KR KS; omega)
 have D0:=fj O6 (by decide)
 generalize bC b (bR w8 s.h.fr)=f9 at *
 generalize bR w8 s.h.fr=w9 at *
 generalize aD b w9=O' at *
 generalize aq [aq uQ,ak 1 n,aq bl,ak 3 m,ak 0 f9]=once at *
 have hj3:g_ 700000 [ak 0 f0,mU s.h once,aq uQ,ak 3 n]:=((Wd.flat (by decide) n0.1).cons ((Wd.one (c:=mU s.h once) (show (4:Int)≠1 by decide) (show (4:Int)≠2 by decide)).cons (gH1.join.cons ((Wd.flat (by decide) n1.1).cons .nil)))).more (by unfold KR; omega)
 have hj4:=fj hj3 (by decide)
 refine Exists.intro (roS2 b s n m O' w4 (ak 0 f0) (aq uQ) (aq bl) (ak 0 f9)) (And.intro ?_ ?_)
 ·refine (hf9).e ?_
  refine (bQ 0 f9).u ?_
  refine aT ao.ok (π:=[some 0,some 1,some 2,some 3,some 4,some 5,some 6,some 7]) ?_
  repeat' first|exact trivial|exact rfl|exact Iff.rfl|exact not_false|refine And.intro ?_ ?_
 have hfa:=bQ 1 n
 have hfb:=bQ 3 m
 refine hfa.u ?_
 refine hfb.u ?_
 refine⟨[],az,D0.ic [8] rfl (by repeat' first|exact trivial|exact rfl|exact Iff.rfl|exact Or.inl rfl|refine And.intro ?_ ?_) rfl rfl ?_⟩
 refine Exists.intro (RN b s n O' w4 (ak 0 f0) (aq uQ) once) (And.intro ?_ (And.intro (Exists.intro (RN b s n O' w4 (ak 0 f0) (aq uQ) once) (And.intro Sub.refl (And.intro (Exists.intro (RN b s n O' w4 (ak 0 f0) (aq uQ) once) (And.intro Sub.refl (And.intro (Exists.intro (RN b s n O' w4 (ak 0 f0) (aq uQ) once) (And.intro Sub.refl (And.intro ?_ (And.intro ?_ trivial)))) (And.intro ?_ trivial)))) (And.intro ?_ trivial)))) (And.intro ?_ trivial)))
 ·refine aT ao.ok (π:=[some 0,some 1,some 2,some 3,some 4,some 5,some 9]) ?_
  repeat' first|exact trivial|exact rfl|exact Iff.rfl|exact not_false|refine And.intro ?_ ?_
 ·refine Exists.intro (roS4 b n (ZA s.h w4 O') (ak 0 f0) (aq uQ) (mU s.h once)) (And.intro ?_ ?_)
  ·conv=>whnf
   refine Sub.trans (Sub.mL 7 8 11 12 [bx once] rfl rfl (Or.inl rfl) rfl rfl rfl) ?_
   refine aT ao.ok (π:=[some 0,some 2,some 3,some 4,some 8]) ?_
   repeat' first|exact trivial|exact rfl|exact Iff.rfl|exact not_false|refine And.intro ?_ ?_
   all_goals first
    | exact (show s.h.A.op=(cJ s.h.A).op from O_)
    | exact (show s.h.A.n=(cJ s.h.A).num from Pa)
    | exact Pb
    | exact (show s.h.B.op=(cJ s.h.B).op from hBo)
    | exact (show s.h.B.n=(cJ s.h.B).num from hBn)
    | exact hBk
  refine (bQ 3 n).u ?_
  refine⟨[],az,hj4.ic [5] rfl (by repeat' first|exact trivial|exact rfl|exact Iff.rfl|exact Or.inl rfl|refine And.intro ?_ ?_) rfl rfl ?_⟩
  exact rS
 ·conv=>whnf
  refine hfa.u ?_
  refine hfb.u ?_
  refine⟨[],az,D0.ic [9] rfl (by repeat' first|exact trivial|exact rfl|exact Iff.rfl|exact Or.inl rfl|refine And.intro ?_ ?_) rfl rfl ?_⟩
  refine aT ao.ok (π:=[some 0,some 1,some 2,some 3,some 4,some 5,some 8]) ?_
  repeat' first|exact trivial|exact rfl|exact Iff.rfl|exact not_false|refine And.intro ?_ ?_
 ·conv=>whnf
  refine hfb.u ?_
  refine⟨[],az,D0.ic [9] rfl (by repeat' first|exact trivial|exact rfl|exact Iff.rfl|exact Or.inl rfl|refine And.intro ?_ ?_) rfl rfl ?_⟩
  refine aT ao.ok (π:=[some 0,some 1,some 2,some 3,some 4,some 5,some 8]) ?_
  repeat' first|exact trivial|exact rfl|exact Iff.rfl|exact not_false|refine And.intro ?_ ?_
 ·conv=>whnf
  refine⟨[],az,D0.ic [9] rfl (by repeat' first|exact trivial|exact rfl|exact Iff.rfl|exact Or.inl rfl|refine And.intro ?_ ?_) rfl rfl ?_⟩
  refine aT ao.ok (π:=[some 0,some 1,some 2,some 3,some 4,some 5,some 8]) ?_
  repeat' first|exact trivial|exact rfl|exact Iff.rfl|exact not_false|refine And.intro ?_ ?_
 ·conv=>whnf
  refine⟨[],az,D0.ic [8] rfl (by repeat' first|exact trivial|exact rfl|exact Iff.rfl|exact Or.inl rfl|refine And.intro ?_ ?_) rfl rfl ?_⟩
  refine aT ao.ok (π:=[some 0,some 1,some 2,some 3,some 4,some 5,some 9]) ?_
  repeat' first|exact trivial|exact rfl|exact Iff.rfl|exact not_false|refine And.intro ?_ ?_
def Ol:List (Nat × aJ):=[(1,.pure 0 <| .pure 1 <| .pure 3 <| .pure 4 <| .pure 5 <| .load 2 [26,25,24,23,22,21,20,19,18,17,16,15,14,13,12,11,10,9,8,7] <| .load 6 [26,25,24,23,22,21,20,19,18,17,16,15,14,13,12,11,10,9,8,7] <| .pure 7 <| .pure 8 <| .pure 9 <| .pure 11 <| .load 10 [26,25,24,23,22,21,20,19,18,17,16,15,14,13] <| .load 12 [26,25,24,23,22,21,20,19,18,17,16,15,14,13] <| .pure 13 <| .pure 14 <| .pure 15 <| .pure 16 <| .pure 17 <| .pure 18 <| .load 19 [26,25,24,23,22,21,20] <| .pure 20 <| .pure 21 <| .pure 22 <| .load 23 [26,25,24] <| .aR 24 (.pure 25 <| .aR 26 (.done) (.nil)) (.nil)),(15,.pure 0 <| .pure 1 <| .pure 2 <| .pure 3 <| .pure 5 <| .load 4 [8,7] <| .load 6 [8,7] <| .pure 7 <| .aR 8 (.done) (.nil)),(100002,.done),(100015,.done)]
noncomputable def stS0 (b:List Int) (s:ST) (w:WK):aN:=⟨(Tryz.f44).ntmps,ll [(0,.ptr 0 0),(3,.ptr 1 0),(4,.ptr 2 0)] .nil,[gO b w,NF (qv s),zC],1,[]⟩
noncomputable def stS1 (b:List Int) (s:ST) (w:WK) (c:C):aN:=⟨(Tryz.f44).ntmps,ll [(0,.ptr 0 0),(3,.ptr 1 0),(4,.ptr 2 0),(5,.ptr 3 0)] .nil,[gO b w,NF (qv s),zC,ly c],1,[]⟩
noncomputable def fV (b:List Int) (s:ST) (HD BD EL:WK->List C × WK) (w:WK):C × WK :=
 if s.h.kind=1 then (pv b w s.h.till (s.h.aw.map eg),iS b w s.h.till (s.h.aw.map eg))
  else if s.h.kind=2 then (iV b s.h w,cl b s.h w)
  else if s.h.kind=3 then de b s.h (eT s.el=0) BD EL w
  else if s.h.kind=4 then cr b s.h HD BD w
  else (il,{ w with e:=201 })
theorem tu {b:List Int} {s:ST} {HD BD EL:WK->List C × WK} {w:WK} (h:(fk s w).e≠0):stepG b s HD BD EL w=(il,fk s w):=if_pos h
theorem xg {b:List Int} {s:ST} {HD BD EL:WK->List C × WK} {w:WK} (h:¬ (fk s w).e≠0):stepG b s HD BD EL w=((fV b s HD BD EL (fk s w)).1,aE (fV b s HD BD EL (fk s w)).2 ((fV b s HD BD EL (fk s w)).2.at_=s.h.till)):=if_neg h
theorem RO (b:List Int) (hb:pq b) (hl:b.length<=2000) (w:WK) (hI:bX w.at_) (s:ST) (hO:s.Ok) (HD BD EL:WK->List C × WK) (hH:jZ b s.hd HD) (hB:jZ b s.bd BD) (hE:jZ b s.el EL) (gH:mT s.hd->fK b KR HD) (gB:fK b KS BD) (gE:fK b KS EL):Spec gT 44 [.ptr 0 0,iq s] [gO b w] [] fun y S'=>y=bx (stepG b s HD BD EL w).1/\S' = [gO b (stepG b s HD BD EL w).2]:=by
 have hS:=s.rW hO
 have bS:=Fs s hO
 have hy:=@tu b s HD BD EL w
 have hn:=@xg b s HD BD EL w
 have PO:=@lx s w
 generalize stepG b s HD BD EL w=RR at *
 have D3:∀ p,(p↔(s.h.fr=w.at_/\s.h.fr < s.h.till/\¬ w.last/\gv s))->aE w p=fk s w:=fun p h=>by unfold fk; rw[propext h]
 have Gq:¬ (s.h.fr=w.at_/\s.h.fr < s.h.till/\¬ w.last/\gv s)->({ w with e:=201 }:WK)=fk s w:=fun h=>(eM h).symm
 have fU:bX (fk s w).at_:=hI
 generalize fk s w=w1 at *
 refine Spec.rf (Spec.enter ao Ol 100 Tryz.func44 rfl (by kernel_rfl) ?_)
 refine Exists.intro (stS0 b s w1) (And.intro ?_ ?_)
 ·refine⟨fun h1=>And.intro (fun h2=>?p1) (fun h2=>?p2),fun h1=>?p3⟩
  case' p1 =>
   refine⟨fun h3=>?p4,fun h3=>?p5⟩
   case' p4 =>
    refine bS.u ?_
    refine (bO b w (gv s)).e ?_
    rw[D3 (gv s) ⟨fun q=>⟨h1,h2,h3,q⟩,fun q=>q.2.2.2⟩]
   case' p5 =>
    refine (cG b w).e ?_
    rw[Gq fun q=>h3 q.2.2.1]
  case' p2 =>
   refine (cG b w).e ?_
   rw[Gq fun q=>h2 q.2.1]
  case' p3 =>
   refine (cG b w).e ?_
   rw[Gq fun q=>h1 q.1]
  all_goals
   refine aT ao.ok (π:=[some 0,some 1,some 2]) ?_
   repeat' first|exact trivial|exact rfl|exact Iff.rfl|exact not_false|refine And.intro ?_ ?_
 clear D3 Gq
 refine⟨fun he=>?_,fun he=>?_⟩
 ·rw[hy he]
  exact rS
 have hn:=hn he
 obtain⟨⟨h1,h2,h3,tZ⟩,h4⟩:=PO (Classical.not_not.1 he)
 rw[hn]
 clear hn hy PO
 simp only
 have Gs:s.h.kind=1->fV b s HD BD EL w1=(pv b w1 s.h.till (s.h.aw.map eg),iS b w1 s.h.till (s.h.aw.map eg)):=fun k=>if_pos k
 have nq:¬ s.h.kind=1->s.h.kind=2->fV b s HD BD EL w1=(iV b s.h w1,cl b s.h w1):=fun k k2=>by unfold fV; rw[if_neg k,if_pos k2]
 have Sz:¬ s.h.kind=1->¬ s.h.kind=2->s.h.kind=3->fV b s HD BD EL w1=de b s.h (eT s.el=0) BD EL w1:=fun k k2 k3=>by unfold fV; rw[if_neg k,if_neg k2,if_pos k3]
 have hk4:¬ s.h.kind=1->¬ s.h.kind=2->¬ s.h.kind=3->s.h.kind=4->fV b s HD BD EL w1=cr b s.h HD BD w1:=fun k k2 k3 k4=>by unfold fV; rw[if_neg k,if_neg k2,if_neg k3,if_pos k4]
 have hk5:¬ s.h.kind=1->¬ s.h.kind=2->¬ s.h.kind=3->¬ s.h.kind=4->fV b s HD BD EL w1=(il,{ w1 with e:=201 }):=fun k k2 k3 k4=>by unfold fV; rw[if_neg k,if_neg k2,if_neg k3,if_neg k4]
 generalize fV b s HD BD EL w1=r at *
 refine Exists.intro (stS1 b s r.2 r.1) (And.intro ?_ ?_)
 ·unfold gv at tZ
  refine⟨fun k1=>?_,fun k1=>And.intro (fun k2=>?_) (fun k2=>And.intro (fun k3=>?_) (fun k3=>And.intro (fun k4=>?_) (fun k4=>?_)))⟩
  ·have k1:s.h.kind=1:=k1
   rw[if_pos k1] at tZ
   have bI:=NH b hb hl w1 fU (qv s) (s.h.aw.map eg) (N7 tZ.2.2.2.2.2.2.1)
   rw[Gs k1]
   refine (bI).e ?_
   refine aT ao.ok (π:=[some 0,some 1,some 2,some 3]) ?_
   repeat' first|exact trivial|exact rfl|exact Iff.rfl|exact not_false|refine And.intro ?_ ?_
  ·have k1:¬ s.h.kind=1:=k1
   have k2:s.h.kind=2:=k2
   rw[if_neg k1,if_pos k2] at tZ
   rw[nq k1 k2]
   refine (Oh b hb hl w1 fU s hO tZ.2.2.2.2.1).e ?_
   refine aT ao.ok (π:=[some 0,some 1,some 2,some 3]) ?_
   repeat' first|exact trivial|exact rfl|exact Iff.rfl|exact not_false|refine And.intro ?_ ?_
  ·have k1:¬ s.h.kind=1:=k1
   have k2:¬ s.h.kind=2:=k2
   have k3:s.h.kind=3:=k3
   rw[if_neg k1,if_neg k2,if_pos k3] at tZ
   rw[Sz k1 k2 k3]
   refine (JS b hb hl w1 fU s hO tZ.2.2.2.1 BD EL hB hE gB gE).e ?_
   refine aT ao.ok (π:=[some 0,some 1,some 2,some 3]) ?_
   repeat' first|exact trivial|exact rfl|exact Iff.rfl|exact not_false|refine And.intro ?_ ?_
  ·have k1:¬ s.h.kind=1:=k1
   have k2:¬ s.h.kind=2:=k2
   have k3:¬ s.h.kind=3:=k3
   rw[if_neg k1,if_neg k2,if_neg k3] at tZ
   rw[hk4 k1 k2 k3 k4]
   refine (JT b hb hl w1 fU s hO tZ.2.2.2.1 tZ.2.2.2.2.1 HD BD hH hB (gH tZ.2.2.2.2.2.2.1) gB).e ?_
   refine aT ao.ok (π:=[some 0,some 1,some 2,some 3]) ?_
   repeat' first|exact trivial|exact rfl|exact Iff.rfl|exact not_false|refine And.intro ?_ ?_
  ·rw[hk5 k1 k2 k3 k4]
   refine (wP b w1).e ?_
   refine aT ao.ok (π:=[some 0,some 1,some 2,some 3]) ?_
   repeat' first|exact trivial|exact rfl|exact Iff.rfl|exact not_false|refine And.intro ?_ ?_
 refine (bO b r.2 (r.2.at_=s.h.till)).e ?_
 exact rS
def Om (b:List Int) (s:ST):Prop:=∀ w:WK,bX w.at_->Spec gT 44 [.ptr 0 0,iq s] [gO b w] [] fun y S'=>y=bx (bG b s w).1/\S' = [gO b (bG b s w).2]
structure StI (b:List Int) (l:List ST) (w0:WK) where
 i:Nat
 w:WK
 out:List C
 eq:ar b l w0=(out++(ar b (l.drop i) w).1,(ar b (l.drop i) w).2)
 hI:bX w.at_
 len:out.length<=2003
 ok:w.e=0->dO b w0.at_ w.at_/\(out.length:Int)<=w.at_ - w0.at_
theorem StI.ve {b:List Int} (hl:b.length<=2000) {l:List ST} {w0:WK} (r:StI b l w0) {s:ST} (hs:l[r.i]?=some s) (he:r.w.e=0) (hg:Dg b KS (bG b s)):∃ r':StI b l w0,r'.i=r.i+1/\r'.w=(bG b s r.w).2/\r'.out=r.out++[(bG b s r.w).1]:=by
 have hd:l.drop r.i=s::l.drop (r.i+1):=by
  have h1:=(List.getElem?_eq_some_iff.1 hs)
  obtain⟨h1,h2⟩:=h1
  rw[List.drop_eq_getElem_cons h1,h2]
 obtain⟨c1,c2⟩:=r.ok he
 have hb:=c1.bd
 have e1:=r.eq
 rw[hd,ar,if_neg (fun k=>k he)] at e1
 refine⟨⟨r.i+1,(bG b s r.w).2,r.out++[(bG b s r.w).1],?_,hg.I _ r.hI,?_,fun h=>?_⟩,rfl,rfl,rfl⟩
 ·rw[e1]; simp only[List.append_assoc,List.singleton_append]
 ·rw[List.length_append,List.length_singleton]; omega
 ·obtain⟨_,q2,q3,_⟩:=hg.ok _ r.hI h
  refine⟨c1.trans q2,?_⟩
  rw[List.length_append,List.length_singleton]; omega
def dS (l:List C):an:=⟨.dyn,30,12,.w,true,l.map bx⟩
theorem rY (b:List Int) (hb:pq b) (hl:b.length<=2000) (l:List ST) (hO:c_ l) (hs:∀ s∈l,Om b s):jZ b l (ar b l):=fun w hI=>by
 have Dm:=(bV hl l hO).wd hl (by decide) w hI
 have hj:=fj Dm (by decide)
 have mc:=fun s hs=>fM hl s (bs hO s hs)
 rw[o4]
 obtain⟨RR,hRR⟩:∃ RR,RR=ar b l w:=⟨_,rfl⟩
 rw[← hRR] at hj ⊢
 refine Spec.rf (Spec.enter ao P21 100 Tryz.func21 rfl (by kernel_rfl) ?_)
 refine fun hm=>?_
 refine SW.tU ao P21 (by kernel_rfl) (α:=StI b l w) (fun r=>[(0,.ptr 0 0),(4,.ptr 1 0),(5,.wref 2),(8,.sl 17 (l.map iq)),(9,.int .i64 ((l.map iq).length:Nat)),(10,.int .i64 r.i)]) (fun r=>[gO b r.w,zC,dS r.out]) (fun r=>l.length - r.i) ⟨0,w,[],rfl,hI,by decide,fun _=>⟨.nil _,by simp⟩⟩ 100 [some 0,some 1,none] ?_ ?_
 ·repeat' first|exact trivial|exact rfl|exact Iff.rfl|exact not_false|refine And.intro ?_ ?_
 intro r
 have Hj:=fun s=>@StI.ve b hl l w r s
 obtain⟨i,x,out,heq,hxI,hlen,hok⟩:=r
 have el:(l.map iq).length=l.length:=List.length_map ..
 refine⟨fun h1=>?_,fun h1=>?_⟩
 ·have eU:(i:Int) < ((l.map iq).length:Nat):=h1
  rw[el] at eU
  refine⟨ST,l,iq,rfl,show (0:Int)<=(i:Int) by omega,show (i:Int) < (l.length:Int) by omega,fun s Sv=>?_⟩
  have On:l[i]?=some s:=Sv
  have Sd:=List.mem_of_getElem? On
  refine⟨fun he=>?_,fun he=>?_⟩
  ·have oE:x.e≠0:=he
   have hd:ar b (l.drop i) x=([],x):=by
    cases hdr:l.drop i with
    | nil=>rfl
    | cons s2 l2=>rw[ar,if_pos oE]
   rw[hd,List.append_nil] at heq
   rw[heq] at hRR
   rw[hRR] at hj ⊢
   refine⟨[],az,hj.ic [2] rfl (by repeat' first|exact trivial|exact rfl|exact Iff.rfl|exact Or.inl rfl|refine And.intro ?_ ?_) rfl rfl ?_⟩
   exact rS
  ·have oE:x.e=0:=Classical.not_not.1 he
   have um:=hs s Sd x hxI
   obtain⟨r',q1,q2,q3⟩:=Hj s On oE (mc s Sd)
   simp only at q1 q2 q3
   generalize (bG b s x).1=c at *
   generalize (bG b s x).2=x2 at *
   refine (um).e ?_
   refine⟨show (out.map bx).length+1<=maxLen by rw[List.length_map]; unfold maxLen; omega,show ((out.map bx).length+1)*144<=140737488355328 by rw[List.length_map]; omega,?_⟩
   unfold maxLen at hm
   refine .inl ⟨aG (show _<=(i:Int)+1/\(i:Int)+1<=_ by omega),⟨r',[some 0,some 1,some 5],show l.length - r'.i < l.length - i by omega,?_⟩⟩
   rw[q1,q2,q3]
   repeat' first|exact trivial|exact rfl|exact Iff.rfl|exact not_false|refine And.intro ?_ ?_
   all_goals exact (show out.map bx++[bx c]=(out++[c]).map bx by rw[List.map_append]; rfl)
 ·have eU:¬ (i:Int) < ((l.map iq).length:Nat):=h1
  rw[el] at eU
  have hd:ar b (l.drop i) x=([],x):=by
   rw[List.drop_of_length_le (by omega)]
   rfl
  rw[hd,List.append_nil] at heq
  rw[heq] at hRR
  rw[hRR] at hj ⊢
  refine⟨[],az,hj.ic [2] rfl (by repeat' first|exact trivial|exact rfl|exact Iff.rfl|exact Or.inl rfl|refine And.intro ?_ ?_) rfl rfl ?_⟩
  exact rS
theorem Oo (b:List Int) (hb:pq b) (hl:b.length<=2000):∀ s:ST,s.Ok->Om b s:=ST.ind fun s uG tG HB hO w hI=>by
 have jf:c_ s.hd/\c_ s.bd/\c_ s.el:=by cases s; exact hO.2.2
 have hH:=rY b hb hl s.hd jf.1 fun x hx=>uG x hx (bs jf.1 x hx)
 have hB:=rY b hb hl s.bd jf.2.1 fun x hx=>tG x hx (bs jf.2.1 x hx)
 have hE:=rY b hb hl s.el jf.2.2 fun x hx=>HB x hx (bs jf.2.2 x hx)
 rw[fo]
 exact RO b hb hl w hI s hO _ _ _ hH hB hE (fun hp=>lb hl s.hd hp) (bV hl s.bd jf.2.1) (bV hl s.el jf.2.2)
theorem JU (b:List Int) (hb:pq b) (hl:b.length<=2000) (l:List ST) (hO:c_ l):jZ b l (ar b l):=rY b hb hl l hO fun s hs=>Oo b hb hl s (bs hO s hs)
theorem ud:∀ g:G,aj gT 125 [gP g] (.int .i64 (gY g)):=G.ind fun g ih=>by
 obtain⟨o,n,l⟩:=g
 have T7:∀ x∈l,aj gT 125 [gP x] (.int .i64 (gY x)):=fun x hx=>ih x hx
 clear ih
 show aj gT 125 [.agg [.int .i64 o,.int .u32 n,.sl 3 (jH l)]] (.int .i64 (ef l 1))
 rw[fi]
 obtain⟨R,hR⟩:∃ R,R=ef l 1:=⟨_,rfl⟩
 rw[← hR]
 have el:(l.map gP).length=l.length:=List.length_map ..
 refine Spec.enter ao xO 100 Tryz.func125 rfl (by kernel_rfl) ?_
 refine fun hm=>?_
 refine SW.ko ao xO (by kernel_rfl) (α:={q:Nat × Int // R=ef (l.drop q.1) q.2}) (fun q=>[(3,.int .i64 q.1.2),(9,.int .i64 q.1.1)]) (fun q=>l.length - q.1.1) ⟨(0,1),hR⟩ 60 ?_ ?_
 ·repeat' first|exact trivial|exact rfl|refine And.intro ?_ ?_
 rintro⟨⟨i,a⟩,hi⟩
 refine⟨fun h=>?_,fun h=>?_⟩
 ·have h':(i:Int) < ((l.map gP).length:Nat):=h
  rw[el] at h'
  refine⟨G,l,gP,rfl,show (0:Int)<=(i:Int) by omega,show (i:Int) < (l.length:Int) by omega,fun x hx=>?_⟩
  have dE:l[i]?=some x:=hx
  refine (T7 x (List.mem_of_getElem? dE)).u ?_
  refine .inr ?_
  unfold maxLen at hm
  refine .inl ⟨aG (show _<=(i:Int)+1/\(i:Int)+1<=_ by omega),⟨⟨(i+1,IntKind.i64.wrap (a+gY x)),?_⟩,show l.length - (i+1) < l.length - i by omega,?_⟩⟩
  ·show R=ef (l.drop (i+1)) _
   rw[hi]
   show ef (l.drop i) a=_
   rw[List.drop_eq_getElem_cons (by omega),ef]
   rw[List.getElem?_eq_getElem (by omega)] at dE
   rw[Option.some.inj dE]
  ·repeat' first|exact trivial|exact rfl|refine And.intro ?_ ?_
 ·have h':¬ (i:Int) < ((l.map gP).length:Nat):=h
  rw[el] at h'
  refine al ?_
  exact (show a=R by rw[hi]; show a=ef (l.drop i) a; rw[List.drop_of_length_le (by omega),ef])
theorem JV (g:G) (h:aj gT 143 [gP g] (.bool (cq g))):aj gT 152 [gP g] (.bool (¬ cq g)):=by
 refine Spec.enter ao Ui 100 Tryz.func152 rfl (by kernel_rfl) ?_
 refine h.u ?_
 exact al Iff.rfl
theorem AL:∀ g:G,aj gT 143 [gP g] (.bool (cq g)):=G.ind fun g ih=>by
 obtain⟨o,n,l⟩:=g
 have hc:=N3 l (fun x=>¬ cq x) fun x hx=>JV x (ih x hx)
 clear ih
 show aj gT 143 [.agg [.int .i64 o,.int .u32 n,.sl 3 (jH l)]] (.bool (xa o n l.length/\kF l))
 rw[fi,propext (@mS l)]
 have el:(l.map gP).length=l.length:=List.length_map ..
 unfold xa
 rw[← el]
 have N4:(¬ ∃ x∈l,¬ cq x)↔∀ x∈l,cq x:=by simp
 generalize (∃ x∈l,¬ cq x)=E at hc N4
 generalize (∀ x∈l,cq x)=A at N4
 refine Spec.enter ao Uh 100 Tryz.func143 rfl (by kernel_rfl) ?_
 refine⟨fun h1=>?_,fun h1=>And.intro (fun h2=>?_) (fun h2=>?_)⟩
 ·exact al (show ¬ _ from fun k=>k.1 (.inl h1))
 ·exact al (show ¬ _ from fun k=>k.1 (.inr (.inl h2)))
 refine fun _=>?_
 refine (uc o).u ?_
 generalize ((l.map gP).length:Int)=K at *
 generalize im o=ne at *
 have bad:(o < 1\/17 < o\/K≠ne\/(2 < o/\n≠0)\/(o=2/\255 < n))->¬ (¬ (o < 1\/17 < o\/K≠ne\/(2 < o/\n≠0)\/(o=2/\255 < n))/\A):=fun h k=>k.1 h
 have jl:¬ (o < 1\/17 < o\/K≠ne\/(2 < o/\n≠0)\/(o=2/\255 < n))->(¬ E↔(¬ (o < 1\/17 < o\/K≠ne\/(2 < o/\n≠0)\/(o=2/\255 < n))/\A)):=fun h=>N4.trans ⟨fun k=>⟨h,k⟩,fun k=>k.2⟩
 refine⟨fun h3=>?_,fun h3=>And.intro (fun h4=>And.intro (fun h5=>?_) (fun h5=>And.intro (fun h6=>?_) (fun h6=>?_))) (fun h4=>And.intro (fun h6=>And.intro (fun h7=>?_) (fun h7=>?_)) (fun h6=>?_))⟩
 ·exact al (bad (by omega))
 ·exact al (bad (by omega))
 ·exact absurd h6 (by omega)
 ·refine hc.u ?_
  exact al (jl (by omega))
 ·exact al (bad (by omega))
 ·refine hc.u ?_
  exact al (jl (by omega))
 ·refine hc.u ?_
  exact al (jl (by omega))
theorem Dn (g:G):aj gT 126 [gP g] (.bool (gY g<=16384/\cq g)):=by
 have h1:=ud g
 have h2:=AL g
 refine Spec.enter ao Ug 100 Tryz.func126 rfl (by kernel_rfl) ?_
 refine h1.u ?_
 refine⟨fun h=>?_,fun h=>?_⟩
 ·refine h2.u ?_
  exact al (show cq g↔_ from ⟨fun k=>⟨h,k⟩,fun k=>k.2⟩)
 ·exact al (show ¬ _ from fun k=>h k.1)
def iD (t:T):Prop:=(gY (fD t)<=16384/\cq (fD t))/\fI t=true
theorem Dp (t:T):aj gT 89 [jc t,.tt] (.bool (iD t)):=by
 have hr:=Dn (fD t)
 rw[N5] at hr
 refine Spec.enter ao P89 100 Tryz.func89 rfl (by kernel_rfl) ?_
 refine hr.u ?_
 refine⟨fun h1=>?_,fun h1=>?_⟩
 ·refine (C7 t).u ?_
  refine al ?_
  exact (show fI t=true↔iD t from ⟨fun h=>⟨h1,h⟩,fun h=>h.2⟩)
 ·refine al ?_
  exact (show ¬ iD t from fun h=>h1 h.1)
def Dq (t:T):Int:=if t.op=0 then 0 else gY (fD t)
theorem xh (t:T):aj gT 87 [jc t] (.int .i64 (Dq t)):=by
 have hc:=ud (fD t)
 rw[N5] at hc
 refine Spec.enter ao P87 100 Tryz.func87 rfl (by kernel_rfl) ?_
 refine⟨fun h1=>?_,fun h1=>?_⟩
 ·refine al ?_
  exact (show (0:Int)=Dq t by rw[Dq,if_pos h1])
 ·refine hc.u ?_
  refine al ?_
  exact (show gY (fD t)=Dq t by rw[Dq,if_neg h1])
mutual
def Tj:C->Int
 | .mk _ _ _ _ _ a b l=>tv l (IntKind.i64.wrap (IntKind.i64.wrap (1+Dq a)+Dq b))
def tv:List C->Int->Int
 | [],a=>a
 | c::l,a=>tv l (IntKind.i64.wrap (a+Tj c))
end
theorem ZC (c:C):Tj c=tv c.l (IntKind.i64.wrap (IntKind.i64.wrap (1+Dq c.a)+Dq c.b)):=by cases c; rfl
theorem Dr:∀ c:C,aj gT 47 [bx c] (.int .i64 (Tj c)):=C.lZ fun c ih=>by
 have ek:(jO c).length=c.l.length:=by rw[dF,List.length_map]
 rw[ZC]
 obtain⟨R,hR⟩:∃ R,R=tv c.l (IntKind.i64.wrap (IntKind.i64.wrap (1+Dq c.a)+Dq c.b)):=⟨_,rfl⟩
 rw[← hR]
 refine Spec.enter ao P47 100 Tryz.func47 rfl (by kernel_rfl) ?_
 refine (xh c.a).u ?_
 refine .inr ?_
 refine (xh c.b).u ?_
 refine .inr ?_
 refine fun hm=>SW.ko ao P47 (by kernel_rfl) (α:={q:Nat × Int // R=tv (c.l.drop q.1) q.2}) (fun q=>[(17,.int .i64 q.1.1),(3,.int .i64 q.1.2)]) (fun q=>c.l.length - q.1.1) ⟨(0,IntKind.i64.wrap (IntKind.i64.wrap (1+Dq c.a)+Dq c.b)),hR⟩ 60 ?_ ?_
 ·repeat' first|exact trivial|exact rfl|refine And.intro ?_ ?_
 rintro⟨⟨i,a⟩,hi⟩
 refine⟨fun h=>?_,fun h=>?_⟩
 ·have h':(i:Int) < ((jO c).length:Nat):=h
  refine⟨C,c.l,bx,dF c,show (0:Int)<=(i:Int) by omega,show (i:Int) < (c.l.length:Int) by omega,fun x hx=>?_⟩
  have dE:c.l[i]?=some x:=hx
  refine (ih x (List.mem_of_getElem? dE)).u ?_
  refine .inr ?_
  unfold maxLen at hm
  refine .inl ⟨aG (show _<=(i:Int)+1/\(i:Int)+1<=_ by omega),⟨⟨(i+1,IntKind.i64.wrap (a+Tj x)),?_⟩,show c.l.length - (i+1) < c.l.length - i by omega,?_⟩⟩
  ·show R=tv (c.l.drop (i+1)) _
   rw[hi]
   show tv (c.l.drop i) a=_
   rw[List.drop_eq_getElem_cons (by omega),tv]
   rw[List.getElem?_eq_getElem (by omega)] at dE
   rw[Option.some.inj dE]
  ·repeat' first|exact trivial|exact rfl|refine And.intro ?_ ?_
 ·have h':¬ (i:Int) < ((jO c).length:Nat):=h
  refine al ?_
  exact (show a=R by rw[hi]; show a=tv (c.l.drop i) a; rw[List.drop_of_length_le (by omega),tv])
def Ds (k cy mi wo si:Int) (a b:T) (n:Int):Prop:=(1<=k/\k<=6)/\((k=1->0<=cy/\cy<=2147483647/\0<=mi/\mi<=2147483647)/\(¬ k=1->cy=0/\mi=0)/\(k=4->4<=wo/\wo<=253)/\(¬ k=4->wo=0)/\(k=5->0<=si/\si<=1024)/\(¬ k=5->si=0))
  /\ ((k=1\/k=6->n=0)/\(k=2->n<=2147483647)/\(k=3->n=2)/\(k=4\/k=5->n=1))
  /\ ((3<=k->iD a)/\(k < 3->cK a false=true))/\((k=4\/k=6->iD b)/\(¬ (k=4\/k=6)->cK b false=true))
mutual
def qx:C->Prop
 | .mk k cy mi wo si a b l=>Ds k cy mi wo si a b (l.length:Nat)/\Dt l
def Dt:List C->Prop
 | []=>True
 | c::l=>qx c/\Dt l
end
theorem zp:∀ {l:List C},Dt l↔∀ x∈l,qx x
 | []=>by simp[Dt]
 | c::l=>by rw[Dt,zp]; simp
theorem rZ (c:C):qx c↔Ds c.kind c.eX c.eY c.word c.size c.a c.b (c.l.length:Nat)/\∀ x∈c.l,qx x:=by
 cases c with
 | mk k cy mi wo si a b l=>rw[← zp]; rfl
theorem x9 (c:C) (h:aj gT 48 [bx c] (.bool (qx c))):aj gT 91 [bx c] (.bool (¬ qx c)):=by
 refine Spec.enter ao P91 100 Tryz.func91 rfl (by kernel_rfl) ?_
 refine h.u ?_
 exact al Iff.rfl
theorem AM:∀ c:C,aj gT 48 [bx c] (.bool (qx c)):=C.lZ fun c ih=>by
 have hh:=Hg c.l (fun x=>¬ qx x) fun x hx=>x9 x (ih x hx)
 rw[← dF] at hh
 have ek:(jO c).length=c.l.length:=by rw[dF,List.length_map]
 have S:=rZ c
 obtain⟨KL,Zr⟩:∃ KL,KL = ∀ x∈c.l,qx x:=⟨_,rfl⟩
 rw[← Zr] at S
 have e:(∃ x∈c.l,¬ qx x) = ¬ KL:=propext (by rw[Zr]; exact⟨fun ⟨x,hx,hn⟩ h=>hn (h x hx),fun h=>Classical.byContradiction fun hn=>h fun x hx=>Classical.byContradiction fun h'=>hn ⟨x,hx,h'⟩⟩)
 rw[e] at hh
 obtain⟨LN,hLN⟩:∃ LN:Int,LN=((jO c).length:Int):=⟨_,rfl⟩
 rw[← ek,← hLN] at S
 clear e Zr ih
 unfold Ds at S
 have tA:=Dp c.a
 have tB:=Dp c.b
 generalize iD c.a=PA at S tA
 generalize iD c.b=PB at S tB
 obtain⟨SC,hSC⟩:∃ SC,SC=qx c:=⟨_,rfl⟩
 rw[← hSC] at S ⊢
 refine Spec.enter ao P48 100 Tryz.func48 rfl (by kernel_rfl) ?_
 refine⟨fun h1=>?_,fun h1=>And.intro (fun h2=>?_) (fun h2=>?_)⟩
 ·refine al ?_
  exact (show ¬ SC by grind)
 ·refine al ?_
  exact (show ¬ SC by grind)
 refine Tg h1 h2 (fun hk=>?_) (fun hk=>?_) (fun hk=>?_) (fun hk=>?_) (fun hk=>?_) (fun hk=>?_)
 ·simp only[hk] at S
  simp at S
  refine⟨by omega,by omega,.inl ⟨1,hk,?_⟩⟩
  repeat' (first
   | refine And.intro (fun _=>?_) (fun _=>?_)
   | refine⟨[],az,(dP _ _ _).use ⟨rfl,rfl,rfl,trivial,trivial⟩ rfl rfl ?_⟩
   | refine⟨[],az,(dQ _ _ _).use ⟨rfl,rfl,rfl,trivial,trivial⟩ rfl rfl ?_⟩
   | refine⟨[],az,tA.use ⟨⟨rfl,rfl,rfl,trivial⟩,trivial,trivial⟩ rfl rfl ?_⟩
   | refine⟨[],az,tB.use ⟨⟨rfl,rfl,rfl,trivial⟩,trivial,trivial⟩ rfl rfl ?_⟩
   | refine⟨[],az,(dT _).use ⟨⟨rfl,rfl,rfl,trivial⟩,trivial,trivial⟩ rfl rfl ?_⟩
   | refine⟨[],az,(hh).use ⟨rfl,trivial,trivial⟩ rfl rfl ?_⟩
   | (refine al ?_; first|exact (show ¬ SC by grind)|exact (show _↔SC by grind))
   | intro _)
 ·simp only[hk] at S
  simp at S
  refine⟨by omega,by omega,.inl ⟨2,hk,?_⟩⟩
  repeat' (first
   | refine And.intro (fun _=>?_) (fun _=>?_)
   | refine⟨[],az,(dP _ _ _).use ⟨rfl,rfl,rfl,trivial,trivial⟩ rfl rfl ?_⟩
   | refine⟨[],az,(dQ _ _ _).use ⟨rfl,rfl,rfl,trivial,trivial⟩ rfl rfl ?_⟩
   | refine⟨[],az,tA.use ⟨⟨rfl,rfl,rfl,trivial⟩,trivial,trivial⟩ rfl rfl ?_⟩
   | refine⟨[],az,tB.use ⟨⟨rfl,rfl,rfl,trivial⟩,trivial,trivial⟩ rfl rfl ?_⟩
   | refine⟨[],az,(dT _).use ⟨⟨rfl,rfl,rfl,trivial⟩,trivial,trivial⟩ rfl rfl ?_⟩
   | refine⟨[],az,(hh).use ⟨rfl,trivial,trivial⟩ rfl rfl ?_⟩
   | (refine al ?_; first|exact (show ¬ SC by grind)|exact (show _↔SC by grind))
   | intro _)
 ·simp only[hk] at S
  simp at S
  refine⟨by omega,by omega,.inl ⟨3,hk,?_⟩⟩
  repeat' (first
   | refine And.intro (fun _=>?_) (fun _=>?_)
   | refine⟨[],az,(dP _ _ _).use ⟨rfl,rfl,rfl,trivial,trivial⟩ rfl rfl ?_⟩
   | refine⟨[],az,(dQ _ _ _).use ⟨rfl,rfl,rfl,trivial,trivial⟩ rfl rfl ?_⟩
   | refine⟨[],az,tA.use ⟨⟨rfl,rfl,rfl,trivial⟩,trivial,trivial⟩ rfl rfl ?_⟩
   | refine⟨[],az,tB.use ⟨⟨rfl,rfl,rfl,trivial⟩,trivial,trivial⟩ rfl rfl ?_⟩
   | refine⟨[],az,(dT _).use ⟨⟨rfl,rfl,rfl,trivial⟩,trivial,trivial⟩ rfl rfl ?_⟩
   | refine⟨[],az,(hh).use ⟨rfl,trivial,trivial⟩ rfl rfl ?_⟩
   | (refine al ?_; first|exact (show ¬ SC by grind)|exact (show _↔SC by grind))
   | intro _)
 ·simp only[hk] at S
  simp at S
  refine⟨by omega,by omega,.inl ⟨4,hk,?_⟩⟩
  repeat' (first
   | refine And.intro (fun _=>?_) (fun _=>?_)
   | refine⟨[],az,(dP _ _ _).use ⟨rfl,rfl,rfl,trivial,trivial⟩ rfl rfl ?_⟩
   | refine⟨[],az,(dQ _ _ _).use ⟨rfl,rfl,rfl,trivial,trivial⟩ rfl rfl ?_⟩
   | refine⟨[],az,tA.use ⟨⟨rfl,rfl,rfl,trivial⟩,trivial,trivial⟩ rfl rfl ?_⟩
   | refine⟨[],az,tB.use ⟨⟨rfl,rfl,rfl,trivial⟩,trivial,trivial⟩ rfl rfl ?_⟩
   | refine⟨[],az,(dT _).use ⟨⟨rfl,rfl,rfl,trivial⟩,trivial,trivial⟩ rfl rfl ?_⟩
   | refine⟨[],az,(hh).use ⟨rfl,trivial,trivial⟩ rfl rfl ?_⟩
   | (refine al ?_; first|exact (show ¬ SC by grind)|exact (show _↔SC by grind))
   | intro _)
 ·simp only[hk] at S
  simp at S
  refine⟨by omega,by omega,.inl ⟨5,hk,?_⟩⟩
  repeat' (first
   | refine And.intro (fun _=>?_) (fun _=>?_)
   | refine⟨[],az,(dP _ _ _).use ⟨rfl,rfl,rfl,trivial,trivial⟩ rfl rfl ?_⟩
   | refine⟨[],az,(dQ _ _ _).use ⟨rfl,rfl,rfl,trivial,trivial⟩ rfl rfl ?_⟩
   | refine⟨[],az,tA.use ⟨⟨rfl,rfl,rfl,trivial⟩,trivial,trivial⟩ rfl rfl ?_⟩
   | refine⟨[],az,tB.use ⟨⟨rfl,rfl,rfl,trivial⟩,trivial,trivial⟩ rfl rfl ?_⟩
   | refine⟨[],az,(dT _).use ⟨⟨rfl,rfl,rfl,trivial⟩,trivial,trivial⟩ rfl rfl ?_⟩
   | refine⟨[],az,(hh).use ⟨rfl,trivial,trivial⟩ rfl rfl ?_⟩
   | (refine al ?_; first|exact (show ¬ SC by grind)|exact (show _↔SC by grind))
   | intro _)
 ·simp only[hk] at S
  simp at S
  refine⟨by omega,by omega,.inl ⟨6,hk,?_⟩⟩
  repeat' (first
   | refine And.intro (fun _=>?_) (fun _=>?_)
   | refine⟨[],az,(dP _ _ _).use ⟨rfl,rfl,rfl,trivial,trivial⟩ rfl rfl ?_⟩
   | refine⟨[],az,(dQ _ _ _).use ⟨rfl,rfl,rfl,trivial,trivial⟩ rfl rfl ?_⟩
   | refine⟨[],az,tA.use ⟨⟨rfl,rfl,rfl,trivial⟩,trivial,trivial⟩ rfl rfl ?_⟩
   | refine⟨[],az,tB.use ⟨⟨rfl,rfl,rfl,trivial⟩,trivial,trivial⟩ rfl rfl ?_⟩
   | refine⟨[],az,(dT _).use ⟨⟨rfl,rfl,rfl,trivial⟩,trivial,trivial⟩ rfl rfl ?_⟩
   | refine⟨[],az,(hh).use ⟨rfl,trivial,trivial⟩ rfl rfl ?_⟩
   | (refine al ?_; first|exact (show ¬ SC by grind)|exact (show _↔SC by grind))
   | intro _)
def xi (c:C):Prop:=Tj c<=16384/\qx c
theorem Du (c:C):aj gT 23 [bx c] (.bool (xi c)):=by
 refine Spec.enter ao P23 100 Tryz.func23 rfl (by kernel_rfl) ?_
 refine (Dr c).u ?_
 refine⟨fun h=>?_,fun h=>?_⟩
 ·refine (AM c).u ?_
  exact al (show qx c↔_ from ⟨fun k=>⟨h,k⟩,fun k=>k.2⟩)
 ·exact al (show ¬ _ from fun k=>h k.1)
def vh (l:List ST):Prop:=∃ s,l[l.length - 1]?=some s/\s.h.kind=1
noncomputable def jP (b:List Int) (a:Int) (l:List ST):WK:=aE (ar b l (kN a)).2 ((ar b l (kN a)).2.last/\vh l)
open Classical in
noncomputable def iF (b:List Int) (a:Int) (l:List ST):C × Int × Int :=
 if (jP b a l).e≠0 then (il,0,(jP b a l).e)
 else if ¬ xi (aq (ar b l (kN a)).1) then (il,0,161)
 else (aq (ar b l (kN a)).1,(jP b a l).at_,0)
theorem JW (b:List Int) (hb:pq b) (hl:b.length<=2000) (a:Int) (hI:bX a) (l:List ST) (hO:c_ l):aj gT 7 [.sl 1 (uC b),.int .i64 a,.sl 17 (l.map sr)] (.tup [bx (iF b a l).1,.int .i64 (iF b a l).2.1,.int .i64 (iF b a l).2.2]):=by
 have hs:=JU b hb hl l hO (kN a) hI
 have hr:=Du (aq (ar b l (kN a)).1)
 have el:(l.map iq).length=l.length:=List.length_map ..
 rw[o4] at hs ⊢
 unfold iF
 have hcw:∀ p,(p↔((ar b l (kN a)).2.last/\vh l))->aE (ar b l (kN a)).2 p=jP b a l:=fun p h=>by unfold jP; rw[propext h]
 have A3:¬ ((ar b l (kN a)).2.last/\vh l)->({ (ar b l (kN a)).2 with e:=201 }:WK)=jP b a l:=fun h=>(eM h).symm
 generalize jP b a l=w1 at *
 generalize aq (ar b l (kN a)).1=c at *
 generalize (ar b l (kN a)).2=w2 at *
 refine Spec.enter ao P7 100 Tryz.func7 rfl (by kernel_rfl) ?_
 refine⟨[],az,(hs).Cz [1] rfl rfl rfl (by repeat' first|exact trivial|exact rfl|exact Iff.rfl|refine And.intro ?_ ?_) (And.intro (by first|(show fT _ _; exact ah rfl rfl)|(repeat' first|exact trivial|exact rfl|exact Iff.rfl|exact Or.inl rfl|exact not_false|refine And.intro ?_ ?_)) ?_)⟩
 refine⟨fun h1=>fun hm=>And.intro (fun h2=>?p1) (fun h2=>?p2),fun h1=>?p3⟩
 case' p1 =>
  have xS:(0:Int) < ((l.map iq).length:Nat):=h2
  rw[el] at xS
  unfold maxLen at hm
  refine fun Bk=>?_
  refine li ?_ (show _<=(((l.map iq).length:Nat):Int) - 1/\(((l.map iq).length:Nat):Int) - 1<=_ by omega)
  have em:max ((((l.map iq).length:Nat):Int) - 1) 0=((l.length - 1:Nat):Int):=by omega
  refine⟨ST,l,iq,rfl,(show (0:Int)<=max ((((l.map iq).length:Nat):Int) - 1) 0 by omega),(show max ((((l.map iq).length:Nat):Int) - 1) 0 < (l.length:Int) by omega),fun x hx=>?_⟩
  have dE:l[l.length - 1]?=some x:=by
   have Tf:l[(max ((((l.map iq).length:Nat):Int) - 1) 0).toNat]?=some x:=hx
   rw[em] at Tf
   exact Tf
  refine⟨[],az,(bO b w2 (x.h.kind=1)).Cz [1] rfl rfl rfl (by repeat' first|exact trivial|exact rfl|exact Iff.rfl|refine And.intro ?_ ?_) (And.intro (by first|(show fT _ _; exact ah rfl rfl)|(repeat' first|exact trivial|exact rfl|exact Iff.rfl|exact Or.inl rfl|exact not_false|refine And.intro ?_ ?_)) ?_)⟩
  rw[hcw (x.h.kind=1) ⟨fun k=>⟨h1,x,dE,k⟩,fun k=>by
   obtain⟨_,y,hy,hk⟩:=k
   rw[dE] at hy
   cases hy
   exact hk⟩]
 case' p2 =>
  have xS:¬ (0:Int) < ((l.map iq).length:Nat):=h2
  rw[el] at xS
  refine⟨[],az,(cG b w2).Cz [1] rfl rfl rfl (by repeat' first|exact trivial|exact rfl|exact Iff.rfl|refine And.intro ?_ ?_) (And.intro (by first|(show fT _ _; exact ah rfl rfl)|(repeat' first|exact trivial|exact rfl|exact Iff.rfl|exact Or.inl rfl|exact not_false|refine And.intro ?_ ?_)) ?_)⟩
  rw[A3 fun k=>by
   obtain⟨_,y,hy,_⟩:=k
   have:=(List.getElem?_eq_some_iff.1 hy).1
   omega]
 case' p3 =>
  refine⟨[],az,(cG b w2).Cz [1] rfl rfl rfl (by repeat' first|exact trivial|exact rfl|exact Iff.rfl|refine And.intro ?_ ?_) (And.intro (by first|(show fT _ _; exact ah rfl rfl)|(repeat' first|exact trivial|exact rfl|exact Iff.rfl|exact Or.inl rfl|exact not_false|refine And.intro ?_ ?_)) ?_)⟩
  rw[A3 fun k=>h1 k.1]
 all_goals
  refine⟨fun he=>?_,fun he=>?_⟩
  ·rw[if_pos he]
   exact rA
  ·rw[if_neg he]
   refine hr.u ?_
   refine⟨fun hq=>?_,fun hq=>?_⟩
   ·rw[if_pos hq]
    exact rA
   ·rw[if_neg hq]
    exact rA
structure GS where
 at_:Int
 low:Int
 part:Int
 ok:Prop
theorem dO.step {b:List Int} {n m:Int} (h:dO b n m) (ch:n < m):eA b n=0/\dO b (n+aX (iA b n).form) m:=by
 cases h with
 | nil=>omega
 | cons e h=>exact⟨e,h⟩
def g0:GS:=⟨0,0,0,True⟩
mutual
def RP:ST->Int
 | .mk _ hd bd el=>IntKind.i64.wrap (IntKind.i64.wrap (IntKind.i64.wrap (1+iG hd 0)+iG bd 0)+iG el 0)
def iG:List ST->Int->Int
 | [],a=>a
 | s::l,a=>iG l (IntKind.i64.wrap (a+RP s))
end
theorem RQ (s:ST):RP s=IntKind.i64.wrap (IntKind.i64.wrap (IntKind.i64.wrap (1+iG s.hd 0)+iG s.bd 0)+iG s.el 0):=by cases s; rfl
def r9 (l:List ST):Prop:=aj gT 15 [.sl 17 (l.map sr)] (.int .i64 (iG l 0))
theorem o7 (l:List ST) (h:∀ s∈l,r9 s.hd/\r9 s.bd/\r9 s.el):r9 l:=by
 unfold r9
 rw[o4]
 obtain⟨R,hR⟩:∃ R,R=iG l 0:=⟨_,rfl⟩
 rw[← hR]
 have el:(l.map iq).length=l.length:=List.length_map ..
 refine Spec.enter ao P15 100 Tryz.func15 rfl (by kernel_rfl) ?_
 refine fun hm=>?_
 refine SW.tU ao P15 (by kernel_rfl) (α:={q:Nat × Int // R=iG (l.drop q.1) q.2}) (fun q=>[(3,.int .i64 q.1.2),(6,.sl 17 (l.map iq)),(7,.int .i64 ((l.map iq).length:Nat)),(8,.int .i64 q.1.1)]) (fun _=>[]) (fun q=>l.length - q.1.1) ⟨(0,0),hR⟩ 100 [] ?_ ?_
 ·repeat' first|exact trivial|exact rfl|exact Iff.rfl|exact not_false|refine And.intro ?_ ?_
 rintro⟨⟨i,a⟩,hi⟩
 refine⟨fun h1=>?_,fun h1=>?_⟩
 ·have eU:(i:Int) < ((l.map iq).length:Nat):=h1
  rw[el] at eU
  refine⟨ST,l,iq,rfl,show (0:Int)<=(i:Int) by omega,show (i:Int) < (l.length:Int) by omega,fun x hx=>?_⟩
  have dE:l[i]?=some x:=hx
  obtain⟨c1,c2,c3⟩:=h x (List.mem_of_getElem? dE)
  refine c1.u ?_
  refine .inr ?_
  refine c2.u ?_
  refine .inr ?_
  refine c3.u ?_
  refine .inr ?_
  refine .inr ?_
  unfold maxLen at hm
  refine .inl ⟨aG (show _<=(i:Int)+1/\(i:Int)+1<=_ by omega),⟨⟨(i+1,IntKind.i64.wrap (a+RP x)),?_⟩,[],show l.length - (i+1) < l.length - i by omega,?_⟩⟩
  ·show R=iG (l.drop (i+1)) _
   rw[hi]
   show iG (l.drop i) a=_
   rw[List.drop_eq_getElem_cons (by omega),iG]
   rw[List.getElem?_eq_getElem (by omega)] at dE
   rw[Option.some.inj dE]
  ·repeat' first|exact trivial|exact rfl|exact Iff.rfl|exact not_false|refine And.intro ?_ ?_
   all_goals exact (show IntKind.i64.wrap (a+IntKind.i64.wrap (IntKind.i64.wrap (IntKind.i64.wrap (1+iG x.hd 0)+iG x.bd 0)+iG x.el 0))=IntKind.i64.wrap (a+RP x) by rw[RQ])
 ·have eU:¬ (i:Int) < ((l.map iq).length:Nat):=h1
  rw[el] at eU
  refine al ?_
  exact (show a=R by rw[hi]; show a=iG (l.drop i) a; rw[List.drop_of_length_le (by omega),iG])
theorem Fx:∀ s:ST,r9 s.hd/\r9 s.bd/\r9 s.el:=ST.ind fun s h1 h2 h3=>⟨o7 _ h1,o7 _ h2,o7 _ h3⟩
theorem JX (l:List ST):r9 l:=o7 l fun s _=>Fx s
end Go.Proofs.YtnbhdacpogplgaaGreatDoor.Pw

/- What this claim is proved with: no condition. -/
import Derived.Test.YtnbhdacpogplgaaGreatDoorPd24
import Derived.Test.YtnbhdacpogplgaaGreatDoorPd23
import Derived.Test.YtnbhdacpogplgaaGreatDoorPd12
set_option maxRecDepth 100000
set_option maxHeartbeats 8000000
set_option linter.unusedVariables false
set_option linter.unusedSimpArgs false
namespace Go.Proofs.YtnbhdacpogplgaaGreatDoor.Pw
open Go Go.RowKit
open Classical in
noncomputable def dG (w:WK) (t:Int):WK:=if w.at_=t then { w with at_:=t } else { w with bN:=False,at_:=t }
theorem Ai (b:List Int) (w:WK) (t:Int):Spec gT 122 [.ptr 0 0,.int .i64 t] [eC b w] [] fun y S'=>y = .tup []/\S' = [eC b (dG w t)]:=by
 refine Spec.rT (Spec.enter al Xz 100 Tryz.func122 rfl (by kernel_rfl) ?_)
 refine⟨fun h=>?_,fun h=>?_⟩
 ·rw[show dG w t = { w with bN:=False,at_:=t } from if_neg h]
  exact rS
 ·rw[show dG w t = { w with at_:=t } from if_pos (Classical.not_not.1 h)]
  exact rS
open Classical in
noncomputable def bw (b:List Int) (w:WK):WK :=
 if w.bN then w else if w.e≠0 then w else if (aC w (eA b w.at_=0)).e≠0 then aC w (eA b w.at_=0) else { yB w w.at_ (aY (iA b w.at_).form) with bN:=True }
open Classical in
noncomputable def cD (b:List Int) (w:WK):Int :=
 if w.bN then 0 else if w.e≠0 then 0 else if (aC w (eA b w.at_=0)).e≠0 then 0 else fk w w.at_ (aY (iA b w.at_).form)
open Classical in
theorem mK (b:List Int) (hb:oK b) (hl:b.length<=100000) (w:WK) (hn:ck w.at_):Spec gT 123 [.ptr 0 0] [eC b w] [] fun y S'=>y = .int .i64 (cD b w)/\S' = [eC b (bw b w)]:=by
 refine Spec.rT (Spec.enter al XA 100 Tryz.func123 rfl (by kernel_rfl) ?_)
 refine⟨fun hf=>?_,fun hf=>And.intro (fun he=>?_) (fun he=>?_)⟩
 ·rw[show bw b w=w from if_pos hf,show cD b w=0 from if_pos hf]
  exact rS
 ·rw[show bw b w=w by unfold bw; rw[if_neg hf,if_pos he],show cD b w=0 by unfold cD; rw[if_neg hf,if_pos he]]
  exact rS
 ·refine (o5 b hb hl w w.at_ hn).e ?_
  refine⟨fun h1=>?_,fun h1=>?_⟩
  ·rw[show bw b w=aC w (eA b w.at_=0) by unfold bw; rw[if_neg hf,if_neg he,if_pos h1],show cD b w=0 by unfold cD; rw[if_neg hf,if_neg he,if_pos h1]]
   exact rS
  ·obtain⟨h2,h3⟩:=mG h1
   obtain⟨⟨Hx,QZ⟩,hr,GB⟩:=bz h2
   have hs:=eW hr
   rw[show bw b w = { yB w w.at_ (aY (iA b w.at_).form) with bN:=True } by unfold bw; rw[if_neg hf,if_neg he,if_neg h1],show cD b w=fk w w.at_ (aY (iA b w.at_).form) by unfold cD; rw[if_neg hf,if_neg he,if_neg h1],bR h2]
   have qt:=eE (iA b w.at_)
   generalize iA b w.at_=i at hs qt ⊢
   generalize aY i.form=z at hs qt ⊢
   refine qt.u ?_
   refine⟨[],av,(sA b { w with bN:=True } w.at_ z Hx (by omega) hs).vW [0] rfl rfl rfl (by repeat' first|exact trivial|exact rfl|exact Iff.rfl|refine And.intro ?_ ?_) (And.intro (by first|(show dR _ _; exact da rfl rfl)|(repeat' first|exact trivial|exact rfl|exact Iff.rfl|exact Or.inl rfl|exact not_false|refine And.intro ?_ ?_)) ?_)⟩
   exact rS
noncomputable def gS (b:List Int) (w:WK):Int:=IntKind.i64.wrap (IntKind.i64.wrap (w.at_+4)+(iA b w.at_).aw)
def QA (i:IN) (cond:Int):Prop:=(cond = -1/\(i.form=47\/i.form=100))\/(cond≠-1/\(i.form=46\/i.form=99)/\i.cond=cond)
noncomputable def ix (b:List Int) (w:WK) (cond:Int):WK:=aC (dt b (aC w (¬ w.last))) (QA (iA b w.at_) cond)
noncomputable def nH (b:List Int) (w:WK):Int:=eX b (aC w (¬ w.last))
theorem gi (b:List Int) (hb:oK b) (hl:b.length<=100000) (w:WK) (hn:ck w.at_) (cond:Int):Spec gT 120 [.ptr 0 0,.int .i64 cond] [eC b w] [] fun y S'=>y = .tup [.int .i64 (gS b w),.int .i64 (nH b w)]/\S' = [eC b (ix b w cond)]:=by
 unfold gS nH ix QA
 refine Spec.rT (Spec.enter al Xy 100 Tryz.func120 rfl (by kernel_rfl) ?_)
 refine (bs b w (¬ w.last)).e ?_
 refine (z6 b hb hl (aC w (¬ w.last)) hn).e ?_
 have Yt:iA b (aC w (¬ w.last)).at_=iA b w.at_:=rfl
 rw[Yt]
 generalize eX b (aC w (¬ w.last))=nn
 generalize dt b (aC w (¬ w.last))=w2
 generalize iA b w.at_=i
 refine⟨fun hc=>?_,fun hc=>?_⟩
 ·refine⟨fun h1=>?_,fun h1=>?_⟩
  ·refine (mF b w2).e ?_
   rw[bR (show (cond = -1/\(i.form=47\/i.form=100))\/(cond≠-1/\(i.form=46\/i.form=99)/\i.cond=cond) from .inl ⟨hc,.inl h1⟩)]
   refine .inr ?_
   refine .inr ?_
   exact rS
  ·refine (bs b w2 (i.form=100)).e ?_
   rw[show aC w2 (i.form=100)=aC w2 ((cond = -1/\(i.form=47\/i.form=100))\/(cond≠-1/\(i.form=46\/i.form=99)/\i.cond=cond)) from congrArg _ (propext ⟨fun k=>.inl ⟨hc,.inr k⟩,fun k=>k.elim (fun q=>q.2.elim (fun r=>absurd r h1) id) (fun q=>absurd hc q.1)⟩)]
   refine .inr ?_
   refine .inr ?_
   exact rS
 ·have e:∀ p:Prop,(p↔(i.form=46\/i.form=99)/\i.cond=cond)->aC w2 p=aC w2 ((cond = -1/\(i.form=47\/i.form=100))\/(cond≠-1/\(i.form=46\/i.form=99)/\i.cond=cond)):=fun p hp=>congrArg _ (propext ⟨fun k=>.inr ⟨hc,hp.1 k⟩,fun k=>k.elim (fun q=>absurd q.1 hc) fun q=>hp.2 q.2⟩)
  refine⟨fun h1=>?_,fun h1=>?_⟩
  ·refine (bs b w2 (i.cond=cond)).e ?_
   rw[e _ ⟨fun k=>⟨.inl h1,k⟩,fun k=>k.2⟩]
   refine .inr ?_
   refine .inr ?_
   exact rS
  ·refine⟨fun h2=>?_,fun h2=>?_⟩
   ·refine (bs b w2 (i.cond=cond)).e ?_
    rw[e _ ⟨fun k=>⟨.inr h2,k⟩,fun k=>k.2⟩]
    refine .inr ?_
    refine .inr ?_
    exact rS
   ·refine (bO b w2).e ?_
    rw[← cX (w:=w2) (p:=False) id,e _ ⟨False.elim,fun k=>k.1.elim h1 h2⟩]
    refine .inr ?_
    refine .inr ?_
    exact rS
def B7 (c:C):Int:=if c.kind=1 then 1+c.fj+c.fC else 1
def iy:List C->Int
 | []=>0
 | c::l=>B7 c+iy l
theorem uf {c:C} (h:fu c):1<=B7 c:=by
 unfold B7
 split
 ·have:=h ‹_›; omega
 ·omega
theorem kD:∀ l m:List C,iy (l++m)=iy l+iy m
 | [],m=>by rw[List.nil_append,iy]; omega
 | c::l,m=>by rw[List.cons_append,iy,iy,kD l m]; omega
theorem ug:∀ {l:List C},(∀ c∈l,fu c)->(l.length:Int)<=iy l
 | [],_=>by rw[iy]; simp
 | c::l,h=>by
  have h1:=uf (h c (List.mem_cons_self ..))
  have h2:=ug fun x hx=>h x (List.mem_cons_of_mem _ hx)
  rw[iy,List.length_cons]; omega
theorem Aj {l:List C} (h:∀ c∈l,fu c):0<=iy l:=by have:=ug h; omega
theorem Ak:∀ {l:List C},(∀ c∈l,fu c)->∀ c∈l,B7 c<=iy l
 | d::l,h,c,hc=>by
  have h1:=uf (h d (List.mem_cons_self ..))
  have h2:∀ x∈l,fu x:=fun x hx=>h x (List.mem_cons_of_mem _ hx)
  rw[iy]
  rcases List.mem_cons.1 hc with rfl|hc
  ·have:=Aj h2; omega
  ·have:=Ak h2 c hc; omega
structure lK (B:Int) (l:List C):Prop where
 flat:∀ c∈ez l,fu c
 wt:iy (ez l)<=B
def Wd (B:Int) (c:C):Prop:=lK B [c]
theorem mL (c:C):ez [c]=Fh c:=by rw[ez,ez,List.append_nil]
theorem lK.nil:lK 0 []:=⟨fun c hc=>by simp[ez] at hc,by simp[ez,iy]⟩
theorem lK.more {A B:Int} {l:List C} (h:lK A l) (hB:A<=B):lK B l:=⟨h.flat,Int.le_trans h.wt hB⟩
theorem Wd.cons {A B:Int} {c:C} {l:List C} (h:Wd A c) (hl:lK B l):lK (A+B) (c::l):=by
 have h1:=h.flat
 have h2:=h.wt
 rw[mL] at h1 h2
 refine⟨fun x hx=>?_,?_⟩
 ·rw[ez] at hx
  rcases List.mem_append.1 hx with hx|hx
  ·exact h1 x hx
  ·exact hl.flat x hx
 ·rw[ez,kD]; have:=hl.wt; omega
theorem lK.YJ {A:Int} {l:List C} (h:lK A l):0<=A:=by have:=Aj h.flat; have:=h.wt; omega
theorem Wd.flat {cy mi:Int} (h0:0<=cy) (h1:0<=mi):Wd (1+cy+mi) (aE cy mi):=by
 have e:ez [aE cy mi] = [aE cy mi]:=by rw[mL,gJ,if_neg (show ¬ (aE cy mi).kind=2 from (show ¬ (1:Int)=2 by decide))]
 refine⟨fun c hc=>?_,?_⟩
 ·rw[e,List.mem_singleton] at hc
  rw[hc]; exact fun _=>⟨h0,h1⟩
 ·rw[e,iy,iy,B7,if_pos (show (aE cy mi).kind=1 from rfl)]
  show 1+cy+mi+0<=_
  omega
theorem Wd.one {c:C} (h1:c.kind≠1) (h2:c.kind≠2):Wd 1 c:=by
 have e:ez [c] = [c]:=by rw[mL,gJ,if_neg h2]
 refine⟨fun x hx=>?_,?_⟩
 ·rw[e,List.mem_singleton] at hx
  rw[hx]; exact fun k=>absurd k h1
 ·rw[e,iy,iy,B7,if_neg h1]; omega
theorem F1 {out:List C} {c:C} (ho:∀ x∈out,fu x) (hc:fu c):(∀ x∈bQ out c,fu x)/\iy (bQ out c)<=iy out+B7 c:=by
 refine⟨ky ho hc fun d hd k1 k2 _=>?_,?_⟩
 ·have h1:=ho d hd k2
  have h2:=hc k1
  show 0<=d.fj+c.fj/\0<=d.fC+c.fC
  omega
 ·unfold bQ
  cases he:out.getLast? with
  | none=>simp only; rw[kD,iy,iy]; omega
  | some d =>
   simp only
   split
   ·rename_i hk
    obtain⟨pre,Ql⟩:=List.getLast?_eq_some_iff.1 he
    rw[Ql,List.dropLast_concat,kD,kD,iy,iy,iy,iy]
    have e1:B7 (aE (d.fj+c.fj) (d.fC+c.fC))=1+(d.fj+c.fj)+(d.fC+c.fC):=by rw[B7,if_pos (show (aE (d.fj+c.fj) (d.fC+c.fC)).kind=1 from rfl)]; rfl
    rw[e1,B7,if_pos hk.2,B7,if_pos hk.1]; omega
   ·rw[kD,iy,iy]; omega
theorem Al:∀ (S out:List C),(∀ x∈out,fu x)->(∀ c∈S,fu c)->(∀ x∈S.foldl bQ out,fu x)/\iy (S.foldl bQ out)<=iy out+iy S
 | [],out,ho,_=>⟨ho,by rw[List.foldl_nil,iy]; omega⟩
 | c::S,out,ho,hS=>by
  obtain⟨h1,h2⟩:=F1 ho (hS c (List.mem_cons_self ..))
  obtain⟨h3,h4⟩:=Al S (bQ out c) h1 fun x hx=>hS x (List.mem_cons_of_mem _ hx)
  refine⟨h3,?_⟩
  rw[List.foldl_cons,iy]; omega
theorem sN:∀ {l:List C},(∀ c∈l,fu c)->iy (l.filter bf)<=iy l
 | [],_=>by simp[iy]
 | c::l,h=>by
  have h1:=uf (h c (List.mem_cons_self ..))
  have h2:=sN fun x hx=>h x (List.mem_cons_of_mem _ hx)
  by_cases hk:bf c=true
  ·rw[List.filter_cons_of_pos hk,iy,iy]; omega
  ·rw[List.filter_cons_of_neg hk,iy]; omega
theorem lK.join {B:Int} {l:List C} (h:lK B l):Wd B (ba l):=by
 obtain⟨h1,h2⟩:=Al (ez l) [] (fun x hx=>by cases hx) h.flat
 have h3:=sN h1
 have h4:=h.wt
 rw[iy] at h2
 have e:ez [ba l]=((ez l).foldl bQ []).filter bf:=by rw[mL,wk]; rfl
 exact⟨fun c hc=>h1 c (List.mem_filter.1 (e ▸ hc)).1,by rw[e]; omega⟩
theorem db {B:Int} {l:List C} (h:lK B l) (hB:B<=1000000):ai gT 45 [.sl 12 (l.map bo)] (bo (ba l)):=by
 have h1:=h.wt
 have h2:=ug h.flat
 refine nz l (by omega) fun c hc k=>?_
 have h3:=Ak h.flat c hc
 have h4:=h.flat c hc k
 rw[B7,if_pos k] at h3
 omega
theorem wP:∀ {l:List C},(∀ c∈l,iU c)->lK (23*l.length) l
 | [],_=>lK.nil.more (by simp)
 | c::l,h=>by
  have h2:=wP fun x hx=>h x (List.mem_cons_of_mem _ hx)
  have h1:Wd 23 c:=by
   obtain⟨q,_⟩:=h c (List.mem_cons_self ..)
   rcases q with ⟨k,q1,q2⟩|k
   ·have e:ez [c] = [c]:=by rw[mL,gJ,if_neg (by omega)]
    refine⟨fun x hx=>?_,?_⟩
    ·rw[e,List.mem_singleton] at hx
     rw[hx]; exact fun _=>⟨q1.1,q2.1⟩
    ·rw[e,iy,iy,B7,if_pos k]; omega
   ·exact lK.more (Wd.one (by omega) (by omega):Wd 1 c) (by omega)
  exact (h1.cons h2).more (by rw[List.length_cons]; omega)
inductive cc (b:List Int):Int->Int->Prop where
 | nil (n:Int):cc b n n
 | cons {n m:Int}:eA b n=0->cc b (n+aY (iA b n).form) m->cc b n m
theorem cc.one {b:List Int} {n:Int} (h:eA b n=0):cc b n (n+aY (iA b n).form):=.cons h (.nil _)
theorem cc.trans {b:List Int} {n m k:Int} (h:cc b n m) (h2:cc b m k):cc b n k:=by
 induction h with
 | nil=>exact h2
 | cons e _ ih=>exact .cons e (ih h2)
theorem cc.bd {b:List Int} {n m:Int} (h:cc b n m):n=m\/(0<=n/\n+2<=m/\m<=b.length+2):=by
 induction h with
 | nil=>exact .inl rfl
 | @cons n m e _ ih =>
  obtain⟨⟨h1,h2⟩,h3,_⟩:=bz e
  have:=eW h3
  right
  omega
noncomputable def sO (h:SH) (m:Int):C:=.mk 5 0 0 0 h.size (gh h.A) gI [aE 4 m]
noncomputable def cY (b:List Int) (h:SH) (w:WK):WK :=
 aC (aC (aC (ix b w (if h.size≠0 then 2 else 0)) (gS b w=h.stub)) (eA b h.stub=0)) ((iA b h.stub).form=45/\(iA b h.stub).aw=if h.size≠0 then 1 else 2)
noncomputable def kf (b:List Int) (h:SH) (w:WK):C :=
 if (cY b h w).e≠0 then eZ else ba [aE 0 (nH b w),sO h (fk (cY b h w) h.stub (aY (iA b h.stub).form)),aE 1 0]
noncomputable def GD (h:SH) (z:Prop) (B:WK):WK:=aC B (¬ B.last/\(B.at_=h.skip\/(h.skip = -1/\B.at_=h.till/\z)))
noncomputable def B8 (b:List Int) (h:SH) (w3:WK):WK:=if h.skip≠-1/\w3.e=0 then aC (ix b w3 (-1)) (gS b w3=h.till) else w3
noncomputable def F2 (b:List Int) (h:SH) (w3:WK) (c:C):C:=if h.skip≠-1/\w3.e=0 then ba [c,aE 3 (nH b w3)] else c
noncomputable def QB (U2:Int) (w4:WK):WK:=aC w4 (U2=w4.at_)
def B9 (w1 w5:WK):WK:={ w1 with at_:=w5.at_,e:=w5.e }
noncomputable def Rc (b:List Int) (h:SH) (w5:WK):WK:=bw b (dG w5 h.till)
noncomputable def QC (b:List Int) (h:SH) (w5:WK) (c:C):C:=ba [c,aE 0 (cD b (dG w5 h.till))]
noncomputable def QD (h:SH) (E:WK):WK:=aC E (E.at_=h.till/\¬ E.last)
def Jn (w7 Am:WK):WK:=if Am.e≠0 then { w7 with e:=Am.e } else w7
noncomputable def ef (b:List Int) (h:SH) (z:Prop) (BD EL:WK->List C × WK) (w:WK):C × WK :=
 let w1:=ix b w 0
 let B:=BD w1
 let w3:=GD h z B.2
 let w5:=QB (gS b w) (B8 b h w3)
 let E:=EL (B9 w1 w5)
 let Jo:=QD h E.2
 (.mk 3 0 0 0 0 (gh h.A) gI [QC b h w5 (F2 b h w3 (ba [aE 1 (nH b w),ba B.1])),ba [ba [aE 3 (nH b w),ba E.1],aE 0 (cD b Jo)]],Jn (Rc b h w5) (bw b Jo))
noncomputable def An (h:SH) (H:WK):WK:=aC H (H.at_=h.stub)
noncomputable def Rd (h:SH) (B:WK):WK:=aC B (B.at_=h.skip)
noncomputable def Re (b:List Int) (h:SH) (U2:Int) (w6:WK):WK:=aC (ix b w6 (-1)) (gS b w6=h.fr/\(ix b w6 (-1)).at_=h.till/\U2=h.till)
def U3 (h:SH) (w4 Kk:WK):WK:={ Kk with at_:=h.till,bN:=False,full:=w4.full,line:=w4.line }
noncomputable def F3 (h:SH) (once:C):C:=.mk 4 0 0 h.word 0 (gh h.A) (gh h.B) [once]
noncomputable def cn (b:List Int) (h:SH) (HD BD:WK->List C × WK) (w:WK):C × WK :=
 let H:=HD (bw b w)
 let w3:=An h H.2
 let w4:=ix b w3 0
 let B:=BD w4
 let w6:=Rd h B.2
 let w9:=dG (Re b h (gS b w3) w6) h.fr
 let once:=ba [ba H.1,aE 1 (nH b w3),ba B.1,aE 3 (nH b w6),aE 0 (cD b w9)]
 (ba [aE 0 (cD b w),F3 h once,ba H.1,aE 3 (nH b w3)],U3 h w4 (bw b w9))
noncomputable def dw (s:ST) (w:WK):WK:=aC w (s.h.fr=w.at_/\s.h.fr < s.h.till/\¬ w.last/\fH s)
noncomputable def stepG (b:List Int) (s:ST) (HD BD EL:WK->List C × WK) (w:WK):C × WK :=
 if (dw s w).e≠0 then (eZ,dw s w) else
 let r:C × WK:=if s.h.kind=1 then (qy b (dw s w) s.h.till (s.h.aN.map mJ),kK b (dw s w) s.h.till (s.h.aN.map mJ))
  else if s.h.kind=2 then (kf b s.h (dw s w),cY b s.h (dw s w))
  else if s.h.kind=3 then ef b s.h (fh s.el=0) BD EL (dw s w)
  else if s.h.kind=4 then cn b s.h HD BD (dw s w)
  else (eZ,{ dw s w with e:=201 })
 (r.1,aC r.2 (r.2.at_=s.h.till))
mutual
noncomputable def dY (b:List Int):ST->WK->C × WK
 | .mk h hd bd el=>stepG b (.mk h hd bd el) (fun w=>bg b hd w) (fun w=>bg b bd w) (fun w=>bg b el w)
noncomputable def bg (b:List Int):List ST->WK->List C × WK
 | [],w=>([],w)
 | s::l,w=>if w.e≠0 then ([],w) else ((dY b s w).1::(bg b l (dY b s w).2).1,(bg b l (dY b s w).2).2)
end
theorem mM (b:List Int) (s:ST):dY b s=stepG b s (bg b s.hd) (bg b s.bd) (bg b s.el):=by cases s; rfl
def F4 (b:List Int) (n:Int):Int:=if 0<=n/\n<=b.length+2 then b.length+2 - n else 0
theorem ui {b:List Int} (hl:b.length<=2000) (n:Int):0<=F4 b n/\F4 b n<=2002:=by unfold F4; split<;>omega
structure wQ (b:List Int) (K:Int) (f:WK->C × WK):Prop where
 I:∀ w,ck w.at_->ck (f w).2.at_
 ok:∀ w,ck w.at_->(f w).2.e=0->w.e=0/\cc b w.at_ (f w).2.at_/\w.at_ < (f w).2.at_/\Wd (46*((f w).2.at_ - w.at_)) (f w).1
 bad:∀ w,ck w.at_->(f w).2.e≠0->Wd K (f w).1
structure fe (b:List Int) (K:Int) (f:WK->List C × WK):Prop where
 I:∀ w,ck w.at_->ck (f w).2.at_
 ok:∀ w,ck w.at_->(f w).2.e=0->w.e=0/\cc b w.at_ (f w).2.at_/\lK (46*((f w).2.at_ - w.at_)) (f w).1
 bad:∀ w,ck w.at_->(f w).2.e≠0->lK (K+46*F4 b w.at_) (f w).1
theorem eH {b:List Int} (hl:b.length<=2000) {K:Int} (hK:0<=K):∀ {l:List ST},(∀ s∈l,wQ b K (dY b s))->fe b K (bg b l)
 | [],_=>by
  refine⟨fun w h=>h,fun w _ he=>⟨he,.nil _,lK.nil.more (show 0<=46*(w.at_ - w.at_) by omega)⟩,fun w _ _=>lK.nil.more (by have:=ui hl w.at_; omega)⟩
 | s::l,h=>by
  have hs:=h s (List.mem_cons_self ..)
  have ih:=eH hl hK fun x hx=>h x (List.mem_cons_of_mem _ hx)
  have hy:∀ w:WK,w.e=0->bg b (s::l) w=((dY b s w).1::(bg b l (dY b s w).2).1,(bg b l (dY b s w).2).2):=fun w he=>by rw[bg,if_neg (fun k=>k he)]
  have hn:∀ w:WK,w.e≠0->bg b (s::l) w=([],w):=fun w he=>by rw[bg,if_pos he]
  refine⟨fun w hI=>?_,fun w hI he=>?_,fun w hI he=>?_⟩
  ·by_cases h0:w.e=0
   ·rw[hy w h0]; exact ih.I _ (hs.I w hI)
   ·rw[hn w h0]; exact hI
  ·by_cases h0:w.e=0
   ·rw[hy w h0] at he ⊢
    obtain⟨a1,a2,a3⟩:=ih.ok _ (hs.I w hI) he
    obtain⟨b1,b2,b3,b4⟩:=hs.ok w hI a1
    exact⟨h0,b2.trans a2,(b4.cons a3).more (by simp only; omega)⟩
   ·rw[hn w h0] at he; exact absurd he h0
  ·have hr:=ui hl w.at_
   by_cases h0:w.e=0
   ·rw[hy w h0] at he ⊢
    by_cases h1:(dY b s w).2.e=0
    ·obtain⟨b1,b2,b3,b4⟩:=hs.ok w hI h1
     have h2:=ih.bad _ (hs.I w hI) he
     have h3:=b2.bd
     refine (b4.cons h2).more ?_
     generalize (dY b s w).2.at_=n2 at *
     unfold F4
     rw[if_pos (show 0<=w.at_/\w.at_<=b.length+2 by omega),if_pos (show 0<=n2/\n2<=b.length+2 by omega)]
     omega
    ·have h2:=hs.bad w hI h1
     have e:(bg b l (dY b s w).2).1 = []:=by
      cases l with
      | nil=>rfl
      | cons x l=>rw[bg,if_pos h1]
     rw[e]
     exact (h2.cons lK.nil).more (by omega)
   ·rw[hn w h0]
    exact lK.nil.more (by omega)
theorem fe.wd {b:List Int} (hl:b.length<=2000) {K:Int} (hK:0<=K) {f:WK->List C × WK} (h:fe b K f) (w:WK) (hI:ck w.at_):lK (K+92092) (f w).1:=by
 by_cases he:(f w).2.e=0
 ·obtain⟨_,h2,h3⟩:=h.ok w hI he
  have:=h2.bd
  exact h3.more (by omega)
 ·have:=ui hl w.at_
  exact (h.bad w hI he).more (by omega)
theorem Jp {b:List Int} (hl:b.length<=2000) {w:WK} (hI:ck w.at_):ck (dt b w).at_:=by
 rcases qv b w with h|⟨h1,h2⟩
 ·rw[h]; exact hI
 ·obtain⟨h3,h4,_⟩:=bz h1
  have:=eW h4
  rw[h2]; unfold ck; omega
theorem sP {b:List Int} (hl:b.length<=2000) {w:WK} (c:Int) (hI:ck w.at_):ck (ix b w c).at_:=Jp hl (w:=aC w (¬ w.last)) hI
theorem wR {b:List Int} {w:WK} {c:Int} (h:(ix b w c).e=0):w.e=0/\eA b w.at_=0/\(ix b w c).at_=w.at_+aY (iA b w.at_).form/\QA (iA b w.at_) c/\¬ w.last:=by
 obtain⟨h1,h2⟩:=cm h
 obtain⟨h3,h4,h5⟩:=z8 h2
 obtain⟨h6,h7⟩:=cm h3
 exact⟨h7,h4,h5,h1,h6⟩
theorem F5 (b:List Int) (w:WK):0<=eX b w/\eX b w<=2:=by
 unfold eX
 split
 ·decide
 ·split
  ·decide
  ·exact iT ..
theorem lL (b:List Int) (w:WK):0<=nH b w/\nH b w<=2:=F5 ..
theorem iX (b:List Int) (w:WK):0<=cD b w/\cD b w<=2:=by
 unfold cD
 repeat' split
 all_goals first|decide|exact iT ..
theorem iY (b:List Int) (w:WK):(bw b w).at_=w.at_:=by
 unfold bw
 repeat' split
 all_goals rfl
theorem mN {b:List Int} {w:WK} (h:(bw b w).e=0):w.e=0:=by
 unfold bw at h
 split at h
 ·exact h
 split at h
 ·exact h
 ·rename_i h1; exact Classical.not_not.1 h1
theorem mO (w:WK) (t:Int):(dG w t).at_=t:=by unfold dG; split<;>rfl
theorem Ao (w:WK) (t:Int):(dG w t).e=w.e:=by unfold dG; split<;>rfl
theorem U4 {w7 Am:WK} (h:(Jn w7 Am).e=0):w7.e=0/\Am.e=0:=by
 unfold Jn at h
 split at h
 ·rename_i k; exact absurd h k
 ·rename_i k; exact⟨h,Classical.not_not.1 k⟩
theorem F6 (w7 Am:WK):(Jn w7 Am).at_=w7.at_:=by unfold Jn; split<;>rfl
theorem qH {b:List Int} {till:Int}:∀ (n:Nat) (x:eY),(∀ c∈x.out,iU c)->(runN b till n x).w.e=0->x.w.e=0/\cc b x.w.at_ (runN b till n x).w.at_/\((runN b till n x).out.length:Int)<=x.out.length+2*((runN b till n x).w.at_ - x.w.at_)
 | 0,x,_,h=>⟨h,.nil _,by rw[runN]; omega⟩
 | n+1,x,ho,h=>by
  rw[runN] at h ⊢
  have gV:=kA (b:=b) ho
  by_cases hc:x.w.at_ < till/\x.w.e=0
  ·rw[if_pos hc] at h ⊢
   have step:(bJ b x).w.e=0->cc b x.w.at_ (bJ b x).w.at_/\x.w.at_+2<=(bJ b x).w.at_:=fun he=>by
    obtain⟨h1,_,_,h4⟩:=tZ he
    have:=eW (bz h1).2.1
    exact⟨h4 ▸ cc.one h1,by omega⟩
   by_cases hb:yD b x
   ·rw[if_pos hb] at h ⊢
    obtain⟨s1,s2⟩:=step h
    exact⟨hc.2,s1,by omega⟩
   ·rw[if_neg hb] at h ⊢
    obtain⟨a1,a2,a3⟩:=qH n (bJ b x) gV.1 h
    obtain⟨s1,s2⟩:=step a1
    exact⟨hc.2,s1.trans a2,by omega⟩
  ·rw[if_neg hc] at h ⊢
   exact⟨h,.nil _,by omega⟩
theorem yL {b:List Int} (hl:b.length<=2000) {w:WK} (hI:ck w.at_) (till:Int) (aN:List DV):Wd 115000 (qy b w till aN)/\((kK b w till aN).e=0->w.e=0/\cc b w.at_ (kK b w till aN).at_/\Wd (46*((kK b w till aN).at_ - w.at_)) (qy b w till aN))/\ck (kK b w till aN).at_:=by
 obtain⟨h1,h2,h3⟩:=z9 hl hI till aN
 have hw:=wP h2
 refine⟨(hw.more (by omega)).join,fun he=>?_,h3⟩
 obtain⟨_,he⟩:=cm he
 obtain⟨q1,q2,q3⟩:=qH ((till - w.at_).toNat+1) ⟨w,[],aN⟩ (by simp) he
 refine⟨q1,q2,?_⟩
 have q4:((nC b w till aN).out.length:Int)<=0+2*((nC b w till aN).w.at_ - w.at_):=q3
 exact (hw.more (show _<=46*((nC b w till aN).w.at_ - w.at_) by omega)).join
theorem F7 {b:List Int} (hl:b.length<=2000) {w:WK} (hI:ck w.at_) (h:SH):Wd 8 (kf b h w)/\((cY b h w).e=0->w.e=0/\cc b w.at_ (cY b h w).at_/\w.at_+2<=(cY b h w).at_)/\ck (cY b h w).at_:=by
 refine⟨?_,fun he=>?_,sP hl (if h.size≠0 then 2 else 0) hI⟩
 ·unfold kf
  split
  ·exact (Wd.one (by decide) (by decide):Wd 1 eZ).more (by decide)
  ·have h1:=lL b w
   exact (((Wd.flat (Int.le_refl 0) h1.1).cons ((Wd.one (c:=sO h _) (show (5:Int)≠1 by decide) (show (5:Int)≠2 by decide)).cons ((Wd.flat (show (0:Int)<=1 by decide) (Int.le_refl 0)).cons .nil))).more (by omega)).join
 ·obtain⟨_,he⟩:=cm he
  obtain⟨_,he⟩:=cm he
  obtain⟨_,he⟩:=cm he
  obtain⟨h1,h2,h3,_⟩:=wR he
  have:=eW (bz h2).2.1
  have e:(cY b h w).at_=(ix b w (if h.size≠0 then 2 else 0)).at_:=rfl
  rw[e,h3]
  exact⟨h1,.one h2,by omega⟩
theorem U5 {b:List Int} {h:SH} {w3:WK} (he:(B8 b h w3).e=0):w3.e=0/\cc b w3.at_ (B8 b h w3).at_:=by
 unfold B8 at he ⊢
 split at he
 ·rename_i k
  rw[if_pos k]
  obtain⟨_,he⟩:=cm he
  obtain⟨h1,h2,h3,_⟩:=wR he
  exact⟨h1,by show cc b w3.at_ (ix b w3 (-1)).at_; rw[h3]; exact .one h2⟩
 ·rename_i k
  rw[if_neg k]
  exact⟨he,.nil _⟩
theorem Kl {b:List Int} (hl:b.length<=2000) {h:SH} {w3:WK} (hI:ck w3.at_):ck (B8 b h w3).at_:=by
 unfold B8
 split
 ·exact sP hl (-1) hI
 ·exact hI
theorem wS {b:List Int} (hl:b.length<=2000) {K:Int} {h:SH} {z:Prop} {BD EL:WK->List C × WK} (hB:fe b K BD) (hE:fe b K EL) (w:WK) (hI:ck w.at_) (ht:ck h.till):ck (ef b h z BD EL w).2.at_/\Wd 1 (ef b h z BD EL w).1/\((ef b h z BD EL w).2.e=0->w.e=0/\cc b w.at_ (ef b h z BD EL w).2.at_):=by
 unfold ef
 simp only
 refine⟨?_,Wd.one (show (3:Int)≠1 by decide) (show (3:Int)≠2 by decide),fun he=>?_⟩
 ·rw[F6]; unfold Rc; rw[iY,mO]; exact ht
 ·have YK:(Jn (Rc b h (QB (gS b w) (B8 b h (GD h z (BD (ix b w 0)).2)))) (bw b (QD h (EL (B9 (ix b w 0) (QB (gS b w) (B8 b h (GD h z (BD (ix b w 0)).2))))).2))).at_=h.till:=by
   rw[F6]; unfold Rc; rw[iY,mO]
  rw[YK]
  obtain⟨h7,h3⟩:=U4 he
  have h6:=mN h7
  rw[Ao] at h6
  obtain⟨h5,h4⟩:=cm h6
  obtain⟨q3,q4⟩:=U5 h4
  obtain⟨_,qB⟩:=cm q3
  have uj:=sP hl 0 hI
  obtain⟨p1,p2,_⟩:=hB.ok _ uj qB
  obtain⟨r1,r2,r3,_⟩:=wR p1
  have g1:=mN h3
  obtain⟨⟨g2,_⟩,g3⟩:=cm g1
  have YL:ck (B9 (ix b w 0) (QB (gS b w) (B8 b h (GD h z (BD (ix b w 0)).2)))).at_:=Kl hl (hB.I _ uj)
  obtain⟨_,k2,_⟩:=hE.ok _ YL g3
  rw[g2] at k2
  refine⟨r1,?_⟩
  have c1:cc b w.at_ (ix b w 0).at_:=by rw[r3]; exact .one r2
  exact c1.trans (p2.trans (q4.trans k2))
theorem wT {b:List Int} (hl:b.length<=2000) {K K':Int} (hK:0<=K) (hK':0<=K') {h:SH} {HD BD:WK->List C × WK} (hH:fe b K HD) (hB:fe b K' BD) (w:WK) (hI:ck w.at_) (ht:ck h.till):ck (cn b h HD BD w).2.at_/\Wd (K+92110) (cn b h HD BD w).1/\((cn b h HD BD w).2.e=0->w.e=0/\cc b w.at_ (cn b h HD BD w).2.at_/\Wd (46*((cn b h HD BD w).2.at_ - w.at_)) (cn b h HD BD w).1):=by
 have uj:ck (bw b w).at_:=by rw[iY]; exact hI
 have n0:=iX b w
 have n1:=lL b (An h (HD (bw b w)).2)
 have key:∀ {X:Int},lK X (HD (bw b w)).1->Wd (X+14) (cn b h HD BD w).1:=fun {X} hx =>
  (((Wd.flat (Int.le_refl 0) n0.1).cons ((Wd.one (c:=F3 h _) (show (4:Int)≠1 by decide) (show (4:Int)≠2 by decide)).cons (hx.join.cons ((Wd.flat (show (0:Int)<=3 by decide) n1.1).cons .nil)))).more (by omega)).join
 refine⟨ht,(key (hH.wd hl hK _ uj)).more (by omega),fun he=>?_⟩
 unfold cn at he
 simp only at he
 have h1:(bw b (dG (Re b h (gS b (An h (HD (bw b w)).2)) (Rd h (BD (ix b (An h (HD (bw b w)).2) 0)).2)) h.fr)).e=0:=he
 have h2:=mN h1
 rw[Ao] at h2
 obtain⟨⟨_,h3,_⟩,h4⟩:=cm h2
 obtain⟨h5,h6,h7,_⟩:=wR h4
 obtain⟨_,h8⟩:=cm h5
 have QE:ck (An h (HD (bw b w)).2).at_:=hH.I _ uj
 have QF:=sP hl 0 QE
 obtain⟨p1,p2,_⟩:=hB.ok _ QF h8
 obtain⟨r1,r2,r3,_⟩:=wR p1
 obtain⟨_,r4⟩:=cm r1
 obtain⟨k1,k2,k3⟩:=hH.ok _ uj r4
 rw[iY] at k2 k3
 have s1:=eW (bz r2).2.1
 have s2:=eW (bz h6).2.1
 have c1:cc b (HD (bw b w)).2.at_ (ix b (An h (HD (bw b w)).2) 0).at_:=by rw[r3]; exact .one r2
 have c2:cc b (BD (ix b (An h (HD (bw b w)).2) 0)).2.at_ h.till:=by rw[← h3,h7]; exact .one h6
 have c3:=c1.trans (p2.trans c2)
 have YK:(cn b h HD BD w).2.at_=h.till:=rfl
 rw[YK]
 refine⟨mN k1,k2.trans c3,(key k3).more ?_⟩
 have d1:=p2.bd
 have e1:(ix b (An h (HD (bw b w)).2) 0).at_=(HD (bw b w)).2.at_+aY (iA b (An h (HD (bw b w)).2).at_).form:=r3
 have e2:h.till=(BD (ix b (An h (HD (bw b w)).2) 0)).2.at_+aY (iA b (Rd h (BD (ix b (An h (HD (bw b w)).2) 0)).2).at_).form:=by rw[← h3,h7]; rfl
 omega
def KR:Int:=115000
def KS:Int:=210000
theorem F8 {s:ST} {w:WK} (hI:ck w.at_):ck (dw s w).at_:=hI
theorem ju {s:ST} {w:WK} (h:(dw s w).e=0):(s.h.fr=w.at_/\s.h.fr < s.h.till/\¬ w.last/\fH s)/\dw s w=w:=by
 obtain⟨h1,h2⟩:=cm h
 exact⟨h1,bR h1⟩
theorem nI {b:List Int} (hl:b.length<=2000) {s:ST} (hk:s.h.kind=1) (HD BD EL:WK->List C × WK):wQ b KR (stepG b s HD BD EL):=by
 have e1:∀ w,(dw s w).e≠0->stepG b s HD BD EL w=(eZ,dw s w):=fun w h=>if_pos h
 have e2:∀ w,¬ (dw s w).e≠0->stepG b s HD BD EL w=(qy b (dw s w) s.h.till (s.h.aN.map mJ),aC (kK b (dw s w) s.h.till (s.h.aN.map mJ)) ((kK b (dw s w) s.h.till (s.h.aN.map mJ)).at_=s.h.till)):=fun w h=>by
  unfold stepG
  rw[if_neg h]
  simp only
  rw[if_pos hk]
 refine⟨fun w hI=>?_,fun w hI he=>?_,fun w hI he=>?_⟩
 all_goals by_cases h:(dw s w).e≠0
 ·rw[e1 w h]; exact hI
 ·rw[e2 w h]; exact (yL hl (F8 hI) s.h.till _).2.2
 ·rw[e1 w h] at he; exact absurd he h
 ·rw[e2 w h] at he ⊢
  obtain⟨⟨h1,h2,_⟩,h3⟩:=ju (Classical.not_not.1 h)
  rw[h3] at he ⊢
  obtain⟨h4,h5⟩:=cm he
  obtain⟨q1,q2,q3⟩:=(yL hl hI s.h.till _).2.1 h5
  exact⟨q1,q2,by show w.at_ < (kK b w s.h.till (s.h.aN.map mJ)).at_; omega,q3⟩
 ·rw[e1 w h]; exact (Wd.one (by decide) (by decide):Wd 1 eZ).more (by decide)
 ·rw[e2 w h]; exact (yL hl (F8 hI) s.h.till _).1
theorem qI {b:List Int} (hl:b.length<=2000):∀ s:ST,s.Ok->wQ b KS (dY b s):=ST.ind fun s Aq Ar YM hO=>by
 have hOh:=s.B6 hO
 have F9:iv s.hd/\iv s.bd/\iv s.el:=by cases s; exact hO.2.2
 have hB:fe b KS (bg b s.bd):=eH hl (by decide) fun x hx=>Ar x hx (e_ F9.2.1 x hx)
 have hE:fe b KS (bg b s.el):=eH hl (by decide) fun x hx=>YM x hx (e_ F9.2.2 x hx)
 have hH:ke s.hd->fe b KR (bg b s.hd):=fun hp=>eH hl (by decide) fun x hx=>by rw[mM]; exact nI hl (hp x hx).1 _ _ _
 have ht:=hOh.1.2.2.1
 rw[mM]
 generalize bg b s.hd=HD at *
 generalize bg b s.bd=BD at *
 generalize bg b s.el=EL at *
 by_cases Cz:s.h.kind=1
 ·have:=nI hl Cz HD BD EL
  exact⟨this.I,this.ok,fun w hI he=>(this.bad w hI he).more (by decide)⟩
 have e1:∀ w,(dw s w).e≠0->stepG b s HD BD EL w=(eZ,dw s w):=fun w h=>if_pos h
 have z1:Wd KS eZ:=(Wd.one (by decide) (by decide):Wd 1 eZ).more (by decide)
 
 have fin:∀ f:WK->C × WK,(∀ w,¬ (dw s w).e≠0->stepG b s HD BD EL w=((f w).1,aC (f w).2 ((f w).2.at_=s.h.till)))->(∀ w,ck w.at_->(dw s w).e=0->ck (f w).2.at_/\Wd KS (f w).1/\((f w).2.e=0->(f w).2.at_=s.h.till->w.e=0/\cc b w.at_ (f w).2.at_/\Wd (46*((f w).2.at_ - w.at_)) (f w).1))->wQ b KS (stepG b s HD BD EL):=fun f e2 hf=>by
  refine⟨fun w hI=>?_,fun w hI he=>?_,fun w hI he=>?_⟩
  all_goals by_cases h:(dw s w).e≠0
  ·rw[e1 w h]; exact hI
  ·rw[e2 w h]; exact (hf w hI (Classical.not_not.1 h)).1
  ·rw[e1 w h] at he; exact absurd he h
  ·rw[e2 w h] at he ⊢
   obtain⟨h4,h5⟩:=cm he
   obtain⟨q1,q2,q3⟩:=(hf w hI (Classical.not_not.1 h)).2.2 h5 h4
   obtain⟨⟨h1,h2,_⟩,h3⟩:=ju (Classical.not_not.1 h)
   exact⟨q1,q2,by show w.at_ < (f w).2.at_; omega,q3⟩
  ·rw[e1 w h]; exact z1
  ·rw[e2 w h]; exact (hf w hI (Classical.not_not.1 h)).2.1
 by_cases kO:s.h.kind=2
 ·refine fin (fun w=>(kf b s.h w,cY b s.h w)) (fun w h=>?_) fun w hI h=>?_
  ·have e3:=(ju (Classical.not_not.1 h)).2
   unfold stepG
   rw[if_neg h]
   simp only
   rw[if_neg Cz,if_pos kO,e3]
  ·obtain⟨q1,q2,q3⟩:=F7 hl hI s.h
   exact⟨q3,q1.more (by decide),fun he _=>⟨(q2 he).1,(q2 he).2.1,q1.more (show 8<=46*((cY b s.h w).at_ - w.at_) by have:=(q2 he).2.2; omega)⟩⟩
 by_cases JX:s.h.kind=3
 ·refine fin (ef b s.h (fh s.el=0) BD EL) (fun w h=>?_) fun w hI h=>?_
  ·have e3:=(ju (Classical.not_not.1 h)).2
   unfold stepG
   rw[if_neg h]
   simp only
   rw[if_neg Cz,if_neg kO,if_pos JX,e3]
  ·obtain⟨q1,q2,q3⟩:=wS hl (z:=fh s.el=0) hB hE w hI ht
   obtain⟨⟨h1,h2,_⟩,h3⟩:=ju h
   exact⟨q1,q2.more (by decide),fun he ha=>⟨(q3 he).1,(q3 he).2,q2.more (by omega)⟩⟩
 by_cases Q4:s.h.kind=4
 ·have e4:∀ w,¬ (dw s w).e≠0->stepG b s HD BD EL w=((cn b s.h HD BD w).1,aC (cn b s.h HD BD w).2 ((cn b s.h HD BD w).2.at_=s.h.till)):=fun w h=>by
   have e3:=(ju (Classical.not_not.1 h)).2
   unfold stepG
   rw[if_neg h]
   simp only
   rw[if_neg Cz,if_neg kO,if_neg JX,if_pos Q4,e3]
  refine fin (cn b s.h HD BD) e4 fun w hI h=>?_
  have wU:=(ju h).1.2.2.2
  have ow:ke s.hd:=by
   unfold fH at wU
   rw[if_neg Cz,if_neg kO,if_neg JX] at wU
   exact wU.2.2.2.2.2.2.1
  obtain⟨q1,q2,q3⟩:=wT hl (by decide) (by decide) (hH ow) hB w hI ht
  exact⟨q1,q2.more (by decide),fun he _=>q3 he⟩
 ·refine fin (fun w=>(eZ,{ w with e:=201 })) (fun w h=>?_) fun w hI h=>?_
  ·have e3:=(ju (Classical.not_not.1 h)).2
   unfold stepG
   rw[if_neg h]
   simp only
   rw[if_neg Cz,if_neg kO,if_neg JX,if_neg Q4,e3]
  ·exact⟨hI,z1,fun he=>absurd he (show ¬ (201:Int)=0 by decide)⟩
theorem fI {b:List Int} (hl:b.length<=2000) (l:List ST) (hO:iv l):fe b KS (bg b l):=eH hl (by decide) fun s hs=>qI hl s (e_ hO s hs)
theorem wV {b:List Int} (hl:b.length<=2000) (l:List ST) (hp:ke l):fe b KR (bg b l):=eH hl (by decide) fun x hx=>by rw[mM]; exact nI hl (hp x hx).1 _ _ _
def B_:List (Nat × aF):=[(10,.pure 0 <| .pure 1 <| .pure 2 <| .pure 4 <| .load 3 [16,15,13,12,11,10] <| .load 5 [16,15,13,12,11,10,7,6] <| .pure 6 <| .pure 7 <| .load 8 [16,15,13,12,11,10,9] <| .aR 9 (.aR 10 (.pure 11 <| .pure 12 <| .pure 13 <| .aR 14 (.aR 15 (.pure 16 <| .done) (.nil)) (.nil)) (.cons 14 (.aR 10 (.pure 11 <| .pure 12 <| .pure 13 <| .aR 15 (.pure 16 <| .done) (.nil)) (.nil)) (.nil))) (.cons 14 (.aR 9 (.aR 10 (.pure 11 <| .pure 12 <| .pure 13 <| .aR 15 (.pure 16 <| .done) (.nil)) (.nil)) (.nil)) (.nil))),(11,.pure 0 <| .pure 2 <| .pure 4 <| .load 1 [9,7] <| .load 3 [9,7] <| .aR 5 (.aR 6 (.pure 7 <| .aR 8 (.aR 9 (.done) (.nil)) (.nil)) (.sub 8 (.aR 6 (.pure 7 <| .aR 9 (.done) (.nil)) (.nil)) (.nil))) (.sub 8 (.aR 5 (.aR 6 (.pure 7 <| .aR 9 (.done) (.nil)) (.nil)) (.nil)) (.nil))),(12,.pure 0 <| .load 2 [6,5,4] <| .aR 1 (.aR 3 (.aR 4 (.aR 5 (.aR 6 (.done) (.nil)) (.nil)) (.nil)) (.nil)) (.nil))]
noncomputable def uk (b:List Int) (s:ST) (w:WK) (mm nn:Int):aO:=⟨(Tryz.f81).ntmps,iL [(4,.ptr 1 0),(8,.int .i64 nn),(12,.ptr 2 0)] .nil,[eC b w,zC,⟨.loc,30,1,.w,true,Fe (sO s.h mm)⟩],1,[]⟩
theorem F' (b:List Int) (h:SH) (w:WK) (mm:Int) (hm:0<=mm/\mm<=2):ai gT 45 [.sl 12 [bo (aE 0 (nH b w)),bo (sO h mm),bo (aE 1 0)]] (bo (ba [aE 0 (nH b w),sO h mm,aE 1 0])):=by
 have h1:=lL b w
 exact db (B:=8) (((Wd.flat (Int.le_refl 0) h1.1).cons ((Wd.one (c:=sO h mm) (show (5:Int)≠1 by decide) (show (5:Int)≠2 by decide)).cons ((Wd.flat (show (0:Int)<=1 by decide) (Int.le_refl 0)).cons .nil))).more (by omega)) (by decide)
theorem F_ (b:List Int) (hb:oK b) (hl:b.length<=2000) (w:WK) (hI:ck w.at_) (s:ST) (hO:s.Ok) (hA:fM s.h.A):Spec gT 81 [.ptr 0 0,jD s] [eC b w] [] fun y S'=>y=bo (kf b s.h w)/\S' = [eC b (cY b s.h w)]:=by
 have hS:=s.B6 hO
 have Ga:=nG hA
 have GF:s.h.A.op=(gh s.h.A).op:=by rw[← iw,← Ga]
 have GG:s.h.A.n=(gh s.h.A).num:=by rw[← kW,← Ga]
 have Gb:eG s.h.A=cb (gh s.h.A):=by rw[← dj,← Ga]
 have GH:pI (.sl 3 (eG s.h.A)) (.sl 3 (cb (gh s.h.A))):=by rw[Gb]; exact rfl
 refine Spec.rT (Spec.enter al B_ 100 Tryz.func81 rfl (by kernel_rfl) ?_)
 have QQ:∀ cond:Int,(s.h.size≠0->cond=2)->(¬ s.h.size≠0->cond=0)->cond=if s.h.size≠0 then 2 else 0:=fun cond h1 h2=>by
  split
  ·rename_i h; exact h1 h
  ·rename_i h; exact h2 h
 have Co:∀ k,(s.h.size≠0->k=1)->(¬ s.h.size≠0->k=2)->k=if s.h.size≠0 then (1:Int) else 2:=fun cond h1 h2=>by
  split
  ·rename_i h; exact h1 h
  ·rename_i h; exact h2 h
 unfold kf
 have hW:cY b s.h w=aC (aC (aC (ix b w (if s.h.size≠0 then 2 else 0)) (gS b w=s.h.stub)) (eA b s.h.stub=0)) ((iA b s.h.stub).form=45/\(iA b s.h.stub).aw=if s.h.size≠0 then 1 else 2):=rfl
 refine⟨fun hz=>?_,fun hz=>?_⟩
 ·rw[← QQ 2 (fun _=>rfl) (fun h=>absurd hz h),← Co 1 (fun _=>rfl) (fun h=>absurd hz h)] at hW
  refine (gi b hb (by omega) w hI 2).e ?_
  generalize ix b w 2=w1 at hW ⊢
  refine (bs b w1 (gS b w=s.h.stub)).e ?_
  generalize aC w1 (gS b w=s.h.stub)=w2 at hW ⊢
  refine (o5 b hb (by omega) w2 s.h.stub hS.1.2.2.2.1).e ?_
  have U6:=@bz b s.h.stub
  have Gc:∀ p,¬ (aC (aC w2 (eA b s.h.stub=0)) p).e≠0->eA b s.h.stub=0:=fun p h=>(mG (w:=w2) (p:=eA b s.h.stub=0) (fun k=>k (mG h).2)).1
  generalize iA b s.h.stub=i at U6 hW ⊢
  generalize aC w2 (eA b s.h.stub=0)=w3 at hW Gc ⊢
  refine⟨fun QG=>?_,fun QG=>?_⟩
  ·refine (bs b w3 (i.aw=1)).e ?_
   rw[show aC w3 (i.aw=1)=cY b s.h w from hW.symm ▸ congrArg _ (propext ⟨fun k=>⟨QG,k⟩,fun k=>k.2⟩)]
   have Gc:=fun k:¬ (cY b s.h w).e≠0=>Gc (i.form=45/\i.aw=1) (hW ▸ k)
   generalize cY b s.h w=w4 at hW Gc ⊢
   refine⟨fun he=>?_,fun he=>?_⟩
   ·rw[if_pos (show w4.e≠0 from he)]
    exact rS
   rw[if_neg (show ¬ w4.e≠0 from he)]
   obtain⟨⟨p0,p1⟩,p2,p3⟩:=U6 (Gc he)
   have hs:=eW p2
   have qt:=eE i
   have hf:=@lE w4.full (Classical.propDecidable _) w4.line (134217728+s.h.stub) (aY i.form) ⟨by omega,by omega⟩ hs
   have hm:@qj w4.full (Classical.propDecidable _) w4.line (134217728+s.h.stub) (aY i.form)=fk w4 s.h.stub (aY i.form):=rfl
   rw[hm] at hf
   have YN:=iT w4 s.h.stub (aY i.form)
   generalize fk w4 s.h.stub (aY i.form)=mm at *
   generalize aY i.form=z at *
   refine lu ?_ (show 0<=s.h.stub/\s.h.stub<=4294967295 by omega)
   refine lu ?_ (show 0<=134217728+s.h.stub/\134217728+s.h.stub<=4294967295 by omega)
   refine qt.u ?_
   refine hf.u ?_
   refine And.intro (And.intro ?_ (And.intro ?a5 ?t5)) (And.intro ?a6 ?t6)
   case t5=>(conv=>whnf); exact trivial
   case t6=>(conv=>whnf); exact trivial
   case a6 =>
    conv=>whnf
    refine hf.u ?_
    exact rfl
   case a5 =>
    conv=>whnf
    refine qt.u ?_
    refine hf.u ?_
    exact rfl
   have U7:=bu 4 mm
   refine U7.u ?_
   refine Exists.intro (uk b s w4 mm (nH b w)) (And.intro ?_ (And.intro (Exists.intro (uk b s w4 mm (nH b w)) (And.intro Sub.refl (And.intro ?_ (And.intro ?_ ?_)))) (And.intro ?_ ?_)))
   ·refine Sub.trans (Sub.jr 5 6 11 12 [bo (aE 4 mm)] rfl rfl (Or.inl rfl) rfl rfl rfl) ?_
    refine aM al.ok (π:=[some 0,some 2,some 6]) ?_
    repeat' first|exact trivial|exact rfl|exact Iff.rfl|exact not_false|refine And.intro ?_ ?_
    all_goals first
     | exact (show s.h.A.op=(gh s.h.A).op from GF)
     | exact (show s.h.A.n=(gh s.h.A).num from GG)
     | exact GH
   ·refine (bu 0 (nH b w)).u ?_
    refine (bu 1 0).u ?_
    refine⟨[],av,(F' b s.h w mm YN).eT [3] rfl (by repeat' first|exact trivial|exact rfl|exact Iff.rfl|exact Or.inl rfl|refine And.intro ?_ ?_) rfl rfl ?_⟩
    exact rS
   ·conv=>whnf
    refine U7.u ?_
    refine Sub.trans (Sub.jr 6 5 11 12 [bo (aE 4 mm)] rfl rfl (Or.inl rfl) rfl rfl rfl) ?_
    refine aM al.ok (π:=[some 0,some 2,some 5]) ?_
    repeat' first|exact trivial|exact rfl|exact Iff.rfl|exact not_false|refine And.intro ?_ ?_
    all_goals first
     | exact (show s.h.A.op=(gh s.h.A).op from GF)
     | exact (show s.h.A.n=(gh s.h.A).num from GG)
     | exact GH
   ·exact trivial
   ·refine Sub.trans (Sub.jr 6 5 11 12 [bo (aE 4 mm)] rfl rfl (Or.inl rfl) rfl rfl rfl) ?_
    refine aM al.ok (π:=[some 0,some 2,some 5]) ?_
    repeat' first|exact trivial|exact rfl|exact Iff.rfl|exact not_false|refine And.intro ?_ ?_
    all_goals first
     | exact (show s.h.A.op=(gh s.h.A).op from GF)
     | exact (show s.h.A.n=(gh s.h.A).num from GG)
     | exact GH
   ·exact trivial
  ·refine (bO b w3).e ?_
   rw[cX (fun k=>QG k.1)] at hW
   rw[hW]
   refine⟨fun he=>?_,fun he=>absurd (show ¬ (201:Int)=0 by decide) he⟩
   rw[if_pos (show ({ w3 with e:=201 }:WK).e≠0 from he)]
   exact rS
 ·rw[← QQ 0 (fun h=>absurd h hz) (fun _=>rfl),← Co 2 (fun h=>absurd h hz) (fun _=>rfl)] at hW
  refine (gi b hb (by omega) w hI 0).e ?_
  generalize ix b w 0=w1 at hW ⊢
  refine (bs b w1 (gS b w=s.h.stub)).e ?_
  generalize aC w1 (gS b w=s.h.stub)=w2 at hW ⊢
  refine (o5 b hb (by omega) w2 s.h.stub hS.1.2.2.2.1).e ?_
  have U6:=@bz b s.h.stub
  have Gc:∀ p,¬ (aC (aC w2 (eA b s.h.stub=0)) p).e≠0->eA b s.h.stub=0:=fun p h=>(mG (w:=w2) (p:=eA b s.h.stub=0) (fun k=>k (mG h).2)).1
  generalize iA b s.h.stub=i at U6 hW ⊢
  generalize aC w2 (eA b s.h.stub=0)=w3 at hW Gc ⊢
  refine⟨fun QG=>?_,fun QG=>?_⟩
  ·refine (bs b w3 (i.aw=2)).e ?_
   rw[show aC w3 (i.aw=2)=cY b s.h w from hW.symm ▸ congrArg _ (propext ⟨fun k=>⟨QG,k⟩,fun k=>k.2⟩)]
   have Gc:=fun k:¬ (cY b s.h w).e≠0=>Gc (i.form=45/\i.aw=2) (hW ▸ k)
   generalize cY b s.h w=w4 at hW Gc ⊢
   refine⟨fun he=>?_,fun he=>?_⟩
   ·rw[if_pos (show w4.e≠0 from he)]
    exact rS
   rw[if_neg (show ¬ w4.e≠0 from he)]
   obtain⟨⟨p0,p1⟩,p2,p3⟩:=U6 (Gc he)
   have hs:=eW p2
   have qt:=eE i
   have hf:=@lE w4.full (Classical.propDecidable _) w4.line (134217728+s.h.stub) (aY i.form) ⟨by omega,by omega⟩ hs
   have hm:@qj w4.full (Classical.propDecidable _) w4.line (134217728+s.h.stub) (aY i.form)=fk w4 s.h.stub (aY i.form):=rfl
   rw[hm] at hf
   have YN:=iT w4 s.h.stub (aY i.form)
   generalize fk w4 s.h.stub (aY i.form)=mm at *
   generalize aY i.form=z at *
   refine lu ?_ (show 0<=s.h.stub/\s.h.stub<=4294967295 by omega)
   refine lu ?_ (show 0<=134217728+s.h.stub/\134217728+s.h.stub<=4294967295 by omega)
   refine qt.u ?_
   refine hf.u ?_
   refine And.intro (And.intro ?_ (And.intro ?a5 ?t5)) (And.intro ?a6 ?t6)
   case t5=>(conv=>whnf); exact trivial
   case t6=>(conv=>whnf); exact trivial
   case a6 =>
    conv=>whnf
    refine hf.u ?_
    exact rfl
   case a5 =>
    conv=>whnf
    refine qt.u ?_
    refine hf.u ?_
    exact rfl
   have U7:=bu 4 mm
   refine U7.u ?_
   refine Exists.intro (uk b s w4 mm (nH b w)) (And.intro ?_ (And.intro (Exists.intro (uk b s w4 mm (nH b w)) (And.intro Sub.refl (And.intro ?_ (And.intro ?_ ?_)))) (And.intro ?_ ?_)))
   ·refine Sub.trans (Sub.jr 5 6 11 12 [bo (aE 4 mm)] rfl rfl (Or.inl rfl) rfl rfl rfl) ?_
    refine aM al.ok (π:=[some 0,some 2,some 6]) ?_
    repeat' first|exact trivial|exact rfl|exact Iff.rfl|exact not_false|refine And.intro ?_ ?_
    all_goals first
     | exact (show s.h.A.op=(gh s.h.A).op from GF)
     | exact (show s.h.A.n=(gh s.h.A).num from GG)
     | exact GH
   ·refine (bu 0 (nH b w)).u ?_
    refine (bu 1 0).u ?_
    refine⟨[],av,(F' b s.h w mm YN).eT [3] rfl (by repeat' first|exact trivial|exact rfl|exact Iff.rfl|exact Or.inl rfl|refine And.intro ?_ ?_) rfl rfl ?_⟩
    exact rS
   ·conv=>whnf
    refine U7.u ?_
    refine Sub.trans (Sub.jr 6 5 11 12 [bo (aE 4 mm)] rfl rfl (Or.inl rfl) rfl rfl rfl) ?_
    refine aM al.ok (π:=[some 0,some 2,some 5]) ?_
    repeat' first|exact trivial|exact rfl|exact Iff.rfl|exact not_false|refine And.intro ?_ ?_
    all_goals first
     | exact (show s.h.A.op=(gh s.h.A).op from GF)
     | exact (show s.h.A.n=(gh s.h.A).num from GG)
     | exact GH
   ·exact trivial
   ·refine Sub.trans (Sub.jr 6 5 11 12 [bo (aE 4 mm)] rfl rfl (Or.inl rfl) rfl rfl rfl) ?_
    refine aM al.ok (π:=[some 0,some 2,some 5]) ?_
    repeat' first|exact trivial|exact rfl|exact Iff.rfl|exact not_false|refine And.intro ?_ ?_
    all_goals first
     | exact (show s.h.A.op=(gh s.h.A).op from GF)
     | exact (show s.h.A.n=(gh s.h.A).num from GG)
     | exact GH
   ·exact trivial
  ·refine (bO b w3).e ?_
   rw[cX (fun k=>QG k.1)] at hW
   rw[hW]
   refine⟨fun he=>?_,fun he=>absurd (show ¬ (201:Int)=0 by decide) he⟩
   rw[if_pos (show ({ w3 with e:=201 }:WK).e≠0 from he)]
   exact rS
end Go.Proofs.YtnbhdacpogplgaaGreatDoor.Pw

/- What this claim is proved with: no condition. -/
import Derived.Test.YtnbhdacpogplgaaGreatDoorPv7
import Derived.Test.YtnbhdacpogplgaaGreatDoorPv6
import Derived.Test.YtnbhdacpogplgaaGreatDoorRows
set_option linter.unusedVariables false
set_option linter.unusedSimpArgs false
namespace Go.Proofs.YtnbhdacpogplgaaGreatDoor.Pw
open Go Go.RowKit
def Y1 (S:List an) (l:Nat):Bool:=match S[l]? with
 | some b=>b.can
 | none=>false
theorem Q1 {S:List an} {l:Nat} (h:Y1 S l=true):l < S.length/\∀ b,S[l]?=some b->b.m = .w:=by
 unfold Y1 at h
 split at h
 ·rename_i b hb
  refine⟨(List.getElem?_eq_some_iff.1 hb).1,fun b' dw=>?_⟩
  rw[hb] at dw; cases dw
  unfold an.can at h
  simp only[Bool.and_eq_true] at h
  cases hm:b.m with
  | w=>rfl
  | p=>rw[hm] at h; cases h.2
  | r=>rw[hm] at h; cases h.2
 ·cases h
def S9 (rl:List Nat) (b:an):Bool:=match b.k with
 | .dyn=>true
 | .mp=>true
 | _=>b.cs.all fun c=>c.c9.all fun l=>!(kS l rl)
def MR (rl:List Nat) (T:List an):Bool:=T.all (S9 rl)
theorem Jb {rl:List Nat} {T:List an} (h:MR rl T=true) {b:an} (hb:b∈T) (hk:b.k.xx=true):∀ c∈b.cs,∀ m∈c.c9,m ∉ rl:=fun c hc m hm hr=>by
 have h1:=List.all_eq_true.1 h b hb
 unfold S9 at h1
 have h2:b.cs.all (fun c=>c.c9.all fun l=>!(kS l rl))=true:=by
  cases cQ:b.k with
  | dyn=>rw[cQ] at hk; cases hk
  | mp=>rw[cQ] at hk; cases hk
  | loc=>rw[cQ] at h1; exact h1
  | arr=>rw[cQ] at h1; exact h1
 have h3:=List.all_eq_true.1 (List.all_eq_true.1 h2 c hc) m hm
 rw[dx.2 hr] at h3
 cases h3
section
variable {w w':World} {I I':Nat->Prop} {β aM:ax} {G:Gx} {s:aN} {a:Act} {st eP:List an}
theorem bg.GL {cs:List PV} {arr:Array Value} {o:Nat} (hI:∀ g,I g->I' g) (hw:∀ g,I g->w'.heap[g]?=w.heap[g]?) (hb:∀ c∈cs,∀ l∈c.c9,∀ p,β l=some p->aM l=some p) (h:bg w I β cs arr o):bg w' I' aM cs arr o :=
 fun i c hc=>let ⟨v,h1,h2,h3⟩:=h i c hc; ⟨v,h1,PV.Is.mono hI hw c β aM v (fun l p hl=>hb c (List.mem_of_getElem? hc) l hl p) h2,h3⟩
theorem ji.GL {l:Nat} {b:an} (hI:∀ g,I g->I' g) (hw:∀ g,I g->w'.heap[g]?=w.heap[g]?) (p7:∀ p,β l=some p->aM l=some p) (hu:b.k.xx=true->∀ c∈b.cs,∀ l∈c.c9,∀ p,β l=some p->aM l=some p)
  (hg:∀ p g o,β l=some p->p.a=some (g,o)->w'.heap[g]?=w.heap[g]?/\(b.m≠.r->¬ I' g/\∀ l' b',l'≠l->eP[l']?=some b'->b'.live=true->∀ p g' o',aM l'=some p->p.a=some (g',o')->g'≠g)) (hb:ji I β st w l b):ji I' aM eP w' l b:=by
 obtain⟨p,hp,hk⟩:=hb
 refine⟨p,p7 p hp,?_⟩
 have own:∀ {g o:Nat} {fr:Nat × Nat},p.a=some (g,o)->Own I β st l g fr b->Own I' aM eP l g fr b:=fun ha ho=>⟨fun hr=>⟨(ho.1 hr).1,(hg p _ _ hp ha).2 hr⟩,fun hr=>hI _ (ho.2 hr)⟩
 split at hk
 ·rename_i cQ
  obtain⟨g,o,arr,ty,fr,ha,hh,hc,ho⟩:=hk
  exact⟨g,o,arr,ty,fr,ha,(hg p g o hp ha).1.trans hh,hc.GL hI hw (hu (by rw[cQ]; rfl)),own ha ho⟩
 ·rename_i cQ
  obtain⟨g,arr,fr,ha,hh,hc,ho,h1⟩:=hk
  exact⟨g,arr,fr,ha,(hg p g 0 hp ha).1.trans hh,hc.GL hI hw (hu (by rw[cQ]; rfl)),own ha ho,h1⟩
 ·obtain⟨h1,hk⟩:=hk
  refine⟨h1,?_⟩
  rcases hk with h|⟨g,arr,fr,ha,hh,hc,ho,h2⟩
  ·exact .inl h
  ·exact .inr ⟨g,arr,fr,ha,(hg p g 0 hp ha).1.trans hh,cg.mono hI hw _ _ _ _ (hg p g 0 hp ha).1 hc,own ha ho,h2⟩
 ·obtain⟨g,ha,hm,ho⟩:=hk
  exact⟨g,ha,hm.pj (hg p g 0 hp ha).1,own ha ho⟩
theorem Spec.jF {f:FuncId} {args bf:List PV} {r0:PV} {S0 S1:List an} {rl:List Nat} {K:PV->List an->Prop} (h:Spec G f bf S0 rl fun r S'=>r=r0/\S'=S1) (hm:nc S0 S1=true) (gh:S0.all (BL S0.length)=true) (hu:(eu bf).all (fun l=>Nat.blt l S0.length)=true)
  (z4:r0.c9.all (fun l=>Nat.blt l S0.length)=true) (Sq:rl.all (fun l=>Y1 S0 l)=true) (hle:na qC args bf) (hK:EC st S0 fun T=>(bif MR rl T then True else False)/\xN S1 fun S1=>BY S1 T (K r0)):Spec G f args st rl K:=by
 obtain⟨uv,T,rfl,Ke,hk,LJ⟩:=z9 hK
 obtain⟨hT,hk⟩:=hk
 replace hT:=(aZ hT).1
 replace hk:=z8 (qX hk)
 obtain⟨uQ,Ga⟩:=q_ hm
 refine Spec.intro h.run.1 fun I β w a_ hH hM hA=>?_
 let jE:ax:=fun l=>if l < S0.length then β l else none
 have lR:∀ l,l < S0.length->jE l=β l:=fun l hl=>if_pos hl
 have ED:∀ {l p},jE l=some p->l < S0.length/\β l=some p:=fun {l p} h=>by
  by_cases hl:l < S0.length
  ·exact⟨hl,by rw[← lR l hl]; exact h⟩
  ·have:jE l=none:=if_neg hl
   rw[this] at h; cases h
 have uw:∀ {l:Nat} {b':an},S0[l]?=some b'->l < S0.length/\∃ b,(uv++T)[l]?=some b/\fT b b':=fun {l b'} dw=>by
  have ch:l < S0.length:=(List.getElem?_eq_some_iff.1 dw).1
  have EE:l < uv.length:=by omega
  refine⟨ch,uv[l],by rw[List.getElem?_append_left EE]; simp[EE],LJ l _ b' (by simp[EE]) dw⟩
 have low:∀ {l:Nat} {b':an},S0[l]?=some b'->b'.k.xx=true->∀ c∈b'.cs,∀ m∈c.c9,m < S0.length:=fun {l b'} dw hk c hc m pW=>by
  rw[List.all_eq_true] at gh
  have:=gh b' (List.mem_of_getElem? dw)
  unfold BL at this
  have cA:b'.cs.all (fun c=>c.c9.all fun l=>Nat.blt l S0.length)=true:=by
   cases cQ:b'.k with
   | dyn=>rw[cQ] at hk; cases hk
   | mp=>rw[cQ] at hk; cases hk
   | loc=>rw[cQ] at this; exact this
   | arr=>rw[cQ] at this; exact this
  rw[List.all_eq_true] at cA
  have:=cA c hc
  rw[List.all_eq_true] at this
  exact Nat.le_of_ble_eq_true (this m pW)
 have SJ:aL I jE S0 w:=by
  refine⟨fun l hl=>if_neg (by omega),fun l b' dw aF=>?_⟩
  obtain⟨ch,b,hb,LK⟩:=uw dw
  obtain⟨e1,e2,e3,e4,e5,e6,e7⟩:=cX LK
  obtain⟨p,hp,hB⟩:=hH.iI l b hb e4
  have own:∀ {g:Nat} {fr:Nat × Nat},Own I β (uv++T) l g fr b->Own I jE S0 l g fr b':=fun {g fr} ho=>by
   refine⟨fun hr=>?_,fun hr=>ho.2 (by rw[e3]; exact hr)⟩
   obtain⟨h1,h2,h3⟩:=ho.1 (by rw[e3]; exact hr)
   refine⟨h1,h2,fun l2 b2 cH gz bH p2 g2 o2 jN jM=>?_⟩
   obtain⟨_,b3,ml,nO⟩:=uw gz
   exact h3 l2 b3 cH ml (cX nO).2.2.2.1 p2 g2 o2 (ED jN).2 jM
  have cells:b'.k.xx=true->∀ {arr:Array Value} {o:Nat},bg w I β b.cs arr o->bg w I jE b'.cs arr o:=fun hk {arr o} hc i c hi=>by
   have ph:bg w I β b'.cs arr o:=by
    rcases e7 with ⟨hd,_⟩|⟨_,h7⟩
    ·(rw[e6,hk] at hd; cases hd)
    ·exact j8 h7 hc
   obtain⟨u,Bh,PX,h1⟩:=ph i c hi
   exact⟨u,Bh,PV.Is.mono (fun _ h=>h) (fun _ _=>rfl) c β jE u (fun m p pW e_=>by rw[lR m (low dw hk c (List.mem_of_getElem? hi) m pW)]; exact e_) PX,h1⟩
  refine⟨p,by rw[lR l ch]; exact hp,?_⟩
  split at hB
  ·rename_i cQ
   have jC:b'.k = .loc:=by rw[← e6]; exact cQ
   obtain⟨g,o,arr,ty,fr,h1,h2,h3,ho⟩:=hB
   rw[jC]
   exact⟨g,o,arr,ty,fr,h1,h2,cells (by rw[jC]; rfl) h3,own ho⟩
  ·rename_i cQ
   have jC:b'.k = .arr:=by rw[← e6]; exact cQ
   obtain⟨g,arr,fr,h1,h2,h3,ho,h4,h5,h6,h7,h8⟩:=hB
   have hlen:b'.cs.length=b.cs.length:=by
    rcases e7 with ⟨hd,_⟩|⟨_,h9⟩
    ·rw[cQ] at hd; cases hd
    ·exact (oJ h9).symm
   rw[jC]
   exact⟨g,arr,fr,h1,by rw[← e1]; exact h2,cells (by rw[jC]; rfl) h3,own ho,by rw[hlen,← e2]; exact h4,h5,h6,by rw[← e2]; exact h7,by rw[← e2]; exact h8⟩
  ·rename_i cQ
   have jC:b'.k = .dyn:=by rw[← e6]; exact cQ
   have jA:b.cs=b'.cs:=by
    rcases e7 with ⟨_,h9⟩|⟨hd,_⟩
    ·exact h9
    ·(rw[cQ] at hd; cases hd)
   obtain⟨⟨h1,h2,h3,h4⟩,hB⟩:=hB
   rw[jC]
   refine⟨⟨by rw[← e2]; exact h1,by rw[← jA]; exact h2,h3,h4⟩,?_⟩
   rcases hB with h|⟨g,arr,fr,h5,h6,h7,ho,h8⟩
   ·exact .inl h
   ·exact .inr ⟨g,arr,fr,h5,by rw[← e1]; exact h6,by rw[← jA,← e2]; exact h7,own ho,by rw[← e2]; exact h8⟩
  ·rename_i cQ
   have jC:b'.k = .mp:=by rw[← e6]; exact cQ
   have jA:b.cs=b'.cs:=by
    rcases e7 with ⟨_,h9⟩|⟨hd,_⟩
    ·exact h9
    ·(rw[cQ] at hd; cases hd)
   obtain⟨g,h1,h2,ho⟩:=hB
   rw[jC]
   exact⟨g,h1,by rw[← jA]; exact h2,own ho⟩
 have Um:bp w I bf jE a_:=by
  have:=kl (fun _ _=>fZ) hle hA
  refine bp.mono (fun _ h=>h) (fun _ _=>rfl) bf β jE a_ (fun m p pW e_=>?_) this
  rw[List.all_eq_true] at hu
  rw[lR m (Nat.le_of_ble_eq_true (hu m pW))]; exact e_
 refine (h.run.2 I jE w a_ SJ hM Um).mono fun e w' ⟨v,r,S',I',aM,he,⟨e1,e2⟩,hi,rb,oL,hE,hlen,p7⟩=>?_
 subst e1; subst e2
 have BZ:∀ l,l < S0.length->l ∉ rl->aM l=β l:=fun l hl hr=>(p7 l hl hr).trans (lR l hl)
 let jm:ax:=fun l=>if l < S0.length then aM l else β l
 have Jc:∀ l,l < S0.length->jm l=aM l:=fun l hl=>if_pos hl
 have E4:∀ l,¬ l < S0.length->jm l=β l:=fun l hl=>if_neg hl
 have Im:∀ l p,aM l=some p->jm l=some p:=fun l p hp=>by
  have:l < S0.length:=by have:=rb.lt hp; omega
  rw[Jc l this]; exact hp
 have ui:∀ l,l∈rl->l < S0.length/\∀ b,S0[l]?=some b->b.m = .w:=fun l hl=>Q1 (List.all_eq_true.1 Sq l hl)
 have LL:∀ {g},Wr jE S0 g->Wr β (uv++T) g:=fun {g} ⟨l,b,p,o,h1,h2,h3,h4,h5⟩=>by
  obtain⟨ch,b2,eG,sT⟩:=uw h1
  obtain⟨_,_,q3,q4,_⟩:=cX sT
  exact⟨l,b2,p,o,eG,q4,by rw[q3]; exact h3,(ED h4).2,h5⟩
 have wr1:∀ {g},Wr jm (S'++T) g->(Wr aM S' g)\/∃ l b p o,S0.length<=l/\(uv++T)[l]?=some b/\b.live=true/\b.m = .w/\β l=some p/\p.a=some (g,o):=fun {g} ⟨l,b,p,o,h1,h2,h3,h4,h5⟩=>by
  by_cases hl:l < S'.length
  ·rw[List.getElem?_append_left hl] at h1
   exact .inl ⟨l,b,p,o,h1,h2,h3,by rw[← Jc l (by omega)]; exact h4,h5⟩
  ·rw[List.getElem?_append_right (by omega)] at h1
   refine .inr ⟨l,b,p,o,by omega,?_,h2,h3,by rw[← E4 l (by omega)]; exact h4,h5⟩
   rw[List.getElem?_append_right (by omega),Ke,uQ]; exact h1
 
 have apart:∀ {l:Nat} {b:an} {p:tI} {g o:Nat},S0.length<=l->(uv++T)[l]?=some b->b.live=true->β l=some p->p.a=some (g,o)->¬ Wr jE S0 g:=fun {l b p g o} hl hb aF hp ha ⟨l2,b2,p2,o2,h1,h2,h3,h4,h5⟩=>by
  obtain⟨ch,b3,ml,nO⟩:=uw h1
  obtain⟨_,_,q3,q4,_⟩:=cX nO
  obtain⟨arr,ty,fr,_,ho⟩:=(hH.iI l2 b3 ml q4).place (ED h4).2 h5
  exact (ho.1 (by rw[q3,h3]; nofun)).2.2 l b (by omega) hb aF p g o hp ha rfl
 refine⟨v,r,S'++T,I',jm,he,hk,PV.Is.mono (fun _ h=>h) (fun _ _=>rfl) r aM jm v (fun m p _ hp=>Im m p hp) hi,⟨fun l hl=>by rw[E4 l (by simp only[List.length_append] at hl; omega)]; exact hH.py l (by simp only[List.length_append] at hl ⊢; omega),fun l b hb aF=>?_⟩,oL,⟨hE.os,hE.tape,hE.output,hE.size,fun g hg hn=>hE.block g hg fun h=>hn (LL h),fun g hg h=>?_,hE.aC,fun g hg h=>(hE.new g hg h).imp id LL⟩,by simp only[List.length_append]; omega,fun l _ hr=>by
   by_cases hl:l < S0.length
   ·rw[Jc l hl]; exact BZ l hl hr
   ·exact E4 l hl⟩
 ·by_cases hl:l < S'.length
  ·rw[List.getElem?_append_left hl] at hb
   have hB:=rb.iI l b hb aF
   refine hB.mono (fun _ h=>h) (fun _ _=>rfl) Im fun p g o hp ha=>⟨rfl,fun hr=>?_⟩
   obtain⟨arr,ty,fr,hh,ho⟩:=hB.place hp ha
   obtain⟨h1,h2,h3⟩:=ho.1 hr
   refine⟨h2,fun l2 b2 cH eG bH p2 g2 o2 jN jM=>?_⟩
   by_cases gz:l2 < S'.length
   ·rw[List.getElem?_append_left gz] at eG
    exact h3 l2 b2 cH eG bH p2 g2 o2 (by rw[← Jc l2 (by omega)]; exact jN) jM
   ·rw[List.getElem?_append_right (by omega)] at eG
    have LM:(uv++T)[l2]?=some b2:=by rw[List.getElem?_append_right (by omega),Ke,uQ]; exact eG
    have Jd:β l2=some p2:=by rw[← E4 l2 (by omega)]; exact jN
    have zT:=hH.dk ⟨l2,b2,p2,o2,LM,bH,Jd,jM⟩
    obtain⟨b0,jL⟩:∃ b0,S0[l]?=some b0:=⟨S0[l]'(by omega),by simp[show l < S0.length by omega]⟩
    obtain⟨_,q5⟩:=Ga l b0 b jL hb
    by_cases O7:l∈rl
    ·intro e
     subst e
     have hw:b.m = .w:=by rw[← q5]; exact (ui l O7).2 b0 jL
     exact apart (by omega) LM bH Jd jM (hE.wr _ zT ⟨l,b,p,o,hb,aF,hw,hp,ha⟩)
    ·obtain⟨_,b3,ml,nO⟩:=uw jL
     obtain⟨_,_,q3,q4,_⟩:=cX nO
     have zS:β l=some p:=by rw[← BZ l (by omega) O7]; exact hp
     obtain⟨_,_,_,_,ho3⟩:=(hH.iI l b3 ml q4).place zS ha
     exact (ho3.1 (by rw[q3,q5]; exact hr)).2.2 l2 b2 cH LM bH p2 g2 o2 Jd jM
  ·rw[List.getElem?_append_right (by omega)] at hb
   have dw:(uv++T)[l]?=some b:=by rw[List.getElem?_append_right (by omega),Ke,uQ]; exact hb
   have hB:=hH.iI l b dw aF
   have same:∀ {p g o},β l=some p->p.a=some (g,o)->g < w.heap.size/\w'.heap[g]?=w.heap[g]?:=fun {p g o} hp ha=>by
    have ch:=hH.dk ⟨l,b,p,o,dw,aF,hp,ha⟩
    exact⟨ch,hE.block g ch (apart (by omega) dw aF hp ha)⟩
   have hTb:=Jb hT (List.mem_of_getElem? hb)
   refine hB.GL hE.aC (fun g hg=>hE.block g (hM.aC g hg) fun hw=>?_) (fun p hp=>by rw[E4 l (by omega)]; exact hp) (fun hk c hc m hm p hp=>?_) fun p g o hp ha=>⟨(same hp ha).2,fun hr=>?_⟩
   ·exact SJ.pZ hw hg
   ·by_cases hml:m < S0.length
    ·rw[Jc m hml,BZ m hml (hTb hk c hc m hm)]; exact hp
    ·rw[E4 m hml]; exact hp
   ·obtain⟨arr,ty,fr,hh,ho⟩:=hB.place hp ha
    obtain⟨h1,h2,h3⟩:=ho.1 hr
    refine⟨fun hI=>(hE.new g (same hp ha).1 hI).elim h2 (apart (by omega) dw aF hp ha),fun l2 b2 cH eG bH p2 g2 o2 jN jM=>?_⟩
    have Ek:=(same hp ha).1
    by_cases gz:l2 < S'.length
    ·rw[List.getElem?_append_left gz] at eG
     have Jd:aM l2=some p2:=by rw[← Jc l2 (by omega)]; exact jN
     obtain⟨b0,jL⟩:∃ b0,S0[l2]?=some b0:=⟨S0[l2]'(by omega),by simp[show l2 < S0.length by omega]⟩
     by_cases O7:l2∈rl
     ·intro e
      subst e
      obtain⟨_,q5⟩:=Ga l2 b0 b2 jL eG
      have hw:b2.m = .w:=by rw[← q5]; exact (ui l2 O7).2 b0 jL
      exact apart (by omega) dw aF hp ha (hE.wr _ Ek ⟨l2,b2,p2,o2,eG,bH,hw,Jd,jM⟩)
     ·obtain⟨_,b3,ml,nO⟩:=uw jL
      exact h3 l2 b3 cH ml (cX nO).2.2.2.1 p2 g2 o2 (by rw[← BZ l2 (by omega) O7]; exact Jd) jM
    ·rw[List.getElem?_append_right (by omega)] at eG
     exact h3 l2 b2 cH (by rw[List.getElem?_append_right (by omega),Ke,uQ]; exact eG) bH p2 g2 o2 (by rw[← E4 l2 (by omega)]; exact jN) jM
 ·rcases wr1 h with h|⟨l,b,p,o,_,h2,h3,h4,h5,h6⟩
  ·exact LL (hE.wr g hg h)
  ·exact⟨l,b,p,o,h2,h3,h4,h5,h6⟩
def Q2 (st:List an) (fz:List Nat) (x:PV):PV:=match x with
 | .wref l=>bif kS l fz then (match st[l]? with
  | some ⟨.dyn,_,n,_,_,cs⟩=>.sl n cs
  | _=>.wref l) else .wref l
 | x=>x
def TM.E5 (f:PV->PV):TM->TM
 | .nil=>.nil
 | .node v l r=>.node (match v with
  | some x=>some (f x)
  | none=>none) (l.E5 f) (r.E5 f)
def aN.Ij (s:aN) (fz:List Nat):aN:=match s with
 | ⟨n,t,st,b,rl⟩=>⟨n,t.E5 (Q2 st fz),gX fz st,b,rl⟩
theorem TM.v8 (f:PV->PV):∀ (t:TM) (n:Nat),(t.E5 f).get n=(t.get n).map f
 | .nil,_=>rfl
 | .node v l r,n=>by
  show TM.get (.node (match v with
   | some x=>some (f x)
   | none=>none) (l.E5 f) (r.E5 f)) n=_
  rw[TM.get,TM.get]
  cases Nat.beq n 0<;>cases Nat.beq (n % 2) 1<;>simp only[cond_true,cond_false]
  ·exact TM.v8 f r _
  ·exact TM.v8 f l _
  ·cases v<;>rfl
  ·cases v<;>rfl
theorem nY {S:List an} {fz:List Nat} {l:Nat} {b:an} (hb:(gX fz S)[l]?=some b):∃ b0,S[l]?=some b0/\b = { b0 with m:=mH (kS l fz) b0.m }:=by
 unfold gX at hb
 rw[gj,Option.map_eq_some_iff] at hb
 obtain⟨b0,h1,h2⟩:=hb
 rw[Nat.zero_add] at h2
 exact⟨b0,h1,h2.symm⟩
theorem aL.Ij {S:List an} (hH:aL I β S w) (hM:d_ G I w) {fz:List Nat} (hz:Uk S fz=true):aL (gl I β S fz) β (gX fz S) w:=by
 refine⟨fun l hl=>hH.py l (by unfold gX at hl; rw[gk] at hl; exact hl),fun l b hb aF=>?_⟩
 obtain⟨b0,jL,rfl⟩:=nY hb
 obtain⟨p,hp,hk⟩:=hH.iI l b0 jL aF
 have yv:∀ g,I g->gl I β S fz g:=fun g h=>.inl h
 have own:∀ {g o:Nat} {fr:Nat × Nat},p.a=some (g,o)->Own I β S l g fr b0->Own (gl I β S fz) β (gX fz S) l g fr { b0 with m:=mH (kS l fz) b0.m }:=fun {g o fr} ha ho=>by
  refine⟨fun hm=>?_,fun hm=>?_⟩
  ·have sq:kS l fz=false/\b0.m≠.r:=by
    cases hc:kS l fz with
    | true=>simp only[hc,mH,cond_true,ne_eq,not_true_eq_false] at hm
    | false=>exact⟨rfl,by simpa only [hc,mH,cond_false] using hm⟩
   obtain⟨h1,h2,h3⟩:=ho.1 sq.2
   refine⟨h1,fun hI=>?_,fun l2 b2 cH gz bH p2 g2 o2 jN jM=>?_⟩
   ·rcases hI with hI|⟨l2,b2,p2,o2,gz,eG,bH,_,jN,jM⟩
    ·exact h2 hI
    ·refine h3 l2 b2 (fun e=>?_) eG bH p2 g o2 jN jM rfl
     subst e
     rw[dx.2 gz] at sq
     cases sq.1
   ·obtain⟨b3,ml,rfl⟩:=nY gz
    exact h3 l2 b3 cH ml bH p2 g2 o2 jN jM
  ·cases hc:kS l fz with
   | true =>
    obtain⟨b1,Gq,k1,k2⟩:=EB hz (dx.1 hc)
    rw[jL] at Gq; cases Gq
    exact .inr ⟨l,b0,p,o,dx.1 hc,jL,k1,k2,hp,ha⟩
   | false=>exact yv g (ho.2 (by simpa only [hc,mH,cond_false] using hm))
 have Kj:∀ g,I g->w.heap[g]?=w.heap[g]?:=fun _ _=>rfl
 refine⟨p,hp,?_⟩
 split at hk
 ·rename_i cQ
  obtain⟨g,o,arr,ty,fr,h1,h2,h3,ho⟩:=hk
  simp only[cQ]
  exact⟨g,o,arr,ty,fr,h1,h2,bg.mono yv Kj (fun _ _ h=>h) h3,own h1 ho⟩
 ·rename_i cQ
  obtain⟨g,arr,fr,h1,h2,h3,ho,h4⟩:=hk
  simp only[cQ]
  exact⟨g,arr,fr,h1,h2,bg.mono yv Kj (fun _ _ h=>h) h3,own h1 ho,h4⟩
 ·rename_i cQ
  obtain⟨h1,hk⟩:=hk
  simp only[cQ]
  refine⟨h1,?_⟩
  rcases hk with h|⟨g,arr,fr,h2,h3,h4,ho,h5⟩
  ·exact .inl h
  ·exact .inr ⟨g,arr,fr,h2,h3,cg.mono yv Kj _ _ _ _ rfl h4,own h2 ho,h5⟩
 ·rename_i cQ
  obtain⟨g,h1,h2,ho⟩:=hk
  simp only[cQ]
  exact⟨g,h1,h2,own h1 ho⟩
theorem Q3 {S:List an} (hH:aL I β S w) {fz:List Nat} (hz:Uk S fz=true) {x:PV} {v:Value} (hx:x.Is w I β v):(Q2 S fz x).Is w (gl I β S fz) β v:=by
 have pj:∀ y:PV,y.Is w I β v->y.Is w (gl I β S fz) β v:=fun y hy=>PV.Is.mono (fun _ h=>.inl h) (fun _ _=>rfl) y β β v (fun _ _ _ h=>h) hy
 unfold Q2
 split
 ·rename_i l
  cases hc:kS l fz with
  | false=>exact pj _ hx
  | true =>
   obtain⟨b,hb,aF,hm⟩:=EB hz (dx.1 hc)
   simp only[cond_true]
   split
   ·rename_i _ ty n m live cs hs
    rw[hb] at hs
    cases hs
    have h1:=uP hH (dx.1 hc) hb (n:=n) (es:=cs) (by
     simp only at aF hm
     show (bif live && Ih m && Nat.beq n n then cs=cs else False)
     rw[aF,hm,Nat.beq_refl]; exact rfl) hx
    exact PV.Is.mono (fun _ h=>h) (fun _ _=>rfl) _ no β v (fun l p hl=>by simp[PV.c9] at hl) h1
   ·exact pj _ hx
 ·exact pj _ hx
theorem Sub.freeze (fz:List Nat) (hz:Uk s.st fz=true):Sub G s (s.Ij fz):=fun I β a w hR=>by
 obtain⟨n,t,st,b,rl⟩:=s
 refine⟨gl I β st fz,β,⟨hR.small,hR.defers,hR.size,by show b<=(gX fz st).length; unfold gX; rw[gk]; exact hR.base,fun i x hx=>?_,hR.heap.Ij hR.aC hz,nN hR.heap hR.aC⟩,⟨⟨rfl,rfl,rfl,Nat.le_refl _,fun _ _ _=>rfl,fun g _ h=>?_,fun _ h=>.inl h,fun g _ h=>?_⟩,rfl,rfl,rfl,fun _ _ _=>rfl⟩⟩
 ·have dE:(t.E5 (Q2 st fz)).get i=some x:=hx
  rw[TM.v8,Option.map_eq_some_iff] at dE
  obtain⟨y,hy,rfl⟩:=dE
  obtain⟨v,hv,hi⟩:=hR.get i y hy
  exact⟨v,hv,Q3 hR.heap hz hi⟩
 ·obtain⟨l,b1,p,o,h1,h2,h3,h4,h5⟩:=h
  obtain⟨b0,jL,rfl⟩:=nY h1
  refine⟨l,b0,p,o,jL,h2,?_,h4,h5⟩
  cases hc:kS l fz with
  | true=>simp only[hc,mH,cond_true] at h3; cases h3
  | false=>simpa only [hc,mH,cond_false] using h3
 ·rcases h with h|⟨l,b1,p,o,hl,hb,aF,hm,hp,ha⟩
  ·exact .inl h
  ·cases pF:b1.m with
   | w=>exact .inr ⟨l,b1,p,o,hb,aF,pF,hp,ha⟩
   | p=>rw[pF] at hm; cases hm
   | r =>
    obtain⟨arr,ty,fr,_,ho⟩:=(hR.heap.iI l b1 hb aF).place hp ha
    exact .inl (ho.2 pF)
theorem SW.sub {c:Code} {Q:X->aN->Prop} {s s':aN} (h:Sub G s s') (h':SW G c Q s'):SW G c Q s:=SW.intro fun I β a w hR=>by
 obtain⟨I',aM,cd,hg⟩:=h I β a w hR
 exact h'.from cd hg
def aN.bare (s:aN) (vs:List (Nat × PV)) (st:List an):aN:=match s with
 | ⟨n,_,_,b,rl⟩=>⟨n,ll vs .nil,st,b,rl⟩
theorem SW.tU (hG:nC G) (R:List (Nat × aJ)) {α:Type} {c:Code} {Q:X->aN->Prop} (hc:b_ R c=true) (vs:α->List (Nat × PV)) (st:α->List an) (μ:α->Nat) (x0:α) (N:Nat) (O4:iM) (h0:lj G.cx O4 s (s.bare (vs x0) (st x0)))
  (h:∀ x,Ub (s.bare (vs x) (st x)) (pw G R N c (qV (fun s'=>∃ y π,μ y < μ x/\lj G.cx π s' (s.bare (vs y) (st y))) Q))):SW G (.loop c) Q s :=
 SW.inv hG (fun x=>s.bare (vs x) (st x)) μ (N:=N) hc x0 (aT hG.ok h0) (fun x s'=>∃ y π,μ y < μ x/\lj G.cx π s' (s.bare (vs y) (st y))) (fun x s' ⟨y,π,hy,hs⟩=>⟨y,hy,aT hG.ok hs⟩) fun x=>sS (h x)
theorem Spec.O3 (hG:nC G) {f:FuncId} {args:List PV} {S S':List an} {rl:List Nat} {K:PV->List an->Prop} (h:Spec G f args S' rl K) (π:iM) (hs:lj G.cx π ⟨0,.nil,S,S.length,[]⟩ ⟨0,.nil,S',S.length,[]⟩) (hu:(eu args).all (fun l=>Nat.blt l S.length)=true) (Sq:∀ l∈rl,S.length<=l):Spec G f args S [] K:=by
 refine Spec.intro h.run.1 fun I β w a_ hH hM hA=>?_
 have hR:Rel G I β ⟨0,.nil,S,S.length,[]⟩ { tmps:=#[],defers:=G.dfs } w:=⟨Nat.zero_le _,rfl,rfl,Nat.le_refl _,fun n x hx=>(by cases hx),hH,hM⟩
 obtain⟨I',aM,cd,hg⟩:=aT hG.ok hs I β _ w hR
 have Um:bp w I' args aM a_:=bp.mono hg.ext.aC (fun g A4=>hg.ext.block g (hM.aC g A4) (fun hw=>hH.pZ hw A4)) args β aM a_ (fun m p hm hp=>by
  rw[List.all_eq_true] at hu
  rw[hg.low m (Nat.le_of_ble_eq_true (hu m hm)) (by simp)]; exact hp) hA
 have hlen:S.length<=S'.length:=cd.base
 refine (h.run.2 I' aM w a_ cd.heap cd.aC Um).mono fun e w' ⟨v,r,S2,I2,jm,he,hK,hr,hH2,hM2,hE,hl,p7⟩=>?_
 refine⟨v,r,S2,I2,jm,he,hK,hr,hH2,hM2,hg.ext.trans hE,by omega,fun l kf _=>?_⟩
 rw[p7 l (by omega) (fun hm=>by have:=Sq l hm; omega)]
 exact hg.low l kf (by simp)
end
def xX (π:iM) (b:an) (q:an->Prop):Prop:=match b with
 | ⟨.dyn,ty,n,m,live,cs⟩=>q ⟨.dyn,ty,n,m,live,cs⟩
 | ⟨.mp,ty,n,m,live,cs⟩=>q ⟨.mp,ty,n,m,live,cs⟩
 | ⟨k,ty,n,m,live,cs⟩=>aP (ib π cs) fun cs=>q ⟨k,ty,n,m,live,cs⟩
def atK (π:iM) (st:List an):List Nat->List an->Prop->Prop
 | [],[],k=>k
 | l::σ,b'::S,k=>(aP st[l]? fun b=>xX π b' fun pY=>fT b pY)/\atK π st σ S k
 | _,_,_=>False
def toK (π:iM):List Nat->List an->List an->(List an->Prop)->Prop
 | [],[],st,k=>k st
 | l::σ,b'::S,st,k=>xX π b' fun pY=>frK pY fun pY=>xE st l pY fun st=>toK π σ S st k
 | _,_,_,_=>False
def MS (π:iM):List PV->List PV->Prop
 | [],[]=>True
 | x::xs,y::ys=>(aP (y.O3 π) fun z=>qC x z)/\MS π xs ys
 | _,_=>False
def nZ:List Nat->Bool
 | []=>true
 | l::σ=>!σ.any (Nat.beq l) && nZ σ
section
variable {w w':World} {I I':Nat->Prop} {β aM:ax} {G:Gx} {s:aN} {a:Act} {st eP:List an}
theorem Ao {π:iM} {b:an} {q:an->Prop} (h:xX π b q):∃ b2,q b2/\b2.k=b.k/\b2.ty=b.ty/\b2.size=b.size/\b2.m=b.m/\b2.live=b.live/\((b.k.xx=false/\b2.cs=b.cs)\/(b.k.xx=true/\ib π b.cs=some b2.cs)):=by
 obtain⟨k,ty,n,m,live,cs⟩:=b
 cases k
 ·obtain⟨ds,h1,h2⟩:=au h
  exact⟨_,h2,rfl,rfl,rfl,rfl,rfl,.inr ⟨rfl,h1⟩⟩
 ·obtain⟨ds,h1,h2⟩:=au h
  exact⟨_,h2,rfl,rfl,rfl,rfl,rfl,.inr ⟨rfl,h1⟩⟩
 ·exact⟨_,h,rfl,rfl,rfl,rfl,rfl,.inl ⟨rfl,rfl⟩⟩
 ·exact⟨_,h,rfl,rfl,rfl,rfl,rfl,.inl ⟨rfl,rfl⟩⟩
theorem MU {π:iM} {st:List an}:∀ {σ:List Nat} {S:List an} {k:Prop},atK π st σ S k->k/\σ.length=S.length/\∀ (i l:Nat) (b':an),σ[i]?=some l->S[i]?=some b'->∃ b,st[l]?=some b/\xX π b' fun pY=>fT b pY
 | [],[],k,h=>⟨h,rfl,fun i l b' hl=>by simp at hl⟩
 | l::σ,b'::S,k,h=>by
  obtain⟨h1,h2⟩:=h
  obtain⟨hk,hl,hh⟩:=MU h2
  obtain⟨b,hb,h1⟩:=au h1
  refine⟨hk,by simp[hl],fun i m c hm hc=>?_⟩
  cases i with
  | zero=>simp at hm hc; subst hm; subst hc; exact⟨b,hb,h1⟩
  | succ i=>exact hh i m c (by simpa using hm) (by simpa using hc)
 | [],_::_,_,h=>h.elim
 | _::_,[],_,h=>h.elim
theorem yP:∀ {σ:List Nat},nZ σ=true->∀ (i j l:Nat),σ[i]?=some l->σ[j]?=some l->i=j
 | [],_,i,j,l,h,_=>by simp at h
 | m::σ,h,i,j,l,hi,hj=>by
  simp only[nZ,Bool.and_eq_true,Bool.not_eq_true',List.any_eq_false] at h
  have hn:∀ k,σ[k]?=some m->False:=fun k hk=>h.1 m (List.mem_of_getElem? hk) (Nat.beq_refl m)
  cases i with
  | zero=>cases j with
   | zero=>rfl
   | succ j=>simp at hi hj; subst hi; exact (hn j hj).elim
  | succ i=>cases j with
   | zero=>simp at hi hj; subst hj; exact (hn i hi).elim
   | succ j=>simp at hi hj; rw[yP h.2 i j l hi hj]
theorem MV {π:iM}:∀ {σ:List Nat} {S:List an} {st:List an} {k:List an->Prop},nZ σ=true->toK π σ S st k->∃ eP,k eP/\eP.length=st.length/\(∀ l,l ∉ σ->eP[l]?=st[l]?)/\∀ (i l:Nat) (b':an),σ[i]?=some l->S[i]?=some b'->xX π b' fun pY=>eP[l]?=some pY
 | [],[],st,k,_,h=>⟨st,h,rfl,fun _ _=>rfl,fun i l b' hl=>by simp at hl⟩
 | l::σ,b'::S,st,k,hd,h=>by
  have xC:=hd
  simp only[nZ,Bool.and_eq_true,Bool.not_eq_true',List.any_eq_false] at hd
  have hnm:l ∉ σ:=fun hm=>hd.1 l hm (Nat.beq_refl l)
  
  have key:∀ {c:an} {q:an->Prop},(xX π b' fun pY=>q pY)->∃ b2,q b2/\∀ q2:an->Prop,q2 b2->xX π b' q2:=fun {c q} hq=>by
   obtain⟨k0,ty,n,m,live,cs⟩:=b'
   cases k0
   ·obtain⟨ds,h1,h2⟩:=au hq
    exact⟨_,h2,fun q2 Q4=>by show aP (ib π cs) _; rw[h1]; exact Q4⟩
   ·obtain⟨ds,h1,h2⟩:=au hq
    exact⟨_,h2,fun q2 Q4=>by show aP (ib π cs) _; rw[h1]; exact Q4⟩
   ·exact⟨_,hq,fun q2 Q4=>Q4⟩
   ·exact⟨_,hq,fun q2 Q4=>Q4⟩
  obtain⟨b2,h2,Q4⟩:=key (c:=b') (q:=fun pY=>frK pY fun pY=>xE st l pY fun st=>toK π σ S st k) h
  obtain⟨ch,h3⟩:=kP (Ez h2)
  obtain⟨eP,hk,hlen,jk,K9⟩:=MV hd.2 h3
  refine⟨eP,hk,by rw[hlen,List.length_set],fun m hm=>?_,fun i m c hm hc=>?_⟩
  ·rw[jk m (fun hx=>hm (List.mem_cons_of_mem _ hx)),List.getElem?_set_ne (fun e=>hm (by rw[e]; exact List.mem_cons_self))]
  ·cases i with
   | zero =>
    simp at hm hc; subst hm; subst hc
    refine Q4 _ ?_
    rw[jk l hnm,List.getElem?_set_self ch]
   | succ i=>exact K9 i m c (by simpa using hm) (by simpa using hc)
 | [],_::_,_,_,_,h=>h.elim
 | _::_,[],_,_,_,h=>h.elim
theorem GM {π:iM}:∀ {xs ys:List PV} {vs:List Value},MS π xs ys->bp w I xs β vs->bp w I ys (km β π) vs
 | [],[],vs,_,h=>by cases vs with
  | nil=>simp only[bp]
  | cons v vs=>simp only[bp] at h
 | x::xs,y::ys,vs,h,hx=>by
  cases vs with
  | nil=>simp only[bp] at hx
  | cons v vs =>
   simp only[bp] at hx ⊢
   obtain⟨z,hz,hle⟩:=au h.1
   exact⟨Lr hz (fZ hle _ _ _ _ hx.1),GM h.2 hx.2⟩
 | [],_::_,_,h,_=>h.elim
 | _::_,[],_,h,_=>h.elim
theorem ry {π:iM} {x y:PV} {v:Value} (h:x.BI π=some y) (hx:x.Is w I (km β π) v):y.Is w I β v:=by
 unfold PV.BI at h
 split at h
 ·split at h
  ·rename_i m hm
   cases h
   simp only[PV.Is] at hx ⊢
   rw[ct hm] at hx; exact hx
  ·rename_i hm
   cases h
   simp only[PV.Is] at hx ⊢
   obtain⟨p,hp,hv⟩:=hx
   rw[lQ hm] at hp; cases hp; exact hv
  ·cases h
 ·split at h
  ·rename_i m hm
   cases h
   simp only[PV.Is] at hx ⊢
   rw[ct hm] at hx; exact hx
  ·cases h
 ·split at h
  ·rename_i m hm
   cases h
   simp only[PV.Is] at hx ⊢
   rw[ct hm] at hx; exact hx
  ·cases h
 ·split at h
  ·rename_i m hm
   cases h
   simp only[PV.Is] at hx ⊢
   rw[ct hm] at hx; exact hx
  ·cases h
 ·split at h
  ·rename_i m hm
   cases h
   simp only[PV.Is] at hx ⊢
   rw[ct hm] at hx; exact hx
  ·cases h
 ·split at h
  ·rename_i m hm
   cases h
   simp only[PV.Is] at hx ⊢
   rw[ct hm] at hx; exact hx
  ·cases h
 ·cases h
 ·cases h
 ·cases h
 ·cases h
  refine PV.Is.mono (fun _ h=>h) (fun _ _=>rfl) x _ β v (fun l p hl=>?_) hx
  cases x<;>first|(simp_all [PV.c9]; done)|(rename_i a1 a2 a3 a4 a5 a6 a7 a8 a9; first|exact (a4 _ _ _ _ rfl).elim|exact (a5 _ _ _ _ rfl).elim|exact (a6 _ _ _ _ rfl).elim)
theorem ku {π:iM}:∀ {xs ys:List PV} {i:Nat},ib π xs=some ys->(∀ y,ys[i]?=some y->∃ x,xs[i]?=some x/\x.BI π=some y)/\(∀ x,xs[i]?=some x->∃ y,ys[i]?=some y/\x.BI π=some y)/\ys.length=xs.length
 | [],ys,i,h=>by
  simp only[ib,Option.some.injEq] at h
  subst h
  exact⟨fun y hy=>by simp at hy,fun x hx=>by simp at hx,rfl⟩
 | x::xs,ys,i,h=>by
  simp only[ib] at h
  split at h
  ·rename_i y l h1 h2
   cases h
   obtain⟨a1,a2,a3⟩:=ku (i:=i - 1) h2
   cases i with
   | zero=>exact⟨fun z hz=>by simp at hz; subst hz; exact⟨x,rfl,h1⟩,fun z hz=>by simp at hz; subst hz; exact⟨y,rfl,h1⟩,by simp[a3]⟩
   | succ i=>exact⟨fun z hz=>by simpa using a1 z (by simpa using hz),fun z hz=>by simpa using a2 z (by simpa using hz),by simp[a3]⟩
  ·cases h
theorem ji.tr {l l':Nat} {b b':an} (hb:ji I β st w l b) (p7:∀ p,β l=some p->aM l'=some p) (hI:∀ g,I g->I' g) (hw:∀ g,I g->w'.heap[g]?=w.heap[g]?)
  (hg:∀ p g o,β l=some p->p.a=some (g,o)->w'.heap[g]?=w.heap[g]?) (dj:∀ p g o fr,β l=some p->p.a=some (g,o)->Own I β st l g fr b->Own I' aM eP l' g fr b')
  (hk:b'.k=b.k) (La:b'.ty=b.ty) (fY:b'.size=b.size) (jA:b.k.xx=false->b'.cs=b.cs) (hlen:b'.cs.length=b.cs.length)
  (p8:b.k.xx=true->∀ (arr:Array Value) (o:Nat),bg w I β b.cs arr o->bg w' I' aM b'.cs arr o):ji I' aM eP w' l' b':=by
 obtain⟨p,hp,cQ⟩:=hb
 refine⟨p,p7 p hp,?_⟩
 rw[hk]
 split at cQ
 ·rename_i he
  obtain⟨g,o,arr,ty,fr,ha,hh,hc,ho⟩:=cQ
  exact⟨g,o,arr,ty,fr,ha,(hg p g o hp ha).trans hh,p8 (by rw[he]; rfl) arr o hc,dj p g o fr hp ha ho⟩
 ·rename_i he
  obtain⟨g,arr,fr,ha,hh,hc,ho,h1,h2,h3,h4,h5⟩:=cQ
  exact⟨g,arr,fr,ha,by rw[La]; exact (hg p g 0 hp ha).trans hh,p8 (by rw[he]; rfl) arr 0 hc,dj p g 0 fr hp ha ho,by rw[hlen,fY]; exact h1,h2,h3,by rw[fY]; exact h4,by rw[fY]; exact h5⟩
 ·rename_i he
  obtain⟨⟨h1,h2,h3,h4⟩,cQ⟩:=cQ
  have ph:=jA (by rw[he]; rfl)
  refine⟨⟨by rw[fY]; exact h1,by rw[ph]; exact h2,h3,h4⟩,?_⟩
  rcases cQ with h|⟨g,arr,fr,ha,hh,hc,ho,h5⟩
  ·exact .inl h
  ·exact .inr ⟨g,arr,fr,ha,by rw[La]; exact (hg p g 0 hp ha).trans hh,by rw[ph,fY]; exact cg.mono hI hw _ _ _ _ (hg p g 0 hp ha) hc,dj p g 0 fr hp ha ho,by rw[fY]; exact h5⟩
 ·rename_i he
  obtain⟨g,ha,hm,ho⟩:=cQ
  have ph:=jA (by rw[he]; rfl)
  exact⟨g,ha,by rw[ph]; exact hm.pj (hg p g 0 hp ha),dj p g 0 _ hp ha ho⟩
theorem Spec.Cz {f:FuncId} {args bf:List PV} {r0:PV} {S0 S1:List an} {K:PV->List an->Prop} (σ:List Nat) (h:Spec G f bf S0 [] fun r S'=>r=r0/\S'=S1) (hm:nc S0 S1=true) (z4:r0.c9 = []) (hσ:nZ σ=true)
  (hle:MS (σ.map some) args bf) (hK:atK (σ.map some) st σ S0 (toK (σ.map some) σ S1 st (K r0))):Spec G f args st [] K:=by
 obtain⟨hk,Ke,z7⟩:=MU hK
 obtain⟨eP,nq,hlen',jk,K9⟩:=MV hσ hk
 obtain⟨uQ,Ga⟩:=q_ hm
 have hdup:=yP hσ
 have O5:∀ {i l:Nat},σ[i]?=some l->(σ.map some)[i]?=some (some l):=fun {i l} h=>by rw[List.getElem?_map,h]; rfl
 refine Spec.intro h.run.1 fun I β w a_ hH hM hA=>?_
 obtain⟨jE,MW⟩:∃ jE:ax,jE=km β (σ.map some):=⟨_,rfl⟩
 have lR:∀ {i l:Nat},σ[i]?=some l->jE i=β l:=fun {i l} h=>by rw[MW]; exact ct (O5 h)
 have hβo:∀ {i:Nat},S0.length<=i->jE i=none:=fun {i} h=>by
  rw[MW]; unfold km; rw[List.getElem?_eq_none (by rw[List.length_map]; omega)]
 have idx:∀ {i:Nat},i < S0.length->∃ l,σ[i]?=some l:=fun {i} h=>⟨σ[i]'(by omega),List.getElem?_eq_getElem (by omega)⟩
 have uw:∀ {i:Nat} {b':an},S0[i]?=some b'->∃ l b b2,σ[i]?=some l/\st[l]?=some b/\fT b b2/\b2.k=b'.k/\b2.ty=b'.ty/\b2.size=b'.size/\b2.m=b'.m/\b2.live=b'.live/\((b'.k.xx=false/\b2.cs=b'.cs)\/(b'.k.xx=true/\ib (σ.map some) b'.cs=some b2.cs)):=fun {i b'} dw=>by
  obtain⟨l,hl⟩:=idx (List.getElem?_eq_some_iff.1 dw).1
  obtain⟨b,hb,hr⟩:=z7 i l b' hl dw
  obtain⟨b2,h1,h2⟩:=Ao hr
  exact⟨l,b,b2,hl,hb,h1,h2⟩
 
 have MX:∀ {i:Nat} {b':an},S0[i]?=some b'->∃ l b,σ[i]?=some l/\st[l]?=some b/\b.live=true/\b.m=b'.m:=fun {i b'} dw=>by
  obtain⟨l,b,b2,hl,hb,h1,h2,h3,h4,h5,h6,h7⟩:=uw dw
  obtain⟨e1,e2,e3,e4,e5,e6,e7⟩:=cX h1
  exact⟨l,b,hl,hb,e4,e3.trans h5⟩
 have SJ:aL I jE S0 w:=by
  refine⟨fun i hi=>hβo hi,fun i b' dw aF=>?_⟩
  obtain⟨l,b,b2,hl,hb,h1,h2,h3,h4,h5,h6,h7⟩:=uw dw
  obtain⟨e1,e2,e3,e4,e5,e6,e7⟩:=cX h1
  have hB:=hH.iI l b hb e4
  refine hB.tr (fun p hp=>(lR hl).trans hp) (fun _ h=>h) (fun _ _=>rfl) (fun _ _ _ _ _=>rfl) (fun p g o fr hp ha ho=>⟨fun hr=>?_,fun hr=>ho.2 (by rw[e3,h5]; exact hr)⟩) (h2.symm.trans e6.symm) (h3.symm.trans e1.symm) (h4.symm.trans e2.symm) (fun hc=>?_) ?_ (fun hc arr o uL=>?_)
  ·obtain⟨q1,q2,q3⟩:=ho.1 (by rw[e3,h5]; exact hr)
   refine⟨q1,q2,fun i2 b2' cH eG bH p2 g2 o2 jN jM=>?_⟩
   obtain⟨l2,b3,gz,ml,MY,_⟩:=MX eG
   exact q3 l2 b3 (fun e=>cH (hdup i2 i l (by rw[← e]; exact gz) hl)) ml MY p2 g2 o2 ((lR gz).symm.trans jN) jM
  ·rcases h7 with ⟨_,h7⟩|⟨h7,_⟩
   ·rcases e7 with ⟨_,e7⟩|⟨e7,_⟩
    ·rw[← h7,e7]
    ·rw[hc] at e7; cases e7
   ·rw[← h2,← e6,hc] at h7; cases h7
  ·have:b2.cs.length=b.cs.length:=by
    rcases e7 with ⟨_,e7⟩|⟨_,e7⟩
    ·rw[e7]
    ·exact (oJ e7).symm
   rcases h7 with ⟨_,h7⟩|⟨_,h7⟩
   ·rw[← h7,this]
   ·rw[← (ku (i:=0) h7).2.2,this]
  ·have hca2:bg w I β b2.cs arr o:=by
    rcases e7 with ⟨hd,_⟩|⟨_,h8⟩
    ·rw[hc] at hd; cases hd
    ·exact j8 h8 uL
   rcases h7 with ⟨hd,_⟩|⟨_,h7⟩
   ·rw[← h2,← e6,hc] at hd; cases hd
   ·intro j c hj
    obtain⟨y,hy,Je⟩:=(ku (i:=j) h7).2.1 c hj
    obtain⟨v,hv,hi,h1⟩:=hca2 j y hy
    exact⟨v,hv,by rw[MW]; exact uN Je hi,h1⟩
 have Um:bp w I bf jE a_:=by rw[MW]; exact GM hle hA
 refine (h.run.2 I jE w a_ SJ hM Um).mono fun e w' ⟨v,r,S',I',aM,he,⟨e1,e2⟩,hi,rb,oL,hE,hlen,p7⟩=>?_
 subst e1; subst e2
 obtain rfl:aM=jE:=funext fun i=>by
  by_cases hi:i < S0.length
  ·exact p7 i hi (by simp)
  ·rw[hβo (by omega),rb.py i (by omega)]
 have mem:∀ {l:Nat},l∈σ->∃ i,σ[i]?=some l/\i < S0.length:=fun {l} hl=>by
  obtain⟨i,hi,e⟩:=List.getElem_of_mem hl
  exact⟨i,by rw[List.getElem?_eq_getElem hi,e],by omega⟩
 have LL:∀ {g},Wr aM S0 g->Wr β st g:=fun {g} ⟨i,b,p,o,h1,h2,h3,h4,h5⟩=>by
  obtain⟨l,b2,hl,eG,O2,pF⟩:=MX h1
  exact⟨l,b2,p,o,eG,O2,by rw[pF]; exact h3,(lR hl).symm.trans h4,h5⟩
 
 have apart:∀ {l:Nat} {b:an} {p:tI} {g o:Nat},l ∉ σ->st[l]?=some b->b.live=true->β l=some p->p.a=some (g,o)->¬ Wr aM S0 g:=fun {l b p g o} hl hb aF hp ha ⟨i,b2,p2,o2,h1,h2,h3,h4,h5⟩=>by
  obtain⟨l2,b3,gz,ml,O2,pF⟩:=MX h1
  obtain⟨arr,ty,fr,ho⟩:=(hH.iI l2 b3 ml O2).place ((lR gz).symm.trans h4) h5
  exact (ho.2.1 (by rw[pF,h3]; nofun)).2.2 l b (fun e=>hl (e ▸ List.mem_of_getElem? gz)) hb aF p g o hp ha rfl
 
 have new:∀ {i l:Nat} {b':an},σ[i]?=some l->S'[i]?=some b'->∃ b2,eP[l]?=some b2/\b2.k=b'.k/\b2.ty=b'.ty/\b2.size=b'.size/\b2.m=b'.m/\b2.live=b'.live/\((b'.k.xx=false/\b2.cs=b'.cs)\/(b'.k.xx=true/\ib (σ.map some) b'.cs=some b2.cs)):=fun {i l b'} hl dw=>Ao (K9 i l b' hl dw)
 have inS:∀ {i:Nat},i < S0.length->∃ b',S'[i]?=some b':=fun {i} h=>⟨S'[i]'(by omega),List.getElem?_eq_getElem (by omega)⟩
 have wr1:∀ {g},Wr β eP g->(Wr aM S' g)\/∃ l b p o,l ∉ σ/\st[l]?=some b/\b.live=true/\b.m = .w/\β l=some p/\p.a=some (g,o):=fun {g} ⟨l,b,p,o,h1,h2,h3,h4,h5⟩=>by
  by_cases hl:l∈σ
  ·obtain⟨i,hi,ch⟩:=mem hl
   obtain⟨b',dw⟩:=inS ch
   obtain⟨b2,eG,q1,q2,q3,q4,q5,_⟩:=new hi dw
   rw[eG] at h1
   cases h1
   exact .inl ⟨i,b',p,o,dw,by rw[← q5]; exact h2,by rw[← q4]; exact h3,(lR hi).trans h4,h5⟩
  ·exact .inr ⟨l,b,p,o,hl,(jk l hl).symm.trans h1,h2,h3,h4,h5⟩
 refine⟨v,r,eP,I',β,he,nq,oK z4 hi,⟨fun l hl=>hH.py l (by omega),fun l b hb aF=>?_⟩,oL,⟨hE.os,hE.tape,hE.output,hE.size,fun g hg hn=>hE.block g hg fun h=>hn (LL h),fun g hg h=>?_,hE.aC,fun g hg h=>(hE.new g hg h).imp id LL⟩,by omega,fun _ _ _=>rfl⟩
 ·by_cases hl:l∈σ
  ·obtain⟨i,hi,ch⟩:=mem hl
   obtain⟨b',dw⟩:=inS ch
   obtain⟨b2,eG,q1,q2,q3,q4,q5,q6⟩:=new hi dw
   rw[eG] at hb
   cases hb
   have hB:=rb.iI i b' dw (by rw[← q5]; exact aF)
   refine hB.tr (fun p hp=>(lR hi).symm.trans hp) (fun _ h=>h) (fun _ _=>rfl) (fun _ _ _ _ _=>rfl) (fun p g o fr hp ha ho=>⟨fun hr=>?_,fun hr=>ho.2 (by rw[← q4]; exact hr)⟩) q1 q2 q3 (fun hc=>?_) ?_ (fun hc arr o uL=>?_)
   ·obtain⟨x1,x2,x3⟩:=ho.1 (by rw[← q4]; exact hr)
    refine⟨x1,x2,fun l2 c2 cH ph bH p2 g2 o2 jN jM=>?_⟩
    by_cases gz:l2∈σ
    ·obtain⟨i2,D2,zM⟩:=mem gz
     obtain⟨b3',hb3'⟩:=inS zM
     obtain⟨b3,ml,_,_,_,_,y5,_⟩:=new D2 hb3'
     rw[ml] at ph
     cases ph
     exact x3 i2 b3' (fun e=>cH (Option.some.inj (by rw[← hi,← D2,e]))) hb3' (by rw[← y5]; exact bH) p2 g2 o2 ((lR D2).trans jN) jM
    ·have hc2':st[l2]?=some c2:=(jk l2 gz).symm.trans ph
     obtain⟨b0,jL⟩:∃ b0,S0[i]?=some b0:=⟨S0[i]'ch,List.getElem?_eq_getElem ch⟩
     obtain⟨l3,b3,Sh,ml,MY,hmm3⟩:=MX jL
     obtain rfl:l3=l:=Option.some.inj (Sh.symm.trans hi)
     obtain⟨_,q7⟩:=Ga i b0 b' jL dw
     obtain⟨_,_,fr3,_,ho3⟩:=(hH.iI l3 b3 ml MY).place ((lR hi).symm.trans hp) ha
     exact (ho3.1 (by rw[hmm3,q7,← q4]; exact hr)).2.2 l2 c2 cH hc2' bH p2 g2 o2 jN jM
   ·rcases q6 with ⟨_,q6⟩|⟨q6,_⟩
    ·exact q6
    ·rw[hc] at q6; cases q6
   ·rcases q6 with ⟨_,q6⟩|⟨_,q6⟩
    ·rw[q6]
    ·exact (ku (i:=0) q6).2.2
   ·rcases q6 with ⟨hd,_⟩|⟨_,q6⟩
    ·rw[hc] at hd; cases hd
    ·intro j c hj
     obtain⟨y,hy,Je⟩:=(ku (i:=j) q6).1 c hj
     obtain⟨u,hu,hiu,h1⟩:=uL j y hy
     exact⟨u,hu,ry Je (by rw[← MW]; exact hiu),h1⟩
  ·have dw:st[l]?=some b:=(jk l hl).symm.trans hb
   have hB:=hH.iI l b dw aF
   have same:∀ {p g o},β l=some p->p.a=some (g,o)->g < w.heap.size/\w'.heap[g]?=w.heap[g]?:=fun {p g o} hp ha=>by
    have ch:=hH.dk ⟨l,b,p,o,dw,aF,hp,ha⟩
    exact⟨ch,hE.block g ch (apart hl dw aF hp ha)⟩
   refine hB.mono hE.aC (fun g hg=>hE.block g (hM.aC g hg) fun hw=>?_) (fun _ _ h=>h) fun p g o hp ha=>⟨(same hp ha).2,fun hr=>?_⟩
   ·exact SJ.pZ hw hg
   ·obtain⟨arr,ty,fr,hh,ho⟩:=hB.place hp ha
    obtain⟨h1,h2,h3⟩:=ho.1 hr
    refine⟨fun hI=>(hE.new g (same hp ha).1 hI).elim h2 (apart hl dw aF hp ha),fun l2 b2 cH eG bH p2 g2 o2 jN jM=>?_⟩
    by_cases gz:l2∈σ
    ·obtain⟨i2,D2,zM⟩:=mem gz
     obtain⟨b0,jL⟩:∃ b0,S0[i2]?=some b0:=⟨S0[i2]'zM,List.getElem?_eq_getElem zM⟩
     obtain⟨l3,b3,Sh,ml,MY,_⟩:=MX jL
     obtain rfl:l3=l2:=Option.some.inj (Sh.symm.trans D2)
     exact h3 l3 b3 cH ml MY p2 g2 o2 jN jM
    ·exact h3 l2 b2 cH ((jk l2 gz).symm.trans eG) bH p2 g2 o2 jN jM
 ·rcases wr1 h with h|⟨l,b,p,o,_,h2,h3,h4,h5,h6⟩
  ·exact LL (hE.wr g hg h)
  ·exact⟨l,b,p,o,h2,h3,h4,h5,h6⟩
end
def S_:Nat->Nat->iM
 | _,0=>[]
 | n,k+1=>some n::S_ (n+1) k
def CA (π:iM):List PV->Option (List PV)
 | []=>some []
 | c::cs=>(match c.O3 π,CA π cs with
  | some x,some l=>some (x::l)
  | _,_=>none)
def PV.Y2 (π:iM) (x:PV):Option PV:=match x with
 | .tup cs=>(CA π cs).map .tup
 | x=>x.O3 π
def Y3 (π:iM):List an->List an->(List an->Prop)->Prop
 | [],st,k=>k st
 | b::S,st,k=>xX π b fun b=>frK b fun b=>Ec st b fun st=>Y3 π S st k
section
variable {w w':World} {I I':Nat->Prop} {β aM:ax} {G:Gx} {s:aN} {a:Act} {st eP:List an}
theorem Ap:∀ {k n i:Nat},(S_ n k)[i]?=if i < k then some (some (n+i)) else none
 | 0,n,i=>by simp[S_]
 | k+1,n,0=>by simp[S_]
 | k+1,n,i+1=>by
  rw[S_,List.getElem?_cons_succ,Ap]
  simp only[Nat.add_lt_add_iff_right,show n+1+i=n+(i+1) by omega]
theorem v9 {π:iM}:∀ {xs ys:List PV} {vs:List Value},ib π xs=some ys->bp w I xs (km β π) vs->bp w I ys β vs
 | [],ys,vs,h,hx=>by
  simp only[ib,Option.some.injEq] at h
  subst h
  cases vs with
  | nil=>simp only[bp]
  | cons v vs=>simp only[bp] at hx
 | x::xs,ys,vs,h,hx=>by
  simp only[ib] at h
  split at h
  ·rename_i y l h1 h2
   cases h
   cases vs with
   | nil=>simp only[bp] at hx
   | cons v vs =>
    simp only[bp] at hx ⊢
    exact⟨ry h1 hx.1,v9 h2 hx.2⟩
  ·cases h
theorem GN {π:iM} {x y:PV} {v:Value} (h:x.O3 π=some y) (hx:x.Is w I (km β π) v):y.Is w I β v:=by
 unfold PV.O3 at h
 split at h
 ·rw[Option.map_eq_some_iff] at h
  obtain⟨l,hl,rfl⟩:=h
  simp only[PV.Is] at hx ⊢
  obtain⟨vs,rfl,hx⟩:=hx
  exact⟨vs,rfl,v9 hl hx⟩
 ·rw[Option.map_eq_some_iff] at h
  obtain⟨l,hl,rfl⟩:=h
  simp only[PV.Is] at hx ⊢
  obtain⟨vs,rfl,hx⟩:=hx
  exact⟨vs,rfl,v9 hl hx⟩
 ·cases h
 ·exact ry h hx
theorem yQ {π:iM}:∀ {xs ys:List PV} {vs:List Value},CA π xs=some ys->bp w I xs (km β π) vs->bp w I ys β vs
 | [],ys,vs,h,hx=>by
  simp only[CA,Option.some.injEq] at h
  subst h
  cases vs with
  | nil=>simp only[bp]
  | cons v vs=>simp only[bp] at hx
 | x::xs,ys,vs,h,hx=>by
  simp only[CA] at h
  split at h
  ·rename_i y l h1 h2
   cases h
   cases vs with
   | nil=>simp only[bp] at hx
   | cons v vs =>
    simp only[bp] at hx ⊢
    exact⟨GN h1 hx.1,yQ h2 hx.2⟩
  ·cases h
theorem MZ {π:iM} {x y:PV} {v:Value} (h:x.Y2 π=some y) (hx:x.Is w I (km β π) v):y.Is w I β v:=by
 unfold PV.Y2 at h
 split at h
 ·rw[Option.map_eq_some_iff] at h
  obtain⟨l,hl,rfl⟩:=h
  simp only[PV.Is] at hx ⊢
  obtain⟨vs,rfl,hx⟩:=hx
  exact⟨vs,rfl,yQ hl hx⟩
 ·exact GN h hx
theorem GO:∀ {l:List an} {b:an} {q:List an->Prop},Ec l b q->q (l++[b])
 | [],_,_,h=>h
 | c::l,b,q,h=>GO (l:=l) (q:=fun x=>q (c::x)) h
theorem GP {π:iM}:∀ {S st:List an} {k:List an->Prop},Y3 π S st k->∃ S2,k (st++S2)/\S2.length=S.length/\∀ (i:Nat) (b:an),S[i]?=some b->∃ b2,S2[i]?=some b2/\b2.k=b.k/\b2.ty=b.ty/\b2.size=b.size/\b2.m=b.m/\b2.live=b.live/\((b.k.xx=false/\b2.cs=b.cs)\/(b.k.xx=true/\ib π b.cs=some b2.cs))
 | [],st,k,h=>⟨[],by rw[List.append_nil]; exact h,rfl,fun i b hb=>by simp at hb⟩
 | c::S,st,k,h=>by
  obtain⟨b2,h1,h2⟩:=Ao h
  obtain⟨S2,hk,hl,hh⟩:=GP (GO (Ez h1))
  refine⟨b2::S2,by rw[List.append_assoc] at hk; exact hk,by simp[hl],fun i b hb=>?_⟩
  cases i with
  | zero=>simp at hb; subst hb; exact⟨b2,rfl,h2⟩
  | succ i=>simpa using hh i b (by simpa using hb)
theorem Spec.useNews {f:FuncId} {args bf:List PV} {r0:PV} {S1:List an} {K:PV->List an->Prop} (h:Spec G f bf [] [] fun r S'=>r=r0/\S'=S1) (cA:S1.all (fun b=>b.live && Md.beq b.m .w)=true) (hle:na qC args bf) (hu:eu bf = [])
  (hK:pf st 0 fun n=>Y3 (S_ n S1.length) S1 st fun st2=>aP (r0.Y2 (S_ n S1.length)) fun r=>K r st2):Spec G f args st [] K:=by
 replace hK:=iY hK
 rw[Nat.zero_add] at hK
 obtain⟨S2,hk,hlen,hnew⟩:=GP hK
 obtain⟨r2,O8,nq⟩:=au hk
 refine Spec.intro h.run.1 fun I β w a_ hH hM hA=>?_
 have h0:aL I (fun _=>none) ([]:List an) w:=⟨fun _ _=>rfl,fun l b hl=>by simp at hl⟩
 refine (h.run.2 I (fun _=>none) w a_ h0 hM (mF hu (kl (fun _ _=>fZ) hle hA))).mono fun e w' ⟨v,r,S',I',β1,he,⟨e1,e2⟩,hi,rb,oL,hE,_,_⟩=>?_
 subst e1; subst e2
 have tO:∀ g,¬ Wr (fun _=>none) ([]:List an) g:=fun g ⟨l,b,p,o,h1,_⟩=>by simp at h1
 have hold:∀ g,g < w.heap.size->w'.heap[g]?=w.heap[g]?:=fun g hg=>hE.block g hg (tO g)
 have Lz:∀ g,g < w.heap.size->I' g->I g:=fun g hg h=>(hE.new g hg h).elim id fun h=>absurd h (tO g)
 have hlw:∀ {i:Nat} {b:an},S'[i]?=some b->b.live=true/\b.m = .w:=fun {i b} hb=>by
  rw[List.all_eq_true] at cA
  have:=cA b (List.mem_of_getElem? hb)
  simp only[Bool.and_eq_true] at this
  exact⟨this.1,Md.qa this.2⟩
 have gI:∀ {i:Nat} {p:tI} {g o:Nat},β1 i=some p->p.a=some (g,o)->w.heap.size<=g:=fun {i p g o} hp ha=>by
  have ch:=rb.lt hp
  obtain⟨b,hb⟩:∃ b,S'[i]?=some b:=⟨S'[i],List.getElem?_eq_getElem ch⟩
  rcases Nat.lt_or_ge g w.heap.size with hg|hg
  ·exact absurd (hE.wr g hg ⟨i,b,p,o,hb,(hlw hb).1,(hlw hb).2,hp,ha⟩) (tO g)
  ·exact hg
 obtain⟨jm,eβ⟩:∃ jm:ax,jm=fun l=>if l < st.length then β l else β1 (l - st.length):=⟨_,rfl⟩
 have hlo:∀ {l},l < st.length->jm l=β l:=fun {l} h=>by rw[eβ]; exact if_pos h
 have Q5:∀ {i},jm (st.length+i)=β1 i:=fun {i}=>by rw[eβ]; show (if st.length+i < st.length then _ else _)=_; rw[if_neg (by omega),Nat.add_sub_cancel_left]
 have Je:km jm (S_ st.length S'.length)=β1:=funext fun i=>by
  by_cases h:i < S'.length
  ·rw[ct (m:=st.length+i) (by rw[Ap,if_pos h]),Q5]
  ·unfold km
   rw[Ap,if_neg h]
   exact (rb.py i (by omega)).symm
 have hmono:∀ l p,β l=some p->jm l=some p:=fun l p hp=>by rw[hlo (hH.lt hp)]; exact hp
 have gh:∀ g,lE β st g->g < w.heap.size:=fun g hg=>hH.dk hg
 refine⟨v,r2,st++S2,I',jm,he,nq,MZ O8 (by rw[Je]; exact hi),⟨fun l hl=>?_,fun l b hb aF=>?_⟩,oL,⟨hE.os,hE.tape,hE.output,hE.size,fun g hg _=>hold g hg,fun g hg ⟨l,b,p,o,h1,h2,h3,h4,h5⟩=>?_,hE.aC,fun g hg h=>.inl (Lz g hg h)⟩,by simp,fun l hl _=>hlo hl⟩
 ·rw[List.length_append] at hl
  have:=Q5 (i:=l - st.length)
  rw[show st.length+(l - st.length)=l by omega] at this
  rw[this]; exact rb.py _ (by omega)
 ·by_cases hl:l < st.length
  ·rw[List.getElem?_append_left hl] at hb
   have hB:=hH.iI l b hb aF
   refine hB.mono hE.aC (fun g hg=>hold g (hM.aC g hg)) hmono fun p g o hp ha=>?_
   obtain⟨arr,ty,fr,hh,ho⟩:=hB.place hp ha
   have ch:=dD hh
   refine⟨hold g ch,fun hr=>⟨fun hI=>(ho.1 hr).2.1 (Lz g ch hI),fun l' b' cH dw gF p' g' o' e_ fW=>?_⟩⟩
   by_cases kf:l' < st.length
   ·rw[List.getElem?_append_left kf] at dw
    exact (ho.1 hr).2.2 l' b' cH dw gF p' g' o' (by rw[← hlo kf]; exact e_) fW
   ·have e:=Q5 (i:=l' - st.length)
    rw[show st.length+(l' - st.length)=l' by omega] at e
    have:=gI (by rw[← e]; exact e_) fW
    omega
  ·obtain⟨i,rfl⟩:∃ i,l=st.length+i:=⟨l - st.length,by omega⟩
   rw[List.getElem?_append_right (by omega),Nat.add_sub_cancel_left] at hb
   have ch:i < S'.length:=by rw[← hlen]; exact (List.getElem?_eq_some_iff.1 hb).1
   obtain⟨b',dw⟩:∃ b,S'[i]?=some b:=⟨S'[i],List.getElem?_eq_getElem ch⟩
   obtain⟨b2,eG,q1,q2,q3,q4,q5,q6⟩:=hnew i b' dw
   obtain rfl:b2=b:=Option.some.inj (eG.symm.trans hb)
   have hB:=rb.iI i b' dw (hlw dw).1
   refine hB.tr (fun p hp=>by rw[Q5]; exact hp) (fun _ h=>h) (fun _ _=>rfl) (fun _ _ _ _ _=>rfl) (fun p g o fr hp ha ho=>⟨fun hr=>?_,fun hr=>ho.2 (by rw[← q4]; exact hr)⟩) q1 q2 q3 (fun hc=>?_) ?_ (fun hc arr o uL=>?_)
   ·obtain⟨x1,x2,x3⟩:=ho.1 (by rw[← q4]; exact hr)
    refine⟨x1,x2,fun l2 c2 cH ph bH p2 g2 o2 jN jM=>?_⟩
    by_cases gz:l2 < st.length
    ·rw[List.getElem?_append_left gz] at ph
     have h1:=gh g2 ⟨l2,c2,p2,o2,ph,bH,by rw[← hlo gz]; exact jN,jM⟩
     have h2:=gI hp ha
     omega
    ·obtain⟨i2,rfl⟩:∃ i2,l2=st.length+i2:=⟨l2 - st.length,by omega⟩
     rw[Q5] at jN
     have zM:=rb.lt jN
     obtain⟨b3,ml⟩:∃ b,S'[i2]?=some b:=⟨S'[i2],List.getElem?_eq_getElem zM⟩
     exact x3 i2 b3 (fun e=>cH (by rw[e])) ml (hlw ml).1 p2 g2 o2 jN jM
   ·rcases q6 with ⟨_,q6⟩|⟨q6,_⟩
    ·exact q6
    ·rw[hc] at q6; cases q6
   ·rcases q6 with ⟨_,q6⟩|⟨_,q6⟩
    ·rw[q6]
    ·exact (ku (i:=0) q6).2.2
   ·rcases q6 with ⟨hd,_⟩|⟨_,q6⟩
    ·rw[hc] at hd; cases hd
    ·intro j c hj
     obtain⟨y,hy,hr⟩:=(ku (i:=j) q6).1 c hj
     obtain⟨u,hu,hiu,h1⟩:=uL j y hy
     exact⟨u,hu,ry hr (by rw[Je]; exact hiu),h1⟩
 ·by_cases hl:l < st.length
  ·rw[List.getElem?_append_left hl] at h1
   exact⟨l,b,p,o,h1,h2,h3,by rw[← hlo hl]; exact h4,h5⟩
  ·have e:=Q5 (i:=l - st.length)
   rw[show st.length+(l - st.length)=l by omega] at e
   have:=gI (by rw[← e]; exact h4) h5
   omega
theorem Spec.lend {f:FuncId} {args bf:List PV} {rl:List Nat} {K:PV->List an->Prop} (fz:List Nat) (hz:Uk st fz=true) (hle:na (leB st fz) args bf) (hu:eu bf = []) (h:Spec G f bf (gX fz st) rl K):Spec G f args st rl K:=by
 refine Spec.intro h.run.1 fun I β w a_ hH hM hA=>?_
 have hH2:=hH.Ij hM hz
 have hM2:d_ G (gl I β st fz) w:=nN hH hM
 have hA2:bp w (gl I β st fz) bf β a_:=mF hu (oM hH hle hu hA)
 have Ur:∀ {g},Wr β (gX fz st) g->Wr β st g:=fun {g} ⟨l,b1,p,o,h1,h2,h3,h4,h5⟩=>by
  obtain⟨b0,jL,rfl⟩:=nY h1
  refine⟨l,b0,p,o,jL,h2,?_,h4,h5⟩
  cases hc:kS l fz with
  | true=>simp only[hc,mH,cond_true] at h3; cases h3
  | false=>simpa only [hc,mH,cond_false] using h3
 have hlen:(gX fz st).length=st.length:=by unfold gX; rw[gk]
 refine (h.run.2 (gl I β st fz) β w a_ hH2 hM2 hA2).mono fun e w' ⟨v,r,S',I',aM,he,hK,hi,rb,oL,hE,hl,p7⟩=>?_
 refine⟨v,r,S',I',aM,he,hK,hi,rb,oL,⟨hE.os,hE.tape,hE.output,hE.size,fun g hg hn=>hE.block g hg fun h=>hn (Ur h),fun g hg h=>Ur (hE.wr g hg h),fun g hg=>hE.aC g (.inl hg),fun g hg h=>?_⟩,by rw[← hlen]; exact hl,fun l hl hr=>p7 l (by rw[hlen]; exact hl) hr⟩
 rcases hE.new g hg h with (h|⟨l,b,p,o,hl,hb,aF,hm,hp,ha⟩)|h
 ·exact .inl h
 ·cases pF:b.m with
  | w=>exact .inr ⟨l,b,p,o,hb,aF,pF,hp,ha⟩
  | p=>rw[pF] at hm; cases hm
  | r =>
   obtain⟨arr,ty,fr,_,ho⟩:=(hH.iI l b hb aF).place hp ha
   exact .inl (ho.2 pF)
 ·exact .inr (Ur h)
end
def Jf:List PV->List PV->Prop
 | [],[]=>True
 | .agg cs::es,.agg ds::Ej=>na tR cs ds/\Jf es Ej
 | _,_=>False
theorem CB {r:PV->PV->Prop}:∀ {cs ds:List PV},na r cs ds->cs.length=ds.length
 | [],[],_=>rfl
 | x::xs,y::ys,h=>by rw[List.length_cons,List.length_cons,CB h.2]
 | [],_::_,h=>h.elim
 | _::_,[],h=>h.elim
theorem GQ {w:World} {I:Nat->Prop}:∀ {cs ds:List PV} {g o:Nat},na tR cs ds->c8 w I cs g o->c8 w I ds g o
 | [],[],_,_,_,h=>h
 | c::cs,d::ds,g,o,h,ha=>by
  simp only[c8] at ha ⊢
  obtain⟨⟨v,h1,h2,h3⟩,h4⟩:=ha
  exact⟨⟨v,h1,sO h.1 w I _ v h2,h3⟩,GQ h.2 h4⟩
 | [],_::_,_,_,h,_=>h.elim
 | _::_,[],_,_,h,_=>h.elim
theorem GR {w:World} {I:Nat->Prop} {n:Nat}:∀ {es Ej:List PV} {g o:Nat},Jf es Ej->cg w I es n g o->cg w I Ej n g o
 | [],[],_,_,_,h=>h
 | .agg cs::es,.agg ds::Ej,g,o,h,ha=>by
  simp only[Jf] at h
  simp only[cg] at ha ⊢
  exact⟨⟨by rw[← CB h.1]; exact ha.1.1,GQ h.1 ha.1.2⟩,GR h.2 ha.2⟩
 | [],y::Ej,_,_,h,_=>by cases y<;>exact h.elim
 | x::es,[],_,_,h,_=>by cases x<;>exact h.elim
theorem CC:∀ {es Ej:List PV},Jf es Ej->es.length=Ej.length
 | [],[],_=>rfl
 | .agg cs::es,.agg ds::Ej,h=>by rw[List.length_cons,List.length_cons,CC h.2]
 | [],y::Ej,h=>by cases y<;>exact h.elim
 | x::es,[],h=>by cases x<;>exact h.elim
theorem Ta {n:Nat} {es Ej:List PV} (h:Jf es Ej):yA (.sl n es) (.sl n Ej):=fun w I β v hv=>by
 simp only[PV.Is] at hv ⊢
 obtain⟨a,cap,h1,h2,h3,h4,h5⟩:=hv
 rw[CC h] at h1 h2 h3 h5
 exact⟨a,cap,h1,h2,h3,fun g o e=>GR h (h4 g o e),h5⟩
theorem Spec.Tb {G:Gx} {f:FuncId} {args bf:List PV} {S:List an} {rl:List Nat} {K:PV->List an->Prop} (h:Spec G f bf S rl K) (hle:na yA args bf):Spec G f args S rl K :=
 Spec.intro h.run.1 fun I β w a_ hH hM hA=>h.run.2 I β w a_ hH hM (kl (fun _ _ h=>h) hle hA)
def M0 (m:Nat) (P:Program) (t:TypeId) (S:PV->Prop):Prop:=∀ {H:Type} (e:TypeId × Value->H) (w:World) (base:Nat) (held:Bool) (fuel:Nat) (cs:List Value) (x:DataW H × List MemPlace),SizeOf.sizeOf x.1 < m ->
 DataW.trod e P w base (fun _=>true) held fuel t cs=some x->(∀ n∈x.1.weights P t,n<=reachBytes)->∃ y,S y/\(∀ vs,y≠.tup vs)/\bp w (In w) y.cells no cs/\cs.length=P.cellsOf t/\∀ c∈cs,c.oneCell'=true
theorem M0.all {P:Program} {t:TypeId} {S:PV->Prop} (h:∀ m,M0 m P t S):Op P t S:=fun e w base held fuel cs x=>h (SizeOf.sizeOf x.1+1) e w base held fuel cs x (Nat.lt_succ_self _)
theorem Op.toN {P:Program} {t:TypeId} {S:PV->Prop} (h:Op P t S) (m:Nat):M0 m P t S:=fun e w base held fuel cs x _=>h e w base held fuel cs x
theorem M0.less {P:Program} {t:TypeId} {S:PV->Prop} {m n:Nat} (h:M0 n P t S) (hm:m<=n):M0 m P t S:=fun e w base held fuel cs x hs=>h e w base held fuel cs x (Nat.lt_of_lt_of_le hs hm)
theorem M0.zero {P:Program} {t:TypeId} {S:PV->Prop}:M0 0 P t S:=fun e w base held fuel cs x hs=>absurd hs (Nat.not_lt_zero _)
theorem M0.BQ {P:Program} {t:TypeId} {m:Nat} {S S':PV->Prop} (h:M0 m P t S) (hS:∀ x,S x->S' x):M0 m P t S':=fun e w base held fuel cs x hs hx ca=>by
 obtain⟨y,h1,h2⟩:=h e w base held fuel cs x hs hx ca
 exact⟨y,hS y h1,h2⟩
section
variable {w:World} {I:Nat->Prop} {β:ax} {G:Gx} {s:aN} {st:List an}
theorem kv {k:Nat} {bk bk':an} (hk:st[k]?=some bk) (hl:bk'.live=bk.live) {l g:Nat} {fr:Nat × Nat} {b b':an} (hm:b'.m=b.m) (h:Own I β st l g fr b):Own I β (st.set k bk') l g fr b':=by
 refine⟨fun h1=>?_,fun h1=>h.2 (by rw[← hm]; exact h1)⟩
 obtain⟨q1,q2,q3⟩:=h.1 (by rw[← hm]; exact h1)
 refine⟨q1,q2,fun l' b2 cH eG aF p g' o' hp ha=>?_⟩
 by_cases Q6:k=l'
 ·subst Q6
  have ch:k < st.length:=(List.getElem?_eq_some_iff.1 hk).1
  rw[List.getElem?_set_self ch] at eG
  cases eG
  exact q3 k bk cH hk (by rw[← hl]; exact aF) p g' o' hp ha
 ·rw[List.getElem?_set_ne Q6] at eG
  exact q3 l' b2 cH eG aF p g' o' hp ha
theorem aL.Y4 {k:Nat} {bk:an} (hH:aL I β st w) (hk:st[k]?=some bk) (cQ:bk.k = .loc) (yC:List PV) (h:∀ arr o,bg w I β bk.cs arr o->bg w I β yC arr o):aL I β (st.set k { bk with cs:=yC }) w:=by
 have ch:k < st.length:=(List.getElem?_eq_some_iff.1 hk).1
 refine⟨fun l hl=>hH.py l (by rw[List.length_set] at hl; exact hl),fun l b hb aF=>?_⟩
 by_cases Q6:k=l
 ·subst Q6
  rw[List.getElem?_set_self ch] at hb
  cases hb
  obtain⟨p,hp,hq⟩:=hH.iI k bk hk aF
  refine⟨p,hp,?_⟩
  obtain⟨kk,ty0,sz,md,lv,cs⟩:=bk
  cases cQ
  obtain⟨g,o,arr,ty,fr,h1,h2,h3,ho⟩:=hq
  exact⟨g,o,arr,ty,fr,h1,h2,h arr o h3,kv (bk':=⟨.loc,ty0,sz,md,lv,yC⟩) hk rfl rfl ho⟩
 ·rw[List.getElem?_set_ne Q6] at hb
  obtain⟨p,hp,hq⟩:=hH.iI l b hb aF
  refine⟨p,hp,?_⟩
  obtain⟨kk,ty0,sz,md,lv,cs⟩:=b
  cases kk
  ·obtain⟨g,o,arr,ty,fr,h1,h2,h3,ho⟩:=hq
   exact⟨g,o,arr,ty,fr,h1,h2,h3,kv (bk':={ bk with cs:=yC }) hk rfl rfl ho⟩
  ·obtain⟨g,arr,fr,h1,h2,h3,ho,h4⟩:=hq
   exact⟨g,arr,fr,h1,h2,h3,kv (bk':={ bk with cs:=yC }) hk rfl rfl ho,h4⟩
  ·obtain⟨h1,hq⟩:=hq
   refine⟨h1,?_⟩
   rcases hq with h|⟨g,arr,fr,h2,h3,h4,ho,h5⟩
   ·exact .inl h
   ·exact .inr ⟨g,arr,fr,h2,h3,h4,kv (bk':={ bk with cs:=yC }) hk rfl rfl ho,h5⟩
  ·obtain⟨g,h1,h2,ho⟩:=hq
   exact⟨g,h1,h2,kv (bk':={ bk with cs:=yC }) hk rfl rfl ho⟩
theorem Sub.trans {s1 s2 s3:aN} (h1:Sub G s1 s2) (h2:Sub G s2 s3):Sub G s1 s3:=fun I β a w hR=>by
 obtain⟨I',aM,cd,g'⟩:=h1 I β a w hR
 obtain⟨I2,jm,kh,g2⟩:=h2 I' aM a w cd
 exact⟨I2,jm,kh,g'.trans g2⟩
def aN.Y5 (s:aN) (l k j n:Nat) (es:List PV):aN:=match (gX [l] s.st)[k]? with
 | some bk=>{ s with st:=(gX [l] s.st).set k { bk with cs:=bk.cs.set j (.sl n es) } }
 | none=>s
theorem Sub.mL (l k j n:Nat) (es:List PV) {b bk:an} (hz:Uk s.st [l]=true) (hb:s.st[l]?=some b) (he:elB b n es) (hk:(gX [l] s.st)[k]?=some bk) (cQ:bk.k = .loc) (hj:bk.cs[j]?=some (.wref l)):Sub G s (s.Y5 l k j n es):=fun I β a w hR=>by
 obtain⟨nn,t,st,b0,rl⟩:=s
 have jC:(gX [l] st)[k]?=some bk:=hk
 have e:aN.Y5 ⟨nn,t,st,b0,rl⟩ l k j n es=⟨nn,t,(gX [l] st).set k { bk with cs:=bk.cs.set j (.sl n es) },b0,rl⟩:=by
  unfold aN.Y5
  simp only[jC]
 rw[e]
 have hlen:((gX [l] st).set k { bk with cs:=bk.cs.set j (.sl n es) }).length=st.length:=by rw[List.length_set]; unfold gX; rw[gk]
 have hheap:=(hR.heap.Ij hR.aC hz).Y4 jC cQ (bk.cs.set j (.sl n es)) fun arr o hc i c hi=>by
  by_cases Z3:j=i
  ·subst Z3
   obtain⟨v,h1,h2,h3⟩:=hc j _ hj
   have Z4:j < bk.cs.length:=(List.getElem?_eq_some_iff.1 hj).1
   rw[List.getElem?_set_self Z4] at hi
   cases hi
   refine⟨v,h1,?_,h3⟩
   have hx:(PV.wref l).Is w I β v:=by simpa only [PV.Is] using h2
   have h4:=uP hR.heap (fz:=[l]) (List.mem_singleton_self _) hb he hx
   exact PV.Is.mono (fun _ h=>h) (fun _ _=>rfl) _ no β v (fun l p hl=>by simp[PV.c9] at hl) h4
  ·rw[List.getElem?_set_ne Z3] at hi
   exact hc i c hi
 refine⟨gl I β st [l],β,⟨hR.small,hR.defers,hR.size,by show b0<=_; rw[hlen]; exact hR.base,fun i x hx=>?_,hheap,nN hR.heap hR.aC⟩,⟨⟨rfl,rfl,rfl,Nat.le_refl _,fun _ _ _=>rfl,fun g _ h=>?_,fun _ h=>.inl h,fun g _ h=>?_⟩,rfl,rfl,rfl,fun _ _ _=>rfl⟩⟩
 ·obtain⟨v,hv,hi⟩:=hR.get i x hx
  exact⟨v,hv,PV.Is.mono (fun _ h=>.inl h) (fun _ _=>rfl) x β β v (fun _ _ _ h=>h) hi⟩
 ·obtain⟨l1,b1,p,o,h1,h2,h3,h4,h5⟩:=h
  have key:∃ b2,(gX [l] st)[l1]?=some b2/\b2.live=true/\b2.m = .w:=by
   by_cases Q6:k=l1
   ·subst Q6
    have ch:k < (gX [l] st).length:=(List.getElem?_eq_some_iff.1 jC).1
    have eU:((gX [l] st).set k { bk with cs:=bk.cs.set j (.sl n es) })[k]?=some b1:=h1
    rw[List.getElem?_set_self ch] at eU
    cases eU
    exact⟨bk,jC,h2,h3⟩
   ·have eU:((gX [l] st).set k { bk with cs:=bk.cs.set j (.sl n es) })[l1]?=some b1:=h1
    rw[List.getElem?_set_ne Q6] at eU
    exact⟨b1,eU,h2,h3⟩
  obtain⟨b2,k1,k2,k3⟩:=key
  obtain⟨b3,ml,rfl⟩:=nY k1
  refine⟨l1,b3,p,o,ml,k2,?_,h4,h5⟩
  cases hc:kS l1 [l] with
  | true=>simp only[hc,mH,cond_true] at k3; cases k3
  | false=>simpa only [hc,mH,cond_false] using k3
 ·rcases h with h|⟨l1,b1,p,o,hl,Gq,aF,hm,hp,ha⟩
  ·exact .inl h
  ·cases pF:b1.m with
   | w=>exact .inr ⟨l1,b1,p,o,Gq,aF,pF,hp,ha⟩
   | p=>rw[pF] at hm; cases hm
   | r =>
    obtain⟨arr,ty,fr,_,ho⟩:=(hR.heap.iI l1 b1 Gq aF).place hp ha
    exact .inl (ho.2 pF)
end
abbrev jq {H:Type} (d:DataW H):Nat:=Rows.uptoBulk d
theorem qj {H:Type}:∀ l:List (DataW H),Rows.uptoBulkAll l=(l.map jq).sum
 | []=>by simp[Rows.uptoBulkAll]
 | d::l=>by rw[Rows.uptoBulkAll,qj l,List.map_cons,List.sum_cons]
theorem CD {H:Type} {l:List (DataW H)} {d:DataW H} (h:d∈l):jq d<=Rows.uptoBulkAll l:=by
 induction l with
 | nil=>cases h
 | cons x l ih =>
  rw[Rows.uptoBulkAll]
  rcases List.mem_cons.1 h with rfl|h
  ·exact Nat.le_add_right _ _
  ·exact Nat.le_trans (ih h) (Nat.le_add_left _ _)
def n_ (m:Nat) (P:Program) (t:TypeId) (S:Nat->PV->Prop):Prop:=∀ {H:Type} (e:TypeId × Value->H) (w:World) (base:Nat) (held:Bool) (fuel:Nat) (cs:List Value) (x:DataW H × List MemPlace),jq x.1 < m ->
 DataW.trod e P w base (fun _=>true) held fuel t cs=some x->(∀ n∈x.1.weights P t,n<=reachBytes)->∃ y,S (jq x.1) y/\(∀ vs,y≠.tup vs)/\bp w (In w) y.cells no cs/\cs.length=P.cellsOf t/\∀ c∈cs,c.oneCell'=true
theorem Op.O9 {P:Program} {t:TypeId} {S:PV->Prop} (h:Op P t S) (m:Nat):n_ m P t (fun _=>S):=fun e w base held fuel cs x _=>h e w base held fuel cs x
theorem n_.less {P:Program} {t:TypeId} {S:Nat->PV->Prop} {m n:Nat} (h:n_ n P t S) (hm:m<=n):n_ m P t S:=fun e w base held fuel cs x hs=>h e w base held fuel cs x (Nat.lt_of_lt_of_le hs hm)
theorem n_.zero {P:Program} {t:TypeId} {S:Nat->PV->Prop}:n_ 0 P t S:=fun e w base held fuel cs x hs=>absurd hs (Nat.not_lt_zero _)
theorem n_.BQ {P:Program} {t:TypeId} {m:Nat} {S S':Nat->PV->Prop} (h:n_ m P t S) (hS:∀ u x,S u x->S' u x):n_ m P t S':=fun e w base held fuel cs x hs hx ca=>by
 obtain⟨y,h1,h2⟩:=h e w base held fuel cs x hs hx ca
 exact⟨y,hS _ y h1,h2⟩
def Y6 (S:Nat->PV->Prop):List Nat->List PV->Prop
 | [],[]=>True
 | u::us,x::xs=>S u x/\Y6 S us xs
 | _,_=>False
theorem GU {S:Nat->PV->Prop}:∀ (us:List Nat) (es:List PV),us.length=es.length->(∀ (i:Nat) u x,us[i]?=some u->es[i]?=some x->S u x)->Y6 S us es
 | [],[],_,_=>trivial
 | u::us,x::xs,hl,h=>⟨h 0 u x rfl rfl,GU us xs (by simpa using hl) fun i u x hu hx=>h (i+1) u x hu hx⟩
theorem GV {α:Type} {S:Nat->PV->Prop} {enc:α->PV} {ok:α->Prop} {wt:α->Nat} {K:Nat} (h:∀ u x,S u x->∃ z,ok z/\x=enc z/\wt z<=K*u):∀ (us:List Nat) (es:List PV),Y6 S us es->∃ l:List α,(∀ z∈l,ok z)/\es=l.map enc/\(l.map wt).sum<=K*us.sum
 | [],[],_=>⟨[],fun _ h=>by simp at h,rfl,Nat.zero_le _⟩
 | u::us,e::es,hS=>by
  obtain⟨z,hz,rfl,hw⟩:=h u e hS.1
  obtain⟨l,hl,rfl,mu⟩:=GV h us es hS.2
  refine⟨z::l,fun y hy=>?_,rfl,?_⟩
  ·rcases List.mem_cons.1 hy with rfl|hy
   ·exact hz
   ·exact hl y hy
  ·rw[List.map_cons,List.sum_cons,List.sum_cons,Nat.mul_add]; omega
def Q7 {α:Type} (n b:Nat) (enc:α->PV) (ok:α->Prop) (wt:α->Nat) (K:Nat) (u:Nat) (x:PV):Prop:=∃ l:List α,(l.length<=maxLen/\l.length*b<=reachBytes)/\(∀ z∈l,ok z)/\x = .sl n (l.map enc)/\(l.map wt).sum+K<=K*u
def s5:List (Nat->PV->Prop)->List Nat->List PV->Prop
 | [],[],[]=>True
 | S::Ss,u::us,x::xs=>S u x/\s5 Ss us xs
 | _,_,_=>False
def M1 (Ss:List (Nat->PV->Prop)) (u:Nat) (x:PV):Prop:=∃ us xs,s5 Ss us xs/\x = .agg (xs.flatMap PV.cells)/\us.sum+1<=u
theorem bP {S:Nat->PV->Prop} {Ss:List (Nat->PV->Prop)} {us:List Nat} {xs:List PV} (h:s5 (S::Ss) us xs):∃ u r x q,us=u::r/\xs=x::q/\S u x/\s5 Ss r q:=by
 cases us with
 | nil=>exact h.elim
 | cons u r =>
  cases xs with
  | nil=>exact h.elim
  | cons x q=>exact⟨u,r,x,q,rfl,rfl,h⟩
theorem s6 {us:List Nat} {xs:List PV} (h:s5 [] us xs):us = []/\xs = []:=by
 cases us with
 | nil=>cases xs with
  | nil=>exact⟨rfl,rfl⟩
  | cons=>exact h.elim
 | cons=>exact h.elim
section
variable {P:Program} {t e:TypeId}
theorem rz {m0:Nat} {S:Nat->PV->Prop} {α:Type} {enc:α->PV} {ok:α->Prop} {wt:α->Nat} {K:Nat} (he:n_ m0 P e S) (hd:∀ u x,S u x->∃ z,ok z/\x=enc z/\wt z<=K*u) (n b:Nat) (PZ:P.bytesOf e=b) (ht:P.underlying t=some (.slice e)) (hn:P.cellsOf e=n) (h0:0 < n) (hc:P.cellsOf t=1):n_ (m0+1) P t (Q7 n b enc ok wt K):=fun {H} ec w base held fuel cs x fY h ca=>by
 subst hn
 subst PZ
 rcases Deep.open_slice ht h with ⟨rfl,SS⟩|⟨a,len,cap,m,k,D,Pl,rfl,hb,hl,hm,pF,rfl,hx⟩
 ·refine⟨.sl _ [],⟨[],⟨by simp,by simp⟩,fun _ h=>by simp at h,rfl,?_⟩,nofun,bp.one (by simp only[PV.Is]; exact⟨none,0,rfl,Nat.le_refl _,by simp,fun _ _ h=>by simp at h,fun h=>absurd rfl h⟩),by rw[hc]; rfl,fun c hc=>by simp only[List.mem_singleton] at hc; subst hc; rfl⟩
  have h1:1<=jq x.1:=by
   cases x.1 with
   | lit l=>cases l<;>simp[jq,Rows.uptoBulk]
   | nil=>simp[jq,Rows.uptoBulk]
   | ptr d=>simp[jq,Rows.uptoBulk]
   | slice elems spare=>simp[jq,Rows.uptoBulk]
   | agg parts=>simp[jq,Rows.uptoBulk]
   | iface t d=>simp[jq,Rows.uptoBulk]
   | map entries=>simp[jq,Rows.uptoBulk]
   | held h=>simp[jq,Rows.uptoBulk]
  simp only[List.map_nil,List.sum_nil,Nat.zero_add]
  exact Nat.le_mul_of_pos_right K h1
 ·simp only[if_true] at pF
  subst pF
  have xM:Rows.uptoBulkAll ((List.range len).map D)+1<=jq (DataW.slice ((List.range len).map D) ((List.range (m - len)).map fun j=>D (len+j))):=by
   show _<=Rows.uptoBulk _
   simp only[Rows.uptoBulk]; omega
  have Sv:∀ i,i < len->jq (D i) < m0:=fun i hi=>by
   have h1:=CD (List.mem_map.2 ⟨i,List.mem_range.2 hi,rfl⟩:D i∈(List.range len).map D)
   have h2:jq (DataW.slice ((List.range len).map D) ((List.range (m - len)).map fun j=>D (len+j))) < m0+1:=fY
   omega
  have z6:len*P.bytesOf e<=reachBytes:=by
   have:=ca ((len+(m - len))*P.bytesOf e) (by simp only[DataW.weights,ht,List.length_map,List.length_range]; exact List.mem_cons_self)
   exact Nat.le_trans (Nat.mul_le_mul_right _ (Nat.le_add_right _ _)) this
  have hwe:∀ i,i < len->∀ n∈(D i).weights P e,n<=reachBytes:=fun i hi n hn=>ca n (by
   simp only[DataW.weights,ht]
   exact List.mem_cons_of_mem _ (List.mem_append.2 (.inl (nM (List.mem_map.2 ⟨i,List.mem_range.2 hi,rfl⟩) hn))))
  have hs0:0 < len->a.spot=none:=fun hp=>by
   obtain⟨yC,h1,h2⟩:=hx 0 (by omega)
   obtain⟨y,_,_,hy,hlen,_⟩:=he ec w base held k yC _ (Sv 0 hp) h2 (hwe 0 hp)
   obtain⟨_,_,kg⟩:=World.cells?_some h1
   have tL:=kg 0 h0
   rw[List.getElem?_eq_getElem (by omega),Nat.zero_mul] at tL
   exact World.cell?_spot tL
  have each:∀ i,i < len->∃ y,S (jq (D i)) y/\a.spot=none/\a.block < w.heap.size/\HU w (In w) (P.cellsOf e) y a.block (a.off+i*P.cellsOf e):=fun i hi=>by
   obtain⟨yC,h1,h2⟩:=hx i (by omega)
   obtain⟨y,hS,_,hy,hlen,h1c⟩:=he ec w base held k yC _ (Sv i hi) h2 (hwe i hi)
   obtain⟨_,_,kg⟩:=World.cells?_some h1
   have tL:=kg 0 h0
   rw[List.getElem?_eq_getElem (by omega)] at tL
   have hs:a.spot=none:=hs0 (by omega)
   obtain⟨b,off,sp⟩:=a
   dsimp only at hs
   subst hs
   have ea:∀ b off k,(⟨b,off,none⟩:Addr).add k=⟨b,off+k,none⟩:=fun b off k=>by unfold Addr.add; split<;>simp_all
   refine⟨y,hS,rfl,?_,?_,c8.of fun j c hj=>?_⟩
   ·have:=World.block_lt_of_cell? w _ tL
    rw[ea,ea] at this; exact this
   ·rw[hy.length,hlen]
   ·obtain⟨v,hv,PX⟩:=hy.get hj
    have Bn:j < P.cellsOf e:=by rw[← hlen]; exact (List.getElem?_eq_some_iff.1 hv).1
    have:=kg j Bn
    rw[ea,ea,hv] at this
    exact⟨v,by simpa only [Nat.add_assoc] using this,PX,h1c v (List.mem_of_getElem? hv)⟩
  obtain⟨es,mq,hp⟩:=nL len each
  obtain⟨l,uQ,gz,Sh⟩:=GV hd ((List.range len).map fun i=>jq (D i)) es (GU _ _ (by simp[mq]) fun i u x hu hx=>by
   have hi:i < len:=by rw[← mq]; exact (List.getElem?_eq_some_iff.1 hx).1
   rw[List.getElem?_map,List.getElem?_range hi] at hu
   cases hu
   exact (hp i x hx).1)
  have hll:l.length=len:=by rw[← mq,gz,List.length_map]
  refine⟨.sl _ es,⟨l,⟨by omega,by rw[hll]; exact z6⟩,uQ,by rw[gz],?_⟩,nofun,bp.one ?_,by rw[hc]; rfl,fun c hc=>by simp only[List.mem_singleton] at hc; subst hc; rfl⟩
  ·rw[qj,List.map_map] at xM
   have h1:K*(((List.range len).map fun i=>jq (D i)).sum+1)<=K*jq (DataW.slice ((List.range len).map D) ((List.range (m - len)).map fun j=>D (len+j))):=Nat.mul_le_mul_left _ xM
   rw[Nat.mul_add,Nat.mul_one] at h1
   exact Nat.le_trans (Nat.add_le_add_right Sh K) h1
  ·simp only[PV.Is]
   refine⟨some a,m,by rw[mq],by omega,by omega,fun g o Kh=>?_,fun cH=>?_⟩
   ·cases Kh
    exact cg.of fun i y hy=>(hp i y hy).2.2.2
   ·have h1:0 < es.length:=by omega
    obtain⟨_,h2,h3,_⟩:=hp 0 es[0] (List.getElem?_eq_getElem h1)
    obtain⟨b,off,sp⟩:=a
    dsimp only at h2
    subst h2
    exact⟨b,off,rfl,h3,h0⟩
def GW (m:Nat) (P:Program) (total:Nat):Nat->List Field->List (Nat->PV->Prop)->Prop
 | off,[],[]=>off=total
 | off,f::fs,S::Ss=>f.offset=off/\n_ m P f.type S/\GW m P total (off+P.cellsOf f.type) fs Ss
 | _,_,_=>False
theorem E6 {m0:Nat} {fs:Array Field} {Ss:List (Nat->PV->Prop)} (ht:P.underlying t=some (.struct fs)) (hf:GW m0 P (P.cellsOf t) 0 fs.toList Ss):n_ (m0+1) P t (M1 Ss):=fun {H} ec w base held fuel cs x fY h ca=>by
 obtain⟨xs,n,_,rfl,hl,uj,hx⟩:=DataW.trod_struct ht h
 have xM:Rows.uptoBulkAll (xs.map (·.1))+1<=jq (DataW.agg (xs.map (·.1))):=by
  show _<=Rows.uptoBulk _
  simp only[Rows.uptoBulk]; omega
 have key:∀ (l:List Field) (zs:List (DataW H × List MemPlace)) (Ss:List (Nat->PV->Prop)) (off:Nat),GW m0 P (P.cellsOf t) off l Ss->l.length=zs.length->(∀ (i:Nat) f z,l[i]?=some f->zs[i]?=some z->DataW.trod ec P w base (fun _=>true) held n f.type ((cs.drop f.offset).take (P.cellsOf f.type))=some z/\jq z.1 < m0/\∀ n∈z.1.weights P f.type,n<=reachBytes)->off<=cs.length ->
   ∃ ys,s5 Ss (zs.map fun z=>jq z.1) ys/\bp w (In w) (ys.flatMap PV.cells) no (cs.drop off)/\∀ c∈cs.drop off,c.oneCell'=true:=by
  intro l
  induction l with
  | nil =>
   intro zs Ss off h hlz _ _
   obtain rfl:zs = []:=List.eq_nil_of_length_eq_zero hlz.symm
   cases Ss with
   | nil =>
    simp only[GW] at h
    refine⟨[],trivial,?_,?_⟩
    ·rw[List.drop_eq_nil_of_le (by omega)]; simp only[List.flatMap_nil,bp]
    ·rw[List.drop_eq_nil_of_le (by omega)]; intro c hc; cases hc
   | cons=>exact h.elim
  | cons f l ih =>
   intro zs Ss off h hlz ht hle
   cases zs with
   | nil=>cases hlz
   | cons z zs =>
   cases Ss with
   | nil=>exact h.elim
   | cons S Ss =>
    obtain⟨h1,h2,h3⟩:=h
    subst h1
    obtain⟨hz,Z8,hzw⟩:=ht 0 f z rfl rfl
    obtain⟨y,hS,_,hy,Sj,Z5⟩:=h2 ec w base held n _ z Z8 hz hzw
    have sT:f.offset+P.cellsOf f.type<=cs.length:=by
     rw[List.length_take,List.length_drop] at Sj; omega
    obtain⟨ys,hys,hyL,hyO⟩:=ih zs Ss _ h3 (by simpa using hlz) (fun i g z hg hz=>ht (i+1) g z hg hz) sT
    have hd:cs.drop f.offset=(cs.drop f.offset).take (P.cellsOf f.type)++cs.drop (f.offset+P.cellsOf f.type):=by
     rw[← List.drop_drop,List.take_append_drop]
    refine⟨y::ys,⟨hS,hys⟩,?_,?_⟩
    ·rw[hd,List.flatMap_cons]; exact hy.append hyL
    ·intro c hc
     rw[hd,List.mem_append] at hc
     exact hc.elim (Z5 c) (hyO c)
 obtain⟨ys,h1,h2,h3⟩:=key fs.toList xs Ss 0 hf (by simpa using uj.symm) (fun i f z hi hz=>by
  have:=hx i f (by simpa using hi)
  rw[this]
  refine⟨hz,?_,fun n hn=>ca n ?_⟩
  ·have h1:=CD (List.mem_map.2 ⟨z,List.mem_of_getElem? hz,rfl⟩:z.1∈xs.map (·.1))
   have h2:jq (DataW.agg (xs.map (·.1))) < m0+1:=fY
   omega
  simp only[DataW.weights,ht]
  exact mG (i:=i) (by rw[List.getElem?_map,hi]; rfl) (by rw[List.getElem?_map,hz]; rfl) hn) (Nat.zero_le _)
 rw[List.drop_zero] at h2 h3
 refine⟨.agg (ys.flatMap PV.cells),⟨_,ys,h1,rfl,?_⟩,nofun,h2,hl,h3⟩
 rw[qj,List.map_map] at xM
 exact xM
theorem n_.Ik {S:Nat->PV->Prop} (h:∀ m,n_ m P t S) (h1:∀ u y,S u y->y.cells = [y]) {H:Type} {ec:TypeId × Value->H} {w:World} {base:Nat} {held:Bool} {v:Value} {d:DataW H} {p:List MemPlace} (hv:v.cells = #[v]) (ht:DataW.Trod ec P w base (fun _=>true) held t v d p) (ca:∀ n∈d.weights P t,n<=reachBytes) :
  ∃ y,S (jq d) y/\y.Is w (In w) no v:=by
 obtain⟨fuel,ht⟩:=ht
 obtain⟨y,hS,_,hy,_⟩:=h (jq d+1) ec w base held fuel _ _ (Nat.lt_succ_self _) ht ca
 refine⟨y,hS,?_⟩
 rw[h1 _ y hS,hv] at hy
 simp only[bp,and_true] at hy
 exact hy
end
end Go.Proofs.YtnbhdacpogplgaaGreatDoor.Pw

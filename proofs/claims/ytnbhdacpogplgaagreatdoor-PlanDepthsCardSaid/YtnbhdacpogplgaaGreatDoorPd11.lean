/- What this claim is proved with: no condition. -/
import Derived.Test.YtnbhdacpogplgaaGreatDoorPd10
import Derived.Test.YtnbhdacpogplgaaGreatDoorPd9
set_option linter.unusedVariables false
set_option linter.unusedSimpArgs false
namespace Go.Proofs.YtnbhdacpogplgaaGreatDoor.Pw
open Go Go.RowKit
def P1 (S:List ak) (l:Nat):Bool:=match S[l]? with
 | some b=>b.can
 | none=>false
theorem IF {S:List ak} {l:Nat} (h:P1 S l=true):l < S.length/\∀ b,S[l]?=some b->b.m = .w:=by
 unfold P1 at h
 split at h
 ·rename_i b hb
  refine⟨(List.getElem?_eq_some_iff.1 hb).1,fun b' cv=>?_⟩
  rw[hb] at cv; cases cv
  unfold ak.can at h
  simp only[Bool.and_eq_true] at h
  cases hm:b.m with
  | w=>rfl
  | p=>rw[hm] at h; cases h.2
  | r=>rw[hm] at h; cases h.2
 ·cases h
def Kd (rl:List Nat) (b:ak):Bool:=match b.k with
 | .dyn=>true
 | .mp=>true
 | _=>b.cs.all fun c=>c.cr.all fun l=>!(iI l rl)
def ET (rl:List Nat) (T:List ak):Bool:=T.all (Kd rl)
theorem Bw {rl:List Nat} {T:List ak} (h:ET rl T=true) {b:ak} (hb:b∈T) (hk:b.k.qL=true):∀ c∈b.cs,∀ m∈c.cr,m ∉ rl:=fun c hc m hm hr=>by
 have h1:=List.all_eq_true.1 h b hb
 unfold Kd at h1
 have h2:b.cs.all (fun c=>c.cr.all fun l=>!(iI l rl))=true:=by
  cases bS:b.k with
  | dyn=>rw[bS] at hk; cases hk
  | mp=>rw[bS] at hk; cases hk
  | loc=>rw[bS] at h1; exact h1
  | arr=>rw[bS] at h1; exact h1
 have h3:=List.all_eq_true.1 (List.all_eq_true.1 h2 c hc) m hm
 rw[cP.2 hr] at h3
 cases h3
section
variable {w w':World} {I I':Nat->Prop} {β aI:ax} {G:Gx} {s:aO} {a:Act} {st dc:List ak}
theorem aS.zI {cs:List PV} {arr:Array Value} {o:Nat} (hI:∀ g,I g->I' g) (hw:∀ g,I g->w'.heap[g]?=w.heap[g]?) (hb:∀ c∈cs,∀ l∈c.cr,∀ p,β l=some p->aI l=some p) (h:aS w I β cs arr o):aS w' I' aI cs arr o :=
 fun i c hc=>let ⟨v,h1,h2,h3⟩:=h i c hc; ⟨v,h1,PV.Is.mono hI hw c β aI v (fun l p hl=>hb c (List.mem_of_getElem? hc) l hl p) h2,h3⟩
theorem fD.zI {l:Nat} {b:ak} (hI:∀ g,I g->I' g) (hw:∀ g,I g->w'.heap[g]?=w.heap[g]?) (lg:∀ p,β l=some p->aI l=some p) (hu:b.k.qL=true->∀ c∈b.cs,∀ l∈c.cr,∀ p,β l=some p->aI l=some p)
  (hg:∀ p g o,β l=some p->p.a=some (g,o)->w'.heap[g]?=w.heap[g]?/\(b.m≠.r->¬ I' g/\∀ l' b',l'≠l->dc[l']?=some b'->b'.live=true->∀ p g' o',aI l'=some p->p.a=some (g',o')->g'≠g)) (hb:fD I β st w l b):fD I' aI dc w' l b:=by
 obtain⟨p,hp,hk⟩:=hb
 refine⟨p,lg p hp,?_⟩
 have own:∀ {g o:Nat} {fr:Nat × Nat},p.a=some (g,o)->Own I β st l g fr b->Own I' aI dc l g fr b:=fun ha ho=>⟨fun hr=>⟨(ho.1 hr).1,(hg p _ _ hp ha).2 hr⟩,fun hr=>hI _ (ho.2 hr)⟩
 split at hk
 ·rename_i bS
  obtain⟨g,o,arr,ty,fr,ha,hh,hc,ho⟩:=hk
  exact⟨g,o,arr,ty,fr,ha,(hg p g o hp ha).1.trans hh,hc.zI hI hw (hu (by rw[bS]; rfl)),own ha ho⟩
 ·rename_i bS
  obtain⟨g,arr,fr,ha,hh,hc,ho,h1⟩:=hk
  exact⟨g,arr,fr,ha,(hg p g 0 hp ha).1.trans hh,hc.zI hI hw (hu (by rw[bS]; rfl)),own ha ho,h1⟩
 ·obtain⟨h1,hk⟩:=hk
  refine⟨h1,?_⟩
  rcases hk with h|⟨g,arr,fr,ha,hh,hc,ho,h2⟩
  ·exact .inl h
  ·exact .inr ⟨g,arr,fr,ha,(hg p g 0 hp ha).1.trans hh,bE.mono hI hw _ _ _ _ (hg p g 0 hp ha).1 hc,own ha ho,h2⟩
 ·obtain⟨g,ha,hm,ho⟩:=hk
  exact⟨g,ha,hm.m6 (hg p g 0 hp ha).1,own ha ho⟩
theorem Spec.useR {f:FuncId} {args aX:List PV} {r0:PV} {S0 S1:List ak} {rl:List Nat} {K:PV->List ak->Prop} (h:Spec G f aX S0 rl fun r S'=>r=r0/\S'=S1) (hm:jB S0 S1=true) (fT:S0.all (vh S0.length)=true) (hu:(c8 aX).all (fun l=>Nat.blt l S0.length)=true)
  (xQ:r0.cr.all (fun l=>Nat.blt l S0.length)=true) (JO:rl.all (fun l=>P1 S0 l)=true) (hle:kp mT args aX) (hK:Hw st S0 fun T=>(bif ET rl T then True else False)/\vg S1 fun S1=>AN S1 T (K r0)):Spec G f args st rl K:=by
 obtain⟨oF,T,rfl,Cr,hk,DQ⟩:=tD hK
 obtain⟨hT,hk⟩:=hk
 replace hT:=(aQ hT).1
 replace hk:=tC (mf hk)
 obtain⟨qN,Hb⟩:=mj hm
 refine Spec.intro h.run.1 fun I β w aZ hH hM hA=>?_
 let gr:ax:=fun l=>if l < S0.length then β l else none
 have iM:∀ l,l < S0.length->gr l=β l:=fun l hl=>if_pos hl
 have xX:∀ {l p},gr l=some p->l < S0.length/\β l=some p:=fun {l p} h=>by
  by_cases hl:l < S0.length
  ·exact⟨hl,by rw[← iM l hl]; exact h⟩
  ·have:gr l=none:=if_neg hl
   rw[this] at h; cases h
 have xh:∀ {l:Nat} {b':ak},S0[l]?=some b'->l < S0.length/\∃ b,(oF++T)[l]?=some b/\dR b b':=fun {l b'} cv=>by
  have bG:l < S0.length:=(List.getElem?_eq_some_iff.1 cv).1
  have xY:l < oF.length:=by omega
  refine⟨bG,oF[l],by rw[List.getElem?_append_left xY]; simp[xY],DQ l _ b' (by simp[xY]) cv⟩
 have low:∀ {l:Nat} {b':ak},S0[l]?=some b'->b'.k.qL=true->∀ c∈b'.cs,∀ m∈c.cr,m < S0.length:=fun {l b'} cv hk c hc m k7=>by
  rw[List.all_eq_true] at fT
  have:=fT b' (List.mem_of_getElem? cv)
  unfold vh at this
  have cZ:b'.cs.all (fun c=>c.cr.all fun l=>Nat.blt l S0.length)=true:=by
   cases bS:b'.k with
   | dyn=>rw[bS] at hk; cases hk
   | mp=>rw[bS] at hk; cases hk
   | loc=>rw[bS] at this; exact this
   | arr=>rw[bS] at this; exact this
  rw[List.all_eq_true] at cZ
  have:=cZ c hc
  rw[List.all_eq_true] at this
  exact Nat.le_of_ble_eq_true (this m k7)
 have J4:aD I gr S0 w:=by
  refine⟨fun l hl=>if_neg (by omega),fun l b' cv az=>?_⟩
  obtain⟨bG,b,hb,DS⟩:=xh cv
  obtain⟨e1,e2,e3,e4,e5,e6,e7⟩:=bV DS
  obtain⟨p,hp,hB⟩:=hH.fp l b hb e4
  have own:∀ {g:Nat} {fr:Nat × Nat},Own I β (oF++T) l g fr b->Own I gr S0 l g fr b':=fun {g fr} ho=>by
   refine⟨fun hr=>?_,fun hr=>ho.2 (by rw[e3]; exact hr)⟩
   obtain⟨h1,h2,h3⟩:=ho.1 (by rw[e3]; exact hr)
   refine⟨h1,h2,fun l2 b2 bZ eJ bn p2 g2 o2 fQ fP=>?_⟩
   obtain⟨_,b3,jA,jZ⟩:=xh eJ
   exact h3 l2 b3 bZ jA (bV jZ).2.2.2.1 p2 g2 o2 (xX fQ).2 fP
  have cells:b'.k.qL=true->∀ {arr:Array Value} {o:Nat},aS w I β b.cs arr o->aS w I gr b'.cs arr o:=fun hk {arr o} hc i c hi=>by
   have kG:aS w I β b'.cs arr o:=by
    rcases e7 with ⟨hd,_⟩|⟨_,h7⟩
    ·(rw[e6,hk] at hd; cases hd)
    ·exact gg h7 hc
   obtain⟨u,lR,DF,h1⟩:=kG i c hi
   exact⟨u,lR,PV.Is.mono (fun _ h=>h) (fun _ _=>rfl) c β gr u (fun m p k7 dk=>by rw[iM m (low cv hk c (List.mem_of_getElem? hi) m k7)]; exact dk) DF,h1⟩
  refine⟨p,by rw[iM l bG]; exact hp,?_⟩
  split at hB
  ·rename_i bS
   have fg:b'.k = .loc:=by rw[← e6]; exact bS
   obtain⟨g,o,arr,ty,fr,h1,h2,h3,ho⟩:=hB
   rw[fg]
   exact⟨g,o,arr,ty,fr,h1,h2,cells (by rw[fg]; rfl) h3,own ho⟩
  ·rename_i bS
   have fg:b'.k = .arr:=by rw[← e6]; exact bS
   obtain⟨g,arr,fr,h1,h2,h3,ho,h4,h5,h6,h7,h8⟩:=hB
   have hlen:b'.cs.length=b.cs.length:=by
    rcases e7 with ⟨hd,_⟩|⟨_,h9⟩
    ·rw[bS] at hd; cases hd
    ·exact (kq h9).symm
   rw[fg]
   exact⟨g,arr,fr,h1,by rw[← e1]; exact h2,cells (by rw[fg]; rfl) h3,own ho,by rw[hlen,← e2]; exact h4,h5,h6,by rw[← e2]; exact h7,by rw[← e2]; exact h8⟩
  ·rename_i bS
   have fg:b'.k = .dyn:=by rw[← e6]; exact bS
   have gU:b.cs=b'.cs:=by
    rcases e7 with ⟨_,h9⟩|⟨hd,_⟩
    ·exact h9
    ·(rw[bS] at hd; cases hd)
   obtain⟨⟨h1,h2,h3,h4⟩,hB⟩:=hB
   rw[fg]
   refine⟨⟨by rw[← e2]; exact h1,by rw[← gU]; exact h2,h3,h4⟩,?_⟩
   rcases hB with h|⟨g,arr,fr,h5,h6,h7,ho,h8⟩
   ·exact .inl h
   ·exact .inr ⟨g,arr,fr,h5,by rw[← e1]; exact h6,by rw[← gU,← e2]; exact h7,own ho,by rw[← e2]; exact h8⟩
  ·rename_i bS
   have fg:b'.k = .mp:=by rw[← e6]; exact bS
   have gU:b.cs=b'.cs:=by
    rcases e7 with ⟨_,h9⟩|⟨hd,_⟩
    ·exact h9
    ·(rw[bS] at hd; cases hd)
   obtain⟨g,h1,h2,ho⟩:=hB
   rw[fg]
   exact⟨g,h1,by rw[← gU]; exact h2,own ho⟩
 have Lm:a_ w I aX gr aZ:=by
  have:=gu (fun _ _=>dK) hle hA
  refine a_.mono (fun _ h=>h) (fun _ _=>rfl) aX β gr aZ (fun m p k7 dk=>?_) this
  rw[List.all_eq_true] at hu
  rw[iM m (Nat.le_of_ble_eq_true (hu m k7))]; exact dk
 refine (h.run.2 I gr w aZ J4 hM Lm).mono fun e w' ⟨v,r,S',I',aI,he,⟨e1,e2⟩,hi,ml,ks,hE,hlen,lg⟩=>?_
 subst e1; subst e2
 have vr:∀ l,l < S0.length->l ∉ rl->aI l=β l:=fun l hl hr=>(lg l hl hr).trans (iM l hl)
 let gY:ax:=fun l=>if l < S0.length then aI l else β l
 have Bx:∀ l,l < S0.length->gY l=aI l:=fun l hl=>if_pos hl
 have yp:∀ l,¬ l < S0.length->gY l=β l:=fun l hl=>if_neg hl
 have AO:∀ l p,aI l=some p->gY l=some p:=fun l p hp=>by
  have:l < S0.length:=by have:=ml.lt hp; omega
  rw[Bx l this]; exact hp
 have qR:∀ l,l∈rl->l < S0.length/\∀ b,S0[l]?=some b->b.m = .w:=fun l hl=>IF (List.all_eq_true.1 JO l hl)
 have DT:∀ {g},Wr gr S0 g->Wr β (oF++T) g:=fun {g} ⟨l,b,p,o,h1,h2,h3,h4,h5⟩=>by
  obtain⟨bG,b2,cR,lp⟩:=xh h1
  obtain⟨_,_,q3,q4,_⟩:=bV lp
  exact⟨l,b2,p,o,cR,q4,by rw[q3]; exact h3,(xX h4).2,h5⟩
 have QY:∀ {g},Wr gY (S'++T) g->(Wr aI S' g)\/∃ l b p o,S0.length<=l/\(oF++T)[l]?=some b/\b.live=true/\b.m = .w/\β l=some p/\p.a=some (g,o):=fun {g} ⟨l,b,p,o,h1,h2,h3,h4,h5⟩=>by
  by_cases hl:l < S'.length
  ·rw[List.getElem?_append_left hl] at h1
   exact .inl ⟨l,b,p,o,h1,h2,h3,by rw[← Bx l (by omega)]; exact h4,h5⟩
  ·rw[List.getElem?_append_right (by omega)] at h1
   refine .inr ⟨l,b,p,o,by omega,?_,h2,h3,by rw[← yp l (by omega)]; exact h4,h5⟩
   rw[List.getElem?_append_right (by omega),Cr,qN]; exact h1
 
 have apart:∀ {l:Nat} {b:ak} {p:nN} {g o:Nat},S0.length<=l->(oF++T)[l]?=some b->b.live=true->β l=some p->p.a=some (g,o)->¬ Wr gr S0 g:=fun {l b p g o} hl hb az hp ha ⟨l2,b2,p2,o2,h1,h2,h3,h4,h5⟩=>by
  obtain⟨bG,b3,jA,jZ⟩:=xh h1
  obtain⟨_,_,q3,q4,_⟩:=bV jZ
  obtain⟨arr,ty,fr,_,ho⟩:=(hH.fp l2 b3 jA q4).place (xX h4).2 h5
  exact (ho.1 (by rw[q3,h3]; nofun)).2.2 l b (by omega) hb az p g o hp ha rfl
 refine⟨v,r,S'++T,I',gY,he,hk,PV.Is.mono (fun _ h=>h) (fun _ _=>rfl) r aI gY v (fun m p _ hp=>AO m p hp) hi,⟨fun l hl=>by rw[yp l (by simp only[List.length_append] at hl; omega)]; exact hH.jI l (by simp only[List.length_append] at hl ⊢; omega),fun l b hb az=>?_⟩,ks,⟨hE.os,hE.tape,hE.output,hE.size,fun g hg hn=>hE.block g hg fun h=>hn (DT h),fun g hg h=>?_,hE.aw,fun g hg h=>(hE.new g hg h).imp id DT⟩,by simp only[List.length_append]; omega,fun l _ hr=>by
   by_cases hl:l < S0.length
   ·rw[Bx l hl]; exact vr l hl hr
   ·exact yp l hl⟩
 ·by_cases hl:l < S'.length
  ·rw[List.getElem?_append_left hl] at hb
   have hB:=ml.fp l b hb az
   refine hB.mono (fun _ h=>h) (fun _ _=>rfl) AO fun p g o hp ha=>⟨rfl,fun hr=>?_⟩
   obtain⟨arr,ty,fr,hh,ho⟩:=hB.place hp ha
   obtain⟨h1,h2,h3⟩:=ho.1 hr
   refine⟨h2,fun l2 b2 bZ cR bn p2 g2 o2 fQ fP=>?_⟩
   by_cases eJ:l2 < S'.length
   ·rw[List.getElem?_append_left eJ] at cR
    exact h3 l2 b2 bZ cR bn p2 g2 o2 (by rw[← Bx l2 (by omega)]; exact fQ) fP
   ·rw[List.getElem?_append_right (by omega)] at cR
    have DU:(oF++T)[l2]?=some b2:=by rw[List.getElem?_append_right (by omega),Cr,qN]; exact cR
    have By:β l2=some p2:=by rw[← yp l2 (by omega)]; exact fQ
    have Dq:=hH.cM ⟨l2,b2,p2,o2,DU,bn,By,fP⟩
    obtain⟨b0,fO⟩:∃ b0,S0[l]?=some b0:=⟨S0[l]'(by omega),by simp[show l < S0.length by omega]⟩
    obtain⟨_,q5⟩:=Hb l b0 b fO hb
    by_cases Uw:l∈rl
    ·intro e
     subst e
     have hw:b.m = .w:=by rw[← q5]; exact (qR l Uw).2 b0 fO
     exact apart (by omega) DU bn By fP (hE.wr _ Dq ⟨l,b,p,o,hb,az,hw,hp,ha⟩)
    ·obtain⟨_,b3,jA,jZ⟩:=xh fO
     obtain⟨_,_,q3,q4,_⟩:=bV jZ
     have Gu:β l=some p:=by rw[← vr l (by omega) Uw]; exact hp
     obtain⟨_,_,_,_,Sd⟩:=(hH.fp l b3 jA q4).place Gu ha
     exact (Sd.1 (by rw[q3,q5]; exact hr)).2.2 l2 b2 bZ DU bn p2 g2 o2 By fP
  ·rw[List.getElem?_append_right (by omega)] at hb
   have cv:(oF++T)[l]?=some b:=by rw[List.getElem?_append_right (by omega),Cr,qN]; exact hb
   have hB:=hH.fp l b cv az
   have same:∀ {p g o},β l=some p->p.a=some (g,o)->g < w.heap.size/\w'.heap[g]?=w.heap[g]?:=fun {p g o} hp ha=>by
    have bG:=hH.cM ⟨l,b,p,o,cv,az,hp,ha⟩
    exact⟨bG,hE.block g bG (apart (by omega) cv az hp ha)⟩
   have hTb:=Bw hT (List.mem_of_getElem? hb)
   refine hB.zI hE.aw (fun g hg=>hE.block g (hM.aw g hg) fun hw=>?_) (fun p hp=>by rw[yp l (by omega)]; exact hp) (fun hk c hc m hm p hp=>?_) fun p g o hp ha=>⟨(same hp ha).2,fun hr=>?_⟩
   ·exact J4.k_ hw hg
   ·by_cases X6:m < S0.length
    ·rw[Bx m X6,vr m X6 (hTb hk c hc m hm)]; exact hp
    ·rw[yp m X6]; exact hp
   ·obtain⟨arr,ty,fr,hh,ho⟩:=hB.place hp ha
    obtain⟨h1,h2,h3⟩:=ho.1 hr
    refine⟨fun hI=>(hE.new g (same hp ha).1 hI).elim h2 (apart (by omega) cv az hp ha),fun l2 b2 bZ cR bn p2 g2 o2 fQ fP=>?_⟩
    have Dk:=(same hp ha).1
    by_cases eJ:l2 < S'.length
    ·rw[List.getElem?_append_left eJ] at cR
     have By:aI l2=some p2:=by rw[← Bx l2 (by omega)]; exact fQ
     obtain⟨b0,fO⟩:∃ b0,S0[l2]?=some b0:=⟨S0[l2]'(by omega),by simp[show l2 < S0.length by omega]⟩
     by_cases Uw:l2∈rl
     ·intro e
      subst e
      obtain⟨_,q5⟩:=Hb l2 b0 b2 fO cR
      have hw:b2.m = .w:=by rw[← q5]; exact (qR l2 Uw).2 b0 fO
      exact apart (by omega) cv az hp ha (hE.wr _ Dk ⟨l2,b2,p2,o2,cR,bn,hw,By,fP⟩)
     ·obtain⟨_,b3,jA,jZ⟩:=xh fO
      exact h3 l2 b3 bZ jA (bV jZ).2.2.2.1 p2 g2 o2 (by rw[← vr l2 (by omega) Uw]; exact By) fP
    ·rw[List.getElem?_append_right (by omega)] at cR
     exact h3 l2 b2 bZ (by rw[List.getElem?_append_right (by omega),Cr,qN]; exact cR) bn p2 g2 o2 (by rw[← yp l2 (by omega)]; exact fQ) fP
 ·rcases QY h with h|⟨l,b,p,o,_,h2,h3,h4,h5,h6⟩
  ·exact DT (hE.wr g hg h)
  ·exact⟨l,b,p,o,h2,h3,h4,h5,h6⟩
def IG (st:List ak) (fz:List Nat) (x:PV):PV:=match x with
 | .wref l=>bif iI l fz then (match st[l]? with
  | some ⟨.dyn,_,n,_,_,cs⟩=>.sl n cs
  | _=>.wref l) else .wref l
 | x=>x
def TM.yq (f:PV->PV):TM->TM
 | .nil=>.nil
 | .node v l r=>.node (match v with
  | some x=>some (f x)
  | none=>none) (l.yq f) (r.yq f)
def aO.AI (s:aO) (fz:List Nat):aO:=match s with
 | ⟨n,t,st,b,rl⟩=>⟨n,t.yq (IG st fz),eK fz st,b,rl⟩
theorem TM.qa (f:PV->PV):∀ (t:TM) (n:Nat),(t.yq f).get n=(t.get n).map f
 | .nil,_=>rfl
 | .node v l r,n=>by
  show TM.get (.node (match v with
   | some x=>some (f x)
   | none=>none) (l.yq f) (r.yq f)) n=_
  rw[TM.get,TM.get]
  cases Nat.beq n 0<;>cases Nat.beq (n % 2) 1<;>simp only[cond_true,cond_false]
  ·exact TM.qa f r _
  ·exact TM.qa f l _
  ·cases v<;>rfl
  ·cases v<;>rfl
theorem j9 {S:List ak} {fz:List Nat} {l:Nat} {b:ak} (hb:(eK fz S)[l]?=some b):∃ b0,S[l]?=some b0/\b = { b0 with m:=jj (iI l fz) b0.m }:=by
 unfold eK at hb
 rw[dO,Option.map_eq_some_iff] at hb
 obtain⟨b0,h1,h2⟩:=hb
 rw[Nat.zero_add] at h2
 exact⟨b0,h1,h2.symm⟩
theorem aD.AI {S:List ak} (hH:aD I β S w) (hM:cL G I w) {fz:List Nat} (hz:Lj S fz=true):aD (dQ I β S fz) β (eK fz S) w:=by
 refine⟨fun l hl=>hH.jI l (by unfold eK at hl; rw[dP] at hl; exact hl),fun l b hb az=>?_⟩
 obtain⟨b0,fO,rfl⟩:=j9 hb
 obtain⟨p,hp,hk⟩:=hH.fp l b0 fO az
 have rM:∀ g,I g->dQ I β S fz g:=fun g h=>.inl h
 have own:∀ {g o:Nat} {fr:Nat × Nat},p.a=some (g,o)->Own I β S l g fr b0->Own (dQ I β S fz) β (eK fz S) l g fr { b0 with m:=jj (iI l fz) b0.m }:=fun {g o fr} ha ho=>by
  refine⟨fun hm=>?_,fun hm=>?_⟩
  ·have oA:iI l fz=false/\b0.m≠.r:=by
    cases hc:iI l fz with
    | true=>simp only[hc,jj,cond_true,ne_eq,not_true_eq_false] at hm
    | false=>exact⟨rfl,by simpa only [hc,jj,cond_false] using hm⟩
   obtain⟨h1,h2,h3⟩:=ho.1 oA.2
   refine⟨h1,fun hI=>?_,fun l2 b2 bZ eJ bn p2 g2 o2 fQ fP=>?_⟩
   ·rcases hI with hI|⟨l2,b2,p2,o2,eJ,cR,bn,_,fQ,fP⟩
    ·exact h2 hI
    ·refine h3 l2 b2 (fun e=>?_) cR bn p2 g o2 fQ fP rfl
     subst e
     rw[cP.2 eJ] at oA
     cases oA.1
   ·obtain⟨b3,jA,rfl⟩:=j9 eJ
    exact h3 l2 b3 bZ jA bn p2 g2 o2 fQ fP
  ·cases hc:iI l fz with
   | true =>
    obtain⟨b1,AM,k1,k2⟩:=xW hz (cP.1 hc)
    rw[fO] at AM; cases AM
    exact .inr ⟨l,b0,p,o,cP.1 hc,fO,k1,k2,hp,ha⟩
   | false=>exact rM g (ho.2 (by simpa only [hc,jj,cond_false] using hm))
 have Cy:∀ g,I g->w.heap[g]?=w.heap[g]?:=fun _ _=>rfl
 refine⟨p,hp,?_⟩
 split at hk
 ·rename_i bS
  obtain⟨g,o,arr,ty,fr,h1,h2,h3,ho⟩:=hk
  simp only[bS]
  exact⟨g,o,arr,ty,fr,h1,h2,aS.mono rM Cy (fun _ _ h=>h) h3,own h1 ho⟩
 ·rename_i bS
  obtain⟨g,arr,fr,h1,h2,h3,ho,h4⟩:=hk
  simp only[bS]
  exact⟨g,arr,fr,h1,h2,aS.mono rM Cy (fun _ _ h=>h) h3,own h1 ho,h4⟩
 ·rename_i bS
  obtain⟨h1,hk⟩:=hk
  simp only[bS]
  refine⟨h1,?_⟩
  rcases hk with h|⟨g,arr,fr,h2,h3,h4,ho,h5⟩
  ·exact .inl h
  ·exact .inr ⟨g,arr,fr,h2,h3,bE.mono rM Cy _ _ _ _ rfl h4,own h2 ho,h5⟩
 ·rename_i bS
  obtain⟨g,h1,h2,ho⟩:=hk
  simp only[bS]
  exact⟨g,h1,h2,own h1 ho⟩
theorem IH {S:List ak} (hH:aD I β S w) {fz:List Nat} (hz:Lj S fz=true) {x:PV} {v:Value} (hx:x.Is w I β v):(IG S fz x).Is w (dQ I β S fz) β v:=by
 have m6:∀ y:PV,y.Is w I β v->y.Is w (dQ I β S fz) β v:=fun y hy=>PV.Is.mono (fun _ h=>.inl h) (fun _ _=>rfl) y β β v (fun _ _ _ h=>h) hy
 unfold IG
 split
 ·rename_i l
  cases hc:iI l fz with
  | false=>exact m6 _ hx
  | true =>
   obtain⟨b,hb,az,hm⟩:=xW hz (cP.1 hc)
   simp only[cond_true]
   split
   ·rename_i _ ty n m live cs hs
    rw[hb] at hs
    cases hs
    have h1:=oW hH (cP.1 hc) hb (n:=n) (es:=cs) (by
     simp only at az hm
     show (bif live && AG m && Nat.beq n n then cs=cs else False)
     rw[az,hm,Nat.beq_refl]; exact rfl) hx
    exact PV.Is.mono (fun _ h=>h) (fun _ _=>rfl) _ no β v (fun l p hl=>by simp[PV.cr] at hl) h1
   ·exact m6 _ hx
 ·exact m6 _ hx
theorem Sub.freeze (fz:List Nat) (hz:Lj s.st fz=true):Sub G s (s.AI fz):=fun I β a w hR=>by
 obtain⟨n,t,st,b,rl⟩:=s
 refine⟨dQ I β st fz,β,⟨hR.small,hR.defers,hR.size,by show b<=(eK fz st).length; unfold eK; rw[dP]; exact hR.base,fun i x hx=>?_,hR.heap.AI hR.aw hz,jY hR.heap hR.aw⟩,⟨⟨rfl,rfl,rfl,Nat.le_refl _,fun _ _ _=>rfl,fun g _ h=>?_,fun _ h=>.inl h,fun g _ h=>?_⟩,rfl,rfl,rfl,fun _ _ _=>rfl⟩⟩
 ·have dp:(t.yq (IG st fz)).get i=some x:=hx
  rw[TM.qa,Option.map_eq_some_iff] at dp
  obtain⟨y,hy,rfl⟩:=dp
  obtain⟨v,hv,hi⟩:=hR.get i y hy
  exact⟨v,hv,IH hR.heap hz hi⟩
 ·obtain⟨l,b1,p,o,h1,h2,h3,h4,h5⟩:=h
  obtain⟨b0,fO,rfl⟩:=j9 h1
  refine⟨l,b0,p,o,fO,h2,?_,h4,h5⟩
  cases hc:iI l fz with
  | true=>simp only[hc,jj,cond_true] at h3; cases h3
  | false=>simpa only [hc,jj,cond_false] using h3
 ·rcases h with h|⟨l,b1,p,o,hl,hb,az,hm,hp,ha⟩
  ·exact .inl h
  ·cases oD:b1.m with
   | w=>exact .inr ⟨l,b1,p,o,hb,az,oD,hp,ha⟩
   | p=>rw[oD] at hm; cases hm
   | r =>
    obtain⟨arr,ty,fr,_,ho⟩:=(hR.heap.fp l b1 hb az).place hp ha
    exact .inl (ho.2 oD)
theorem SW.sub {c:Code} {Q:X->aO->Prop} {s s':aO} (h:Sub G s s') (h':SW G c Q s'):SW G c Q s:=SW.intro fun I β a w hR=>by
 obtain⟨I',aI,di,hg⟩:=h I β a w hR
 exact h'.from di hg
def aO.bare (s:aO) (vs:List (Nat × PV)) (st:List ak):aO:=match s with
 | ⟨n,_,_,b,rl⟩=>⟨n,iL vs .nil,st,b,rl⟩
theorem SW.qb (hG:oS G) (R:List (Nat × aF)) {α:Type} {c:Code} {Q:X->aO->Prop} (hc:ca R c=true) (vs:α->List (Nat × PV)) (st:α->List ak) (μ:α->Nat) (x0:α) (N:Nat) (JW:fx) (h0:jF G.cx JW s (s.bare (vs x0) (st x0)))
  (h:∀ x,QW (s.bare (vs x) (st x)) (pw G R N c (pH (fun s'=>∃ y π,μ y < μ x/\jF G.cx π s' (s.bare (vs y) (st y))) Q))):SW G (.loop c) Q s :=
 SW.inv hG (fun x=>s.bare (vs x) (st x)) μ (N:=N) hc x0 (aM hG.ok h0) (fun x s'=>∃ y π,μ y < μ x/\jF G.cx π s' (s.bare (vs y) (st y))) (fun x s' ⟨y,π,hy,hs⟩=>⟨y,hy,aM hG.ok hs⟩) fun x=>pO (h x)
theorem Spec.Gv (hG:oS G) {f:FuncId} {args:List PV} {S S':List ak} {rl:List Nat} {K:PV->List ak->Prop} (h:Spec G f args S' rl K) (π:fx) (hs:jF G.cx π ⟨0,.nil,S,S.length,[]⟩ ⟨0,.nil,S',S.length,[]⟩) (hu:(c8 args).all (fun l=>Nat.blt l S.length)=true) (JO:∀ l∈rl,S.length<=l):Spec G f args S [] K:=by
 refine Spec.intro h.run.1 fun I β w aZ hH hM hA=>?_
 have hR:Rel G I β ⟨0,.nil,S,S.length,[]⟩ { tmps:=#[],defers:=G.Vm } w:=⟨Nat.zero_le _,rfl,rfl,Nat.le_refl _,fun n x hx=>(by cases hx),hH,hM⟩
 obtain⟨I',aI,di,hg⟩:=aM hG.ok hs I β _ w hR
 have Lm:a_ w I' args aI aZ:=a_.mono hg.ext.aw (fun g uw=>hg.ext.block g (hM.aw g uw) (fun hw=>hH.k_ hw uw)) args β aI aZ (fun m p hm hp=>by
  rw[List.all_eq_true] at hu
  rw[hg.low m (Nat.le_of_ble_eq_true (hu m hm)) (by simp)]; exact hp) hA
 have hlen:S.length<=S'.length:=di.base
 refine (h.run.2 I' aI w aZ di.heap di.aw Lm).mono fun e w' ⟨v,r,S2,I2,gY,he,hK,hr,X7,X8,hE,hl,lg⟩=>?_
 refine⟨v,r,S2,I2,gY,he,hK,hr,X7,X8,hg.ext.trans hE,by omega,fun l iz _=>?_⟩
 rw[lg l (by omega) (fun hm=>by have:=JO l hm; omega)]
 exact hg.low l iz (by simp)
end
def rb (π:fx) (b:ak) (q:ak->Prop):Prop:=match b with
 | ⟨.dyn,ty,n,m,live,cs⟩=>q ⟨.dyn,ty,n,m,live,cs⟩
 | ⟨.mp,ty,n,m,live,cs⟩=>q ⟨.mp,ty,n,m,live,cs⟩
 | ⟨k,ty,n,m,live,cs⟩=>aV (eS π cs) fun cs=>q ⟨k,ty,n,m,live,cs⟩
def VG (π:fx) (st:List ak):List Nat->List ak->Prop->Prop
 | [],[],k=>k
 | l::σ,b'::S,k=>(aV st[l]? fun b=>rb π b' fun k9=>dR b k9)/\VG π st σ S k
 | _,_,_=>False
def Q7 (π:fx):List Nat->List ak->List ak->(List ak->Prop)->Prop
 | [],[],st,k=>k st
 | l::σ,b'::S,st,k=>rb π b' fun k9=>RY k9 fun k9=>s7 st l k9 fun st=>Q7 π σ S st k
 | _,_,_,_=>False
def EU (π:fx):List PV->List PV->Prop
 | [],[]=>True
 | x::xs,y::ys=>(aV (y.Gv π) fun z=>mT x z)/\EU π xs ys
 | _,_=>False
def j':List Nat->Bool
 | []=>true
 | l::σ=>!σ.any (Nat.beq l) && j' σ
section
variable {w w':World} {I I':Nat->Prop} {β aI:ax} {G:Gx} {s:aO} {a:Act} {st dc:List ak}
theorem tQ {π:fx} {b:ak} {q:ak->Prop} (h:rb π b q):∃ b2,q b2/\b2.k=b.k/\b2.ty=b.ty/\b2.size=b.size/\b2.m=b.m/\b2.live=b.live/\((b.k.qL=false/\b2.cs=b.cs)\/(b.k.qL=true/\eS π b.cs=some b2.cs)):=by
 obtain⟨k,ty,n,m,live,cs⟩:=b
 cases k
 ·obtain⟨ds,h1,h2⟩:=aq h
  exact⟨_,h2,rfl,rfl,rfl,rfl,rfl,.inr ⟨rfl,h1⟩⟩
 ·obtain⟨ds,h1,h2⟩:=aq h
  exact⟨_,h2,rfl,rfl,rfl,rfl,rfl,.inr ⟨rfl,h1⟩⟩
 ·exact⟨_,h,rfl,rfl,rfl,rfl,rfl,.inl ⟨rfl,rfl⟩⟩
 ·exact⟨_,h,rfl,rfl,rfl,rfl,rfl,.inl ⟨rfl,rfl⟩⟩
theorem EV {π:fx} {st:List ak}:∀ {σ:List Nat} {S:List ak} {k:Prop},VG π st σ S k->k/\σ.length=S.length/\∀ (i l:Nat) (b':ak),σ[i]?=some l->S[i]?=some b'->∃ b,st[l]?=some b/\rb π b' fun k9=>dR b k9
 | [],[],k,h=>⟨h,rfl,fun i l b' hl=>by simp at hl⟩
 | l::σ,b'::S,k,h=>by
  obtain⟨h1,h2⟩:=h
  obtain⟨hk,hl,hh⟩:=EV h2
  obtain⟨b,hb,h1⟩:=aq h1
  refine⟨hk,by simp[hl],fun i m c hm hc=>?_⟩
  cases i with
  | zero=>simp at hm hc; subst hm; subst hc; exact⟨b,hb,h1⟩
  | succ i=>exact hh i m c (by simpa using hm) (by simpa using hc)
 | [],_::_,_,h=>h.elim
 | _::_,[],_,h=>h.elim
theorem se:∀ {σ:List Nat},j' σ=true->∀ (i j l:Nat),σ[i]?=some l->σ[j]?=some l->i=j
 | [],_,i,j,l,h,_=>by simp at h
 | m::σ,h,i,j,l,hi,hj=>by
  simp only[j',Bool.and_eq_true,Bool.not_eq_true',List.any_eq_false] at h
  have hn:∀ k,σ[k]?=some m->False:=fun k hk=>h.1 m (List.mem_of_getElem? hk) (Nat.beq_refl m)
  cases i with
  | zero=>cases j with
   | zero=>rfl
   | succ j=>simp at hi hj; subst hi; exact (hn j hj).elim
  | succ i=>cases j with
   | zero=>simp at hi hj; subst hj; exact (hn i hi).elim
   | succ j=>simp at hi hj; rw[se h.2 i j l hi hj]
theorem EW {π:fx}:∀ {σ:List Nat} {S:List ak} {st:List ak} {k:List ak->Prop},j' σ=true->Q7 π σ S st k->∃ dc,k dc/\dc.length=st.length/\(∀ l,l ∉ σ->dc[l]?=st[l]?)/\∀ (i l:Nat) (b':ak),σ[i]?=some l->S[i]?=some b'->rb π b' fun k9=>dc[l]?=some k9
 | [],[],st,k,_,h=>⟨st,h,rfl,fun _ _=>rfl,fun i l b' hl=>by simp at hl⟩
 | l::σ,b'::S,st,k,hd,h=>by
  have ot:=hd
  simp only[j',Bool.and_eq_true,Bool.not_eq_true',List.any_eq_false] at hd
  have We:l ∉ σ:=fun hm=>hd.1 l hm (Nat.beq_refl l)
  
  have key:∀ {c:ak} {q:ak->Prop},(rb π b' fun k9=>q k9)->∃ b2,q b2/\∀ q2:ak->Prop,q2 b2->rb π b' q2:=fun {c q} hq=>by
   obtain⟨k0,ty,n,m,live,cs⟩:=b'
   cases k0
   ·obtain⟨ds,h1,h2⟩:=aq hq
    exact⟨_,h2,fun q2 re=>by show aV (eS π cs) _; rw[h1]; exact re⟩
   ·obtain⟨ds,h1,h2⟩:=aq hq
    exact⟨_,h2,fun q2 re=>by show aV (eS π cs) _; rw[h1]; exact re⟩
   ·exact⟨_,hq,fun q2 re=>re⟩
   ·exact⟨_,hq,fun q2 re=>re⟩
  obtain⟨b2,h2,re⟩:=key (c:=b') (q:=fun k9=>RY k9 fun k9=>s7 st l k9 fun st=>Q7 π σ S st k) h
  obtain⟨bG,h3⟩:=jd (xP h2)
  obtain⟨dc,hk,hlen,gV,Df⟩:=EW hd.2 h3
  refine⟨dc,hk,by rw[hlen,List.length_set],fun m hm=>?_,fun i m c hm hc=>?_⟩
  ·rw[gV m (fun hx=>hm (List.mem_cons_of_mem _ hx)),List.getElem?_set_ne (fun e=>hm (by rw[e]; exact List.mem_cons_self))]
  ·cases i with
   | zero =>
    simp at hm hc; subst hm; subst hc
    refine re _ ?_
    rw[gV l We,List.getElem?_set_self bG]
   | succ i=>exact Df i m c (by simpa using hm) (by simpa using hc)
 | [],_::_,_,_,_,h=>h.elim
 | _::_,[],_,_,_,h=>h.elim
theorem zJ {π:fx}:∀ {xs ys:List PV} {vs:List Value},EU π xs ys->a_ w I xs β vs->a_ w I ys (gv β π) vs
 | [],[],vs,_,h=>by cases vs with
  | nil=>simp only[a_]
  | cons v vs=>simp only[a_] at h
 | x::xs,y::ys,vs,h,hx=>by
  cases vs with
  | nil=>simp only[a_] at hx
  | cons v vs =>
   simp only[a_] at hx ⊢
   obtain⟨z,hz,hle⟩:=aq h.1
   exact⟨Dz hz (dK hle _ _ _ _ hx.1),zJ h.2 hx.2⟩
 | [],_::_,_,h,_=>h.elim
 | _::_,[],_,h,_=>h.elim
theorem mv {π:fx} {x y:PV} {v:Value} (h:x.ve π=some y) (hx:x.Is w I (gv β π) v):y.Is w I β v:=by
 unfold PV.ve at h
 split at h
 ·split at h
  ·rename_i m hm
   cases h
   simp only[PV.Is] at hx ⊢
   rw[bH hm] at hx; exact hx
  ·rename_i hm
   cases h
   simp only[PV.Is] at hx ⊢
   obtain⟨p,hp,hv⟩:=hx
   rw[iK hm] at hp; cases hp; exact hv
  ·cases h
 ·split at h
  ·rename_i m hm
   cases h
   simp only[PV.Is] at hx ⊢
   rw[bH hm] at hx; exact hx
  ·cases h
 ·split at h
  ·rename_i m hm
   cases h
   simp only[PV.Is] at hx ⊢
   rw[bH hm] at hx; exact hx
  ·cases h
 ·split at h
  ·rename_i m hm
   cases h
   simp only[PV.Is] at hx ⊢
   rw[bH hm] at hx; exact hx
  ·cases h
 ·split at h
  ·rename_i m hm
   cases h
   simp only[PV.Is] at hx ⊢
   rw[bH hm] at hx; exact hx
  ·cases h
 ·split at h
  ·rename_i m hm
   cases h
   simp only[PV.Is] at hx ⊢
   rw[bH hm] at hx; exact hx
  ·cases h
 ·cases h
 ·cases h
 ·cases h
 ·cases h
  refine PV.Is.mono (fun _ h=>h) (fun _ _=>rfl) x _ β v (fun l p hl=>?_) hx
  cases x<;>first|(simp_all [PV.cr]; done)|(rename_i a1 a2 a3 a4 a5 a6 a7 a8 a9; first|exact (a4 _ _ _ _ rfl).elim|exact (a5 _ _ _ _ rfl).elim|exact (a6 _ _ _ _ rfl).elim)
theorem gC {π:fx}:∀ {xs ys:List PV} {i:Nat},eS π xs=some ys->(∀ y,ys[i]?=some y->∃ x,xs[i]?=some x/\x.ve π=some y)/\(∀ x,xs[i]?=some x->∃ y,ys[i]?=some y/\x.ve π=some y)/\ys.length=xs.length
 | [],ys,i,h=>by
  simp only[eS,Option.some.injEq] at h
  subst h
  exact⟨fun y hy=>by simp at hy,fun x hx=>by simp at hx,rfl⟩
 | x::xs,ys,i,h=>by
  simp only[eS] at h
  split at h
  ·rename_i y l h1 h2
   cases h
   obtain⟨a1,a2,a3⟩:=gC (i:=i - 1) h2
   cases i with
   | zero=>exact⟨fun z hz=>by simp at hz; subst hz; exact⟨x,rfl,h1⟩,fun z hz=>by simp at hz; subst hz; exact⟨y,rfl,h1⟩,by simp[a3]⟩
   | succ i=>exact⟨fun z hz=>by simpa using a1 z (by simpa using hz),fun z hz=>by simpa using a2 z (by simpa using hz),by simp[a3]⟩
  ·cases h
theorem fD.tr {l l':Nat} {b b':ak} (hb:fD I β st w l b) (lg:∀ p,β l=some p->aI l'=some p) (hI:∀ g,I g->I' g) (hw:∀ g,I g->w'.heap[g]?=w.heap[g]?)
  (hg:∀ p g o,β l=some p->p.a=some (g,o)->w'.heap[g]?=w.heap[g]?) (dd:∀ p g o fr,β l=some p->p.a=some (g,o)->Own I β st l g fr b->Own I' aI dc l' g fr b')
  (hk:b'.k=b.k) (Dj:b'.ty=b.ty) (eI:b'.size=b.size) (gU:b.k.qL=false->b'.cs=b.cs) (hlen:b'.cs.length=b.cs.length)
  (lh:b.k.qL=true->∀ (arr:Array Value) (o:Nat),aS w I β b.cs arr o->aS w' I' aI b'.cs arr o):fD I' aI dc w' l' b':=by
 obtain⟨p,hp,bS⟩:=hb
 refine⟨p,lg p hp,?_⟩
 rw[hk]
 split at bS
 ·rename_i he
  obtain⟨g,o,arr,ty,fr,ha,hh,hc,ho⟩:=bS
  exact⟨g,o,arr,ty,fr,ha,(hg p g o hp ha).trans hh,lh (by rw[he]; rfl) arr o hc,dd p g o fr hp ha ho⟩
 ·rename_i he
  obtain⟨g,arr,fr,ha,hh,hc,ho,h1,h2,h3,h4,h5⟩:=bS
  exact⟨g,arr,fr,ha,by rw[Dj]; exact (hg p g 0 hp ha).trans hh,lh (by rw[he]; rfl) arr 0 hc,dd p g 0 fr hp ha ho,by rw[hlen,eI]; exact h1,h2,h3,by rw[eI]; exact h4,by rw[eI]; exact h5⟩
 ·rename_i he
  obtain⟨⟨h1,h2,h3,h4⟩,bS⟩:=bS
  have kG:=gU (by rw[he]; rfl)
  refine⟨⟨by rw[eI]; exact h1,by rw[kG]; exact h2,h3,h4⟩,?_⟩
  rcases bS with h|⟨g,arr,fr,ha,hh,hc,ho,h5⟩
  ·exact .inl h
  ·exact .inr ⟨g,arr,fr,ha,by rw[Dj]; exact (hg p g 0 hp ha).trans hh,by rw[kG,eI]; exact bE.mono hI hw _ _ _ _ (hg p g 0 hp ha) hc,dd p g 0 fr hp ha ho,by rw[eI]; exact h5⟩
 ·rename_i he
  obtain⟨g,ha,hm,ho⟩:=bS
  have kG:=gU (by rw[he]; rfl)
  exact⟨g,ha,by rw[kG]; exact hm.m6 (hg p g 0 hp ha),dd p g 0 _ hp ha ho⟩
theorem Spec.vW {f:FuncId} {args aX:List PV} {r0:PV} {S0 S1:List ak} {K:PV->List ak->Prop} (σ:List Nat) (h:Spec G f aX S0 [] fun r S'=>r=r0/\S'=S1) (hm:jB S0 S1=true) (xQ:r0.cr = []) (hσ:j' σ=true)
  (hle:EU (σ.map some) args aX) (hK:VG (σ.map some) st σ S0 (Q7 (σ.map some) σ S1 st (K r0))):Spec G f args st [] K:=by
 obtain⟨hk,Cr,AL⟩:=EV hK
 obtain⟨dc,kO,hlen',gV,Df⟩:=EW hσ hk
 obtain⟨qN,Hb⟩:=mj hm
 have X9:=se hσ
 have Gw:∀ {i l:Nat},σ[i]?=some l->(σ.map some)[i]?=some (some l):=fun {i l} h=>by rw[List.getElem?_map,h]; rfl
 refine Spec.intro h.run.1 fun I β w aZ hH hM hA=>?_
 obtain⟨gr,EX⟩:∃ gr:ax,gr=gv β (σ.map some):=⟨_,rfl⟩
 have iM:∀ {i l:Nat},σ[i]?=some l->gr i=β l:=fun {i l} h=>by rw[EX]; exact bH (Gw h)
 have Ux:∀ {i:Nat},S0.length<=i->gr i=none:=fun {i} h=>by
  rw[EX]; unfold gv; rw[List.getElem?_eq_none (by rw[List.length_map]; omega)]
 have idx:∀ {i:Nat},i < S0.length->∃ l,σ[i]?=some l:=fun {i} h=>⟨σ[i]'(by omega),List.getElem?_eq_getElem (by omega)⟩
 have xh:∀ {i:Nat} {b':ak},S0[i]?=some b'->∃ l b b2,σ[i]?=some l/\st[l]?=some b/\dR b b2/\b2.k=b'.k/\b2.ty=b'.ty/\b2.size=b'.size/\b2.m=b'.m/\b2.live=b'.live/\((b'.k.qL=false/\b2.cs=b'.cs)\/(b'.k.qL=true/\eS (σ.map some) b'.cs=some b2.cs)):=fun {i b'} cv=>by
  obtain⟨l,hl⟩:=idx (List.getElem?_eq_some_iff.1 cv).1
  obtain⟨b,hb,hr⟩:=AL i l b' hl cv
  obtain⟨b2,h1,h2⟩:=tQ hr
  exact⟨l,b,b2,hl,hb,h1,h2⟩
 
 have EY:∀ {i:Nat} {b':ak},S0[i]?=some b'->∃ l b,σ[i]?=some l/\st[l]?=some b/\b.live=true/\b.m=b'.m:=fun {i b'} cv=>by
  obtain⟨l,b,b2,hl,hb,h1,h2,h3,h4,h5,h6,h7⟩:=xh cv
  obtain⟨e1,e2,e3,e4,e5,e6,e7⟩:=bV h1
  exact⟨l,b,hl,hb,e4,e3.trans h5⟩
 have J4:aD I gr S0 w:=by
  refine⟨fun i hi=>Ux hi,fun i b' cv az=>?_⟩
  obtain⟨l,b,b2,hl,hb,h1,h2,h3,h4,h5,h6,h7⟩:=xh cv
  obtain⟨e1,e2,e3,e4,e5,e6,e7⟩:=bV h1
  have hB:=hH.fp l b hb e4
  refine hB.tr (fun p hp=>(iM hl).trans hp) (fun _ h=>h) (fun _ _=>rfl) (fun _ _ _ _ _=>rfl) (fun p g o fr hp ha ho=>⟨fun hr=>?_,fun hr=>ho.2 (by rw[e3,h5]; exact hr)⟩) (h2.symm.trans e6.symm) (h3.symm.trans e1.symm) (h4.symm.trans e2.symm) (fun hc=>?_) ?_ (fun hc arr o oT=>?_)
  ·obtain⟨q1,q2,q3⟩:=ho.1 (by rw[e3,h5]; exact hr)
   refine⟨q1,q2,fun i2 b2' bZ cR bn p2 g2 o2 fQ fP=>?_⟩
   obtain⟨l2,b3,eJ,jA,EZ,_⟩:=EY cR
   exact q3 l2 b3 (fun e=>bZ (X9 i2 i l (by rw[← e]; exact eJ) hl)) jA EZ p2 g2 o2 ((iM eJ).symm.trans fQ) fP
  ·rcases h7 with ⟨_,h7⟩|⟨h7,_⟩
   ·rcases e7 with ⟨_,e7⟩|⟨e7,_⟩
    ·rw[← h7,e7]
    ·rw[hc] at e7; cases e7
   ·rw[← h2,← e6,hc] at h7; cases h7
  ·have:b2.cs.length=b.cs.length:=by
    rcases e7 with ⟨_,e7⟩|⟨_,e7⟩
    ·rw[e7]
    ·exact (kq e7).symm
   rcases h7 with ⟨_,h7⟩|⟨_,h7⟩
   ·rw[← h7,this]
   ·rw[← (gC (i:=0) h7).2.2,this]
  ·have X':aS w I β b2.cs arr o:=by
    rcases e7 with ⟨hd,_⟩|⟨_,h8⟩
    ·rw[hc] at hd; cases hd
    ·exact gg h8 oT
   rcases h7 with ⟨hd,_⟩|⟨_,h7⟩
   ·rw[← h2,← e6,hc] at hd; cases hd
   ·intro j c hj
    obtain⟨y,hy,Bz⟩:=(gC (i:=j) h7).2.1 c hj
    obtain⟨v,hv,hi,h1⟩:=X' j y hy
    exact⟨v,hv,by rw[EX]; exact oV Bz hi,h1⟩
 have Lm:a_ w I aX gr aZ:=by rw[EX]; exact zJ hle hA
 refine (h.run.2 I gr w aZ J4 hM Lm).mono fun e w' ⟨v,r,S',I',aI,he,⟨e1,e2⟩,hi,ml,ks,hE,hlen,lg⟩=>?_
 subst e1; subst e2
 obtain rfl:aI=gr:=funext fun i=>by
  by_cases hi:i < S0.length
  ·exact lg i hi (by simp)
  ·rw[Ux (by omega),ml.jI i (by omega)]
 have mem:∀ {l:Nat},l∈σ->∃ i,σ[i]?=some l/\i < S0.length:=fun {l} hl=>by
  obtain⟨i,hi,e⟩:=List.getElem_of_mem hl
  exact⟨i,by rw[List.getElem?_eq_getElem hi,e],by omega⟩
 have DT:∀ {g},Wr aI S0 g->Wr β st g:=fun {g} ⟨i,b,p,o,h1,h2,h3,h4,h5⟩=>by
  obtain⟨l,b2,hl,cR,JU,oD⟩:=EY h1
  exact⟨l,b2,p,o,cR,JU,by rw[oD]; exact h3,(iM hl).symm.trans h4,h5⟩
 
 have apart:∀ {l:Nat} {b:ak} {p:nN} {g o:Nat},l ∉ σ->st[l]?=some b->b.live=true->β l=some p->p.a=some (g,o)->¬ Wr aI S0 g:=fun {l b p g o} hl hb az hp ha ⟨i,b2,p2,o2,h1,h2,h3,h4,h5⟩=>by
  obtain⟨l2,b3,eJ,jA,JU,oD⟩:=EY h1
  obtain⟨arr,ty,fr,ho⟩:=(hH.fp l2 b3 jA JU).place ((iM eJ).symm.trans h4) h5
  exact (ho.2.1 (by rw[oD,h3]; nofun)).2.2 l b (fun e=>hl (e ▸ List.mem_of_getElem? eJ)) hb az p g o hp ha rfl
 
 have new:∀ {i l:Nat} {b':ak},σ[i]?=some l->S'[i]?=some b'->∃ b2,dc[l]?=some b2/\b2.k=b'.k/\b2.ty=b'.ty/\b2.size=b'.size/\b2.m=b'.m/\b2.live=b'.live/\((b'.k.qL=false/\b2.cs=b'.cs)\/(b'.k.qL=true/\eS (σ.map some) b'.cs=some b2.cs)):=fun {i l b'} hl cv=>tQ (Df i l b' hl cv)
 have X_:∀ {i:Nat},i < S0.length->∃ b',S'[i]?=some b':=fun {i} h=>⟨S'[i]'(by omega),List.getElem?_eq_getElem (by omega)⟩
 have QY:∀ {g},Wr β dc g->(Wr aI S' g)\/∃ l b p o,l ∉ σ/\st[l]?=some b/\b.live=true/\b.m = .w/\β l=some p/\p.a=some (g,o):=fun {g} ⟨l,b,p,o,h1,h2,h3,h4,h5⟩=>by
  by_cases hl:l∈σ
  ·obtain⟨i,hi,bG⟩:=mem hl
   obtain⟨b',cv⟩:=X_ bG
   obtain⟨b2,cR,q1,q2,q3,q4,q5,_⟩:=new hi cv
   rw[cR] at h1
   cases h1
   exact .inl ⟨i,b',p,o,cv,by rw[← q5]; exact h2,by rw[← q4]; exact h3,(iM hi).trans h4,h5⟩
  ·exact .inr ⟨l,b,p,o,hl,(gV l hl).symm.trans h1,h2,h3,h4,h5⟩
 refine⟨v,r,dc,I',β,he,kO,kr xQ hi,⟨fun l hl=>hH.jI l (by omega),fun l b hb az=>?_⟩,ks,⟨hE.os,hE.tape,hE.output,hE.size,fun g hg hn=>hE.block g hg fun h=>hn (DT h),fun g hg h=>?_,hE.aw,fun g hg h=>(hE.new g hg h).imp id DT⟩,by omega,fun _ _ _=>rfl⟩
 ·by_cases hl:l∈σ
  ·obtain⟨i,hi,bG⟩:=mem hl
   obtain⟨b',cv⟩:=X_ bG
   obtain⟨b2,cR,q1,q2,q3,q4,q5,q6⟩:=new hi cv
   rw[cR] at hb
   cases hb
   have hB:=ml.fp i b' cv (by rw[← q5]; exact az)
   refine hB.tr (fun p hp=>(iM hi).symm.trans hp) (fun _ h=>h) (fun _ _=>rfl) (fun _ _ _ _ _=>rfl) (fun p g o fr hp ha ho=>⟨fun hr=>?_,fun hr=>ho.2 (by rw[← q4]; exact hr)⟩) q1 q2 q3 (fun hc=>?_) ?_ (fun hc arr o oT=>?_)
   ·obtain⟨x1,x2,x3⟩:=ho.1 (by rw[← q4]; exact hr)
    refine⟨x1,x2,fun l2 c2 bZ kG bn p2 g2 o2 fQ fP=>?_⟩
    by_cases eJ:l2∈σ
    ·obtain⟨i2,KX,th⟩:=mem eJ
     obtain⟨b3',Uy⟩:=X_ th
     obtain⟨b3,jA,_,_,_,_,y5,_⟩:=new KX Uy
     rw[jA] at kG
     cases kG
     exact x3 i2 b3' (fun e=>bZ (Option.some.inj (by rw[← hi,← KX,e]))) Uy (by rw[← y5]; exact bn) p2 g2 o2 ((iM KX).trans fQ) fP
    ·have Ya:st[l2]?=some c2:=(gV l2 eJ).symm.trans kG
     obtain⟨b0,fO⟩:∃ b0,S0[i]?=some b0:=⟨S0[i]'bG,List.getElem?_eq_getElem bG⟩
     obtain⟨l3,b3,QP,jA,EZ,Yb⟩:=EY fO
     obtain rfl:l3=l:=Option.some.inj (QP.symm.trans hi)
     obtain⟨_,q7⟩:=Hb i b0 b' fO cv
     obtain⟨_,_,fr3,_,Sd⟩:=(hH.fp l3 b3 jA EZ).place ((iM hi).symm.trans hp) ha
     exact (Sd.1 (by rw[Yb,q7,← q4]; exact hr)).2.2 l2 c2 bZ Ya bn p2 g2 o2 fQ fP
   ·rcases q6 with ⟨_,q6⟩|⟨q6,_⟩
    ·exact q6
    ·rw[hc] at q6; cases q6
   ·rcases q6 with ⟨_,q6⟩|⟨_,q6⟩
    ·rw[q6]
    ·exact (gC (i:=0) q6).2.2
   ·rcases q6 with ⟨hd,_⟩|⟨_,q6⟩
    ·rw[hc] at hd; cases hd
    ·intro j c hj
     obtain⟨y,hy,Bz⟩:=(gC (i:=j) q6).1 c hj
     obtain⟨u,hu,Yc,h1⟩:=oT j y hy
     exact⟨u,hu,mv Bz (by rw[← EX]; exact Yc),h1⟩
  ·have cv:st[l]?=some b:=(gV l hl).symm.trans hb
   have hB:=hH.fp l b cv az
   have same:∀ {p g o},β l=some p->p.a=some (g,o)->g < w.heap.size/\w'.heap[g]?=w.heap[g]?:=fun {p g o} hp ha=>by
    have bG:=hH.cM ⟨l,b,p,o,cv,az,hp,ha⟩
    exact⟨bG,hE.block g bG (apart hl cv az hp ha)⟩
   refine hB.mono hE.aw (fun g hg=>hE.block g (hM.aw g hg) fun hw=>?_) (fun _ _ h=>h) fun p g o hp ha=>⟨(same hp ha).2,fun hr=>?_⟩
   ·exact J4.k_ hw hg
   ·obtain⟨arr,ty,fr,hh,ho⟩:=hB.place hp ha
    obtain⟨h1,h2,h3⟩:=ho.1 hr
    refine⟨fun hI=>(hE.new g (same hp ha).1 hI).elim h2 (apart hl cv az hp ha),fun l2 b2 bZ cR bn p2 g2 o2 fQ fP=>?_⟩
    by_cases eJ:l2∈σ
    ·obtain⟨i2,KX,th⟩:=mem eJ
     obtain⟨b0,fO⟩:∃ b0,S0[i2]?=some b0:=⟨S0[i2]'th,List.getElem?_eq_getElem th⟩
     obtain⟨l3,b3,QP,jA,EZ,_⟩:=EY fO
     obtain rfl:l3=l2:=Option.some.inj (QP.symm.trans KX)
     exact h3 l3 b3 bZ jA EZ p2 g2 o2 fQ fP
    ·exact h3 l2 b2 bZ ((gV l2 eJ).symm.trans cR) bn p2 g2 o2 fQ fP
 ·rcases QY h with h|⟨l,b,p,o,_,h2,h3,h4,h5,h6⟩
  ·exact DT (hE.wr g hg h)
  ·exact⟨l,b,p,o,h2,h3,h4,h5,h6⟩
end
def Ke:Nat->Nat->fx
 | _,0=>[]
 | n,k+1=>some n::Ke (n+1) k
def vX (π:fx):List PV->Option (List PV)
 | []=>some []
 | c::cs=>(match c.Gv π,vX π cs with
  | some x,some l=>some (x::l)
  | _,_=>none)
def PV.P2 (π:fx) (x:PV):Option PV:=match x with
 | .tup cs=>(vX π cs).map .tup
 | x=>x.Gv π
def P3 (π:fx):List ak->List ak->(List ak->Prop)->Prop
 | [],st,k=>k st
 | b::S,st,k=>rb π b fun b=>RY b fun b=>xq st b fun st=>P3 π S st k
section
variable {w w':World} {I I':Nat->Prop} {β aI:ax} {G:Gx} {s:aO} {a:Act} {st dc:List ak}
theorem tR:∀ {k n i:Nat},(Ke n k)[i]?=if i < k then some (some (n+i)) else none
 | 0,n,i=>by simp[Ke]
 | k+1,n,0=>by simp[Ke]
 | k+1,n,i+1=>by
  rw[Ke,List.getElem?_cons_succ,tR]
  simp only[Nat.add_lt_add_iff_right,show n+1+i=n+(i+1) by omega]
theorem qc {π:fx}:∀ {xs ys:List PV} {vs:List Value},eS π xs=some ys->a_ w I xs (gv β π) vs->a_ w I ys β vs
 | [],ys,vs,h,hx=>by
  simp only[eS,Option.some.injEq] at h
  subst h
  cases vs with
  | nil=>simp only[a_]
  | cons v vs=>simp only[a_] at hx
 | x::xs,ys,vs,h,hx=>by
  simp only[eS] at h
  split at h
  ·rename_i y l h1 h2
   cases h
   cases vs with
   | nil=>simp only[a_] at hx
   | cons v vs =>
    simp only[a_] at hx ⊢
    exact⟨mv h1 hx.1,qc h2 hx.2⟩
  ·cases h
theorem zK {π:fx} {x y:PV} {v:Value} (h:x.Gv π=some y) (hx:x.Is w I (gv β π) v):y.Is w I β v:=by
 unfold PV.Gv at h
 split at h
 ·rw[Option.map_eq_some_iff] at h
  obtain⟨l,hl,rfl⟩:=h
  simp only[PV.Is] at hx ⊢
  obtain⟨vs,rfl,hx⟩:=hx
  exact⟨vs,rfl,qc hl hx⟩
 ·rw[Option.map_eq_some_iff] at h
  obtain⟨l,hl,rfl⟩:=h
  simp only[PV.Is] at hx ⊢
  obtain⟨vs,rfl,hx⟩:=hx
  exact⟨vs,rfl,qc hl hx⟩
 ·cases h
 ·exact mv h hx
theorem sg {π:fx}:∀ {xs ys:List PV} {vs:List Value},vX π xs=some ys->a_ w I xs (gv β π) vs->a_ w I ys β vs
 | [],ys,vs,h,hx=>by
  simp only[vX,Option.some.injEq] at h
  subst h
  cases vs with
  | nil=>simp only[a_]
  | cons v vs=>simp only[a_] at hx
 | x::xs,ys,vs,h,hx=>by
  simp only[vX] at h
  split at h
  ·rename_i y l h1 h2
   cases h
   cases vs with
   | nil=>simp only[a_] at hx
   | cons v vs =>
    simp only[a_] at hx ⊢
    exact⟨zK h1 hx.1,sg h2 hx.2⟩
  ·cases h
theorem E0 {π:fx} {x y:PV} {v:Value} (h:x.P2 π=some y) (hx:x.Is w I (gv β π) v):y.Is w I β v:=by
 unfold PV.P2 at h
 split at h
 ·rw[Option.map_eq_some_iff] at h
  obtain⟨l,hl,rfl⟩:=h
  simp only[PV.Is] at hx ⊢
  obtain⟨vs,rfl,hx⟩:=hx
  exact⟨vs,rfl,sg hl hx⟩
 ·exact zK h hx
theorem zL:∀ {l:List ak} {b:ak} {q:List ak->Prop},xq l b q->q (l++[b])
 | [],_,_,h=>h
 | c::l,b,q,h=>zL (l:=l) (q:=fun x=>q (c::x)) h
theorem zM {π:fx}:∀ {S st:List ak} {k:List ak->Prop},P3 π S st k->∃ S2,k (st++S2)/\S2.length=S.length/\∀ (i:Nat) (b:ak),S[i]?=some b->∃ b2,S2[i]?=some b2/\b2.k=b.k/\b2.ty=b.ty/\b2.size=b.size/\b2.m=b.m/\b2.live=b.live/\((b.k.qL=false/\b2.cs=b.cs)\/(b.k.qL=true/\eS π b.cs=some b2.cs))
 | [],st,k,h=>⟨[],by rw[List.append_nil]; exact h,rfl,fun i b hb=>by simp at hb⟩
 | c::S,st,k,h=>by
  obtain⟨b2,h1,h2⟩:=tQ h
  obtain⟨S2,hk,hl,hh⟩:=zM (zL (xP h1))
  refine⟨b2::S2,by rw[List.append_assoc] at hk; exact hk,by simp[hl],fun i b hb=>?_⟩
  cases i with
  | zero=>simp at hb; subst hb; exact⟨b2,rfl,h2⟩
  | succ i=>simpa using hh i b (by simpa using hb)
theorem Spec.VH {f:FuncId} {args aX:List PV} {r0:PV} {S1:List ak} {K:PV->List ak->Prop} (h:Spec G f aX [] [] fun r S'=>r=r0/\S'=S1) (cZ:S1.all (fun b=>b.live && Md.beq b.m .w)=true) (hle:kp mT args aX) (hu:c8 aX = [])
  (hK:la st 0 fun n=>P3 (Ke n S1.length) S1 st fun WE=>aV (r0.P2 (Ke n S1.length)) fun r=>K r WE):Spec G f args st [] K:=by
 replace hK:=gW hK
 rw[Nat.zero_add] at hK
 obtain⟨S2,hk,hlen,Yd⟩:=zM hK
 obtain⟨r2,Uz,kO⟩:=aq hk
 refine Spec.intro h.run.1 fun I β w aZ hH hM hA=>?_
 have h0:aD I (fun _=>none) ([]:List ak) w:=⟨fun _ _=>rfl,fun l b hl=>by simp at hl⟩
 refine (h.run.2 I (fun _=>none) w aZ h0 hM (ji hu (gu (fun _ _=>dK) hle hA))).mono fun e w' ⟨v,r,S',I',VI,he,⟨e1,e2⟩,hi,ml,ks,hE,_,_⟩=>?_
 subst e1; subst e2
 have Cv:∀ g,¬ Wr (fun _=>none) ([]:List ak) g:=fun g ⟨l,b,p,o,h1,_⟩=>by simp at h1
 have hold:∀ g,g < w.heap.size->w'.heap[g]?=w.heap[g]?:=fun g hg=>hE.block g hg (Cv g)
 have DI:∀ g,g < w.heap.size->I' g->I g:=fun g hg h=>(hE.new g hg h).elim id fun h=>absurd h (Cv g)
 have VJ:∀ {i:Nat} {b:ak},S'[i]?=some b->b.live=true/\b.m = .w:=fun {i b} hb=>by
  rw[List.all_eq_true] at cZ
  have:=cZ b (List.mem_of_getElem? hb)
  simp only[Bool.and_eq_true] at this
  exact⟨this.1,Md.ln this.2⟩
 have eu:∀ {i:Nat} {p:nN} {g o:Nat},VI i=some p->p.a=some (g,o)->w.heap.size<=g:=fun {i p g o} hp ha=>by
  have bG:=ml.lt hp
  obtain⟨b,hb⟩:∃ b,S'[i]?=some b:=⟨S'[i],List.getElem?_eq_getElem bG⟩
  rcases Nat.lt_or_ge g w.heap.size with hg|hg
  ·exact absurd (hE.wr g hg ⟨i,b,p,o,hb,(VJ hb).1,(VJ hb).2,hp,ha⟩) (Cv g)
  ·exact hg
 obtain⟨gY,eβ⟩:∃ gY:ax,gY=fun l=>if l < st.length then β l else VI (l - st.length):=⟨_,rfl⟩
 have UA:∀ {l},l < st.length->gY l=β l:=fun {l} h=>by rw[eβ]; exact if_pos h
 have Q8:∀ {i},gY (st.length+i)=VI i:=fun {i}=>by rw[eβ]; show (if st.length+i < st.length then _ else _)=_; rw[if_neg (by omega),Nat.add_sub_cancel_left]
 have Bz:gv gY (Ke st.length S'.length)=VI:=funext fun i=>by
  by_cases h:i < S'.length
  ·rw[bH (m:=st.length+i) (by rw[tR,if_pos h]),Q8]
  ·unfold gv
   rw[tR,if_neg h]
   exact (ml.jI i (by omega)).symm
 have UB:∀ l p,β l=some p->gY l=some p:=fun l p hp=>by rw[UA (hH.lt hp)]; exact hp
 have fT:∀ g,iD β st g->g < w.heap.size:=fun g hg=>hH.cM hg
 refine⟨v,r2,st++S2,I',gY,he,kO,E0 Uz (by rw[Bz]; exact hi),⟨fun l hl=>?_,fun l b hb az=>?_⟩,ks,⟨hE.os,hE.tape,hE.output,hE.size,fun g hg _=>hold g hg,fun g hg ⟨l,b,p,o,h1,h2,h3,h4,h5⟩=>?_,hE.aw,fun g hg h=>.inl (DI g hg h)⟩,by simp,fun l hl _=>UA hl⟩
 ·rw[List.length_append] at hl
  have:=Q8 (i:=l - st.length)
  rw[show st.length+(l - st.length)=l by omega] at this
  rw[this]; exact ml.jI _ (by omega)
 ·by_cases hl:l < st.length
  ·rw[List.getElem?_append_left hl] at hb
   have hB:=hH.fp l b hb az
   refine hB.mono hE.aw (fun g hg=>hold g (hM.aw g hg)) UB fun p g o hp ha=>?_
   obtain⟨arr,ty,fr,hh,ho⟩:=hB.place hp ha
   have bG:=cw hh
   refine⟨hold g bG,fun hr=>⟨fun hI=>(ho.1 hr).2.1 (DI g bG hI),fun l' b' bZ cv eg p' g' o' dk dJ=>?_⟩⟩
   by_cases iz:l' < st.length
   ·rw[List.getElem?_append_left iz] at cv
    exact (ho.1 hr).2.2 l' b' bZ cv eg p' g' o' (by rw[← UA iz]; exact dk) dJ
   ·have e:=Q8 (i:=l' - st.length)
    rw[show st.length+(l' - st.length)=l' by omega] at e
    have:=eu (by rw[← e]; exact dk) dJ
    omega
  ·obtain⟨i,rfl⟩:∃ i,l=st.length+i:=⟨l - st.length,by omega⟩
   rw[List.getElem?_append_right (by omega),Nat.add_sub_cancel_left] at hb
   have bG:i < S'.length:=by rw[← hlen]; exact (List.getElem?_eq_some_iff.1 hb).1
   obtain⟨b',cv⟩:∃ b,S'[i]?=some b:=⟨S'[i],List.getElem?_eq_getElem bG⟩
   obtain⟨b2,cR,q1,q2,q3,q4,q5,q6⟩:=Yd i b' cv
   obtain rfl:b2=b:=Option.some.inj (cR.symm.trans hb)
   have hB:=ml.fp i b' cv (VJ cv).1
   refine hB.tr (fun p hp=>by rw[Q8]; exact hp) (fun _ h=>h) (fun _ _=>rfl) (fun _ _ _ _ _=>rfl) (fun p g o fr hp ha ho=>⟨fun hr=>?_,fun hr=>ho.2 (by rw[← q4]; exact hr)⟩) q1 q2 q3 (fun hc=>?_) ?_ (fun hc arr o oT=>?_)
   ·obtain⟨x1,x2,x3⟩:=ho.1 (by rw[← q4]; exact hr)
    refine⟨x1,x2,fun l2 c2 bZ kG bn p2 g2 o2 fQ fP=>?_⟩
    by_cases eJ:l2 < st.length
    ·rw[List.getElem?_append_left eJ] at kG
     have h1:=fT g2 ⟨l2,c2,p2,o2,kG,bn,by rw[← UA eJ]; exact fQ,fP⟩
     have h2:=eu hp ha
     omega
    ·obtain⟨i2,rfl⟩:∃ i2,l2=st.length+i2:=⟨l2 - st.length,by omega⟩
     rw[Q8] at fQ
     have th:=ml.lt fQ
     obtain⟨b3,jA⟩:∃ b,S'[i2]?=some b:=⟨S'[i2],List.getElem?_eq_getElem th⟩
     exact x3 i2 b3 (fun e=>bZ (by rw[e])) jA (VJ jA).1 p2 g2 o2 fQ fP
   ·rcases q6 with ⟨_,q6⟩|⟨q6,_⟩
    ·exact q6
    ·rw[hc] at q6; cases q6
   ·rcases q6 with ⟨_,q6⟩|⟨_,q6⟩
    ·rw[q6]
    ·exact (gC (i:=0) q6).2.2
   ·rcases q6 with ⟨hd,_⟩|⟨_,q6⟩
    ·rw[hc] at hd; cases hd
    ·intro j c hj
     obtain⟨y,hy,hr⟩:=(gC (i:=j) q6).1 c hj
     obtain⟨u,hu,Yc,h1⟩:=oT j y hy
     exact⟨u,hu,mv hr (by rw[Bz]; exact Yc),h1⟩
 ·by_cases hl:l < st.length
  ·rw[List.getElem?_append_left hl] at h1
   exact⟨l,b,p,o,h1,h2,h3,by rw[← UA hl]; exact h4,h5⟩
  ·have e:=Q8 (i:=l - st.length)
   rw[show st.length+(l - st.length)=l by omega] at e
   have:=eu (by rw[← e]; exact h4) h5
   omega
theorem Spec.lend {f:FuncId} {args aX:List PV} {rl:List Nat} {K:PV->List ak->Prop} (fz:List Nat) (hz:Lj st fz=true) (hle:kp (Sb st fz) args aX) (hu:c8 aX = []) (h:Spec G f aX (eK fz st) rl K):Spec G f args st rl K:=by
 refine Spec.intro h.run.1 fun I β w aZ hH hM hA=>?_
 have X7:=hH.AI hM hz
 have X8:cL G (dQ I β st fz) w:=jY hH hM
 have hA2:a_ w (dQ I β st fz) aX β aZ:=ji hu (kt hH hle hu hA)
 have Lp:∀ {g},Wr β (eK fz st) g->Wr β st g:=fun {g} ⟨l,b1,p,o,h1,h2,h3,h4,h5⟩=>by
  obtain⟨b0,fO,rfl⟩:=j9 h1
  refine⟨l,b0,p,o,fO,h2,?_,h4,h5⟩
  cases hc:iI l fz with
  | true=>simp only[hc,jj,cond_true] at h3; cases h3
  | false=>simpa only [hc,jj,cond_false] using h3
 have hlen:(eK fz st).length=st.length:=by unfold eK; rw[dP]
 refine (h.run.2 (dQ I β st fz) β w aZ X7 X8 hA2).mono fun e w' ⟨v,r,S',I',aI,he,hK,hi,ml,ks,hE,hl,lg⟩=>?_
 refine⟨v,r,S',I',aI,he,hK,hi,ml,ks,⟨hE.os,hE.tape,hE.output,hE.size,fun g hg hn=>hE.block g hg fun h=>hn (Lp h),fun g hg h=>Lp (hE.wr g hg h),fun g hg=>hE.aw g (.inl hg),fun g hg h=>?_⟩,by rw[← hlen]; exact hl,fun l hl hr=>lg l (by rw[hlen]; exact hl) hr⟩
 rcases hE.new g hg h with (h|⟨l,b,p,o,hl,hb,az,hm,hp,ha⟩)|h
 ·exact .inl h
 ·cases oD:b.m with
  | w=>exact .inr ⟨l,b,p,o,hb,az,oD,hp,ha⟩
  | p=>rw[oD] at hm; cases hm
  | r =>
   obtain⟨arr,ty,fr,_,ho⟩:=(hH.fp l b hb az).place hp ha
   exact .inl (ho.2 oD)
 ·exact .inr (Lp h)
end
def BA:List PV->List PV->Prop
 | [],[]=>True
 | .agg cs::es,.agg ds::xD=>kp pI cs ds/\BA es xD
 | _,_=>False
theorem vY {r:PV->PV->Prop}:∀ {cs ds:List PV},kp r cs ds->cs.length=ds.length
 | [],[],_=>rfl
 | x::xs,y::ys,h=>by rw[List.length_cons,List.length_cons,vY h.2]
 | [],_::_,h=>h.elim
 | _::_,[],h=>h.elim
theorem zN {w:World} {I:Nat->Prop}:∀ {cs ds:List PV} {g o:Nat},kp pI cs ds->cd w I cs g o->cd w I ds g o
 | [],[],_,_,_,h=>h
 | c::cs,d::ds,g,o,h,ha=>by
  simp only[cd] at ha ⊢
  obtain⟨⟨v,h1,h2,h3⟩,h4⟩:=ha
  exact⟨⟨v,h1,ll h.1 w I _ v h2,h3⟩,zN h.2 h4⟩
 | [],_::_,_,_,h,_=>h.elim
 | _::_,[],_,_,h,_=>h.elim
theorem zO {w:World} {I:Nat->Prop} {n:Nat}:∀ {es xD:List PV} {g o:Nat},BA es xD->bE w I es n g o->bE w I xD n g o
 | [],[],_,_,_,h=>h
 | .agg cs::es,.agg ds::xD,g,o,h,ha=>by
  simp only[BA] at h
  simp only[bE] at ha ⊢
  exact⟨⟨by rw[← vY h.1]; exact ha.1.1,zN h.1 ha.1.2⟩,zO h.2 ha.2⟩
 | [],y::xD,_,_,h,_=>by cases y<;>exact h.elim
 | x::es,[],_,_,h,_=>by cases x<;>exact h.elim
theorem vZ:∀ {es xD:List PV},BA es xD->es.length=xD.length
 | [],[],_=>rfl
 | .agg cs::es,.agg ds::xD,h=>by rw[List.length_cons,List.length_cons,vZ h.2]
 | [],y::xD,h=>by cases y<;>exact h.elim
 | x::es,[],h=>by cases x<;>exact h.elim
theorem Kf {n:Nat} {es xD:List PV} (h:BA es xD):pJ (.sl n es) (.sl n xD):=fun w I β v hv=>by
 simp only[PV.Is] at hv ⊢
 obtain⟨a,cap,h1,h2,h3,h4,h5⟩:=hv
 rw[vZ h] at h1 h2 h3 h5
 exact⟨a,cap,h1,h2,h3,fun g o e=>zO h (h4 g o e),h5⟩
theorem Spec.E1 {G:Gx} {f:FuncId} {args aX:List PV} {S:List ak} {rl:List Nat} {K:PV->List ak->Prop} (h:Spec G f aX S rl K) (hle:kp pJ args aX):Spec G f args S rl K :=
 Spec.intro h.run.1 fun I β w aZ hH hM hA=>h.run.2 I β w aZ hH hM (gu (fun _ _ h=>h) hle hA)
end Go.Proofs.YtnbhdacpogplgaaGreatDoor.Pw

/- What this claim is proved with: no condition. -/
import Derived.Test.YtlgkljpgagfndaaGreatDoorNv10
import Derived.Maps.Views
import Derived.Carry
set_option linter.unusedVariables false
set_option linter.unusedSimpArgs false
namespace Go.Proofs.YtlgkljpgagfndaaGreatDoor.Pw
open Go Go.RowKit
def T0 (S:List ak) (l:Nat):Bool:=match S[l]? with
 | some b=>b.can
 | none=>false
theorem LD {S:List ak} {l:Nat} (h:T0 S l=true):l < S.length/\∀ b,S[l]?=some b->b.m = .w:=by
 unfold T0 at h
 split at h
 ·rename_i b hb
  refine⟨(List.getElem?_eq_some_iff.1 hb).1,fun b' dq=>?_⟩
  rw[hb] at dq; cases dq
  unfold ak.can at h
  simp only[Bool.and_eq_true] at h
  cases hm:b.m with
  | w=>rfl
  | p=>rw[hm] at h; cases h.2
  | r=>rw[hm] at h; cases h.2
 ·cases h
def NN (rl:List Nat) (b:ak):Bool:=match b.k with
 | .dyn=>true
 | .mp=>true
 | _=>b.cs.all fun c=>c.dk.all fun l=>!(jR l rl)
def G2 (rl:List Nat) (T:List ak):Bool:=T.all (NN rl)
theorem Dr {rl:List Nat} {T:List ak} (h:G2 rl T=true) {b:ak} (hb:b∈T) (hk:b.k.sn=true):∀ c∈b.cs,∀ m∈c.dk,m ∉ rl:=fun c hc m hm hr=>by
 have h1:=List.all_eq_true.1 h b hb
 unfold NN at h1
 have h2:b.cs.all (fun c=>c.dk.all fun l=>!(jR l rl))=true:=by
  cases cM:b.k with
  | dyn=>rw[cM] at hk; cases hk
  | mp=>rw[cM] at hk; cases hk
  | loc=>rw[cM] at h1; exact h1
  | arr=>rw[cM] at h1; exact h1
 have h3:=List.all_eq_true.1 (List.all_eq_true.1 h2 c hc) m hm
 rw[dV.2 hr] at h3
 cases h3
section
variable {w w':World} {I I':Nat->Prop} {β aU:aB} {G:Gx} {s:bb} {a:Act} {st eA:List ak}
theorem bB.A6 {cs:List PV} {arr:Array Value} {o:Nat} (hI:∀ g,I g->I' g) (hw:∀ g,I g->w'.heap[g]?=w.heap[g]?) (hb:∀ c∈cs,∀ l∈c.dk,∀ p,β l=some p->aU l=some p) (h:bB w I β cs arr o):bB w' I' aU cs arr o :=
 fun i c hc=>let ⟨v,h1,h2,h3⟩:=h i c hc; ⟨v,h1,PV.Is.mono hI hw c β aU v (fun l p hl=>hb c (List.mem_of_getElem? hc) l hl p) h2,h3⟩
theorem gd.A6 {l:Nat} {b:ak} (hI:∀ g,I g->I' g) (hw:∀ g,I g->w'.heap[g]?=w.heap[g]?) (mw:∀ p,β l=some p->aU l=some p) (hu:b.k.sn=true->∀ c∈b.cs,∀ l∈c.dk,∀ p,β l=some p->aU l=some p)
  (hg:∀ p g o,β l=some p->p.a=some (g,o)->w'.heap[g]?=w.heap[g]?/\(b.m≠.r->¬ I' g/\∀ l' b',l'≠l->eA[l']?=some b'->b'.live=true->∀ p g' o',aU l'=some p->p.a=some (g',o')->g'≠g)) (hb:gd I β st w l b):gd I' aU eA w' l b:=by
 obtain⟨p,hp,hk⟩:=hb
 refine⟨p,mw p hp,?_⟩
 have own:∀ {g o:Nat} {fr:Nat × Nat},p.a=some (g,o)->Own I β st l g fr b->Own I' aU eA l g fr b:=fun ha ho=>⟨fun hr=>⟨(ho.1 hr).1,(hg p _ _ hp ha).2 hr⟩,fun hr=>hI _ (ho.2 hr)⟩
 split at hk
 ·rename_i cM
  obtain⟨g,o,arr,ty,fr,ha,hh,hc,ho⟩:=hk
  exact⟨g,o,arr,ty,fr,ha,(hg p g o hp ha).1.trans hh,hc.A6 hI hw (hu (by rw[cM]; rfl)),own ha ho⟩
 ·rename_i cM
  obtain⟨g,arr,fr,ha,hh,hc,ho,h1⟩:=hk
  exact⟨g,arr,fr,ha,(hg p g 0 hp ha).1.trans hh,hc.A6 hI hw (hu (by rw[cM]; rfl)),own ha ho,h1⟩
 ·obtain⟨h1,hk⟩:=hk
  refine⟨h1,?_⟩
  rcases hk with h|⟨g,arr,fr,ha,hh,hc,ho,h2⟩
  ·exact .inl h
  ·exact .inr ⟨g,arr,fr,ha,(hg p g 0 hp ha).1.trans hh,cB.mono hI hw _ _ _ _ (hg p g 0 hp ha).1 hc,own ha ho,h2⟩
 ·obtain⟨g,ha,hm,ho⟩:=hk
  exact⟨g,ha,hm.uH (hg p g 0 hp ha).1,own ha ho⟩
theorem Spec.useR {f:FuncId} {args bE:List PV} {r0:PV} {S0 S1:List ak} {rl:List Nat} {K:PV->List ak->Prop} (h:Spec G f bE S0 rl fun r S'=>r=r0/\S'=S1) (hm:kb S0 S1=true) (gu:S0.all (wG S0.length)=true) (hu:(eC bE).all (fun l=>Nat.blt l S0.length)=true)
  (Fp:r0.dk.all (fun l=>Nat.blt l S0.length)=true) (Nj:rl.all (fun l=>T0 S0 l)=true) (hle:ny kt args bE) (hK:FA st S0 fun T=>(bif G2 rl T then True else False)/\uT S1 fun S1=>y1 S1 T (K r0)):Spec G f args st rl K:=by
 obtain⟨oq,T,rfl,BT,hk,FB⟩:=uX hK
 obtain⟨hT,hk⟩:=hk
 replace hT:=(bp hT).1
 replace hk:=uW (nA hk)
 obtain⟨Jn,JS⟩:=nD hm
 refine Spec.intro h.run.1 fun I β w bs hH hM hA=>?_
 let fX:aB:=fun l=>if l < S0.length then β l else none
 have jF:∀ l,l < S0.length->fX l=β l:=fun l hl=>if_pos hl
 have y2:∀ {l p},fX l=some p->l < S0.length/\β l=some p:=fun {l p} h=>by
  by_cases hl:l < S0.length
  ·exact⟨hl,by rw[← jF l hl]; exact h⟩
  ·have:fX l=none:=if_neg hl
   rw[this] at h; cases h
 have yu:∀ {l:Nat} {b':ak},S0[l]?=some b'->l < S0.length/\∃ b,(oq++T)[l]?=some b/\gy b b':=fun {l b'} dq=>by
  have cJ:l < S0.length:=(List.getElem?_eq_some_iff.1 dq).1
  have y3:l < oq.length:=by omega
  refine⟨cJ,oq[l],by rw[List.getElem?_append_left y3]; simp[y3],FB l _ b' (by simp[y3]) dq⟩
 have low:∀ {l:Nat} {b':ak},S0[l]?=some b'->b'.k.sn=true->∀ c∈b'.cs,∀ m∈c.dk,m < S0.length:=fun {l b'} dq hk c hc m lQ=>by
  rw[List.all_eq_true] at gu
  have:=gu b' (List.mem_of_getElem? dq)
  unfold wG at this
  have dx:b'.cs.all (fun c=>c.dk.all fun l=>Nat.blt l S0.length)=true:=by
   cases cM:b'.k with
   | dyn=>rw[cM] at hk; cases hk
   | mp=>rw[cM] at hk; cases hk
   | loc=>rw[cM] at this; exact this
   | arr=>rw[cM] at this; exact this
  rw[List.all_eq_true] at dx
  have:=dx c hc
  rw[List.all_eq_true] at this
  exact Nat.le_of_ble_eq_true (this m lQ)
 have Jo:aO I fX S0 w:=by
  refine⟨fun l hl=>if_neg (by omega),fun l b' dq aN=>?_⟩
  obtain⟨cJ,b,hb,FC⟩:=yu dq
  obtain⟨e1,e2,e3,e4,e5,e6,e7⟩:=c_ FC
  obtain⟨p,hp,hB⟩:=hH.gw l b hb e4
  have own:∀ {g:Nat} {fr:Nat × Nat},Own I β (oq++T) l g fr b->Own I fX S0 l g fr b':=fun {g fr} ho=>by
   refine⟨fun hr=>?_,fun hr=>ho.2 (by rw[e3]; exact hr)⟩
   obtain⟨h1,h2,h3⟩:=ho.1 (by rw[e3]; exact hr)
   refine⟨h1,h2,fun l2 b2 de fZ bT p2 g2 o2 hU hJ=>?_⟩
   obtain⟨_,b3,ku,kU⟩:=yu fZ
   exact h3 l2 b3 de ku (c_ kU).2.2.2.1 p2 g2 o2 (y2 hU).2 hJ
  have cells:b'.k.sn=true->∀ {arr:Array Value} {o:Nat},bB w I β b.cs arr o->bB w I fX b'.cs arr o:=fun hk {arr o} hc i c hi=>by
   have jq:bB w I β b'.cs arr o:=by
    rcases e7 with ⟨hd,_⟩|⟨_,h7⟩
    ·(rw[e6,hk] at hd; cases hd)
    ·exact ir h7 hc
   obtain⟨u,Ea,Nv,h1⟩:=jq i c hi
   exact⟨u,Ea,PV.Is.mono (fun _ h=>h) (fun _ _=>rfl) c β fX u (fun m p lQ eU=>by rw[jF m (low dq hk c (List.mem_of_getElem? hi) m lQ)]; exact eU) Nv,h1⟩
  refine⟨p,by rw[jF l cJ]; exact hp,?_⟩
  split at hB
  ·rename_i cM
   have iV:b'.k = .loc:=by rw[← e6]; exact cM
   obtain⟨g,o,arr,ty,fr,h1,h2,h3,ho⟩:=hB
   rw[iV]
   exact⟨g,o,arr,ty,fr,h1,h2,cells (by rw[iV]; rfl) h3,own ho⟩
  ·rename_i cM
   have iV:b'.k = .arr:=by rw[← e6]; exact cM
   obtain⟨g,arr,fr,h1,h2,h3,ho,h4,h5,h6,h7,h8⟩:=hB
   have hlen:b'.cs.length=b.cs.length:=by
    rcases e7 with ⟨hd,_⟩|⟨_,h9⟩
    ·rw[cM] at hd; cases hd
    ·exact (lD h9).symm
   rw[iV]
   exact⟨g,arr,fr,h1,by rw[← e1]; exact h2,cells (by rw[iV]; rfl) h3,own ho,by rw[hlen,← e2]; exact h4,h5,h6,by rw[← e2]; exact h7,by rw[← e2]; exact h8⟩
  ·rename_i cM
   have iV:b'.k = .dyn:=by rw[← e6]; exact cM
   have gr:b.cs=b'.cs:=by
    rcases e7 with ⟨_,h9⟩|⟨hd,_⟩
    ·exact h9
    ·(rw[cM] at hd; cases hd)
   obtain⟨⟨h1,h2,h3,h4⟩,hB⟩:=hB
   rw[iV]
   refine⟨⟨by rw[← e2]; exact h1,by rw[← gr]; exact h2,h3,h4⟩,?_⟩
   rcases hB with h|⟨g,arr,fr,h5,h6,h7,ho,h8⟩
   ·exact .inl h
   ·exact .inr ⟨g,arr,fr,h5,by rw[← e1]; exact h6,by rw[← gr,← e2]; exact h7,own ho,by rw[← e2]; exact h8⟩
  ·rename_i cM
   have iV:b'.k = .mp:=by rw[← e6]; exact cM
   have gr:b.cs=b'.cs:=by
    rcases e7 with ⟨_,h9⟩|⟨hd,_⟩
    ·exact h9
    ·(rw[cM] at hd; cases hd)
   obtain⟨g,h1,h2,ho⟩:=hB
   rw[iV]
   exact⟨g,h1,by rw[← gr]; exact h2,own ho⟩
 have OR:bH w I bE fX bs:=by
  have:=jg (fun _ _=>fA) hle hA
  refine bH.mono (fun _ h=>h) (fun _ _=>rfl) bE β fX bs (fun m p lQ eU=>?_) this
  rw[List.all_eq_true] at hu
  rw[jF m (Nat.le_of_ble_eq_true (hu m lQ))]; exact eU
 refine (h.run.2 I fX w bs Jo hM OR).mono fun e w' ⟨v,r,S',I',aU,he,⟨e1,e2⟩,hi,nE,lF,hE,hlen,mw⟩=>?_
 subst e1; subst e2
 have wS:∀ l,l < S0.length->l ∉ rl->aU l=β l:=fun l hl hr=>(mw l hl hr).trans (jF l hl)
 let gx:aB:=fun l=>if l < S0.length then aU l else β l
 have Ds:∀ l,l < S0.length->gx l=aU l:=fun l hl=>if_pos hl
 have zI:∀ l,¬ l < S0.length->gx l=β l:=fun l hl=>if_neg hl
 have B5:∀ l p,aU l=some p->gx l=some p:=fun l p hp=>by
  have:l < S0.length:=by have:=nE.lt hp; omega
  rw[Ds l this]; exact hp
 have sD:∀ l,l∈rl->l < S0.length/\∀ b,S0[l]?=some b->b.m = .w:=fun l hl=>LD (List.all_eq_true.1 Nj l hl)
 have FD:∀ {g},Wr fX S0 g->Wr β (oq++T) g:=fun {g} ⟨l,b,p,o,h1,h2,h3,h4,h5⟩=>by
  obtain⟨cJ,b2,eI,Fu⟩:=yu h1
  obtain⟨_,_,q3,q4,_⟩:=c_ Fu
  exact⟨l,b2,p,o,eI,q4,by rw[q3]; exact h3,(y2 h4).2,h5⟩
 have B6:∀ {g},Wr gx (S'++T) g->(Wr aU S' g)\/∃ l b p o,S0.length<=l/\(oq++T)[l]?=some b/\b.live=true/\b.m = .w/\β l=some p/\p.a=some (g,o):=fun {g} ⟨l,b,p,o,h1,h2,h3,h4,h5⟩=>by
  by_cases hl:l < S'.length
  ·rw[List.getElem?_append_left hl] at h1
   exact .inl ⟨l,b,p,o,h1,h2,h3,by rw[← Ds l (by omega)]; exact h4,h5⟩
  ·rw[List.getElem?_append_right (by omega)] at h1
   refine .inr ⟨l,b,p,o,by omega,?_,h2,h3,by rw[← zI l (by omega)]; exact h4,h5⟩
   rw[List.getElem?_append_right (by omega),BT,Jn]; exact h1
 
 have apart:∀ {l:Nat} {b:ak} {p:ow} {g o:Nat},S0.length<=l->(oq++T)[l]?=some b->b.live=true->β l=some p->p.a=some (g,o)->¬ Wr fX S0 g:=fun {l b p g o} hl hb aN hp ha ⟨l2,b2,p2,o2,h1,h2,h3,h4,h5⟩=>by
  obtain⟨cJ,b3,ku,kU⟩:=yu h1
  obtain⟨_,_,q3,q4,_⟩:=c_ kU
  obtain⟨arr,ty,fr,_,ho⟩:=(hH.gw l2 b3 ku q4).place (y2 h4).2 h5
  exact (ho.1 (by rw[q3,h3]; nofun)).2.2 l b (by omega) hb aN p g o hp ha rfl
 refine⟨v,r,S'++T,I',gx,he,hk,PV.Is.mono (fun _ h=>h) (fun _ _=>rfl) r aU gx v (fun m p _ hp=>B5 m p hp) hi,⟨fun l hl=>by rw[zI l (by simp only[List.length_append] at hl; omega)]; exact hH.qo l (by simp only[List.length_append] at hl ⊢; omega),fun l b hb aN=>?_⟩,lF,⟨hE.os,hE.tape,hE.output,hE.size,fun g hg hn=>hE.block g hg fun h=>hn (FD h),fun g hg h=>?_,hE.az,fun g hg h=>(hE.new g hg h).imp id FD⟩,by simp only[List.length_append]; omega,fun l _ hr=>by
   by_cases hl:l < S0.length
   ·rw[Ds l hl]; exact wS l hl hr
   ·exact zI l hl⟩
 ·by_cases hl:l < S'.length
  ·rw[List.getElem?_append_left hl] at hb
   have hB:=nE.gw l b hb aN
   refine hB.mono (fun _ h=>h) (fun _ _=>rfl) B5 fun p g o hp ha=>⟨rfl,fun hr=>?_⟩
   obtain⟨arr,ty,fr,hh,ho⟩:=hB.place hp ha
   obtain⟨h1,h2,h3⟩:=ho.1 hr
   refine⟨h2,fun l2 b2 de eI bT p2 g2 o2 hU hJ=>?_⟩
   by_cases fZ:l2 < S'.length
   ·rw[List.getElem?_append_left fZ] at eI
    exact h3 l2 b2 de eI bT p2 g2 o2 (by rw[← Ds l2 (by omega)]; exact hU) hJ
   ·rw[List.getElem?_append_right (by omega)] at eI
    have FE:(oq++T)[l2]?=some b2:=by rw[List.getElem?_append_right (by omega),BT,Jn]; exact eI
    have Dt:β l2=some p2:=by rw[← zI l2 (by omega)]; exact hU
    have BX:=hH.dS ⟨l2,b2,p2,o2,FE,bT,Dt,hJ⟩
    obtain⟨b0,gq⟩:∃ b0,S0[l]?=some b0:=⟨S0[l]'(by omega),by simp[show l < S0.length by omega]⟩
    obtain⟨_,q5⟩:=JS l b0 b gq hb
    by_cases YP:l∈rl
    ·intro e
     subst e
     have hw:b.m = .w:=by rw[← q5]; exact (sD l YP).2 b0 gq
     exact apart (by omega) FE bT Dt hJ (hE.wr _ BX ⟨l,b,p,o,hb,aN,hw,hp,ha⟩)
    ·obtain⟨_,b3,ku,kU⟩:=yu gq
     obtain⟨_,_,q3,q4,_⟩:=c_ kU
     have Jk:β l=some p:=by rw[← wS l (by omega) YP]; exact hp
     obtain⟨_,_,_,_,We⟩:=(hH.gw l b3 ku q4).place Jk ha
     exact (We.1 (by rw[q3,q5]; exact hr)).2.2 l2 b2 de FE bT p2 g2 o2 Dt hJ
  ·rw[List.getElem?_append_right (by omega)] at hb
   have dq:(oq++T)[l]?=some b:=by rw[List.getElem?_append_right (by omega),BT,Jn]; exact hb
   have hB:=hH.gw l b dq aN
   have same:∀ {p g o},β l=some p->p.a=some (g,o)->g < w.heap.size/\w'.heap[g]?=w.heap[g]?:=fun {p g o} hp ha=>by
    have cJ:=hH.dS ⟨l,b,p,o,dq,aN,hp,ha⟩
    exact⟨cJ,hE.block g cJ (apart (by omega) dq aN hp ha)⟩
   have hTb:=Dr hT (List.mem_of_getElem? hb)
   refine hB.A6 hE.az (fun g hg=>hE.block g (hM.az g hg) fun hw=>?_) (fun p hp=>by rw[zI l (by omega)]; exact hp) (fun hk c hc m hm p hp=>?_) fun p g o hp ha=>⟨(same hp ha).2,fun hr=>?_⟩
   ·exact Jo.kG hw hg
   ·by_cases hml:m < S0.length
    ·rw[Ds m hml,wS m hml (hTb hk c hc m hm)]; exact hp
    ·rw[zI m hml]; exact hp
   ·obtain⟨arr,ty,fr,hh,ho⟩:=hB.place hp ha
    obtain⟨h1,h2,h3⟩:=ho.1 hr
    refine⟨fun hI=>(hE.new g (same hp ha).1 hI).elim h2 (apart (by omega) dq aN hp ha),fun l2 b2 de eI bT p2 g2 o2 hU hJ=>?_⟩
    have E6:=(same hp ha).1
    by_cases fZ:l2 < S'.length
    ·rw[List.getElem?_append_left fZ] at eI
     have Dt:aU l2=some p2:=by rw[← Ds l2 (by omega)]; exact hU
     obtain⟨b0,gq⟩:∃ b0,S0[l2]?=some b0:=⟨S0[l2]'(by omega),by simp[show l2 < S0.length by omega]⟩
     by_cases YP:l2∈rl
     ·intro e
      subst e
      obtain⟨_,q5⟩:=JS l2 b0 b2 gq eI
      have hw:b2.m = .w:=by rw[← q5]; exact (sD l2 YP).2 b0 gq
      exact apart (by omega) dq aN hp ha (hE.wr _ E6 ⟨l2,b2,p2,o2,eI,bT,hw,Dt,hJ⟩)
     ·obtain⟨_,b3,ku,kU⟩:=yu gq
      exact h3 l2 b3 de ku (c_ kU).2.2.2.1 p2 g2 o2 (by rw[← wS l2 (by omega) YP]; exact Dt) hJ
    ·rw[List.getElem?_append_right (by omega)] at eI
     exact h3 l2 b2 de (by rw[List.getElem?_append_right (by omega),BT,Jn]; exact eI) bT p2 g2 o2 (by rw[← zI l2 (by omega)]; exact hU) hJ
 ·rcases B6 h with h|⟨l,b,p,o,_,h2,h3,h4,h5,h6⟩
  ·exact FD (hE.wr g hg h)
  ·exact⟨l,b,p,o,h2,h3,h4,h5,h6⟩
def LF (st:List ak) (fz:List Nat) (x:PV):PV:=match x with
 | .wref l=>bif jR l fz then (match st[l]? with
  | some ⟨.dyn,_,n,_,_,cs⟩=>.sl n cs
  | _=>.wref l) else .wref l
 | x=>x
def TM.zJ (f:PV->PV):TM->TM
 | .nil=>.nil
 | .node v l r=>.node (match v with
  | some x=>some (f x)
  | none=>none) (l.zJ f) (r.zJ f)
def bb.Eg (s:bb) (fz:List Nat):bb:=match s with
 | ⟨n,t,st,b,rl⟩=>⟨n,t.zJ (LF st fz),j3 fz st,b,rl⟩
theorem TM.rG (f:PV->PV):∀ (t:TM) (n:Nat),(t.zJ f).get n=(t.get n).map f
 | .nil,_=>rfl
 | .node v l r,n=>by
  show TM.get (.node (match v with
   | some x=>some (f x)
   | none=>none) (l.zJ f) (r.zJ f)) n=_
  rw[TM.get,TM.get]
  cases Nat.beq n 0<;>cases Nat.beq (n % 2) 1<;>simp only[cond_true,cond_false]
  ·exact TM.rG f r _
  ·exact TM.rG f l _
  ·cases v<;>rfl
  ·cases v<;>rfl
theorem nT {S:List ak} {fz:List Nat} {l:Nat} {b:ak} (hb:(j3 fz S)[l]?=some b):∃ b0,S[l]?=some b0/\b = { b0 with m:=kT (jR l fz) b0.m }:=by
 unfold j3 at hb
 rw[fG,Option.map_eq_some_iff] at hb
 obtain⟨b0,h1,h2⟩:=hb
 rw[Nat.zero_add] at h2
 exact⟨b0,h1,h2.symm⟩
theorem aO.Eg {S:List ak} (hH:aO I β S w) (hM:db G I w) {fz:List Nat} (hz:U' S fz=true):aO (fY I β S fz) β (j3 fz S) w:=by
 refine⟨fun l hl=>hH.qo l (by unfold j3 at hl; rw[gi] at hl; exact hl),fun l b hb aN=>?_⟩
 obtain⟨b0,gq,rfl⟩:=nT hb
 obtain⟨p,hp,hk⟩:=hH.gw l b0 gq aN
 have tA:∀ g,I g->fY I β S fz g:=fun g h=>.inl h
 have own:∀ {g o:Nat} {fr:Nat × Nat},p.a=some (g,o)->Own I β S l g fr b0->Own (fY I β S fz) β (j3 fz S) l g fr { b0 with m:=kT (jR l fz) b0.m }:=fun {g o fr} ha ho=>by
  refine⟨fun hm=>?_,fun hm=>?_⟩
  ·have pL:jR l fz=false/\b0.m≠.r:=by
    cases hc:jR l fz with
    | true=>simp only[hc,kT,cond_true,ne_eq,not_true_eq_false] at hm
    | false=>exact⟨rfl,by simpa only [hc,kT,cond_false] using hm⟩
   obtain⟨h1,h2,h3⟩:=ho.1 pL.2
   refine⟨h1,fun hI=>?_,fun l2 b2 de fZ bT p2 g2 o2 hU hJ=>?_⟩
   ·rcases hI with hI|⟨l2,b2,p2,o2,fZ,eI,bT,_,hU,hJ⟩
    ·exact h2 hI
    ·refine h3 l2 b2 (fun e=>?_) eI bT p2 g o2 hU hJ rfl
     subst e
     rw[dV.2 fZ] at pL
     cases pL.1
   ·obtain⟨b3,ku,rfl⟩:=nT fZ
    exact h3 l2 b3 de ku bT p2 g2 o2 hU hJ
  ·cases hc:jR l fz with
   | true =>
    obtain⟨b1,U_,k1,k2⟩:=y0 hz (dV.1 hc)
    rw[gq] at U_; cases U_
    exact .inr ⟨l,b0,p,o,dV.1 hc,gq,k1,k2,hp,ha⟩
   | false=>exact tA g (ho.2 (by simpa only [hc,kT,cond_false] using hm))
 have Eh:∀ g,I g->w.heap[g]?=w.heap[g]?:=fun _ _=>rfl
 refine⟨p,hp,?_⟩
 split at hk
 ·rename_i cM
  obtain⟨g,o,arr,ty,fr,h1,h2,h3,ho⟩:=hk
  simp only[cM]
  exact⟨g,o,arr,ty,fr,h1,h2,bB.mono tA Eh (fun _ _ h=>h) h3,own h1 ho⟩
 ·rename_i cM
  obtain⟨g,arr,fr,h1,h2,h3,ho,h4⟩:=hk
  simp only[cM]
  exact⟨g,arr,fr,h1,h2,bB.mono tA Eh (fun _ _ h=>h) h3,own h1 ho,h4⟩
 ·rename_i cM
  obtain⟨h1,hk⟩:=hk
  simp only[cM]
  refine⟨h1,?_⟩
  rcases hk with h|⟨g,arr,fr,h2,h3,h4,ho,h5⟩
  ·exact .inl h
  ·exact .inr ⟨g,arr,fr,h2,h3,cB.mono tA Eh _ _ _ _ rfl h4,own h2 ho,h5⟩
 ·rename_i cM
  obtain⟨g,h1,h2,ho⟩:=hk
  simp only[cM]
  exact⟨g,h1,h2,own h1 ho⟩
theorem LG {S:List ak} (hH:aO I β S w) {fz:List Nat} (hz:U' S fz=true) {x:PV} {v:Value} (hx:x.Is w I β v):(LF S fz x).Is w (fY I β S fz) β v:=by
 have uH:∀ y:PV,y.Is w I β v->y.Is w (fY I β S fz) β v:=fun y hy=>PV.Is.mono (fun _ h=>.inl h) (fun _ _=>rfl) y β β v (fun _ _ _ h=>h) hy
 unfold LF
 split
 ·rename_i l
  cases hc:jR l fz with
  | false=>exact uH _ hx
  | true =>
   obtain⟨b,hb,aN,hm⟩:=y0 hz (dV.1 hc)
   simp only[cond_true]
   split
   ·rename_i _ ty n m live cs hs
    rw[hb] at hs
    cases hs
    have h1:=uV hH (dV.1 hc) hb (n:=n) (es:=cs) (by
     simp only at aN hm
     show (bif live && B2 m && Nat.beq n n then cs=cs else False)
     rw[aN,hm,Nat.beq_refl]; exact rfl) hx
    exact PV.Is.mono (fun _ h=>h) (fun _ _=>rfl) _ no β v (fun l p hl=>by simp[PV.dk] at hl) h1
   ·exact uH _ hx
 ·exact uH _ hx
theorem Sub.freeze (fz:List Nat) (hz:U' s.st fz=true):Sub G s (s.Eg fz):=fun I β a w hR=>by
 obtain⟨n,t,st,b,rl⟩:=s
 refine⟨fY I β st fz,β,⟨hR.small,hR.defers,hR.size,by show b<=(j3 fz st).length; unfold j3; rw[gi]; exact hR.base,fun i x hx=>?_,hR.heap.Eg hR.az hz,nC hR.heap hR.az⟩,⟨⟨rfl,rfl,rfl,Nat.le_refl _,fun _ _ _=>rfl,fun g _ h=>?_,fun _ h=>.inl h,fun g _ h=>?_⟩,rfl,rfl,rfl,fun _ _ _=>rfl⟩⟩
 ·have tz:(t.zJ (LF st fz)).get i=some x:=hx
  rw[TM.rG,Option.map_eq_some_iff] at tz
  obtain⟨y,hy,rfl⟩:=tz
  obtain⟨v,hv,hi⟩:=hR.get i y hy
  exact⟨v,hv,LG hR.heap hz hi⟩
 ·obtain⟨l,b1,p,o,h1,h2,h3,h4,h5⟩:=h
  obtain⟨b0,gq,rfl⟩:=nT h1
  refine⟨l,b0,p,o,gq,h2,?_,h4,h5⟩
  cases hc:jR l fz with
  | true=>simp only[hc,kT,cond_true] at h3; cases h3
  | false=>simpa only [hc,kT,cond_false] using h3
 ·rcases h with h|⟨l,b1,p,o,hl,hb,aN,hm,hp,ha⟩
  ·exact .inl h
  ·cases pA:b1.m with
   | w=>exact .inr ⟨l,b1,p,o,hb,aN,pA,hp,ha⟩
   | p=>rw[pA] at hm; cases hm
   | r =>
    obtain⟨arr,ty,fr,_,ho⟩:=(hR.heap.gw l b1 hb aN).place hp ha
    exact .inl (ho.2 pA)
theorem SW.sub {c:Code} {Q:X->bb->Prop} {s s':bb} (h:Sub G s s') (h':SW G c Q s'):SW G c Q s:=SW.intro fun I β a w hR=>by
 obtain⟨I',aU,dt,hg⟩:=h I β a w hR
 exact h'.from dt hg
def bb.bare (s:bb) (vs:List (Nat × PV)) (st:List ak):bb:=match s with
 | ⟨n,_,_,b,rl⟩=>⟨n,kQ vs .nil,st,b,rl⟩
theorem SW.mh (hG:ma G) (R:List (Nat × aT)) {α:Type} {c:Code} {Q:X->bb->Prop} (hc:cr R c=true) (vs:α->List (Nat × PV)) (st:α->List ak) (μ:α->Nat) (x0:α) (N:Nat) (Nr:gH) (h0:gC G.cx Nr s (s.bare (vs x0) (st x0)))
  (h:∀ x,U8 (s.bare (vs x) (st x)) (pw G R N c (qN (fun s'=>∃ y π,μ y < μ x/\gC G.cx π s' (s.bare (vs y) (st y))) Q))):SW G (.loop c) Q s :=
 SW.inv hG (fun x=>s.bare (vs x) (st x)) μ (N:=N) hc x0 (eZ hG.ok h0) (fun x s'=>∃ y π,μ y < μ x/\gC G.cx π s' (s.bare (vs y) (st y))) (fun x s' ⟨y,π,hy,hs⟩=>⟨y,hy,eZ hG.ok hs⟩) fun x=>qS (h x)
theorem Spec.Jl (hG:ma G) {f:FuncId} {args:List PV} {S S':List ak} {rl:List Nat} {K:PV->List ak->Prop} (h:Spec G f args S' rl K) (π:gH) (hs:gC G.cx π ⟨0,.nil,S,S.length,[]⟩ ⟨0,.nil,S',S.length,[]⟩) (hu:(eC args).all (fun l=>Nat.blt l S.length)=true) (Nj:∀ l∈rl,S.length<=l):Spec G f args S [] K:=by
 refine Spec.intro h.run.1 fun I β w bs hH hM hA=>?_
 have hR:Rel G I β ⟨0,.nil,S,S.length,[]⟩ { tmps:=#[],defers:=G.EB } w:=⟨Nat.zero_le _,rfl,rfl,Nat.le_refl _,fun n x hx=>(by cases hx),hH,hM⟩
 obtain⟨I',aU,dt,hg⟩:=eZ hG.ok hs I β _ w hR
 have OR:bH w I' args aU bs:=bH.mono hg.ext.az (fun g sJ=>hg.ext.block g (hM.az g sJ) (fun hw=>hH.kG hw sJ)) args β aU bs (fun m p hm hp=>by
  rw[List.all_eq_true] at hu
  rw[hg.low m (Nat.le_of_ble_eq_true (hu m hm)) (by simp)]; exact hp) hA
 have hlen:S.length<=S'.length:=dt.base
 refine (h.run.2 I' aU w bs dt.heap dt.az OR).mono fun e w' ⟨v,r,S2,I2,gx,he,hK,hr,hH2,hM2,hE,hl,mw⟩=>?_
 refine⟨v,r,S2,I2,gx,he,hK,hr,hH2,hM2,hg.ext.trans hE,by omega,fun l jv _=>?_⟩
 rw[mw l (by omega) (fun hm=>by have:=Nj l hm; omega)]
 exact hg.low l jv (by simp)
end
def sT (π:gH) (b:ak) (q:ak->Prop):Prop:=match b with
 | ⟨.dyn,ty,n,m,live,cs⟩=>q ⟨.dyn,ty,n,m,live,cs⟩
 | ⟨.mp,ty,n,m,live,cs⟩=>q ⟨.mp,ty,n,m,live,cs⟩
 | ⟨k,ty,n,m,live,cs⟩=>bu (gk π cs) fun cs=>q ⟨k,ty,n,m,live,cs⟩
def atK (π:gH) (st:List ak):List Nat->List ak->Prop->Prop
 | [],[],k=>k
 | l::σ,b'::S,k=>(bu st[l]? fun b=>sT π b' fun mr=>gy b mr)/\atK π st σ S k
 | _,_,_=>False
def Vf (π:gH):List Nat->List ak->List ak->(List ak->Prop)->Prop
 | [],[],st,k=>k st
 | l::σ,b'::S,st,k=>sT π b' fun mr=>V6 mr fun mr=>uA st l mr fun st=>Vf π σ S st k
 | _,_,_,_=>False
def G3 (π:gH):List PV->List PV->Prop
 | [],[]=>True
 | x::xs,y::ys=>(bu (y.Jl π) fun z=>kt x z)/\G3 π xs ys
 | _,_=>False
def k9:List Nat->Bool
 | []=>true
 | l::σ=>!σ.any (Nat.beq l) && k9 σ
section
variable {w w':World} {I I':Nat->Prop} {β aU:aB} {G:Gx} {s:bb} {a:Act} {st eA:List ak}
theorem vm {π:gH} {b:ak} {q:ak->Prop} (h:sT π b q):∃ b2,q b2/\b2.k=b.k/\b2.ty=b.ty/\b2.size=b.size/\b2.m=b.m/\b2.live=b.live/\((b.k.sn=false/\b2.cs=b.cs)\/(b.k.sn=true/\gk π b.cs=some b2.cs)):=by
 obtain⟨k,ty,n,m,live,cs⟩:=b
 cases k
 ·obtain⟨ds,h1,h2⟩:=aA h
  exact⟨_,h2,rfl,rfl,rfl,rfl,rfl,.inr ⟨rfl,h1⟩⟩
 ·obtain⟨ds,h1,h2⟩:=aA h
  exact⟨_,h2,rfl,rfl,rfl,rfl,rfl,.inr ⟨rfl,h1⟩⟩
 ·exact⟨_,h,rfl,rfl,rfl,rfl,rfl,.inl ⟨rfl,rfl⟩⟩
 ·exact⟨_,h,rfl,rfl,rfl,rfl,rfl,.inl ⟨rfl,rfl⟩⟩
theorem G4 {π:gH} {st:List ak}:∀ {σ:List Nat} {S:List ak} {k:Prop},atK π st σ S k->k/\σ.length=S.length/\∀ (i l:Nat) (b':ak),σ[i]?=some l->S[i]?=some b'->∃ b,st[l]?=some b/\sT π b' fun mr=>gy b mr
 | [],[],k,h=>⟨h,rfl,fun i l b' hl=>by simp at hl⟩
 | l::σ,b'::S,k,h=>by
  obtain⟨h1,h2⟩:=h
  obtain⟨hk,hl,hh⟩:=G4 h2
  obtain⟨b,hb,h1⟩:=aA h1
  refine⟨hk,by simp[hl],fun i m c hm hc=>?_⟩
  cases i with
  | zero=>simp at hm hc; subst hm; subst hc; exact⟨b,hb,h1⟩
  | succ i=>exact hh i m c (by simpa using hm) (by simpa using hc)
 | [],_::_,_,h=>h.elim
 | _::_,[],_,h=>h.elim
theorem tP:∀ {σ:List Nat},k9 σ=true->∀ (i j l:Nat),σ[i]?=some l->σ[j]?=some l->i=j
 | [],_,i,j,l,h,_=>by simp at h
 | m::σ,h,i,j,l,hi,hj=>by
  simp only[k9,Bool.and_eq_true,Bool.not_eq_true',List.any_eq_false] at h
  have hn:∀ k,σ[k]?=some m->False:=fun k hk=>h.1 m (List.mem_of_getElem? hk) (Nat.beq_refl m)
  cases i with
  | zero=>cases j with
   | zero=>rfl
   | succ j=>simp at hi hj; subst hi; exact (hn j hj).elim
  | succ i=>cases j with
   | zero=>simp at hi hj; subst hj; exact (hn i hi).elim
   | succ j=>simp at hi hj; rw[tP h.2 i j l hi hj]
theorem G5 {π:gH}:∀ {σ:List Nat} {S:List ak} {st:List ak} {k:List ak->Prop},k9 σ=true->Vf π σ S st k->∃ eA,k eA/\eA.length=st.length/\(∀ l,l ∉ σ->eA[l]?=st[l]?)/\∀ (i l:Nat) (b':ak),σ[i]?=some l->S[i]?=some b'->sT π b' fun mr=>eA[l]?=some mr
 | [],[],st,k,_,h=>⟨st,h,rfl,fun _ _=>rfl,fun i l b' hl=>by simp at hl⟩
 | l::σ,b'::S,st,k,hd,h=>by
  have Vs:=hd
  simp only[k9,Bool.and_eq_true,Bool.not_eq_true',List.any_eq_false] at hd
  have aZ:l ∉ σ:=fun hm=>hd.1 l hm (Nat.beq_refl l)
  
  have key:∀ {c:ak} {q:ak->Prop},(sT π b' fun mr=>q mr)->∃ b2,q b2/\∀ q2:ak->Prop,q2 b2->sT π b' q2:=fun {c q} hq=>by
   obtain⟨k0,ty,n,m,live,cs⟩:=b'
   cases k0
   ·obtain⟨ds,h1,h2⟩:=aA hq
    exact⟨_,h2,fun q2 LH=>by show bu (gk π cs) _; rw[h1]; exact LH⟩
   ·obtain⟨ds,h1,h2⟩:=aA hq
    exact⟨_,h2,fun q2 LH=>by show bu (gk π cs) _; rw[h1]; exact LH⟩
   ·exact⟨_,hq,fun q2 LH=>LH⟩
   ·exact⟨_,hq,fun q2 LH=>LH⟩
  obtain⟨b2,h2,LH⟩:=key (c:=b') (q:=fun mr=>V6 mr fun mr=>uA st l mr fun st=>Vf π σ S st k) h
  obtain⟨cJ,h3⟩:=jU (yW h2)
  obtain⟨eA,hk,hlen,oD,Al⟩:=G5 hd.2 h3
  refine⟨eA,hk,by rw[hlen,List.length_set],fun m hm=>?_,fun i m c hm hc=>?_⟩
  ·rw[oD m (fun hx=>hm (List.mem_cons_of_mem _ hx)),List.getElem?_set_ne (fun e=>hm (by rw[e]; exact List.mem_cons_self))]
  ·cases i with
   | zero =>
    simp at hm hc; subst hm; subst hc
    refine LH _ ?_
    rw[oD l aZ,List.getElem?_set_self cJ]
   | succ i=>exact Al i m c (by simpa using hm) (by simpa using hc)
 | [],_::_,_,_,_,h=>h.elim
 | _::_,[],_,_,_,h=>h.elim
theorem A7 {π:gH}:∀ {xs ys:List PV} {vs:List Value},G3 π xs ys->bH w I xs β vs->bH w I ys (iB β π) vs
 | [],[],vs,_,h=>by cases vs with
  | nil=>simp only[bH]
  | cons v vs=>simp only[bH] at h
 | x::xs,y::ys,vs,h,hx=>by
  cases vs with
  | nil=>simp only[bH] at hx
  | cons v vs =>
   simp only[bH] at hx ⊢
   obtain⟨z,hz,hle⟩:=aA h.1
   exact⟨Fg hz (fA hle _ _ _ _ hx.1),A7 h.2 hx.2⟩
 | [],_::_,_,h,_=>h.elim
 | _::_,[],_,h,_=>h.elim
theorem nU {π:gH} {x y:PV} {v:Value} (h:x.wE π=some y) (hx:x.Is w I (iB β π) v):y.Is w I β v:=by
 unfold PV.wE at h
 split at h
 ·split at h
  ·rename_i m hm
   cases h
   simp only[PV.Is] at hx ⊢
   rw[cF hm] at hx; exact hx
  ·rename_i hm
   cases h
   simp only[PV.Is] at hx ⊢
   obtain⟨p,hp,hv⟩:=hx
   rw[jE hm] at hp; cases hp; exact hv
  ·cases h
 ·split at h
  ·rename_i m hm
   cases h
   simp only[PV.Is] at hx ⊢
   rw[cF hm] at hx; exact hx
  ·cases h
 ·split at h
  ·rename_i m hm
   cases h
   simp only[PV.Is] at hx ⊢
   rw[cF hm] at hx; exact hx
  ·cases h
 ·split at h
  ·rename_i m hm
   cases h
   simp only[PV.Is] at hx ⊢
   rw[cF hm] at hx; exact hx
  ·cases h
 ·split at h
  ·rename_i m hm
   cases h
   simp only[PV.Is] at hx ⊢
   rw[cF hm] at hx; exact hx
  ·cases h
 ·split at h
  ·rename_i m hm
   cases h
   simp only[PV.Is] at hx ⊢
   rw[cF hm] at hx; exact hx
  ·cases h
 ·cases h
 ·cases h
 ·cases h
 ·cases h
  refine PV.Is.mono (fun _ h=>h) (fun _ _=>rfl) x _ β v (fun l p hl=>?_) hx
  cases x<;>first|(simp_all [PV.dk]; done)|(rename_i a1 a2 a3 a4 a5 a6 a7 a8 a9; first|exact (a4 _ _ _ _ rfl).elim|exact (a5 _ _ _ _ rfl).elim|exact (a6 _ _ _ _ rfl).elim)
theorem iI {π:gH}:∀ {xs ys:List PV} {i:Nat},gk π xs=some ys->(∀ y,ys[i]?=some y->∃ x,xs[i]?=some x/\x.wE π=some y)/\(∀ x,xs[i]?=some x->∃ y,ys[i]?=some y/\x.wE π=some y)/\ys.length=xs.length
 | [],ys,i,h=>by
  simp only[gk,Option.some.injEq] at h
  subst h
  exact⟨fun y hy=>by simp at hy,fun x hx=>by simp at hx,rfl⟩
 | x::xs,ys,i,h=>by
  simp only[gk] at h
  split at h
  ·rename_i y l h1 h2
   cases h
   obtain⟨a1,a2,a3⟩:=iI (i:=i - 1) h2
   cases i with
   | zero=>exact⟨fun z hz=>by simp at hz; subst hz; exact⟨x,rfl,h1⟩,fun z hz=>by simp at hz; subst hz; exact⟨y,rfl,h1⟩,by simp[a3]⟩
   | succ i=>exact⟨fun z hz=>by simpa using a1 z (by simpa using hz),fun z hz=>by simpa using a2 z (by simpa using hz),by simp[a3]⟩
  ·cases h
theorem gd.tr {l l':Nat} {b b':ak} (hb:gd I β st w l b) (mw:∀ p,β l=some p->aU l'=some p) (hI:∀ g,I g->I' g) (hw:∀ g,I g->w'.heap[g]?=w.heap[g]?)
  (hg:∀ p g o,β l=some p->p.a=some (g,o)->w'.heap[g]?=w.heap[g]?) (fu:∀ p g o fr,β l=some p->p.a=some (g,o)->Own I β st l g fr b->Own I' aU eA l' g fr b')
  (hk:b'.k=b.k) (E5:b'.ty=b.ty) (fF:b'.size=b.size) (gr:b.k.sn=false->b'.cs=b.cs) (hlen:b'.cs.length=b.cs.length)
  (my:b.k.sn=true->∀ (arr:Array Value) (o:Nat),bB w I β b.cs arr o->bB w' I' aU b'.cs arr o):gd I' aU eA w' l' b':=by
 obtain⟨p,hp,cM⟩:=hb
 refine⟨p,mw p hp,?_⟩
 rw[hk]
 split at cM
 ·rename_i he
  obtain⟨g,o,arr,ty,fr,ha,hh,hc,ho⟩:=cM
  exact⟨g,o,arr,ty,fr,ha,(hg p g o hp ha).trans hh,my (by rw[he]; rfl) arr o hc,fu p g o fr hp ha ho⟩
 ·rename_i he
  obtain⟨g,arr,fr,ha,hh,hc,ho,h1,h2,h3,h4,h5⟩:=cM
  exact⟨g,arr,fr,ha,by rw[E5]; exact (hg p g 0 hp ha).trans hh,my (by rw[he]; rfl) arr 0 hc,fu p g 0 fr hp ha ho,by rw[hlen,fF]; exact h1,h2,h3,by rw[fF]; exact h4,by rw[fF]; exact h5⟩
 ·rename_i he
  obtain⟨⟨h1,h2,h3,h4⟩,cM⟩:=cM
  have jq:=gr (by rw[he]; rfl)
  refine⟨⟨by rw[fF]; exact h1,by rw[jq]; exact h2,h3,h4⟩,?_⟩
  rcases cM with h|⟨g,arr,fr,ha,hh,hc,ho,h5⟩
  ·exact .inl h
  ·exact .inr ⟨g,arr,fr,ha,by rw[E5]; exact (hg p g 0 hp ha).trans hh,by rw[jq,fF]; exact cB.mono hI hw _ _ _ _ (hg p g 0 hp ha) hc,fu p g 0 fr hp ha ho,by rw[fF]; exact h5⟩
 ·rename_i he
  obtain⟨g,ha,hm,ho⟩:=cM
  have jq:=gr (by rw[he]; rfl)
  exact⟨g,ha,by rw[jq]; exact hm.uH (hg p g 0 hp ha),fu p g 0 _ hp ha ho⟩
theorem Spec.YQ {f:FuncId} {args bE:List PV} {r0:PV} {S0 S1:List ak} {K:PV->List ak->Prop} (σ:List Nat) (h:Spec G f bE S0 [] fun r S'=>r=r0/\S'=S1) (hm:kb S0 S1=true) (Fp:r0.dk = []) (hσ:k9 σ=true)
  (hle:G3 (σ.map some) args bE) (hK:atK (σ.map some) st σ S0 (Vf (σ.map some) σ S1 st (K r0))):Spec G f args st [] K:=by
 obtain⟨hk,BT,U9⟩:=G4 hK
 obtain⟨eA,sI,hlen',oD,Al⟩:=G5 hσ hk
 obtain⟨Jn,JS⟩:=nD hm
 have hdup:=tP hσ
 have Jm:∀ {i l:Nat},σ[i]?=some l->(σ.map some)[i]?=some (some l):=fun {i l} h=>by rw[List.getElem?_map,h]; rfl
 refine Spec.intro h.run.1 fun I β w bs hH hM hA=>?_
 obtain⟨fX,G6⟩:∃ fX:aB,fX=iB β (σ.map some):=⟨_,rfl⟩
 have jF:∀ {i l:Nat},σ[i]?=some l->fX i=β l:=fun {i l} h=>by rw[G6]; exact cF (Jm h)
 have YR:∀ {i:Nat},S0.length<=i->fX i=none:=fun {i} h=>by
  rw[G6]; unfold iB; rw[List.getElem?_eq_none (by rw[List.length_map]; omega)]
 have idx:∀ {i:Nat},i < S0.length->∃ l,σ[i]?=some l:=fun {i} h=>⟨σ[i]'(by omega),List.getElem?_eq_getElem (by omega)⟩
 have yu:∀ {i:Nat} {b':ak},S0[i]?=some b'->∃ l b b2,σ[i]?=some l/\st[l]?=some b/\gy b b2/\b2.k=b'.k/\b2.ty=b'.ty/\b2.size=b'.size/\b2.m=b'.m/\b2.live=b'.live/\((b'.k.sn=false/\b2.cs=b'.cs)\/(b'.k.sn=true/\gk (σ.map some) b'.cs=some b2.cs)):=fun {i b'} dq=>by
  obtain⟨l,hl⟩:=idx (List.getElem?_eq_some_iff.1 dq).1
  obtain⟨b,hb,hr⟩:=U9 i l b' hl dq
  obtain⟨b2,h1,h2⟩:=vm hr
  exact⟨l,b,b2,hl,hb,h1,h2⟩
 
 have G7:∀ {i:Nat} {b':ak},S0[i]?=some b'->∃ l b,σ[i]?=some l/\st[l]?=some b/\b.live=true/\b.m=b'.m:=fun {i b'} dq=>by
  obtain⟨l,b,b2,hl,hb,h1,h2,h3,h4,h5,h6,h7⟩:=yu dq
  obtain⟨e1,e2,e3,e4,e5,e6,e7⟩:=c_ h1
  exact⟨l,b,hl,hb,e4,e3.trans h5⟩
 have Jo:aO I fX S0 w:=by
  refine⟨fun i hi=>YR hi,fun i b' dq aN=>?_⟩
  obtain⟨l,b,b2,hl,hb,h1,h2,h3,h4,h5,h6,h7⟩:=yu dq
  obtain⟨e1,e2,e3,e4,e5,e6,e7⟩:=c_ h1
  have hB:=hH.gw l b hb e4
  refine hB.tr (fun p hp=>(jF hl).trans hp) (fun _ h=>h) (fun _ _=>rfl) (fun _ _ _ _ _=>rfl) (fun p g o fr hp ha ho=>⟨fun hr=>?_,fun hr=>ho.2 (by rw[e3,h5]; exact hr)⟩) (h2.symm.trans e6.symm) (h3.symm.trans e1.symm) (h4.symm.trans e2.symm) (fun hc=>?_) ?_ (fun hc arr o oG=>?_)
  ·obtain⟨q1,q2,q3⟩:=ho.1 (by rw[e3,h5]; exact hr)
   refine⟨q1,q2,fun i2 b2' de eI bT p2 g2 o2 hU hJ=>?_⟩
   obtain⟨l2,b3,fZ,ku,G8,_⟩:=G7 eI
   exact q3 l2 b3 (fun e=>de (hdup i2 i l (by rw[← e]; exact fZ) hl)) ku G8 p2 g2 o2 ((jF fZ).symm.trans hU) hJ
  ·rcases h7 with ⟨_,h7⟩|⟨h7,_⟩
   ·rcases e7 with ⟨_,e7⟩|⟨e7,_⟩
    ·rw[← h7,e7]
    ·rw[hc] at e7; cases e7
   ·rw[← h2,← e6,hc] at h7; cases h7
  ·have:b2.cs.length=b.cs.length:=by
    rcases e7 with ⟨_,e7⟩|⟨_,e7⟩
    ·rw[e7]
    ·exact (lD e7).symm
   rcases h7 with ⟨_,h7⟩|⟨_,h7⟩
   ·rw[← h7,this]
   ·rw[← (iI (i:=0) h7).2.2,this]
  ·have hca2:bB w I β b2.cs arr o:=by
    rcases e7 with ⟨hd,_⟩|⟨_,h8⟩
    ·rw[hc] at hd; cases hd
    ·exact ir h8 oG
   rcases h7 with ⟨hd,_⟩|⟨_,h7⟩
   ·rw[← h2,← e6,hc] at hd; cases hd
   ·intro j c hj
    obtain⟨y,hy,Du⟩:=(iI (i:=j) h7).2.1 c hj
    obtain⟨v,hv,hi,h1⟩:=hca2 j y hy
    exact⟨v,hv,by rw[G6]; exact p_ Du hi,h1⟩
 have OR:bH w I bE fX bs:=by rw[G6]; exact A7 hle hA
 refine (h.run.2 I fX w bs Jo hM OR).mono fun e w' ⟨v,r,S',I',aU,he,⟨e1,e2⟩,hi,nE,lF,hE,hlen,mw⟩=>?_
 subst e1; subst e2
 obtain rfl:aU=fX:=funext fun i=>by
  by_cases hi:i < S0.length
  ·exact mw i hi (by simp)
  ·rw[YR (by omega),nE.qo i (by omega)]
 have mem:∀ {l:Nat},l∈σ->∃ i,σ[i]?=some l/\i < S0.length:=fun {l} hl=>by
  obtain⟨i,hi,e⟩:=List.getElem_of_mem hl
  exact⟨i,by rw[List.getElem?_eq_getElem hi,e],by omega⟩
 have FD:∀ {g},Wr aU S0 g->Wr β st g:=fun {g} ⟨i,b,p,o,h1,h2,h3,h4,h5⟩=>by
  obtain⟨l,b2,hl,eI,Np,pA⟩:=G7 h1
  exact⟨l,b2,p,o,eI,Np,by rw[pA]; exact h3,(jF hl).symm.trans h4,h5⟩
 
 have apart:∀ {l:Nat} {b:ak} {p:ow} {g o:Nat},l ∉ σ->st[l]?=some b->b.live=true->β l=some p->p.a=some (g,o)->¬ Wr aU S0 g:=fun {l b p g o} hl hb aN hp ha ⟨i,b2,p2,o2,h1,h2,h3,h4,h5⟩=>by
  obtain⟨l2,b3,fZ,ku,Np,pA⟩:=G7 h1
  obtain⟨arr,ty,fr,ho⟩:=(hH.gw l2 b3 ku Np).place ((jF fZ).symm.trans h4) h5
  exact (ho.2.1 (by rw[pA,h3]; nofun)).2.2 l b (fun e=>hl (e ▸ List.mem_of_getElem? fZ)) hb aN p g o hp ha rfl
 
 have new:∀ {i l:Nat} {b':ak},σ[i]?=some l->S'[i]?=some b'->∃ b2,eA[l]?=some b2/\b2.k=b'.k/\b2.ty=b'.ty/\b2.size=b'.size/\b2.m=b'.m/\b2.live=b'.live/\((b'.k.sn=false/\b2.cs=b'.cs)\/(b'.k.sn=true/\gk (σ.map some) b'.cs=some b2.cs)):=fun {i l b'} hl dq=>vm (Al i l b' hl dq)
 have inS:∀ {i:Nat},i < S0.length->∃ b',S'[i]?=some b':=fun {i} h=>⟨S'[i]'(by omega),List.getElem?_eq_getElem (by omega)⟩
 have B6:∀ {g},Wr β eA g->(Wr aU S' g)\/∃ l b p o,l ∉ σ/\st[l]?=some b/\b.live=true/\b.m = .w/\β l=some p/\p.a=some (g,o):=fun {g} ⟨l,b,p,o,h1,h2,h3,h4,h5⟩=>by
  by_cases hl:l∈σ
  ·obtain⟨i,hi,cJ⟩:=mem hl
   obtain⟨b',dq⟩:=inS cJ
   obtain⟨b2,eI,q1,q2,q3,q4,q5,_⟩:=new hi dq
   rw[eI] at h1
   cases h1
   exact .inl ⟨i,b',p,o,dq,by rw[← q5]; exact h2,by rw[← q4]; exact h3,(jF hi).trans h4,h5⟩
  ·exact .inr ⟨l,b,p,o,hl,(oD l hl).symm.trans h1,h2,h3,h4,h5⟩
 refine⟨v,r,eA,I',β,he,sI,lE Fp hi,⟨fun l hl=>hH.qo l (by omega),fun l b hb aN=>?_⟩,lF,⟨hE.os,hE.tape,hE.output,hE.size,fun g hg hn=>hE.block g hg fun h=>hn (FD h),fun g hg h=>?_,hE.az,fun g hg h=>(hE.new g hg h).imp id FD⟩,by omega,fun _ _ _=>rfl⟩
 ·by_cases hl:l∈σ
  ·obtain⟨i,hi,cJ⟩:=mem hl
   obtain⟨b',dq⟩:=inS cJ
   obtain⟨b2,eI,q1,q2,q3,q4,q5,q6⟩:=new hi dq
   rw[eI] at hb
   cases hb
   have hB:=nE.gw i b' dq (by rw[← q5]; exact aN)
   refine hB.tr (fun p hp=>(jF hi).symm.trans hp) (fun _ h=>h) (fun _ _=>rfl) (fun _ _ _ _ _=>rfl) (fun p g o fr hp ha ho=>⟨fun hr=>?_,fun hr=>ho.2 (by rw[← q4]; exact hr)⟩) q1 q2 q3 (fun hc=>?_) ?_ (fun hc arr o oG=>?_)
   ·obtain⟨x1,x2,x3⟩:=ho.1 (by rw[← q4]; exact hr)
    refine⟨x1,x2,fun l2 c2 de jq bT p2 g2 o2 hU hJ=>?_⟩
    by_cases fZ:l2∈σ
    ·obtain⟨i2,we,yK⟩:=mem fZ
     obtain⟨b3',YS⟩:=inS yK
     obtain⟨b3,ku,_,_,_,_,y5,_⟩:=new we YS
     rw[ku] at jq
     cases jq
     exact x3 i2 b3' (fun e=>de (Option.some.inj (by rw[← hi,← we,e]))) YS (by rw[← y5]; exact bT) p2 g2 o2 ((jF we).trans hU) hJ
    ·have hc2':st[l2]?=some c2:=(oD l2 fZ).symm.trans jq
     obtain⟨b0,gq⟩:∃ b0,S0[i]?=some b0:=⟨S0[i]'cJ,List.getElem?_eq_getElem cJ⟩
     obtain⟨l3,b3,Jg,ku,G8,hmm3⟩:=G7 gq
     obtain rfl:l3=l:=Option.some.inj (Jg.symm.trans hi)
     obtain⟨_,q7⟩:=JS i b0 b' gq dq
     obtain⟨_,_,fr3,_,We⟩:=(hH.gw l3 b3 ku G8).place ((jF hi).symm.trans hp) ha
     exact (We.1 (by rw[hmm3,q7,← q4]; exact hr)).2.2 l2 c2 de hc2' bT p2 g2 o2 hU hJ
   ·rcases q6 with ⟨_,q6⟩|⟨q6,_⟩
    ·exact q6
    ·rw[hc] at q6; cases q6
   ·rcases q6 with ⟨_,q6⟩|⟨_,q6⟩
    ·rw[q6]
    ·exact (iI (i:=0) q6).2.2
   ·rcases q6 with ⟨hd,_⟩|⟨_,q6⟩
    ·rw[hc] at hd; cases hd
    ·intro j c hj
     obtain⟨y,hy,Du⟩:=(iI (i:=j) q6).1 c hj
     obtain⟨u,hu,hiu,h1⟩:=oG j y hy
     exact⟨u,hu,nU Du (by rw[← G6]; exact hiu),h1⟩
  ·have dq:st[l]?=some b:=(oD l hl).symm.trans hb
   have hB:=hH.gw l b dq aN
   have same:∀ {p g o},β l=some p->p.a=some (g,o)->g < w.heap.size/\w'.heap[g]?=w.heap[g]?:=fun {p g o} hp ha=>by
    have cJ:=hH.dS ⟨l,b,p,o,dq,aN,hp,ha⟩
    exact⟨cJ,hE.block g cJ (apart hl dq aN hp ha)⟩
   refine hB.mono hE.az (fun g hg=>hE.block g (hM.az g hg) fun hw=>?_) (fun _ _ h=>h) fun p g o hp ha=>⟨(same hp ha).2,fun hr=>?_⟩
   ·exact Jo.kG hw hg
   ·obtain⟨arr,ty,fr,hh,ho⟩:=hB.place hp ha
    obtain⟨h1,h2,h3⟩:=ho.1 hr
    refine⟨fun hI=>(hE.new g (same hp ha).1 hI).elim h2 (apart hl dq aN hp ha),fun l2 b2 de eI bT p2 g2 o2 hU hJ=>?_⟩
    by_cases fZ:l2∈σ
    ·obtain⟨i2,we,yK⟩:=mem fZ
     obtain⟨b0,gq⟩:∃ b0,S0[i2]?=some b0:=⟨S0[i2]'yK,List.getElem?_eq_getElem yK⟩
     obtain⟨l3,b3,Jg,ku,G8,_⟩:=G7 gq
     obtain rfl:l3=l2:=Option.some.inj (Jg.symm.trans we)
     exact h3 l3 b3 de ku G8 p2 g2 o2 hU hJ
    ·exact h3 l2 b2 de ((oD l2 fZ).symm.trans eI) bT p2 g2 o2 hU hJ
 ·rcases B6 h with h|⟨l,b,p,o,_,h2,h3,h4,h5,h6⟩
  ·exact FD (hE.wr g hg h)
  ·exact⟨l,b,p,o,h2,h3,h4,h5,h6⟩
end
def NO:Nat->Nat->gH
 | _,0=>[]
 | n,k+1=>some n::NO (n+1) k
def xK (π:gH):List PV->Option (List PV)
 | []=>some []
 | c::cs=>(match c.Jl π,xK π cs with
  | some x,some l=>some (x::l)
  | _,_=>none)
def PV.T1 (π:gH) (x:PV):Option PV:=match x with
 | .tup cs=>(xK π cs).map .tup
 | x=>x.Jl π
def T2 (π:gH):List ak->List ak->(List ak->Prop)->Prop
 | [],st,k=>k st
 | b::S,st,k=>sT π b fun b=>V6 b fun b=>yD st b fun st=>T2 π S st k
section
variable {w w':World} {I I':Nat->Prop} {β aU:aB} {G:Gx} {s:bb} {a:Act} {st eA:List ak}
theorem vn:∀ {k n i:Nat},(NO n k)[i]?=if i < k then some (some (n+i)) else none
 | 0,n,i=>by simp[NO]
 | k+1,n,0=>by simp[NO]
 | k+1,n,i+1=>by
  rw[NO,List.getElem?_cons_succ,vn]
  simp only[Nat.add_lt_add_iff_right,show n+1+i=n+(i+1) by omega]
theorem rH {π:gH}:∀ {xs ys:List PV} {vs:List Value},gk π xs=some ys->bH w I xs (iB β π) vs->bH w I ys β vs
 | [],ys,vs,h,hx=>by
  simp only[gk,Option.some.injEq] at h
  subst h
  cases vs with
  | nil=>simp only[bH]
  | cons v vs=>simp only[bH] at hx
 | x::xs,ys,vs,h,hx=>by
  simp only[gk] at h
  split at h
  ·rename_i y l h1 h2
   cases h
   cases vs with
   | nil=>simp only[bH] at hx
   | cons v vs =>
    simp only[bH] at hx ⊢
    exact⟨nU h1 hx.1,rH h2 hx.2⟩
  ·cases h
theorem A8 {π:gH} {x y:PV} {v:Value} (h:x.Jl π=some y) (hx:x.Is w I (iB β π) v):y.Is w I β v:=by
 unfold PV.Jl at h
 split at h
 ·rw[Option.map_eq_some_iff] at h
  obtain⟨l,hl,rfl⟩:=h
  simp only[PV.Is] at hx ⊢
  obtain⟨vs,rfl,hx⟩:=hx
  exact⟨vs,rfl,rH hl hx⟩
 ·rw[Option.map_eq_some_iff] at h
  obtain⟨l,hl,rfl⟩:=h
  simp only[PV.Is] at hx ⊢
  obtain⟨vs,rfl,hx⟩:=hx
  exact⟨vs,rfl,rH hl hx⟩
 ·cases h
 ·exact nU h hx
theorem tQ {π:gH}:∀ {xs ys:List PV} {vs:List Value},xK π xs=some ys->bH w I xs (iB β π) vs->bH w I ys β vs
 | [],ys,vs,h,hx=>by
  simp only[xK,Option.some.injEq] at h
  subst h
  cases vs with
  | nil=>simp only[bH]
  | cons v vs=>simp only[bH] at hx
 | x::xs,ys,vs,h,hx=>by
  simp only[xK] at h
  split at h
  ·rename_i y l h1 h2
   cases h
   cases vs with
   | nil=>simp only[bH] at hx
   | cons v vs =>
    simp only[bH] at hx ⊢
    exact⟨A8 h1 hx.1,tQ h2 hx.2⟩
  ·cases h
theorem G9 {π:gH} {x y:PV} {v:Value} (h:x.T1 π=some y) (hx:x.Is w I (iB β π) v):y.Is w I β v:=by
 unfold PV.T1 at h
 split at h
 ·rw[Option.map_eq_some_iff] at h
  obtain⟨l,hl,rfl⟩:=h
  simp only[PV.Is] at hx ⊢
  obtain⟨vs,rfl,hx⟩:=hx
  exact⟨vs,rfl,tQ hl hx⟩
 ·exact A8 h hx
theorem A9:∀ {l:List ak} {b:ak} {q:List ak->Prop},yD l b q->q (l++[b])
 | [],_,_,h=>h
 | c::l,b,q,h=>A9 (l:=l) (q:=fun x=>q (c::x)) h
theorem A' {π:gH}:∀ {S st:List ak} {k:List ak->Prop},T2 π S st k->∃ S2,k (st++S2)/\S2.length=S.length/\∀ (i:Nat) (b:ak),S[i]?=some b->∃ b2,S2[i]?=some b2/\b2.k=b.k/\b2.ty=b.ty/\b2.size=b.size/\b2.m=b.m/\b2.live=b.live/\((b.k.sn=false/\b2.cs=b.cs)\/(b.k.sn=true/\gk π b.cs=some b2.cs))
 | [],st,k,h=>⟨[],by rw[List.append_nil]; exact h,rfl,fun i b hb=>by simp at hb⟩
 | c::S,st,k,h=>by
  obtain⟨b2,h1,h2⟩:=vm h
  obtain⟨S2,hk,hl,hh⟩:=A' (A9 (yW h1))
  refine⟨b2::S2,by rw[List.append_assoc] at hk; exact hk,by simp[hl],fun i b hb=>?_⟩
  cases i with
  | zero=>simp at hb; subst hb; exact⟨b2,rfl,h2⟩
  | succ i=>simpa using hh i b (by simpa using hb)
theorem Spec.LI {f:FuncId} {args bE:List PV} {r0:PV} {S1:List ak} {K:PV->List ak->Prop} (h:Spec G f bE [] [] fun r S'=>r=r0/\S'=S1) (dx:S1.all (fun b=>b.live && Md.beq b.m .w)=true) (hle:ny kt args bE) (hu:eC bE = [])
  (hK:lS st 0 fun n=>T2 (NO n S1.length) S1 st fun yr=>bu (r0.T1 (NO n S1.length)) fun r=>K r yr):Spec G f args st [] K:=by
 replace hK:=gG hK
 rw[Nat.zero_add] at hK
 obtain⟨S2,hk,hlen,hnew⟩:=A' hK
 obtain⟨r2,YT,sI⟩:=aA hk
 refine Spec.intro h.run.1 fun I β w bs hH hM hA=>?_
 have h0:aO I (fun _=>none) ([]:List ak) w:=⟨fun _ _=>rfl,fun l b hl=>by simp at hl⟩
 refine (h.run.2 I (fun _=>none) w bs h0 hM (jY hu (jg (fun _ _=>fA) hle hA))).mono fun e w' ⟨v,r,S',I',mi,he,⟨e1,e2⟩,hi,nE,lF,hE,_,_⟩=>?_
 subst e1; subst e2
 have Ee:∀ g,¬ Wr (fun _=>none) ([]:List ak) g:=fun g ⟨l,b,p,o,h1,_⟩=>by simp at h1
 have hold:∀ g,g < w.heap.size->w'.heap[g]?=w.heap[g]?:=fun g hg=>hE.block g hg (Ee g)
 have Fq:∀ g,g < w.heap.size->I' g->I g:=fun g hg h=>(hE.new g hg h).elim id fun h=>absurd h (Ee g)
 have hlw:∀ {i:Nat} {b:ak},S'[i]?=some b->b.live=true/\b.m = .w:=fun {i b} hb=>by
  rw[List.all_eq_true] at dx
  have:=dx b (List.mem_of_getElem? hb)
  simp only[Bool.and_eq_true] at this
  exact⟨this.1,Md.mA this.2⟩
 have fP:∀ {i:Nat} {p:ow} {g o:Nat},mi i=some p->p.a=some (g,o)->w.heap.size<=g:=fun {i p g o} hp ha=>by
  have cJ:=nE.lt hp
  obtain⟨b,hb⟩:∃ b,S'[i]?=some b:=⟨S'[i],List.getElem?_eq_getElem cJ⟩
  rcases Nat.lt_or_ge g w.heap.size with hg|hg
  ·exact absurd (hE.wr g hg ⟨i,b,p,o,hb,(hlw hb).1,(hlw hb).2,hp,ha⟩) (Ee g)
  ·exact hg
 obtain⟨gx,eβ⟩:∃ gx:aB,gx=fun l=>if l < st.length then β l else mi (l - st.length):=⟨_,rfl⟩
 have LJ:∀ {l},l < st.length->gx l=β l:=fun {l} h=>by rw[eβ]; exact if_pos h
 have NP:∀ {i},gx (st.length+i)=mi i:=fun {i}=>by rw[eβ]; show (if st.length+i < st.length then _ else _)=_; rw[if_neg (by omega),Nat.add_sub_cancel_left]
 have Du:iB gx (NO st.length S'.length)=mi:=funext fun i=>by
  by_cases h:i < S'.length
  ·rw[cF (m:=st.length+i) (by rw[vn,if_pos h]),NP]
  ·unfold iB
   rw[vn,if_neg h]
   exact (nE.qo i (by omega)).symm
 have YU:∀ l p,β l=some p->gx l=some p:=fun l p hp=>by rw[LJ (hH.lt hp)]; exact hp
 have gu:∀ g,jy β st g->g < w.heap.size:=fun g hg=>hH.dS hg
 refine⟨v,r2,st++S2,I',gx,he,sI,G9 YT (by rw[Du]; exact hi),⟨fun l hl=>?_,fun l b hb aN=>?_⟩,lF,⟨hE.os,hE.tape,hE.output,hE.size,fun g hg _=>hold g hg,fun g hg ⟨l,b,p,o,h1,h2,h3,h4,h5⟩=>?_,hE.az,fun g hg h=>.inl (Fq g hg h)⟩,by simp,fun l hl _=>LJ hl⟩
 ·rw[List.length_append] at hl
  have:=NP (i:=l - st.length)
  rw[show st.length+(l - st.length)=l by omega] at this
  rw[this]; exact nE.qo _ (by omega)
 ·by_cases hl:l < st.length
  ·rw[List.getElem?_append_left hl] at hb
   have hB:=hH.gw l b hb aN
   refine hB.mono hE.az (fun g hg=>hold g (hM.az g hg)) YU fun p g o hp ha=>?_
   obtain⟨arr,ty,fr,hh,ho⟩:=hB.place hp ha
   have cJ:=bS hh
   refine⟨hold g cJ,fun hr=>⟨fun hI=>(ho.1 hr).2.1 (Fq g cJ hI),fun l' b' de dq fO p' g' o' eU dv=>?_⟩⟩
   by_cases jv:l' < st.length
   ·rw[List.getElem?_append_left jv] at dq
    exact (ho.1 hr).2.2 l' b' de dq fO p' g' o' (by rw[← LJ jv]; exact eU) dv
   ·have e:=NP (i:=l' - st.length)
    rw[show st.length+(l' - st.length)=l' by omega] at e
    have:=fP (by rw[← e]; exact eU) dv
    omega
  ·obtain⟨i,rfl⟩:∃ i,l=st.length+i:=⟨l - st.length,by omega⟩
   rw[List.getElem?_append_right (by omega),Nat.add_sub_cancel_left] at hb
   have cJ:i < S'.length:=by rw[← hlen]; exact (List.getElem?_eq_some_iff.1 hb).1
   obtain⟨b',dq⟩:∃ b,S'[i]?=some b:=⟨S'[i],List.getElem?_eq_getElem cJ⟩
   obtain⟨b2,eI,q1,q2,q3,q4,q5,q6⟩:=hnew i b' dq
   obtain rfl:b2=b:=Option.some.inj (eI.symm.trans hb)
   have hB:=nE.gw i b' dq (hlw dq).1
   refine hB.tr (fun p hp=>by rw[NP]; exact hp) (fun _ h=>h) (fun _ _=>rfl) (fun _ _ _ _ _=>rfl) (fun p g o fr hp ha ho=>⟨fun hr=>?_,fun hr=>ho.2 (by rw[← q4]; exact hr)⟩) q1 q2 q3 (fun hc=>?_) ?_ (fun hc arr o oG=>?_)
   ·obtain⟨x1,x2,x3⟩:=ho.1 (by rw[← q4]; exact hr)
    refine⟨x1,x2,fun l2 c2 de jq bT p2 g2 o2 hU hJ=>?_⟩
    by_cases fZ:l2 < st.length
    ·rw[List.getElem?_append_left fZ] at jq
     have h1:=gu g2 ⟨l2,c2,p2,o2,jq,bT,by rw[← LJ fZ]; exact hU,hJ⟩
     have h2:=fP hp ha
     omega
    ·obtain⟨i2,rfl⟩:∃ i2,l2=st.length+i2:=⟨l2 - st.length,by omega⟩
     rw[NP] at hU
     have yK:=nE.lt hU
     obtain⟨b3,ku⟩:∃ b,S'[i2]?=some b:=⟨S'[i2],List.getElem?_eq_getElem yK⟩
     exact x3 i2 b3 (fun e=>de (by rw[e])) ku (hlw ku).1 p2 g2 o2 hU hJ
   ·rcases q6 with ⟨_,q6⟩|⟨q6,_⟩
    ·exact q6
    ·rw[hc] at q6; cases q6
   ·rcases q6 with ⟨_,q6⟩|⟨_,q6⟩
    ·rw[q6]
    ·exact (iI (i:=0) q6).2.2
   ·rcases q6 with ⟨hd,_⟩|⟨_,q6⟩
    ·rw[hc] at hd; cases hd
    ·intro j c hj
     obtain⟨y,hy,hr⟩:=(iI (i:=j) q6).1 c hj
     obtain⟨u,hu,hiu,h1⟩:=oG j y hy
     exact⟨u,hu,nU hr (by rw[Du]; exact hiu),h1⟩
 ·by_cases hl:l < st.length
  ·rw[List.getElem?_append_left hl] at h1
   exact⟨l,b,p,o,h1,h2,h3,by rw[← LJ hl]; exact h4,h5⟩
  ·have e:=NP (i:=l - st.length)
   rw[show st.length+(l - st.length)=l by omega] at e
   have:=fP (by rw[← e]; exact h4) h5
   omega
theorem Spec.lend {f:FuncId} {args bE:List PV} {rl:List Nat} {K:PV->List ak->Prop} (fz:List Nat) (hz:U' st fz=true) (hle:ny (Wd st fz) args bE) (hu:eC bE = []) (h:Spec G f bE (j3 fz st) rl K):Spec G f args st rl K:=by
 refine Spec.intro h.run.1 fun I β w bs hH hM hA=>?_
 have hH2:=hH.Eg hM hz
 have hM2:db G (fY I β st fz) w:=nC hH hM
 have hA2:bH w (fY I β st fz) bE β bs:=jY hu (lG hH hle hu hA)
 have OT:∀ {g},Wr β (j3 fz st) g->Wr β st g:=fun {g} ⟨l,b1,p,o,h1,h2,h3,h4,h5⟩=>by
  obtain⟨b0,gq,rfl⟩:=nT h1
  refine⟨l,b0,p,o,gq,h2,?_,h4,h5⟩
  cases hc:jR l fz with
  | true=>simp only[hc,kT,cond_true] at h3; cases h3
  | false=>simpa only [hc,kT,cond_false] using h3
 have hlen:(j3 fz st).length=st.length:=by unfold j3; rw[gi]
 refine (h.run.2 (fY I β st fz) β w bs hH2 hM2 hA2).mono fun e w' ⟨v,r,S',I',aU,he,hK,hi,nE,lF,hE,hl,mw⟩=>?_
 refine⟨v,r,S',I',aU,he,hK,hi,nE,lF,⟨hE.os,hE.tape,hE.output,hE.size,fun g hg hn=>hE.block g hg fun h=>hn (OT h),fun g hg h=>OT (hE.wr g hg h),fun g hg=>hE.az g (.inl hg),fun g hg h=>?_⟩,by rw[← hlen]; exact hl,fun l hl hr=>mw l (by rw[hlen]; exact hl) hr⟩
 rcases hE.new g hg h with (h|⟨l,b,p,o,hl,hb,aN,hm,hp,ha⟩)|h
 ·exact .inl h
 ·cases pA:b.m with
  | w=>exact .inr ⟨l,b,p,o,hb,aN,pA,hp,ha⟩
  | p=>rw[pA] at hm; cases hm
  | r =>
   obtain⟨arr,ty,fr,_,ho⟩:=(hH.gw l b hb aN).place hp ha
   exact .inl (ho.2 pA)
 ·exact .inr (OT h)
end
section
variable {w w':World} {I I':Nat->Prop} {β aU:aB} {G:Gx} {s:bb} {a:Act} {st eA:List ak}
theorem G' {x:PV} {v:Value} {n:Bool × IntKind × Int} (h:x.num=some n) (hx:x.Is w I β v):v = .int n.2.1 n.2.2:=by
 cases x<;>simp only[PV.num] at h<;>first|cases h; simp only[PV.Is] at hx; exact hx|cases h
end
def G_ (G:Gx) (s:bb) (o:Oper) (q:PV->bb->Prop):Prop:=match o.op with
 | .makeSlice t l c=>bu (G.cx.l9 t) fun d=>match d with
  | .slice elem=>bu (Ev.dZ G.cx elem) fun n=>bu (Ev.D_ elem G.bt) fun bG=>oz G.cx elem fun z=>s.ev l fun l=>s.ev c fun c=>bu l.num fun n1=>bu c.num fun n2=>(match z with
   | [x]=>bif Nat.beq n 1 && x.pj then ∃ N:Nat,n1.2.2=N/\n2.2.2=N/\n1.2.1 = .i64/\n2.2.1 = .i64/\bG*N<=281474976710656/\N<=maxLen/\m8 s ⟨.dyn,elem,1,.w,true,List.replicate N x.norm⟩ q else False
   | _=>False)
  | _=>False
 | _=>False
section
variable {w w':World} {I I':Nat->Prop} {β aU:aB} {G:Gx} {s:bb} {a:Act} {st eA:List ak}
theorem tR (hG:ma G) {o:Oper} {q:PV->bb->Prop} (h:G_ G s o q):pK G s o q:=pK.intro fun I β a w hR=>by
 unfold G_ at h
 split at h
 ·rename_i t l c sF
  replace h:=aA h
  obtain⟨d,hu,h⟩:=h
  split at h
  ·rename_i elem
   replace h:=aA h
   obtain⟨n,hn,h⟩:=h
   replace h:=aA h
   obtain⟨bG,Nc,h⟩:=h
   replace h:=jx (w:=w) (I:=I) (β:=β) hG.ok h
   obtain⟨z,i,v,h,hi,Jf,uG⟩:=h
   replace h:=bb.cI hR h
   obtain⟨x,h,hx⟩:=h
   replace h:=bb.cI hR h
   obtain⟨y,h,hy⟩:=h
   replace h:=aA h
   obtain⟨n1,kp,h⟩:=h
   replace h:=aA h
   obtain⟨n2,hn2,h⟩:=h
   have hx:=G' kp hx
   have hy:=G' hn2 hy
   split at h
   ·rename_i x
    replace h:=bp h
    obtain⟨hc,N,e1,e2,k1,k2,h4,h5,h⟩:=h
    simp only[Bool.and_eq_true] at hc
    obtain⟨h3,h6⟩:=hc
    obtain rfl:=Nat.eq_of_beq_eq_true h3
    rw[e1,k1] at hx
    rw[e2,k2] at hy
    obtain⟨i2,we,hib⟩:=hG.bG _ (Ev.iU Nc)
    rw[hi] at we; cases we
    obtain⟨i3,Ng,his⟩:=Ev.js hG.ok hn
    rw[hi] at Ng; cases Ng
    match hvc:v.cells.toList,uG with
    | [u],uG =>
     have hvc':v.cells = #[u]:=by rw[← Array.toArray_toList (xs:=v.cells),hvc]
     simp only[bH,and_true] at uG
     have hu1:u.oneCell'=true:=by
      refine m4 (uG.flat (show x.kD=true from ?_))
      cases x<;>first|rfl|cases h6
     have hv1:v.cells = #[u]:=hvc'
     have cg:(execOp a.eval o).run G.cx.P w = .ok (.value (.slice (some ⟨w.heap.size,0,none⟩) N N)) (w.alloc (.cells (madeCells #[u] N) elem)):=by
      have h7:((bG*N:Nat):Int)<=281474976710656:=Int.ofNat_le.2 h4
      have h8:(i.bytes:Int)*(N:Int)<=281474976710656:=by rw[hib,← Int.natCast_mul]; exact h7
      have:=run_make (P:=G.cx.P) w t elem i v (hG.ok.un hu) hi Jf .i64 .i64 N N (by omega) (Int.le_refl _) h8 (by unfold maxLen at h5; omega)
      rw[show i.size=1 from his,hv1] at this
      simp only[Int.toNat_natCast,Nat.mul_one] at this
      unfold execOp
      rw[sF]
      simp only[hx,hy,Sem.run_bind,this,Result.andThen_ok,Sem.run_pure]
     rw[cg]
     replace h:=lx (gG h)
     rw[Nat.zero_add] at h
     have pM:=aB.jz hR.heap ⟨some (w.heap.size,0),N,N⟩
     have fF:(madeCells #[u] N).size=N:=size_madeCells _ _
     have hec:x.norm.cells = [x.norm]:=by cases x<;>first|rfl|cases h6
     have Fo:cB (w.alloc (.cells (madeCells #[u] N) elem)) I (List.replicate N x.norm) 1 w.heap.size 0:=cB.of fun j e he=>by
      rw[List.getElem?_replicate] at he
      split at he
      ·rename_i hj
       cases he
       refine⟨by rw[hec]; rfl,dj.of fun j2 c hc=>?_⟩
       rw[hec] at hc
       match j2,hc with
       | 0,hc =>
        simp at hc; subst hc
        refine⟨u,?_,An ?_,hu1⟩
        ·rw[Ev.gb (Ev.kC w _)]
         simp[madeCells,hj,Nat.mod_one]
        ·refine PV.Is.mono (fun _ h=>h) (fun g hg=>iW hR.heap hR.az.az _ g (.inr hg)) x β _ u (fun l p hl=>?_) uG
         exfalso
         cases x<;>first|(simp[PV.dk] at hl; done)|(simp[PV.pj] at h6; done)
      ·cases he
     obtain⟨hH,hE⟩:=ly (vs:=madeCells #[u] N) (t:=elem) hR.heap hR.az.az (b:=⟨.dyn,elem,1,.w,true,List.replicate N x.norm⟩) (p:=⟨some (w.heap.size,0),N,N⟩) rfl (fun ho =>
      ⟨_,aB.dw ..,⟨Nat.zero_lt_one,List.length_replicate,Nat.le_refl _,h5⟩,.inr ⟨w.heap.size,madeCells #[u] N,(0,0),rfl,Ev.kC w _,Fo,ho,by rw[fF,Nat.mul_one]⟩⟩) rfl
     refine c9.mk' hR h hH hE pM (by simp) (fun l hl=>if_neg (by omega)) ?_
     simp only[PV.Is]; exact⟨_,aB.dw ..,rfl⟩
    | [],uG=>simp only[bH] at uG
    | _::_::_,uG=>simp only[bH,and_false] at uG
   ·exact h.elim
  ·exact h.elim
 ·exact h.elim
end
end Go.Proofs.YtlgkljpgagfndaaGreatDoor.Pw

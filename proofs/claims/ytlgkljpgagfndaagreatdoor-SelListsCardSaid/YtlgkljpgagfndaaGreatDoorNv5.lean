/- What this claim is proved with: no condition. -/
import Derived.Test.YtlgkljpgagfndaaGreatDoorNv4
import Derived.Maps.AppendAt
set_option linter.unusedVariables false
set_option linter.unusedSimpArgs false
namespace Go.Proofs.YtlgkljpgagfndaaGreatDoor.Pw
open Go Go.RowKit
def aB.set (β:aB) (l:Nat) (p:ow):aB:=fun l'=>if l'=l then some p else β l'
section
variable {w w':World} {I I':Nat->Prop} {β aU:aB} {cx:Ev.Cx} {G:Gx} {P:Program} {s:bb} {a:Act} {st eA:List ak}
theorem jU:∀ {st:List ak} {l:Nat} {b:ak} {q:List ak->Prop},uA st l b q->l < st.length/\q (st.set l b)
 | [],_,_,_,h=>h.elim
 | _::st,0,b,q,h=>⟨by simp,h⟩
 | a::st,n+1,b,q,h=>by
  obtain⟨h1,h2⟩:=jU (st:=st) (q:=fun l=>q (a::l)) h
  exact⟨by simpa using h1,h2⟩
theorem lx:∀ {st:List ak} {b:ak} {q:List ak->Prop},yD st b q->q (st++[b])
 | [],_,_,h=>h
 | a::st,b,q,h=>lx (st:=st) (q:=fun l=>q (a::l)) h
theorem gG {α:Type}:∀ {l:List α} {n:Nat} {q:Nat->Prop},lS l n q->q (n+l.length)
 | [],n,q,h=>h
 | _::l,n,q,h=>by
  have:=gG (l:=l) h
  rwa [List.length_cons,show n+(l.length+1)=n+1+l.length by omega]
theorem gd.place {l:Nat} {b:ak} (h:gd I β st w l b) {p:ow} {g o:Nat} (hp:β l=some p) (ha:p.a=some (g,o)):∃ (ob:Obj) (_:Unit) (fr:Nat × Nat),w.heap[g]?=some ob/\Own I β st l g fr b:=by
 obtain⟨q,hq,hk⟩:=h
 rw[hp] at hq
 cases hq
 split at hk
 ·obtain⟨g',o',arr,ty,fr,dv,hh,_,ho⟩:=hk
  rw[ha] at dv; cases dv; exact⟨_,(),fr,hh,ho⟩
 ·obtain⟨g',arr,fr,dv,hh,_,ho,_⟩:=hk
  rw[ha] at dv; cases dv; exact⟨_,(),fr,hh,ho⟩
 ·obtain⟨_,hk⟩:=hk
  rcases hk with ⟨dv,_⟩|⟨g',arr,fr,dv,hh,_,ho,_⟩
  ·rw[ha] at dv; cases dv
  ·rw[ha] at dv; cases dv; exact⟨_,(),fr,hh,ho⟩
 ·obtain⟨g',dv,⟨es,clock,hh,_⟩,ho⟩:=hk
  rw[ha] at dv; cases dv; exact⟨_,(),(0,0),hh,ho⟩
theorem Aa.uH {g:Nat} {cs:List PV} (h:Aa w g cs) (hw:w'.heap[g]?=w.heap[g]?):Aa w' g cs:=by
 obtain⟨es,clock,hb,F,hs,hD⟩:=h
 exact⟨es,clock,hw.trans hb,F,hs,hD⟩
theorem gd.mono {l:Nat} {b:ak} (hI:∀ g,I g->I' g) (hw:∀ g,I g->w'.heap[g]?=w.heap[g]?) (mw:∀ l p,β l=some p->aU l=some p)
  (hg:∀ p g o,β l=some p->p.a=some (g,o)->w'.heap[g]?=w.heap[g]?/\(b.m≠.r->¬ I' g/\∀ l' b',l'≠l->eA[l']?=some b'->b'.live=true->∀ p g' o',aU l'=some p->p.a=some (g',o')->g'≠g)) (hb:gd I β st w l b):gd I' aU eA w' l b:=by
 obtain⟨p,hp,hk⟩:=hb
 refine⟨p,mw l p hp,?_⟩
 have own:∀ {g o:Nat} {fr:Nat × Nat},p.a=some (g,o)->Own I β st l g fr b->Own I' aU eA l g fr b:=fun ha ho=>⟨fun hr=>⟨(ho.1 hr).1,(hg p _ _ hp ha).2 hr⟩,fun hr=>hI _ (ho.2 hr)⟩
 split at hk
 ·obtain⟨g,o,arr,ty,fr,ha,hh,hc,ho⟩:=hk
  exact⟨g,o,arr,ty,fr,ha,(hg p g o hp ha).1.trans hh,hc.mono hI hw mw,own ha ho⟩
 ·obtain⟨g,arr,fr,ha,hh,hc,ho,h1⟩:=hk
  exact⟨g,arr,fr,ha,(hg p g 0 hp ha).1.trans hh,hc.mono hI hw mw,own ha ho,h1⟩
 ·obtain⟨h1,hk⟩:=hk
  refine⟨h1,?_⟩
  rcases hk with h|⟨g,arr,fr,ha,hh,hc,ho,h2⟩
  ·exact .inl h
  ·exact .inr ⟨g,arr,fr,ha,(hg p g 0 hp ha).1.trans hh,cB.mono hI hw _ _ _ _ (hg p g 0 hp ha).1 hc,own ha ho,h2⟩
 ·obtain⟨g,ha,hm,ho⟩:=hk
  exact⟨g,ha,hm.uH (hg p g 0 hp ha).1,own ha ho⟩
theorem aO.lt (h:aO I β st w) {l:Nat} {p:ow} (hp:β l=some p):l < st.length:=by
 rcases Nat.lt_or_ge l st.length with h'|h'
 ·exact h'
 ·rw[h.qo l h'] at hp; cases hp
def jy (β:aB) (st:List ak) (g:Nat):Prop:=∃ l b p o,st[l]?=some b/\b.live=true/\β l=some p/\p.a=some (g,o)
theorem aB.jz (h:aO I β st w) (p:ow):∀ l q,β l=some q->(β.set st.length p) l=some q:=fun l q hq=>by
 have:=h.lt hq
 unfold aB.set
 rw[if_neg (by omega)]; exact hq
theorem aB.dw (β:aB) (l:Nat) (p:ow):(β.set l p) l=some p:=if_pos rfl
theorem aO.add (h:aO I β st w) (hw:∀ g,jy β st g\/I g->w'.heap[g]?=w.heap[g]?) {b:ak} {p:ow} (hp:∀ g o,p.a=some (g,o)->¬ I g/\¬ jy β st g)
  (hb:gd I (β.set st.length p) (st++[b]) w' st.length b):aO I (β.set st.length p) (st++[b]) w':=by
 refine⟨fun l hl=>?_,fun l b' hl aN=>?_⟩
 ·simp only[List.length_append,List.length_singleton] at hl
  unfold aB.set
  rw[if_neg (by omega),h.qo l (by omega)]
 ·by_cases cJ:l < st.length
  ·rw[List.getElem?_append_left cJ] at hl
   have dq:=h.gw l b' hl aN
   refine dq.mono (fun _ h=>h) (fun g hg=>hw g (.inr hg)) (aB.jz h p) fun q g o hq ha=>?_
   obtain⟨arr,ty,fr,hh,ho⟩:=dq.place hq ha
   have hL:jy β st g:=⟨l,b',q,o,hl,aN,hq,ha⟩
   refine⟨hw g (.inl hL),fun hr=>⟨(ho.1 hr).2.1,fun l' mr de jv fO p' g' o' eU dv=>?_⟩⟩
   unfold aB.set at eU
   split at eU
   ·cases eU
    intro e
    subst e
    exact (hp _ _ dv).2 hL
   ·have:=h.lt eU
    rw[List.getElem?_append_left this] at jv
    exact (ho.1 hr).2.2 l' mr de jv fO p' g' o' eU dv
  ·have hle:l=st.length:=by
    have:=(List.getElem?_eq_some_iff.1 hl).1
    simp at this; omega
   subst hle
   rw[List.getElem?_append_right (Nat.le_refl _)] at hl
   simp only[Nat.sub_self,List.getElem?_cons_zero,Option.some.injEq] at hl
   subst hl
   exact hb
theorem aO.dS (h:aO I β st w) {g:Nat} (hg:jy β st g):g < w.heap.size:=by
 obtain⟨l,b,p,o,h1,h2,h3,h4⟩:=hg
 obtain⟨arr,ty,fr,hh,_⟩:=(h.gw l b h1 h2).place h3 h4
 exact bS hh
theorem Ext.add (h:aO I β st w) (hos:w'.os=w.os) (EW:w'.tape=w.tape) (oD:w'.output=w.output) (fF:w.heap.size<=w'.heap.size) {b:ak} {p:ow} (hw:∀ g,g < w.heap.size->¬ Wr β st g->w'.heap[g]?=w.heap[g]?)
  (hp:∀ g o,p.a=some (g,o)->g < w.heap.size->Wr β st g):Ext I β st w I (β.set st.length p) (st++[b]) w' :=
 ⟨hos,EW,oD,fF,hw,fun g hg ⟨l,b',q,o,h1,h2,h3,h4,h5⟩=>by
  unfold aB.set at h4
  split at h4
  ·cases h4
   exact hp g o h5 hg
  ·have:=h.lt h4
   rw[List.getElem?_append_left this] at h1
   exact⟨l,b',q,o,h1,h2,h3,h4,h5⟩,fun _ h=>h,fun _ _ h=>.inl h⟩
theorem aO.kill (h:aO I β st w) (l:Nat) {b:ak} (hb:b.live=false):aO I β (st.set l b) w:=by
 refine⟨fun l' jv=>h.qo l' (by simpa using jv),fun l' b' jv aN=>?_⟩
 have de:l'≠l:=fun e=>by
  subst e
  rw[List.getElem?_set_self (by simpa using (List.getElem?_eq_some_iff.1 jv).1)] at jv
  cases jv; rw[hb] at aN; cases aN
 rw[List.getElem?_set_ne (fun e=>de e.symm)] at jv
 have dq:=h.gw l' b' jv aN
 refine dq.mono (fun _ h=>h) (fun _ _=>rfl) (fun _ _ h=>h) fun q g o hq ha=>⟨rfl,fun hr=>?_⟩
 obtain⟨arr,ty,fr,hh,ho⟩:=dq.place hq ha
 refine⟨(ho.1 hr).2.1,fun l2 b2 hne2 fZ bT=>?_⟩
 have hne':l2≠l:=fun e=>by
  subst e
  rw[List.getElem?_set_self (by simpa using (List.getElem?_eq_some_iff.1 fZ).1)] at fZ
  cases fZ; rw[hb] at bT; cases bT
 rw[List.getElem?_set_ne (fun e=>hne' e.symm)] at fZ
 exact (ho.1 hr).2.2 l2 b2 hne2 fZ bT
theorem EX {l g:Nat} {b:ak} (hb:b.live=false\/∃ b0,st[l]?=some b0/\b0.live=b.live/\b0.m=b.m) (h:Wr β (st.set l b) g):Wr β st g:=by
 obtain⟨l',b',p,o,h1,h2,h3,h4,h5⟩:=h
 by_cases de:l'=l
 ·subst de
  rw[List.getElem?_set_self (by simpa using (List.getElem?_eq_some_iff.1 h1).1)] at h1
  cases h1
  rcases hb with hb|⟨b0,e1,e2,e3⟩
  ·rw[hb] at h2; cases h2
  ·exact⟨l',b0,p,o,e1,by rw[e2]; exact h2,by rw[e3]; exact h3,h4,h5⟩
 ·rw[List.getElem?_set_ne (fun e=>de e.symm)] at h1
  exact⟨l',b',p,o,h1,h2,h3,h4,h5⟩
theorem Ext.kill {l:Nat} {b:ak} (hb:b.live=false):Ext I β st w I β (st.set l b) w:=⟨rfl,rfl,rfl,Nat.le_refl _,fun _ _ _=>rfl,fun _ _ h=>EX (.inl hb) h,fun _ h=>h,fun _ _ h=>.inl h⟩
theorem aO.write (h:aO I β st w) {l:Nat} {b b':ak} {p:ow} {g o:Nat} {arr arr':Array Value} {ty:TypeId} (hb:st[l]?=some b) (aN:b.live=true) (hm:b.m = .w) (hp:β l=some p) (ha:p.a=some (g,o)) (hh:w.heap[g]?=some (.cells arr ty (0,0)))
  (jv:b'.live=true) (lQ:b'.m = .w) (nc:∀ (hI:∀ x,I x->(w.setRow g arr').heap[x]?=w.heap[x]?),Own I β (st.set l b') l g (0,0) b'->gd I β (st.set l b') (w.setRow g arr') l b') :
  aO I β (st.set l b') (w.setRow g arr')/\Ext I β st w I β (st.set l b') (w.setRow g arr'):=by
 have gq:=h.gw l b hb aN
 obtain⟨arr0,ty0,fr0,hh0,ho0⟩:=gq.place hp ha
 obtain⟨_,hIg,EY⟩:=ho0.1 (by rw[hm]; decide)
 have tA:∀ x,I x->(w.setRow g arr').heap[x]?=w.heap[x]?:=fun x hx=>setRow_other w g x _ fun e=>hIg (e ▸ hx)
 have hll:l < st.length:=(List.getElem?_eq_some_iff.1 hb).1
 have Oo:∀ l' mr,l'≠l->(st.set l b')[l']?=some mr->mr.live=true->∀ p g' o',β l'=some p->p.a=some (g',o')->g'≠g:=fun l' mr de Jx JJ p g' o' eU dv=>by
  rw[List.getElem?_set_ne (fun e=>de e.symm)] at Jx
  exact EY l' mr de Jx JJ p g' o' eU dv
 refine⟨⟨fun l2 fZ=>h.qo l2 (by simpa using fZ),fun l2 b2 fZ bT=>?_⟩,⟨rfl,rfl,rfl,by simp,fun x hx hn=>setRow_other w g x _ fun e=>hn (e ▸ ⟨l,b,p,o,hb,aN,hm,hp,ha⟩),fun x hx hw=>EX (.inr ⟨b,hb,by rw[aN,jv],by rw[hm,lQ]⟩) hw,fun _ h=>h,fun _ _ h=>.inl h⟩⟩
 by_cases de:l2=l
 ·subst de
  rw[List.getElem?_set_self hll] at fZ
  cases fZ
  exact nc tA ⟨fun _=>⟨rfl,hIg,Oo⟩,fun hr=>by rw[lQ] at hr; cases hr⟩
 ·rw[List.getElem?_set_ne (fun e=>de e.symm)] at fZ
  have eI:=h.gw l2 b2 fZ bT
  refine eI.mono (fun _ h=>h) tA (fun _ _ h=>h) fun q g2 o2 hq hJ=>?_
  obtain⟨arr2,ty2,fr2,hh2,VE⟩:=eI.place hq hJ
  refine⟨setRow_other w g g2 _ (EY l2 b2 de fZ bT q g2 o2 hq hJ),fun hr=>⟨(VE.1 hr).2.1,fun l3 b3 hne3 Jg Oq p3 g3 o3 hp3 ha3=>?_⟩⟩
  by_cases h3:l3=l
  ·subst h3
   rw[hp] at hp3
   cases hp3
   rw[ha] at ha3
   cases ha3
   exact fun e=>EY l2 b2 de fZ bT q g2 o2 hq hJ e.symm
  ·rw[List.getElem?_set_ne (fun e=>h3 e.symm)] at Jg
   exact (VE.1 hr).2.2 l3 b3 hne3 Jg Oq p3 g3 o3 hp3 ha3
theorem uI {g o n:Nat} {cs:List PV} (hl:cs.length=n) (hc:∀ j c,cs[j]?=some c->∃ v,w.cell? ⟨g,o+j,none⟩=some v/\c.Is w I β v) :
  ∃ vs:Array Value,bH w I cs β vs.toList/\∀ w2:World,w2.heap[g]?=w.heap[g]?->(loadCells ⟨g,o,none⟩ n).run P w2 = .ok vs w2:=by
 have key:∀ (cs:List PV) (o:Nat),(∀ j c,cs[j]?=some c->∃ v,w.cell? ⟨g,o+j,none⟩=some v/\c.Is w I β v)->∃ l:List Value,bH w I cs β l/\∀ j v,l[j]?=some v->w.cell? ⟨g,o+j,none⟩=some v:=by
  intro cs
  induction cs with
  | nil=>intro o _; exact⟨[],by simp only[bH],fun j v h=>by simp at h⟩
  | cons a cs ih =>
   intro o hc
   obtain⟨v,hv,hi⟩:=hc 0 a rfl
   obtain⟨l,h1,h2⟩:=ih (o+1) fun j x hx=>by
    obtain⟨u,hu,hui⟩:=hc (j+1) x (by simpa using hx)
    exact⟨u,by rw[show o+1+j=o+(j+1) by omega]; exact hu,hui⟩
   refine⟨v::l,by simp only[bH]; exact⟨hi,h1⟩,fun j u hu=>?_⟩
   cases j with
   | zero=>simp at hu; subst hu; exact hv
   | succ j=>rw[show o+(j+1)=o+1+j by omega]; exact h2 j u (by simpa using hu)
 obtain⟨l,h1,h2⟩:=key cs o hc
 refine⟨l.toArray,by simpa using h1,fun w2 uJ=>?_⟩
 have hll:=h1.length
 rw[show n=l.length by omega]
 exact run_loadCells_list w2 _ l fun j v hv=>by rw[Ev.iv]; exact (World.cell?_of_block (a:=⟨g,o+j,none⟩) uJ).trans (h2 j v hv)
theorem jA (hO:Ev.f_ cx) {t:TypeId} {cs:List PV} {off g o:Nat} {q:PV->Prop} (h:part cx t cs off q) (hc:∀ j c,cs[j]?=some c->∃ v,w.cell? ⟨g,o+j,none⟩=some v/\c.Is w I β v) :
  ∃ x v,q x/\x.Is w I β v/\∀ w2:World,w2.heap[g]?=w.heap[g]?->(Instr.loadAt t (.pointer (some ⟨g,o+off,none⟩))).run cx.P w2 = .ok v w2:=by
 replace h:=aA h
 obtain⟨x,hx,h⟩:=h
 replace h:=yF h
 unfold pg at hx
 split at hx
 ·rename_i n ha hn
  split at hx
  ·rename_i hle
   have VF:off+n<=cs.length:=Nat.le_of_ble_eq_true hle
   cases hx
   obtain⟨vs,g1,g2⟩:=uI (P:=cx.P) (w:=w) (I:=I) (β:=β) (g:=g) (o:=o+off) (cs:=(cs.drop off).take n) (n:=n) (by simp; omega) (fun j x hx=>by
    rw[List.getElem?_take] at hx
    split at hx
    ·rw[List.getElem?_drop] at hx
     obtain⟨v,hv,hi⟩:=hc _ _ hx
     exact⟨v,by rw[Nat.add_assoc]; exact hv,hi⟩
    ·cases hx)
   exact⟨_,.agg vs,h,by simp only[PV.Is]; exact⟨vs,rfl,g1⟩,fun w2 uJ=>by simp[Instr.loadAt,Instr.sureAddr,loadVar,Ev.im hO ha,Ev.dQ hO hn,g2 w2 uJ]⟩
  ·cases hx
 ·rename_i ha
  obtain⟨v,hv,hi⟩:=hc _ _ hx
  refine⟨x,v,h,hi,fun w2 uJ=>?_⟩
  have hv2:=(World.cell?_of_block (a:=⟨g,o+off,none⟩) uJ).trans hv
  simp[Instr.loadAt,Instr.sureAddr,loadVar,Ev.im hO ha,hv2]
 ·cases hx
end
section
variable {w w':World} {I I':Nat->Prop} {β aU:aB} {cx:Ev.Cx} {G:Gx} {P:Program} {s:bb} {a:Act} {st eA:List ak}
theorem Is.anywhere {x:PV} {v:Value} (h:x.Is w I (fun _=>none) v):x.Is w I β v:=PV.Is.mono (fun _ h=>h) (fun _ _=>rfl) x _ β v (fun _ _ _ h=>by cases h) h
theorem iq (h:aO I β st w) {l:Nat} {b:ak} {p:ow} {g o:Nat} (hb:st[l]?=some b) (hm:b.mem=true) (hp:β l=some p) (ha:p.a=some (g,o)) :
  ∃ arr ty fr,w.heap[g]?=some (.cells arr ty fr)/\bB w I β b.cs arr o/\Own I β st l g fr b:=by
 unfold ak.mem at hm
 simp only[Bool.and_eq_true] at hm
 obtain⟨q,hq,hk⟩:=h.gw l b hb hm.1
 rw[hp] at hq
 cases hq
 have v7:=hm.2
 split at hk
 ·obtain⟨g',o',arr,ty,fr,dv,hh,hc,ho⟩:=hk
  rw[ha] at dv; cases dv; exact⟨arr,ty,fr,hh,hc,ho⟩
 ·obtain⟨g',arr,fr,dv,hh,hc,ho,_⟩:=hk
  rw[ha] at dv; cases dv; exact⟨arr,_,fr,hh,hc,ho⟩
 ·rename_i iV; rw[iV] at v7; cases v7
 ·rename_i iV; rw[iV] at v7; cases v7
theorem bB.load {cs:List PV} {arr:Array Value} {g o:Nat} {ty:TypeId} {fr:Nat × Nat} (h:bB w I β cs arr o) (hh:w.heap[g]?=some (.cells arr ty fr)):∀ j c,cs[j]?=some c->∃ v,w.cell? ⟨g,o+j,none⟩=some v/\c.Is w I β v:=fun j c hc=>by
 obtain⟨v,hv,hi,_⟩:=h j c hc
 exact⟨v,by rw[Ev.gb hh]; exact hv,hi⟩
theorem dj.load {cs:List PV} {g o:Nat} (h:dj w I cs g o):∀ j c,cs[j]?=some c->∃ v,w.cell? ⟨g,o+j,none⟩=some v/\c.Is w I β v:=fun j c hc=>by
 obtain⟨v,hv,hi,_⟩:=h.get hc
 exact⟨v,hv,Is.anywhere hi⟩
theorem EZ (hO:Ev.f_ cx) {t:TypeId} {g o:Nat} {v:Value} (ha:Ev.gA cx t=some false) (hc:w.cell? ⟨g,o,none⟩=some v):(Instr.loadAt t (.pointer (some ⟨g,o,none⟩))).run cx.P w = .ok v w:=by
 simp[Instr.loadAt,Instr.sureAddr,loadVar,Ev.im hO ha,hc]
theorem qv (hO:Ev.f_ G.cx) (hh:aO I β st w) (hM:db G I w) {t:TypeId} {x:PV} {u:Value} {q:PV->Prop} (h:tp G st t x q) (hx:x.Is w I β u) :
  ∃ z v g,q z/\z.Is w I β v/\(I g\/∃ l b p o,x.gw=some l/\st[l]?=some b/\b.live=true/\β l=some p/\p.a=some (g,o))/\∀ w2:World,w2.heap[g]?=w.heap[g]?->(Instr.loadAt t u).run G.cx.P w2 = .ok v w2:=by
 have idx:∀ {cs:List PV} {g o off n:Nat} {i:Int},(∀ j c,cs[j]?=some c->∃ v,w.cell? ⟨g,o+j,none⟩=some v/\c.Is w I β v) ->
   ((∃ m:Nat,i=m/\part G.cx t cs (off+m*n) q)\/(Ev.gA G.cx t=some false/\0<=i/\off+i.toNat*n < cs.length/\∀ c,cs[off+i.toNat*n]?=some c->q c))->∃ z v,q z/\z.Is w I β v/\∀ w2:World,w2.heap[g]?=w.heap[g]?->(Instr.loadAt t (.pointer (some ⟨g,o+(off+i.toNat*n),none⟩))).run G.cx.P w2 = .ok v w2:=by
  intro cs g o off n i hc h
  rcases h with ⟨m,rfl,h⟩|⟨ha,h0,cJ,h⟩
  ·exact jA hO h hc
  ·obtain⟨v,hv,hi⟩:=hc _ _ (List.getElem?_eq_getElem cJ)
   exact⟨_,v,h _ (List.getElem?_eq_getElem cJ),hi,fun w2 uJ=>EZ hO ha ((World.cell?_of_block (a:=⟨g,o+(off+i.toNat*n),none⟩) uJ).trans hv)⟩
 unfold tp at h
 split at h<;>try simp only[PV.Is] at hx
 ·replace h:=aA h
  obtain⟨b,hb,h⟩:=h
  replace h:=bp h
  obtain⟨hm,h⟩:=h
  obtain⟨p,g,o,hp,ha,rfl⟩:=hx
  obtain⟨arr,ty,fr,h_,hc,_⟩:=iq hh hb hm hp ha
  obtain⟨z,v,h1,h2,h3⟩:=jA hO h (hc.load h_)
  exact⟨z,v,g,h1,h2,.inr ⟨_,b,p,o,rfl,hb,by unfold ak.mem at hm; simp only[Bool.and_eq_true] at hm; exact hm.1,hp,ha⟩,h3⟩
 ·replace h:=aA h
  obtain⟨b,hb,h⟩:=h
  replace h:=bp h
  obtain⟨hm,h⟩:=h
  obtain⟨p,g,o,hp,ha,rfl⟩:=hx
  obtain⟨arr,ty,fr,h_,hc,_⟩:=iq hh hb hm hp ha
  obtain⟨z,v,h1,h2,h3⟩:=idx (hc.load h_) h
  exact⟨z,v,g,h1,h2,.inr ⟨_,b,p,o,rfl,hb,by unfold ak.mem at hm; simp only[Bool.and_eq_true] at hm; exact hm.1,hp,ha⟩,h3⟩
 ·rename_i l i n off
  replace h:=aA h
  obtain⟨b,hb,h⟩:=h
  split at h
  ·rename_i hk
   replace h:=bp h
   obtain⟨hc,α,l',enc,gr,hi,h⟩:=h
   simp only[Bool.and_eq_true] at hc
   have hn:b.size=n:=Nat.eq_of_beq_eq_true hc.2
   obtain⟨p,g,o,hp,ha,rfl⟩:=hx
   obtain⟨_,hlen,hle,_,na⟩:=dN hh hb hc.1 hk hp
   rcases na with ⟨dv,_⟩|⟨g',arr,fr,dv,_,h_,po,_⟩
   ·rw[ha] at dv; cases dv
   ·rw[ha] at dv
    cases dv
    have he:b.cs[i]?=some (enc l'[i]):=by rw[gr,List.getElem?_map,List.getElem?_eq_getElem hi]; rfl
    have JF:=po.get he
    obtain⟨z,v,h1,h2,h3⟩:=jA (β:=β) hO (h _ (List.getElem?_eq_getElem hi)) (dj.load JF.2)
    rw[hn,Nat.add_assoc] at h3
    exact⟨z,v,g,h1,h2,.inr ⟨_,b,p,0,rfl,hb,hc.1,hp,ha⟩,h3⟩
  ·exact h.elim
 ·obtain⟨g,o,rfl,hg,hc⟩:=hx
  obtain⟨z,v,h1,h2,h3⟩:=jA (β:=β) hO h hc.load
  exact⟨z,v,g,h1,h2,.inl hg,h3⟩
 ·subst hx
  replace h:=aA h
  obtain⟨cs,gr,h⟩:=h
  obtain⟨hg,hc⟩:=hM.m0 _ _ (Ev.iU gr)
  obtain⟨z,v,h1,h2,h3⟩:=jA (β:=β) hO h (dj.load hc)
  rw[Nat.zero_add] at h3
  exact⟨z,v,_,h1,h2,.inl hg,h3⟩
 ·subst hx
  replace h:=aA h
  obtain⟨cs,gr,h⟩:=h
  obtain⟨hg,hc⟩:=hM.m0 _ _ (Ev.iU gr)
  obtain⟨z,v,h1,h2,h3⟩:=idx (dj.load hc) h
  rw[Nat.zero_add] at h3
  exact⟨z,v,_,h1,h2,.inl hg,h3⟩
 ·exact h.elim
theorem Ak {cs new r:List PV} {arr:Array Value} {o off:Nat} {vs:List Value} (h:vW cs new off=some r) (hc:bB w I β cs arr o) (hn:bH w I new β vs) (h1:∀ v∈vs,v.oneCell'=true) (fF:o+off+vs.length<=arr.size) :
  bB w I β r (arr.toList.take (o+off)++vs++arr.toList.drop (o+off+vs.length)).toArray o:=by
 unfold vW at h
 split at h
 ·rename_i hle
  have hle:=Nat.le_of_ble_eq_true hle
  cases h
  intro j x hx
  have hl:=hn.length
  simp only[List.getElem?_toArray]
  have qw:(arr.toList.take (o+off)).length=o+off:=by simp; omega
  by_cases hj:j < off
  ·rw[List.append_assoc,List.getElem?_append_left (by simp; omega),List.getElem?_take,if_pos hj] at hx
   obtain⟨v,hv,hi,ho⟩:=hc j x hx
   refine⟨v,?_,hi,ho⟩
   rw[List.append_assoc,List.getElem?_append_left (by rw[qw]; omega),List.getElem?_take,if_pos (by omega)]
   simpa using hv
  ·by_cases hj2:j < off+new.length
   ·rw[List.getElem?_append_left (by simp; omega),List.getElem?_append_right (by simp; omega)] at hx
    have ht:(cs.take off).length=off:=by simp; omega
    rw[ht] at hx
    obtain⟨v,hv,hi⟩:=hn.get hx
    refine⟨v,?_,hi,h1 v (List.mem_of_getElem? hv)⟩
    rw[List.getElem?_append_left (by simp; omega),List.getElem?_append_right (by rw[qw]; omega),qw,show o+j - (o+off)=j - off by omega]
    exact hv
   ·rw[List.getElem?_append_right (by simp; omega),List.getElem?_drop] at hx
    have ht:(cs.take off++new).length=off+new.length:=by simp; omega
    rw[ht,show off+new.length+(j - (off+new.length))=j by omega] at hx
    obtain⟨v,hv,hi,ho⟩:=hc j x hx
    refine⟨v,?_,hi,ho⟩
    have h2:(arr.toList.take (o+off)++vs).length=o+off+vs.length:=by simp; omega
    rw[List.getElem?_append_right (by rw[h2]; omega),h2,List.getElem?_drop,show o+off+vs.length+(o+j - (o+off+vs.length))=o+j by omega]
    simpa using hv
 ·cases h
theorem nd (b:ak) (cs:List PV):(b.gg cs).k=b.k/\(b.gg cs).ty=b.ty/\(b.gg cs).size=b.size/\(b.gg cs).m=b.m/\(b.gg cs).live=b.live/\(b.gg cs).cs=cs:=by
 cases b; exact⟨rfl,rfl,rfl,rfl,rfl,rfl⟩
theorem qx {b:ak} (h:b.can=true):b.live=true/\b.m = .w:=by
 unfold ak.can at h
 simp only[Bool.and_eq_true] at h
 refine⟨h.1,?_⟩
 have:=h.2
 cases hm:b.m<;>rw[hm] at this<;>first|rfl|cases this
theorem JK {v:PV} {u:Value} (he:v.elem=true) (h:v.Is w I β u):(∀ ts,v≠.tup ts)/\∀ (j:Nat) (c:PV),v.cells[j]?=some c->∃ y,u.cells.toList[j]?=some y/\c.Is w I (fun _=>none) y/\y.oneCell'=true:=by
 have nr:∀ {c:PV} {y:Value},c.pj=true->c.Is w I β y->c.Is w I (fun _=>none) y/\y.oneCell'=true:=fun hc hi=>by
  refine⟨?_,m4 (hi.flat (by rename_i c _; cases c<;>first|rfl|cases hc))⟩
  refine PV.Is.mono (fun _ h=>h) (fun _ _=>rfl) _ β _ _ (fun l p hl=>?_) hi
  rename_i c _
  cases c<;>simp_all [PV.dk,PV.pj]
 have Ai:∀ ts,v≠.tup ts:=fun ts e=>by subst e; cases he
 refine⟨Ai,fun j c hc=>?_⟩
 obtain⟨y,hy,hi⟩:=(h.kF Ai).get hc
 refine⟨y,hy,nr ?_ hi⟩
 cases v with
 | agg cs =>
  simp only[PV.elem,List.all_eq_true] at he
  exact he c (List.mem_of_getElem? hc)
 | _ =>
  simp only[PV.cells] at hc
  cases j with
  | zero=>simp at hc; subst hc; exact he
  | succ j=>simp at hc
theorem JL {x:PV} {y:Value} (Ai:∀ ts,x≠.tup ts) (h:x.Is w I β y) (h1:∀ c∈x.cells,c.kD=true):∀ z∈y.cells.toList,z.oneCell'=true:=by
 intro z hz
 obtain⟨k,hk,hkz⟩:=List.getElem_of_mem hz
 have hl:=(h.kF Ai).length
 have iV:k < x.cells.length:=by omega
 obtain⟨z',hz',Ot⟩:=(h.kF Ai).get (List.getElem?_eq_getElem iV)
 rw[List.getElem?_eq_getElem hk,hkz] at hz'
 cases hz'
 exact m4 (Ot.flat (h1 _ (List.getElem_mem iV)))
end
structure ma (G:Gx):Prop where
 ok:Ev.f_ G.cx
 bG:∀ p∈G.bt,∃ i,G.cx.P.info? p.1=some i/\i.bytes=p.2
section
variable {w w':World} {I I':Nat->Prop} {β aU:aB} {cx:Ev.Cx} {G:Gx} {P:Program} {s:bb} {a:Act} {st eA:List ak}
theorem bb.eD (s:bb) (st:List ak):(s.store st).n=s.n/\(s.store st).t=s.t/\(s.store st).st=st/\(s.store st).base=s.base/\(s.store st).rl=s.rl:=by
 cases s; exact⟨rfl,rfl,rfl,rfl,rfl⟩
theorem Rel.grow (hR:Rel G I β s a w) (hh:aO I' aU eA w') (he:Ext I β s.st w I' aU eA w') (mw:∀ l p,β l=some p->aU l=some p) (hl:s.st.length<=eA.length) (hI:∀ g,I' g->g < w'.heap.size):Rel G I' aU (s.store eA) a w':=by
 obtain⟨e1,e2,e3,e4,e5⟩:=bb.eD s eA
 exact⟨by rw[e1]; exact hR.small,hR.defers,by rw[e1]; exact hR.size,by rw[e4,e3]; exact Nat.le_trans hR.base hl,fun t x ht=>by
  rw[e2] at ht
  obtain⟨v,hv,hi⟩:=hR.get t x ht
  exact⟨v,hv,PV.Is.mono he.az (he.keeps hR.heap hR.az.az) x β aU v (fun l p _=>mw l p) hi⟩,by rw[e3]; exact hh,hR.az.ext hR.heap he hI⟩
theorem c9.mk' (hR:Rel G I β s a w) {q:PV->bb->Prop} {x:PV} {v:Value} (h:q x (s.store eA)) (hh:aO I aU eA w') (he:Ext I β s.st w I aU eA w') (mw:∀ l p,β l=some p->aU l=some p) (hl:s.st.length<=eA.length) (gu:∀ l,l < s.st.length->aU l=β l)
  (hx:x.Is w' I aU v):c9 G s I β w a q v w':=by
 obtain⟨e1,e2,e3,e4,e5⟩:=bb.eD s eA
 exact⟨x,_,I,aU,h,hR.grow hh he mw hl (fun g hg=>Nat.lt_of_lt_of_le (hR.az.az g hg) he.size),hx,by rw[e3]; exact he,e4,e5,e1,fun l jv _=>gu l (Nat.lt_of_lt_of_le jv hR.base),fun l b hb _=>gu l (List.getElem?_eq_some_iff.1 hb).1⟩
theorem c9.same (hR:Rel G I β s a w) {q:PV->bb->Prop} {x:PV} {v:Value} (h:q x s) (hx:x.Is w I β v):c9 G s I β w a q v w :=
 ⟨x,s,I,β,h,hR,hx,Ext.refl,rfl,rfl,rfl,fun _ _ _=>rfl,fun _ _ _ _=>rfl⟩
theorem oE {i:Int} {v:PV} {off m k:Nat}:∀ {cs r:List PV} {p:Nat},m7 i v off m k p cs=some r->∀ (j:Nat) (c:PV),r[j]?=some c->∃ c0,cs[j]?=some c0 /\
  ((¬ (off<=p+j/\p+j < off+k*m/\(p+j - off) % m=0)/\c=c0)\/((off<=p+j/\p+j < off+k*m/\(p+j - off) % m=0)/\mix (i=(((p+j - off) / m:Nat):Int)) v c0=some c))
 | [],r,p,h,j,c,hj=>by simp only[m7,Option.some.injEq] at h; subst h; simp at hj
 | x::cs,r,p,h,j,c,hj=>by
  unfold m7 at h
  cases hc:(Nat.ble off p && Nat.blt p (off+k*m) && Nat.beq ((p - off) % m) 0) with
  | true =>
   rw[hc,cond_true] at h
   split at h
   ·rename_i y l hy hl
    cases h
    simp only[Bool.and_eq_true] at hc
    have c1:=Nat.le_of_ble_eq_true hc.1.1
    have c2:p < off+k*m:=Nat.le_of_ble_eq_true hc.1.2
    have c3:=Nat.eq_of_beq_eq_true hc.2
    cases j with
    | zero=>simp only[List.getElem?_cons_zero,Option.some.injEq] at hj; subst hj; exact⟨x,rfl,.inr ⟨⟨c1,c2,c3⟩,hy⟩⟩
    | succ j =>
     obtain⟨c0,h0,h1⟩:=oE hl j c hj
     rw[show p+1+j=p+(j+1) by omega] at h1
     exact⟨c0,h0,h1⟩
   ·cases h
  | false =>
   rw[hc,cond_false] at h
   split at h
   ·rename_i l hl
    cases h
    cases j with
    | zero =>
     simp only[List.getElem?_cons_zero,Option.some.injEq] at hj; subst hj
     refine⟨x,rfl,.inl ⟨fun ⟨a1,a2,a3⟩=>?_,rfl⟩⟩
     have:(Nat.ble off p && Nat.blt p (off+k*m) && Nat.beq ((p - off) % m) 0)=true:=by
      simp only[Bool.and_eq_true]
      exact⟨⟨Nat.ble_eq_true_of_le a1,Nat.ble_eq_true_of_le a2⟩,by rw[show (p - off) % m=0 from a3]; rfl⟩
     rw[hc] at this; cases this
    | succ j =>
     obtain⟨c0,h0,h1⟩:=oE hl j c hj
     rw[show p+1+j=p+(j+1) by omega] at h1
     exact⟨c0,h0,h1⟩
   ·cases h
theorem oF {i:Int} {v:PV} {off m k:Nat}:∀ {cs r:List PV} {p:Nat},m7 i v off m k p cs=some r->r.length=cs.length
 | [],r,p,h=>by simp only[m7,Option.some.injEq] at h; subst h; rfl
 | x::cs,r,p,h=>by
  unfold m7 at h
  cases hc:(Nat.ble off p && Nat.blt p (off+k*m) && Nat.beq ((p - off) % m) 0) with
  | true =>
   rw[hc,cond_true] at h
   split at h
   ·rename_i y l hy hl
    cases h; rw[List.length_cons,List.length_cons,oF hl]
   ·cases h
  | false =>
   rw[hc,cond_false] at h
   split at h
   ·rename_i l hl
    cases h; rw[List.length_cons,List.length_cons,oF hl]
   ·cases h
theorem E0 {p:Prop} [Decidable p] {x c z:PV} (h:mix p x c=some z):∃ k a b,z = .int k (if p then a else b)/\(x = .int k a\/x = .lit k a)/\(c = .int k b\/c = .lit k b):=by
 have key:∀ (k l:IntKind) (a b:Int),(if decide (k=l)=true then some (PV.int k (if p then a else b)) else none)=some z->k=l/\z = .int k (if p then a else b):=fun k l a b h=>by
  by_cases hk:k=l
  ·rw[if_pos (decide_eq_true hk)] at h; exact⟨hk,(Option.some.inj h).symm⟩
  ·rw[if_neg (by simp[hk])] at h; cases h
 cases x<;>first
  | (cases h; done)
  | (cases c<;>first
    | (cases h; done)
    | (obtain⟨rfl,rfl⟩:=key _ _ _ _ h
       exact⟨_,_,_,rfl,by simp,by simp⟩))
theorem JM {p:Prop} [Decidable p] {x c z:PV} {u:Value} (h:mix p x c=some z) (hp:p) (hx:bH w I x.cells β [u]):z.Is w I β u:=by
 obtain⟨k,a,b,rfl,h1,_⟩:=E0 h
 rcases h1 with rfl|rfl
 ·simp only[PV.cells,bH,PV.Is,and_true] at hx ⊢
  rw[if_pos hp]; exact hx
 ·simp only[PV.cells,bH,PV.Is,and_true] at hx ⊢
  rw[if_pos hp]; exact hx
theorem JN {p:Prop} [Decidable p] {x c z:PV} {u:Value} (h:mix p x c=some z) (hp:¬ p) (hc:c.Is w I β u):z.Is w I β u:=by
 obtain⟨k,a,b,rfl,_,h1⟩:=E0 h
 rcases h1 with rfl|rfl
 ·simp only[PV.Is] at hc ⊢
  rw[if_neg hp]; exact hc
 ·simp only[PV.Is] at hc ⊢
  rw[if_neg hp]; exact hc
theorem BR (hG:ma G) (hR:Rel G I β s a w) {t:TypeId} {x v:PV} {u y:Value} {q:PV->bb->Prop} (h:EI G s.st t x v fun st=>q (.tup []) (s.store st)) (hx:x.Is w I β u) (hv:v.Is w I β y) :
  ∃ w',(Instr.storeAt t u y).run G.cx.P w = .ok () w'/\c9 G s I β w a q undef w':=by
 have hh:=hR.heap
 replace h:=aA h
 obtain⟨n,hn,h⟩:=h
 replace h:=bp h
 obtain⟨hc,h⟩:=h
 simp only[Bool.and_eq_true,List.all_eq_true] at hc
 obtain⟨⟨hc1,jq⟩,hc3⟩:=hc
 have hvn:v.cells.length=n:=Nat.eq_of_beq_eq_true hc1
 have iQ:0 < n:=Nat.le_of_ble_eq_true jq
 have Ai:∀ ts,v≠.tup ts:=fun ts e=>by subst e; exact h.elim
 have hyc:=hv.kF Ai
 have JO:=hyc.length
 simp only[Array.length_toList] at JO
 have Ou:=JL Ai hv hc3
 have cg:∀ {g o:Nat} {arr:Array Value} {ty:TypeId},w.heap[g]?=some (.cells arr ty (0,0))->o+y.cells.toList.length<=arr.size ->
   (Instr.storeAt t (.pointer (some ⟨g,o,none⟩)) y).run G.cx.P w = .ok () (w.setRow g (arr.toList.take o++y.cells.toList++arr.toList.drop (o+y.cells.toList.length)).toArray):=fun {g o arr ty} h_ fF=>by
  have:=run_storeCells_at (P:=G.cx.P) g o ty y.cells.toList 0 arr w h_ (by simpa using fF) Ou
  simp only[Instr.storeAt,Instr.sureAddr,storeVar,Sem.run_bind,Sem.run_pure,Result.andThen_ok,Ev.dQ hG.ok hn]
  rw[if_neg (by omega)]
  simpa using this
 split at h
 ·exact h.elim
 ·split at h<;>try simp only[PV.Is] at hx
  ·rename_i l off
   replace h:=aA h
   obtain⟨b,hb,h⟩:=h
   replace h:=bp h
   obtain⟨E1,h⟩:=h
   simp only[Bool.and_eq_true] at E1
   obtain⟨gM,sD⟩:=E1
   obtain⟨aN,hm⟩:=qx sD
   replace h:=aA h
   obtain⟨cs,gr,h⟩:=h
   replace h:=jU (cR h)
   obtain⟨cJ,h⟩:=h
   obtain⟨p,g,o,hp,ha,rfl⟩:=hx
   obtain⟨arr,ty,fr,h_,oG,fu⟩:=iq hh hb gM hp ha
   have yq:fr=(0,0):=(fu.1 (by rw[hm]; decide)).1
   subst yq
   have hle:off+v.cells.length<=b.cs.length:=by
    unfold vW at gr
    split at gr
    ·rename_i hle; exact Nat.le_of_ble_eq_true hle
    ·cases gr
   have fF:o+off+y.cells.toList.length<=arr.size:=by
    obtain⟨z,hz,_⟩:=oG _ _ (List.getElem?_eq_getElem (show off+n - 1 < b.cs.length by omega))
    have:=(Array.getElem?_eq_some_iff.1 hz).1
    simp only[Array.length_toList]
    omega
   obtain⟨k1,k2,k3,k4,k5,k6⟩:=nd b cs
   have JP:cs.length=b.cs.length:=by
    unfold vW at gr
    split at gr
    ·cases gr; simp only[List.length_append,List.length_take,List.length_drop]; omega
    ·cases gr
   have Ov:((arr.toList.take (o+off)++y.cells.toList++arr.toList.drop (o+off+y.cells.toList.length)).toArray).size=arr.size:=by
    simp only[List.size_toArray,List.length_append,List.length_take,List.length_drop,Array.length_toList]
    simp only[Array.length_toList] at fF
    omega
   have uK:=Ak gr oG hyc Ou fF
   obtain⟨hH,hE⟩:=hh.write (b':=b.gg cs) hb aN hm hp ha h_ (by rw[k5]; exact aN) (by rw[k4]; exact hm) (arr':=(arr.toList.take (o+off)++y.cells.toList++arr.toList.drop (o+off+y.cells.toList.length)).toArray) (fun hI hO=>by
    have nf:=setRow_heap w g arr (arr.toList.take (o+off)++y.cells.toList++arr.toList.drop (o+off+y.cells.toList.length)).toArray ty (0,0) h_
    obtain⟨q',pr,hk⟩:=hh.gw l b hb aN
    rw[hp] at pr
    cases pr
    refine⟨p,hp,?_⟩
    rw[k1]
    unfold ak.mem at gM
    split at hk
    ·rename_i cM
     refine⟨g,o,_,ty,(0,0),ha,nf,?_,hO⟩
     rw[k6]; exact uK.mono (fun _ h=>h) hI (fun _ _ h=>h)
    ·rename_i cM
     obtain⟨g',arr',fr',dv,Nf,_,_,h1,h2,h3,h4,h5⟩:=hk
     rw[ha] at dv; cases dv
     rw[h_] at Nf; cases Nf
     refine⟨g,_,(0,0),ha,by rw[k2]; exact nf,?_,hO,by rw[k6,k3,JP]; exact h1,h2,h3,by rw[k3,Ov]; exact h4,by rw[k3]; exact h5⟩
     rw[k6]; exact uK.mono (fun _ h=>h) hI (fun _ _ h=>h)
    ·rename_i cM
     rw[cM] at gM; simp at gM
    ·rename_i cM
     rw[cM] at gM; simp at gM)
   refine⟨_,cg h_ fF,c9.mk' hR h hH hE (fun _ _ h=>h) (by simp) (fun _ _=>rfl) ?_⟩
   simp only[PV.Is]; exact⟨#[],rfl,by simp only[bH]⟩
  ·rename_i l i m off
   replace h:=aA h
   obtain⟨b,hb,h⟩:=h
   split at h
   ·rename_i hk
    replace h:=bp h
    obtain⟨E1,hi,h⟩:=h
    simp only[Bool.and_eq_true] at E1
    obtain⟨⟨⟨⟨sD,v8⟩,Jh⟩,sE⟩,JF⟩:=E1
    obtain⟨aN,hm⟩:=qx sD
    obtain⟨u,hu⟩:∃ u,v.norm=u:=⟨_,rfl⟩
    rw[hu] at h
    have hv2:u.Is w I β y:=by rw[← hu]; cases v<;>first|exact hv|(simp only[PV.norm,PV.Is] at hv ⊢; exact hv)
    have Ow:u.elem=true:=by rw[← hu]; cases v<;>first|exact JF|rfl
    have hvn2:u.cells.length=n:=by rw[← hu,← hvn]; cases v<;>rfl
    have v8:=Nat.eq_of_beq_eq_true v8
    have Jh:=Nat.eq_of_beq_eq_true Jh
    have sE:=Nat.eq_of_beq_eq_true sE
    replace h:=jU h
    obtain⟨cJ,h⟩:=h
    obtain⟨p,g,o,hp,ha,rfl⟩:=hx
    obtain⟨Nd,hlen,hle,sC,na⟩:=dN hh hb aN hk hp
    rcases na with ⟨dv,_⟩|⟨g',arr,fr,dv,_,h_,po,fu,has⟩
    ·rw[ha] at dv; cases dv
    ·rw[ha] at dv
     cases dv
     have yq:fr=(0,0):=(fu.1 (by rw[hm]; decide)).1
     subst yq
     have Al:i*n+n<=p.cap*n:=by rw[← Nat.succ_mul]; exact Nat.mul_le_mul_right _ (by omega)
     have fF:0+(i*m+off)+y.cells.toList.length<=arr.size:=by simp only[Array.length_toList]; rw[has,v8,Jh,sE]; omega
     obtain⟨k1,k2,k3,k4,k5,k6⟩:=nd b (b.cs.set i u)
     obtain⟨_,my⟩:=JK Ow hv2
     have Ov:((arr.toList.take (0+(i*m+off))++y.cells.toList++arr.toList.drop (0+(i*m+off)+y.cells.toList.length)).toArray).size=arr.size:=by
      simp only[List.size_toArray,List.length_append,List.length_take,List.length_drop,Array.length_toList]
      simp only[Array.length_toList] at fF
      omega
     obtain⟨hH,hE⟩:=hh.write (b':=b.gg (b.cs.set i u)) hb aN hm hp ha h_ (by rw[k5]; exact aN) (by rw[k4]; exact hm) (arr':=(arr.toList.take (0+(i*m+off))++y.cells.toList++arr.toList.drop (0+(i*m+off)+y.cells.toList.length)).toArray) (fun hI hO=>by
      have nf:=setRow_heap w g arr (arr.toList.take (0+(i*m+off))++y.cells.toList++arr.toList.drop (0+(i*m+off)+y.cells.toList.length)).toArray b.ty (0,0) h_
      refine⟨p,hp,?_⟩
      rw[k1,hk]
      refine⟨⟨by rw[k3]; exact Nd,by rw[k6,List.length_set]; exact hlen,hle,sC⟩,.inr ⟨g,_,(0,0),ha,by rw[k2]; exact nf,?_,hO,by rw[Ov,k3]; exact has⟩⟩
      rw[k6,k3]
      have qw:(arr.toList.take (0+(i*m+off))).length=0+(i*m+off):=by rw[List.length_take]; simp only[Array.length_toList] at fF ⊢; omega
      refine cB.of fun j e he=>?_
      by_cases hj:j=i
      ·subst hj
       rw[List.getElem?_set_self hi] at he
       cases he
       refine⟨by rw[hvn2,v8],dj.of fun j2 c jq=>?_⟩
       obtain⟨z,hz,Ot,VG⟩:=my j2 c jq
       have yK:=(List.getElem?_eq_some_iff.1 hz).1
       refine⟨z,?_,PV.Is.mono (fun _ h=>h) hI c _ _ z (fun _ _ _ h=>h) Ot,VG⟩
       rw[Ev.gb nf]
       simp only[List.getElem?_toArray]
       rw[List.getElem?_append_left (by rw[List.length_append,qw]; rw[v8,Jh,sE]; omega),List.getElem?_append_right (by rw[qw,v8,Jh,sE]; omega),qw,show 0+j*b.size+j2 - (0+(j*m+off))=j2 by rw[v8,Jh,sE]; omega]
       exact hz
      ·rw[List.getElem?_set_ne (fun e=>hj e.symm)] at he
       obtain⟨hel1,Ow⟩:=po.get he
       refine⟨hel1,dj.of fun j2 c jq=>?_⟩
       obtain⟨z,hz,Ot,VG⟩:=Ow.get jq
       refine⟨z,?_,PV.Is.mono (fun _ h=>h) hI c _ _ z (fun _ _ _ h=>h) Ot,VG⟩
       rw[Ev.gb nf]
       rw[Ev.gb h_] at hz
       simp only[List.getElem?_toArray]
       have hj2:j2 < n:=by have:=(List.getElem?_eq_some_iff.1 jq).1; omega
       rcases Nat.lt_or_ge j i with Ec|Ec
       ·have:j*n+n<=i*n:=by rw[← Nat.succ_mul]; exact Nat.mul_le_mul_right _ (by omega)
        rw[List.append_assoc,List.getElem?_append_left (by rw[qw,v8,Jh,sE]; omega),List.getElem?_take,if_pos (by rw[v8,Jh,sE]; omega)]
        simpa using hz
       ·have:i*n+n<=j*n:=by rw[← Nat.succ_mul]; exact Nat.mul_le_mul_right _ (by omega)
        have h2:(arr.toList.take (0+(i*m+off))++y.cells.toList).length=0+(i*m+off)+y.cells.toList.length:=by rw[List.length_append,qw]
        have VH:y.cells.toList.length=n:=by simp only[Array.length_toList]; omega
        rw[List.getElem?_append_right (by rw[h2,VH,v8,Jh,sE]; omega),h2,List.getElem?_drop,show 0+(i*m+off)+y.cells.toList.length+(0+j*b.size+j2 - (0+(i*m+off)+y.cells.toList.length))=0+j*b.size+j2 by rw[VH,v8,Jh,sE]; omega]
        simpa using hz)
     refine⟨_,cg h_ fF,c9.mk' hR h hH hE (fun _ _ h=>h) (by simp) (fun _ _=>rfl) ?_⟩
     simp only[PV.Is]; exact⟨#[],rfl,by simp only[bH]⟩
   ·exact h.elim
  ·rename_i l off i m
   replace h:=aA h
   obtain⟨b,hb,h⟩:=h
   replace h:=bp h
   obtain⟨E1,k,hi0,hik,h⟩:=h
   simp only[Bool.and_eq_true] at E1
   obtain⟨⟨⟨gM,sD⟩,kp⟩,pL⟩:=E1
   have kp:=Nat.eq_of_beq_eq_true kp
   have pL:0 < m:=Nat.le_of_ble_eq_true pL
   obtain⟨aN,hm⟩:=qx sD
   replace h:=aA h
   obtain⟨cs,gr,h⟩:=h
   replace h:=cR h
   obtain⟨Ji,h⟩:=h
   replace h:=jU h
   obtain⟨cJ,h⟩:=h
   obtain⟨p,g,o,hp,ha,rfl⟩:=hx
   obtain⟨arr,ty,fr,h_,oG,fu⟩:=iq hh hb gM hp ha
   have yq:fr=(0,0):=(fu.1 (by rw[hm]; decide)).1
   subst yq
   have lT:y.cells.toList.length=1:=by simp only[Array.length_toList]; omega
   obtain⟨z0,U1⟩:∃ z0,y.cells.toList = [z0]:=List.length_eq_one_iff.1 lT
   have VG:z0.oneCell'=true:=Ou z0 (by rw[U1]; simp)
   have fF:o+(off+i.toNat*m)+y.cells.toList.length<=arr.size:=by
    obtain⟨z,hz,_⟩:=oG _ _ (List.getElem?_eq_getElem Ji)
    have:=(Array.getElem?_eq_some_iff.1 hz).1
    omega
   obtain⟨k1,k2,k3,k4,k5,k6⟩:=nd b cs
   have JP:cs.length=b.cs.length:=oF gr
   have Ov:((arr.toList.take (o+(off+i.toNat*m))++y.cells.toList++arr.toList.drop (o+(off+i.toNat*m)+y.cells.toList.length)).toArray).size=arr.size:=by
    simp only[List.size_toArray,List.length_append,List.length_take,List.length_drop,Array.length_toList]
    simp only[Array.length_toList] at fF
    omega
   have uK:bB w I β cs (arr.toList.take (o+(off+i.toNat*m))++y.cells.toList++arr.toList.drop (o+(off+i.toNat*m)+y.cells.toList.length)).toArray o:=by
    intro j c hj
    have qw:(arr.toList.take (o+(off+i.toNat*m))).length=o+(off+i.toNat*m):=by rw[List.length_take,Array.length_toList]; omega
    obtain⟨c0,qu,na⟩:=oE gr j c hj
    rw[Nat.zero_add] at na
    obtain⟨v0,hv0,VI,VJ⟩:=oG j c0 qu
    simp only[List.getElem?_toArray]
    rw[U1] at fF ⊢
    by_cases hje:j=off+i.toNat*m
    ·subst hje
     rcases na with ⟨hn,_⟩|⟨_,JQ⟩
     ·exfalso
      apply hn
      refine⟨by omega,?_,by rw[show off+i.toNat*m - off=i.toNat*m by omega]; exact Nat.mul_mod_left _ _⟩
      have:i.toNat < k:=by omega
      have:i.toNat*m < k*m:=Nat.mul_lt_mul_of_pos_right this pL
      omega
     ·rw[show off+i.toNat*m - off=i.toNat*m by omega,Nat.mul_div_cancel _ pL] at JQ
      refine⟨z0,?_,JM JQ (by omega) ?_,VG⟩
      ·rw[List.getElem?_append_left (by rw[List.length_append,qw]; simp),List.getElem?_append_right (by rw[qw]; omega),qw,Nat.sub_self]; rfl
      ·have hvc:=hv.kF Ai
       rw[U1] at hvc
       exact hvc
    ·have qy:(arr.toList.take (o+(off+i.toNat*m))++[z0]++arr.toList.drop (o+(off+i.toNat*m) + [z0].length))[o+j]?=arr[o+j]?:=by
      rcases Nat.lt_or_ge j (off+i.toNat*m) with hjl|hjl
      ·rw[List.append_assoc,List.getElem?_append_left (by rw[qw]; omega),List.getElem?_take,if_pos (by omega)]; simp
      ·rw[List.getElem?_append_right (by rw[List.length_append,qw]; simp; omega),List.length_append,qw,List.getElem?_drop]
       simp only[List.length_cons,List.length_nil]
       rw[show o+(off+i.toNat*m)+(0+1)+(o+j - (o+(off+i.toNat*m)+(0+1)))=o+j by omega]; simp
     refine⟨v0,qy.trans hv0,?_,VJ⟩
     rcases na with ⟨_,rfl⟩|⟨⟨q1,q2,q3⟩,JQ⟩
     ·exact VI
     ·refine JN JQ (fun e=>hje ?_) VI
      have e2:i.toNat=(j - off) / m:=by omega
      have e3:=Nat.div_add_mod (j - off) m
      rw[q3,← e2,Nat.mul_comm] at e3
      omega
   obtain⟨hH,hE⟩:=hh.write (b':=b.gg cs) hb aN hm hp ha h_ (by rw[k5]; exact aN) (by rw[k4]; exact hm) (arr':=(arr.toList.take (o+(off+i.toNat*m))++y.cells.toList++arr.toList.drop (o+(off+i.toNat*m)+y.cells.toList.length)).toArray) (fun hI hO=>by
    have nf:=setRow_heap w g arr (arr.toList.take (o+(off+i.toNat*m))++y.cells.toList++arr.toList.drop (o+(off+i.toNat*m)+y.cells.toList.length)).toArray ty (0,0) h_
    obtain⟨q',pr,hk⟩:=hh.gw l b hb aN
    rw[hp] at pr
    cases pr
    refine⟨p,hp,?_⟩
    rw[k1]
    unfold ak.mem at gM
    split at hk
    ·rename_i cM
     refine⟨g,o,_,ty,(0,0),ha,nf,?_,hO⟩
     rw[k6]; exact uK.mono (fun _ h=>h) hI (fun _ _ h=>h)
    ·rename_i cM
     obtain⟨g',arr',fr',dv,Nf,_,_,h1,h2,h3,h4,h5⟩:=hk
     rw[ha] at dv; cases dv
     rw[h_] at Nf; cases Nf
     refine⟨g,_,(0,0),ha,by rw[k2]; exact nf,?_,hO,by rw[k6,k3,JP]; exact h1,h2,h3,by rw[k3,Ov]; exact h4,by rw[k3]; exact h5⟩
     rw[k6]; exact uK.mono (fun _ h=>h) hI (fun _ _ h=>h)
    ·rename_i cM
     rw[cM] at gM; simp at gM
    ·rename_i cM
     rw[cM] at gM; simp at gM)
   refine⟨_,cg h_ fF,c9.mk' hR h hH hE (fun _ _ h=>h) (by simp) (fun _ _=>rfl) ?_⟩
   simp only[PV.Is]; exact⟨#[],rfl,by simp only[bH]⟩
  ·exact h.elim
theorem bB.new {cs:List PV} {vs:Array Value} (h:bH w I cs β vs.toList) (h1:∀ c∈cs,c.kD=true):bB w I β cs vs 0:=fun i c hc=>by
 obtain⟨v,hv,hi⟩:=h.get hc
 exact⟨v,by simpa using hv,hi,m4 (hi.flat (h1 c (List.mem_of_getElem? hc)))⟩
theorem iW (hh:aO I β st w) (hI:∀ g,I g->g < w.heap.size) (o:Obj):∀ g,jy β st g\/I g->(w.alloc o).heap[g]?=w.heap[g]?:=fun g hg=>Ev.qn w o g (hg.elim hh.dS (hI g))
theorem ly (hh:aO I β st w) (hI:∀ g,I g->g < w.heap.size) {vs:Array Value} {t:TypeId} {b:ak} {p:ow} (hp:p.a=some (w.heap.size,0))
  (hb:Own I (β.set st.length p) (st++[b]) st.length w.heap.size (0,0) b->gd I (β.set st.length p) (st++[b]) (w.alloc (.cells vs t)) st.length b) (hm:b.m = .w) :
  aO I (β.set st.length p) (st++[b]) (w.alloc (.cells vs t))/\Ext I β st w I (β.set st.length p) (st++[b]) (w.alloc (.cells vs t)):=by
 have fP:∀ g o,p.a=some (g,o)->¬ I g/\¬ jy β st g:=fun g o ha=>by
  rw[hp] at ha; cases ha
  exact⟨fun h=>by have:=hI _ h; omega,fun h=>by have:=hh.dS h; omega⟩
 refine⟨hh.add (iW hh hI _) fP (hb ⟨fun _=>⟨rfl,(fP _ _ hp).1,fun l' b' de jv fO p' g' o' eU dv e=>?_⟩,fun hr=>by rw[hm] at hr; cases hr⟩),Ext.add (w':=w.alloc (.cells vs t)) hh rfl rfl rfl (by simp) (fun g hg _=>Ev.qn w _ g hg) fun g o ha cJ=>by rw[hp] at ha; cases ha; omega⟩
 subst e
 unfold aB.set at eU
 rw[if_neg de] at eU
 have:=hh.lt eU
 rw[List.getElem?_append_left this] at jv
 exact (fP _ _ hp).2 ⟨l',b',p',o',jv,fO,eU,dv⟩
theorem Am (hR:Rel G I β s a w) {t t':TypeId} {cs:List PV} {vs:Array Value} {q:PV->bb->Prop} (h:Of s ⟨.loc,t,1,.w,true,cs⟩ q) (hc:bH w I cs β vs.toList) (h1:∀ c∈cs,c.kD=true):c9 G s I β w a q (.pointer (some ⟨w.heap.size,0,none⟩)) (w.alloc (.cells vs t')):=by
 replace h:=lx (gG h)
 rw[Nat.zero_add] at h
 have pM:=aB.jz hR.heap ⟨some (w.heap.size,0),0,0⟩
 obtain⟨hH,hE⟩:=ly (vs:=vs) (t:=t') hR.heap hR.az.az (b:=⟨.loc,t,1,.w,true,cs⟩) (p:=⟨some (w.heap.size,0),0,0⟩) rfl (fun ho =>
  ⟨_,aB.dw ..,w.heap.size,0,vs,t',(0,0),rfl,Ev.kC w _,(bB.new hc h1).mono (fun _ h=>h) (fun g hg=>iW hR.heap hR.az.az _ g (.inr hg)) pM,ho⟩) rfl
 refine c9.mk' hR h hH hE pM (by simp) (fun l hl=>if_neg (by omega)) ?_
 simp only[PV.Is]; exact⟨_,w.heap.size,0,aB.dw ..,rfl,rfl⟩
theorem E2 (hR:Rel G I β s a w) {t:TypeId} {len n:Nat} {cs:List PV} {vs:Array Value} {q:PV->bb->Prop} (h:m8 s ⟨.arr,t,n,.w,true,cs⟩ q) (hc:bH w I cs β vs.toList) (h1:∀ c∈cs,c.kD=true) (hl:cs.length=len*n) (hn:0 < n) (hm:len<=maxLen):c9 G s I β w a q (.slice (some ⟨w.heap.size,0,none⟩) len len) (w.alloc (.cells vs t)):=by
 replace h:=lx (gG h)
 rw[Nat.zero_add] at h
 have pM:=aB.jz hR.heap ⟨some (w.heap.size,0),len,len⟩
 have hvl:=hc.length
 simp only[Array.length_toList] at hvl
 obtain⟨hH,hE⟩:=ly (vs:=vs) (t:=t) hR.heap hR.az.az (b:=⟨.arr,t,n,.w,true,cs⟩) (p:=⟨some (w.heap.size,0),len,len⟩) rfl (fun ho =>
  ⟨_,aB.dw ..,w.heap.size,vs,(0,0),rfl,Ev.kC w _,(bB.new hc h1).mono (fun _ h=>h) (fun g hg=>iW hR.heap hR.az.az _ g (.inr hg)) pM,ho,hl,Nat.le_refl _,hm,by rw[← hvl]; exact hl,hn⟩) rfl
 refine c9.mk' hR h hH hE pM (by simp) (fun l hl=>if_neg (by omega)) ?_
 simp only[PV.Is]; exact⟨_,aB.dw ..,rfl⟩
end
end Go.Proofs.YtlgkljpgagfndaaGreatDoor.Pw

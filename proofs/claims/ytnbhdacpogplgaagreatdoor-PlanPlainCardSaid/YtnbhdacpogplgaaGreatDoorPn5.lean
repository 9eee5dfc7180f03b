/- What this claim is proved with: no condition. -/
import Derived.Test.YtnbhdacpogplgaaGreatDoorPn4
import Derived.Maps.AppendAt
set_option linter.unusedVariables false
set_option linter.unusedSimpArgs false
namespace Go.Proofs.YtnbhdacpogplgaaGreatDoor.Pw
open Go Go.RowKit
def au.set (β:au) (l:Nat) (p:k_):au:=fun l'=>if l'=l then some p else β l'
section
variable {w w':World} {I I':Nat->Prop} {β aG:au} {cx:Ev.Cx} {G:Gx} {P:Program} {s:aL} {a:Act} {st cA:List aj}
theorem gi:∀ {st:List aj} {l:Nat} {b:aj} {q:List aj->Prop},pD st l b q->l < st.length/\q (st.set l b)
 | [],_,_,_,h=>h.elim
 | _::st,0,b,q,h=>⟨by simp,h⟩
 | a::st,n+1,b,q,h=>by
  obtain⟨h1,h2⟩:=gi (st:=st) (q:=fun l=>q (a::l)) h
  exact⟨by simpa using h1,h2⟩
theorem jN:∀ {st:List aj} {b:aj} {q:List aj->Prop},tm st b q->q (st++[b])
 | [],_,_,h=>h
 | a::st,b,q,h=>jN (st:=st) (q:=fun l=>q (a::l)) h
theorem fk {α:Type}:∀ {l:List α} {n:Nat} {q:Nat->Prop},jk l n q->q (n+l.length)
 | [],n,q,h=>h
 | _::l,n,q,h=>by
  have:=fk (l:=l) h
  rwa [List.length_cons,show n+(l.length+1)=n+1+l.length by omega]
theorem dR.place {l:Nat} {b:aj} (h:dR I β st w l b) {p:k_} {g o:Nat} (hp:β l=some p) (ha:p.a=some (g,o)):∃ (ob:Obj) (_:Unit) (fr:Nat × Nat),w.heap[g]?=some ob/\Own I β st l g fr b:=by
 obtain⟨q,hq,hk⟩:=h
 rw[hp] at hq
 cases hq
 split at hk
 ·obtain⟨g',o',arr,ty,fr,cW,hh,_,ho⟩:=hk
  rw[ha] at cW; cases cW; exact⟨_,(),fr,hh,ho⟩
 ·obtain⟨g',arr,fr,cW,hh,_,ho,_⟩:=hk
  rw[ha] at cW; cases cW; exact⟨_,(),fr,hh,ho⟩
 ·obtain⟨_,hk⟩:=hk
  rcases hk with ⟨cW,_⟩|⟨g',arr,fr,cW,hh,_,ho,_⟩
  ·rw[ha] at cW; cases cW
  ·rw[ha] at cW; cases cW; exact⟨_,(),fr,hh,ho⟩
 ·obtain⟨g',cW,⟨es,clock,hh,_⟩,ho⟩:=hk
  rw[ha] at cW; cases cW; exact⟨_,(),(0,0),hh,ho⟩
theorem uY.kz {g:Nat} {cs:List PV} (h:uY w g cs) (hw:w'.heap[g]?=w.heap[g]?):uY w' g cs:=by
 obtain⟨es,clock,hb,F,hs,hD⟩:=h
 exact⟨es,clock,hw.trans hb,F,hs,hD⟩
theorem dR.mono {l:Nat} {b:aj} (hI:∀ g,I g->I' g) (hw:∀ g,I g->w'.heap[g]?=w.heap[g]?) (jn:∀ l p,β l=some p->aG l=some p)
  (hg:∀ p g o,β l=some p->p.a=some (g,o)->w'.heap[g]?=w.heap[g]?/\(b.m≠.r->¬ I' g/\∀ l' b',l'≠l->cA[l']?=some b'->b'.live=true->∀ p g' o',aG l'=some p->p.a=some (g',o')->g'≠g)) (hb:dR I β st w l b):dR I' aG cA w' l b:=by
 obtain⟨p,hp,hk⟩:=hb
 refine⟨p,jn l p hp,?_⟩
 have own:∀ {g o:Nat} {fr:Nat × Nat},p.a=some (g,o)->Own I β st l g fr b->Own I' aG cA l g fr b:=fun ha ho=>⟨fun hr=>⟨(ho.1 hr).1,(hg p _ _ hp ha).2 hr⟩,fun hr=>hI _ (ho.2 hr)⟩
 split at hk
 ·obtain⟨g,o,arr,ty,fr,ha,hh,hc,ho⟩:=hk
  exact⟨g,o,arr,ty,fr,ha,(hg p g o hp ha).1.trans hh,hc.mono hI hw jn,own ha ho⟩
 ·obtain⟨g,arr,fr,ha,hh,hc,ho,h1⟩:=hk
  exact⟨g,arr,fr,ha,(hg p g 0 hp ha).1.trans hh,hc.mono hI hw jn,own ha ho,h1⟩
 ·obtain⟨h1,hk⟩:=hk
  refine⟨h1,?_⟩
  rcases hk with h|⟨g,arr,fr,ha,hh,hc,ho,h2⟩
  ·exact .inl h
  ·exact .inr ⟨g,arr,fr,ha,(hg p g 0 hp ha).1.trans hh,bp.mono hI hw _ _ _ _ (hg p g 0 hp ha).1 hc,own ha ho,h2⟩
 ·obtain⟨g,ha,hm,ho⟩:=hk
  exact⟨g,ha,hm.kz (hg p g 0 hp ha).1,own ha ho⟩
theorem aB.lt (h:aB I β st w) {l:Nat} {p:k_} (hp:β l=some p):l < st.length:=by
 rcases Nat.lt_or_ge l st.length with h'|h'
 ·exact h'
 ·rw[h.jE l h'] at hp; cases hp
def fL (β:au) (st:List aj) (g:Nat):Prop:=∃ l b p o,st[l]?=some b/\b.live=true/\β l=some p/\p.a=some (g,o)
theorem au.gU (h:aB I β st w) (p:k_):∀ l q,β l=some q->(β.set st.length p) l=some q:=fun l q hq=>by
 have:=h.lt hq
 unfold au.set
 rw[if_neg (by omega)]; exact hq
theorem au.dz (β:au) (l:Nat) (p:k_):(β.set l p) l=some p:=if_pos rfl
theorem aB.add (h:aB I β st w) (hw:∀ g,fL β st g\/I g->w'.heap[g]?=w.heap[g]?) {b:aj} {p:k_} (hp:∀ g o,p.a=some (g,o)->¬ I g/\¬ fL β st g)
  (hb:dR I (β.set st.length p) (st++[b]) w' st.length b):aB I (β.set st.length p) (st++[b]) w':=by
 refine⟨fun l hl=>?_,fun l b' hl ax=>?_⟩
 ·simp only[List.length_append,List.length_singleton] at hl
  unfold au.set
  rw[if_neg (by omega),h.jE l (by omega)]
 ·by_cases bA:l < st.length
  ·rw[List.getElem?_append_left bA] at hl
   have bV:=h.dX l b' hl ax
   refine bV.mono (fun _ h=>h) (fun g hg=>hw g (.inr hg)) (au.gU h p) fun q g o hq ha=>?_
   obtain⟨arr,ty,fr,hh,ho⟩:=bV.place hq ha
   have hL:fL β st g:=⟨l,b',q,o,hl,ax,hq,ha⟩
   refine⟨hw g (.inl hL),fun hr=>⟨(ho.1 hr).2.1,fun l' ji bR eF dh p' g' o' cE cW=>?_⟩⟩
   unfold au.set at cE
   split at cE
   ·cases cE
    intro e
    subst e
    exact (hp _ _ cW).2 hL
   ·have:=h.lt cE
    rw[List.getElem?_append_left this] at eF
    exact (ho.1 hr).2.2 l' ji bR eF dh p' g' o' cE cW
  ·have hle:l=st.length:=by
    have:=(List.getElem?_eq_some_iff.1 hl).1
    simp at this; omega
   subst hle
   rw[List.getElem?_append_right (Nat.le_refl _)] at hl
   simp only[Nat.sub_self,List.getElem?_cons_zero,Option.some.injEq] at hl
   subst hl
   exact hb
theorem aB.ch (h:aB I β st w) {g:Nat} (hg:fL β st g):g < w.heap.size:=by
 obtain⟨l,b,p,o,h1,h2,h3,h4⟩:=hg
 obtain⟨arr,ty,fr,hh,_⟩:=(h.dX l b h1 h2).place h3 h4
 exact bX hh
theorem Ext.add (h:aB I β st w) (Qc:w'.os=w.os) (yT:w'.tape=w.tape) (fM:w'.output=w.output) (dK:w.heap.size<=w'.heap.size) {b:aj} {p:k_} (hw:∀ g,g < w.heap.size->¬ Wr β st g->w'.heap[g]?=w.heap[g]?)
  (hp:∀ g o,p.a=some (g,o)->g < w.heap.size->Wr β st g):Ext I β st w I (β.set st.length p) (st++[b]) w' :=
 ⟨Qc,yT,fM,dK,hw,fun g hg ⟨l,b',q,o,h1,h2,h3,h4,h5⟩=>by
  unfold au.set at h4
  split at h4
  ·cases h4
   exact hp g o h5 hg
  ·have:=h.lt h4
   rw[List.getElem?_append_left this] at h1
   exact⟨l,b',q,o,h1,h2,h3,h4,h5⟩,fun _ h=>h,fun _ _ h=>.inl h⟩
theorem aB.kill (h:aB I β st w) (l:Nat) {b:aj} (hb:b.live=false):aB I β (st.set l b) w:=by
 refine⟨fun l' eF=>h.jE l' (by simpa using eF),fun l' b' eF ax=>?_⟩
 have bR:l'≠l:=fun e=>by
  subst e
  rw[List.getElem?_set_self (by simpa using (List.getElem?_eq_some_iff.1 eF).1)] at eF
  cases eF; rw[hb] at ax; cases ax
 rw[List.getElem?_set_ne (fun e=>bR e.symm)] at eF
 have bV:=h.dX l' b' eF ax
 refine bV.mono (fun _ h=>h) (fun _ _=>rfl) (fun _ _ h=>h) fun q g o hq ha=>⟨rfl,fun hr=>?_⟩
 obtain⟨arr,ty,fr,hh,ho⟩:=bV.place hq ha
 refine⟨(ho.1 hr).2.1,fun l2 b2 Qd du aY=>?_⟩
 have qP:l2≠l:=fun e=>by
  subst e
  rw[List.getElem?_set_self (by simpa using (List.getElem?_eq_some_iff.1 du).1)] at du
  cases du; rw[hb] at aY; cases aY
 rw[List.getElem?_set_ne (fun e=>qP e.symm)] at du
 exact (ho.1 hr).2.2 l2 b2 Qd du aY
theorem yU {l g:Nat} {b:aj} (hb:b.live=false\/∃ b0,st[l]?=some b0/\b0.live=b.live/\b0.m=b.m) (h:Wr β (st.set l b) g):Wr β st g:=by
 obtain⟨l',b',p,o,h1,h2,h3,h4,h5⟩:=h
 by_cases bR:l'=l
 ·subst bR
  rw[List.getElem?_set_self (by simpa using (List.getElem?_eq_some_iff.1 h1).1)] at h1
  cases h1
  rcases hb with hb|⟨b0,e1,e2,e3⟩
  ·rw[hb] at h2; cases h2
  ·exact⟨l',b0,p,o,e1,by rw[e2]; exact h2,by rw[e3]; exact h3,h4,h5⟩
 ·rw[List.getElem?_set_ne (fun e=>bR e.symm)] at h1
  exact⟨l',b',p,o,h1,h2,h3,h4,h5⟩
theorem Ext.kill {l:Nat} {b:aj} (hb:b.live=false):Ext I β st w I β (st.set l b) w:=⟨rfl,rfl,rfl,Nat.le_refl _,fun _ _ _=>rfl,fun _ _ h=>yU (.inl hb) h,fun _ h=>h,fun _ _ h=>.inl h⟩
theorem aB.write (h:aB I β st w) {l:Nat} {b b':aj} {p:k_} {g o:Nat} {arr arr':Array Value} {ty:TypeId} (hb:st[l]?=some b) (ax:b.live=true) (hm:b.m = .w) (hp:β l=some p) (ha:p.a=some (g,o)) (hh:w.heap[g]?=some (.cells arr ty (0,0)))
  (eF:b'.live=true) (jg:b'.m = .w) (jO:∀ (hI:∀ x,I x->(w.setRow g arr').heap[x]?=w.heap[x]?),Own I β (st.set l b') l g (0,0) b'->dR I β (st.set l b') (w.setRow g arr') l b') :
  aB I β (st.set l b') (w.setRow g arr')/\Ext I β st w I β (st.set l b') (w.setRow g arr'):=by
 have ee:=h.dX l b hb ax
 obtain⟨Uo,WD,WE,WG,Up⟩:=ee.place hp ha
 obtain⟨_,Sz,yV⟩:=Up.1 (by rw[hm]; decide)
 have oE:∀ x,I x->(w.setRow g arr').heap[x]?=w.heap[x]?:=fun x hx=>setRow_other w g x _ fun e=>Sz (e ▸ hx)
 have SA:l < st.length:=(List.getElem?_eq_some_iff.1 hb).1
 have Fz:∀ l' ji,l'≠l->(st.set l b')[l']?=some ji->ji.live=true->∀ p g' o',β l'=some p->p.a=some (g',o')->g'≠g:=fun l' ji bR B0 Ca p g' o' cE cW=>by
  rw[List.getElem?_set_ne (fun e=>bR e.symm)] at B0
  exact yV l' ji bR B0 Ca p g' o' cE cW
 refine⟨⟨fun l2 du=>h.jE l2 (by simpa using du),fun l2 b2 du aY=>?_⟩,⟨rfl,rfl,rfl,by simp,fun x hx hn=>setRow_other w g x _ fun e=>hn (e ▸ ⟨l,b,p,o,hb,ax,hm,hp,ha⟩),fun x hx hw=>yU (.inr ⟨b,hb,by rw[ax,eF],by rw[hm,jg]⟩) hw,fun _ h=>h,fun _ _ h=>.inl h⟩⟩
 by_cases bR:l2=l
 ·subst bR
  rw[List.getElem?_set_self SA] at du
  cases du
  exact jO oE ⟨fun _=>⟨rfl,Sz,Fz⟩,fun hr=>by rw[jg] at hr; cases hr⟩
 ·rw[List.getElem?_set_ne (fun e=>bR e.symm)] at du
  have cv:=h.dX l2 b2 du aY
  refine cv.mono (fun _ h=>h) oE (fun _ _ h=>h) fun q g2 o2 hq ef=>?_
  obtain⟨Uq,WH,WI,WJ,L4⟩:=cv.place hq ef
  refine⟨setRow_other w g g2 _ (yV l2 b2 bR du aY q g2 o2 hq ef),fun hr=>⟨(L4.1 hr).2.1,fun l3 b3 Qe Lg FA p3 g3 o3 Qf Qg=>?_⟩⟩
  by_cases h3:l3=l
  ·subst h3
   rw[hp] at Qf
   cases Qf
   rw[ha] at Qg
   cases Qg
   exact fun e=>yV l2 b2 bR du aY q g2 o2 hq ef e.symm
  ·rw[List.getElem?_set_ne (fun e=>h3 e.symm)] at Lg
   exact (L4.1 hr).2.2 l3 b3 Qe Lg FA p3 g3 o3 Qf Qg
theorem pJ {g o n:Nat} {cs:List PV} (hl:cs.length=n) (hc:∀ j c,cs[j]?=some c->∃ v,w.cell? ⟨g,o+j,none⟩=some v/\c.Is w I β v) :
  ∃ vs:Array Value,aU w I cs β vs.toList/\∀ w2:World,w2.heap[g]?=w.heap[g]?->(loadCells ⟨g,o,none⟩ n).run P w2 = .ok vs w2:=by
 have key:∀ (cs:List PV) (o:Nat),(∀ j c,cs[j]?=some c->∃ v,w.cell? ⟨g,o+j,none⟩=some v/\c.Is w I β v)->∃ l:List Value,aU w I cs β l/\∀ j v,l[j]?=some v->w.cell? ⟨g,o+j,none⟩=some v:=by
  intro cs
  induction cs with
  | nil=>intro o _; exact⟨[],by simp only[aU],fun j v h=>by simp at h⟩
  | cons a cs ih =>
   intro o hc
   obtain⟨v,hv,hi⟩:=hc 0 a rfl
   obtain⟨l,h1,h2⟩:=ih (o+1) fun j x hx=>by
    obtain⟨u,hu,Ur⟩:=hc (j+1) x (by simpa using hx)
    exact⟨u,by rw[show o+1+j=o+(j+1) by omega]; exact hu,Ur⟩
   refine⟨v::l,by simp only[aU]; exact⟨hi,h1⟩,fun j u hu=>?_⟩
   cases j with
   | zero=>simp at hu; subst hu; exact hv
   | succ j=>rw[show o+(j+1)=o+1+j by omega]; exact h2 j u (by simpa using hu)
 obtain⟨l,h1,h2⟩:=key cs o hc
 refine⟨l.toArray,by simpa using h1,fun w2 pK=>?_⟩
 have SA:=h1.length
 rw[show n=l.length by omega]
 exact run_loadCells_list w2 _ l fun j v hv=>by rw[Ev.eM]; exact (World.cell?_of_block (a:=⟨g,o+j,none⟩) pK).trans (h2 j v hv)
theorem fN (hO:Ev.dw cx) {t:TypeId} {cs:List PV} {off g o:Nat} {q:PV->Prop} (h:part cx t cs off q) (hc:∀ j c,cs[j]?=some c->∃ v,w.cell? ⟨g,o+j,none⟩=some v/\c.Is w I β v) :
  ∃ x v,q x/\x.Is w I β v/\∀ w2:World,w2.heap[g]?=w.heap[g]?->(Instr.loadAt t (.pointer (some ⟨g,o+off,none⟩))).run cx.P w2 = .ok v w2:=by
 replace h:=an h
 obtain⟨x,hx,h⟩:=h
 replace h:=tp h
 unfold la at hx
 split at hx
 ·rename_i n ha hn
  split at hx
  ·rename_i hle
   have L5:off+n<=cs.length:=Nat.le_of_ble_eq_true hle
   cases hx
   obtain⟨vs,g1,g2⟩:=pJ (P:=cx.P) (w:=w) (I:=I) (β:=β) (g:=g) (o:=o+off) (cs:=(cs.drop off).take n) (n:=n) (by simp; omega) (fun j x hx=>by
    rw[List.getElem?_take] at hx
    split at hx
    ·rw[List.getElem?_drop] at hx
     obtain⟨v,hv,hi⟩:=hc _ _ hx
     exact⟨v,by rw[Nat.add_assoc]; exact hv,hi⟩
    ·cases hx)
   exact⟨_,.agg vs,h,by simp only[PV.Is]; exact⟨vs,rfl,g1⟩,fun w2 pK=>by simp[Instr.loadAt,Instr.sureAddr,loadVar,Ev.eE hO ha,Ev.cn hO hn,g2 w2 pK]⟩
  ·cases hx
 ·rename_i ha
  obtain⟨v,hv,hi⟩:=hc _ _ hx
  refine⟨x,v,h,hi,fun w2 pK=>?_⟩
  have Qh:=(World.cell?_of_block (a:=⟨g,o+off,none⟩) pK).trans hv
  simp[Instr.loadAt,Instr.sureAddr,loadVar,Ev.eE hO ha,Qh]
 ·cases hx
end
section
variable {w w':World} {I I':Nat->Prop} {β aG:au} {cx:Ev.Cx} {G:Gx} {P:Program} {s:aL} {a:Act} {st cA:List aj}
theorem Is.anywhere {x:PV} {v:Value} (h:x.Is w I (fun _=>none) v):x.Is w I β v:=PV.Is.mono (fun _ h=>h) (fun _ _=>rfl) x _ β v (fun _ _ _ h=>by cases h) h
theorem fO (h:aB I β st w) {l:Nat} {b:aj} {p:k_} {g o:Nat} (hb:st[l]?=some b) (hm:b.mem=true) (hp:β l=some p) (ha:p.a=some (g,o)) :
  ∃ arr ty fr,w.heap[g]?=some (.cells arr ty fr)/\aO w I β b.cs arr o/\Own I β st l g fr b:=by
 unfold aj.mem at hm
 simp only[Bool.and_eq_true] at hm
 obtain⟨q,hq,hk⟩:=h.dX l b hb hm.1
 rw[hp] at hq
 cases hq
 have qQ:=hm.2
 split at hk
 ·obtain⟨g',o',arr,ty,fr,cW,hh,hc,ho⟩:=hk
  rw[ha] at cW; cases cW; exact⟨arr,ty,fr,hh,hc,ho⟩
 ·obtain⟨g',arr,fr,cW,hh,hc,ho,_⟩:=hk
  rw[ha] at cW; cases cW; exact⟨arr,_,fr,hh,hc,ho⟩
 ·rename_i fl; rw[fl] at qQ; cases qQ
 ·rename_i fl; rw[fl] at qQ; cases qQ
theorem aO.load {cs:List PV} {arr:Array Value} {g o:Nat} {ty:TypeId} {fr:Nat × Nat} (h:aO w I β cs arr o) (hh:w.heap[g]?=some (.cells arr ty fr)):∀ j c,cs[j]?=some c->∃ v,w.cell? ⟨g,o+j,none⟩=some v/\c.Is w I β v:=fun j c hc=>by
 obtain⟨v,hv,hi,_⟩:=h j c hc
 exact⟨v,by rw[Ev.c8 hh]; exact hv,hi⟩
theorem bQ.load {cs:List PV} {g o:Nat} (h:bQ w I cs g o):∀ j c,cs[j]?=some c->∃ v,w.cell? ⟨g,o+j,none⟩=some v/\c.Is w I β v:=fun j c hc=>by
 obtain⟨v,hv,hi,_⟩:=h.get hc
 exact⟨v,hv,Is.anywhere hi⟩
theorem yW (hO:Ev.dw cx) {t:TypeId} {g o:Nat} {v:Value} (ha:Ev.dv cx t=some false) (hc:w.cell? ⟨g,o,none⟩=some v):(Instr.loadAt t (.pointer (some ⟨g,o,none⟩))).run cx.P w = .ok v w:=by
 simp[Instr.loadAt,Instr.sureAddr,loadVar,Ev.eE hO ha,hc]
theorem mu (hO:Ev.dw G.cx) (hh:aB I β st w) (hM:cg G I w) {t:TypeId} {x:PV} {u:Value} {q:PV->Prop} (h:ow G st t x q) (hx:x.Is w I β u) :
  ∃ z v g,q z/\z.Is w I β v/\(I g\/∃ l b p o,x.dX=some l/\st[l]?=some b/\b.live=true/\β l=some p/\p.a=some (g,o))/\∀ w2:World,w2.heap[g]?=w.heap[g]?->(Instr.loadAt t u).run G.cx.P w2 = .ok v w2:=by
 have idx:∀ {cs:List PV} {g o off n:Nat} {i:Int},(∀ j c,cs[j]?=some c->∃ v,w.cell? ⟨g,o+j,none⟩=some v/\c.Is w I β v) ->
   ((∃ m:Nat,i=m/\part G.cx t cs (off+m*n) q)\/(Ev.dv G.cx t=some false/\0<=i/\off+i.toNat*n < cs.length/\∀ c,cs[off+i.toNat*n]?=some c->q c))->∃ z v,q z/\z.Is w I β v/\∀ w2:World,w2.heap[g]?=w.heap[g]?->(Instr.loadAt t (.pointer (some ⟨g,o+(off+i.toNat*n),none⟩))).run G.cx.P w2 = .ok v w2:=by
  intro cs g o off n i hc h
  rcases h with ⟨m,rfl,h⟩|⟨ha,h0,bA,h⟩
  ·exact fN hO h hc
  ·obtain⟨v,hv,hi⟩:=hc _ _ (List.getElem?_eq_getElem bA)
   exact⟨_,v,h _ (List.getElem?_eq_getElem bA),hi,fun w2 pK=>yW hO ha ((World.cell?_of_block (a:=⟨g,o+(off+i.toNat*n),none⟩) pK).trans hv)⟩
 unfold ow at h
 split at h<;>try simp only[PV.Is] at hx
 ·replace h:=an h
  obtain⟨b,hb,h⟩:=h
  replace h:=aK h
  obtain⟨hm,h⟩:=h
  obtain⟨p,g,o,hp,ha,rfl⟩:=hx
  obtain⟨arr,ty,fr,eh,hc,_⟩:=fO hh hb hm hp ha
  obtain⟨z,v,h1,h2,h3⟩:=fN hO h (hc.load eh)
  exact⟨z,v,g,h1,h2,.inr ⟨_,b,p,o,rfl,hb,by unfold aj.mem at hm; simp only[Bool.and_eq_true] at hm; exact hm.1,hp,ha⟩,h3⟩
 ·replace h:=an h
  obtain⟨b,hb,h⟩:=h
  replace h:=aK h
  obtain⟨hm,h⟩:=h
  obtain⟨p,g,o,hp,ha,rfl⟩:=hx
  obtain⟨arr,ty,fr,eh,hc,_⟩:=fO hh hb hm hp ha
  obtain⟨z,v,h1,h2,h3⟩:=idx (hc.load eh) h
  exact⟨z,v,g,h1,h2,.inr ⟨_,b,p,o,rfl,hb,by unfold aj.mem at hm; simp only[Bool.and_eq_true] at hm; exact hm.1,hp,ha⟩,h3⟩
 ·rename_i l i n off
  replace h:=an h
  obtain⟨b,hb,h⟩:=h
  split at h
  ·rename_i hk
   replace h:=aK h
   obtain⟨hc,α,l',enc,fi,hi,h⟩:=h
   simp only[Bool.and_eq_true] at hc
   have hn:b.size=n:=Nat.eq_of_beq_eq_true hc.2
   obtain⟨p,g,o,hp,ha,rfl⟩:=hx
   obtain⟨_,hlen,hle,_,jm⟩:=bT hh hb hc.1 hk hp
   rcases jm with ⟨cW,_⟩|⟨g',arr,fr,cW,_,eh,jM,_⟩
   ·rw[ha] at cW; cases cW
   ·rw[ha] at cW
    cases cW
    have he:b.cs[i]?=some (enc l'[i]):=by rw[fi,List.getElem?_map,List.getElem?_eq_getElem hi]; rfl
    have B8:=jM.get he
    obtain⟨z,v,h1,h2,h3⟩:=fN (β:=β) hO (h _ (List.getElem?_eq_getElem hi)) (bQ.load B8.2)
    rw[hn,Nat.add_assoc] at h3
    exact⟨z,v,g,h1,h2,.inr ⟨_,b,p,0,rfl,hb,hc.1,hp,ha⟩,h3⟩
  ·exact h.elim
 ·obtain⟨g,o,rfl,hg,hc⟩:=hx
  obtain⟨z,v,h1,h2,h3⟩:=fN (β:=β) hO h hc.load
  exact⟨z,v,g,h1,h2,.inl hg,h3⟩
 ·subst hx
  replace h:=an h
  obtain⟨cs,fi,h⟩:=h
  obtain⟨hg,hc⟩:=hM.mg _ _ (Ev.gh fi)
  obtain⟨z,v,h1,h2,h3⟩:=fN (β:=β) hO h (bQ.load hc)
  rw[Nat.zero_add] at h3
  exact⟨z,v,_,h1,h2,.inl hg,h3⟩
 ·subst hx
  replace h:=an h
  obtain⟨cs,fi,h⟩:=h
  obtain⟨hg,hc⟩:=hM.mg _ _ (Ev.gh fi)
  obtain⟨z,v,h1,h2,h3⟩:=idx (bQ.load hc) h
  rw[Nat.zero_add] at h3
  exact⟨z,v,_,h1,h2,.inl hg,h3⟩
 ·exact h.elim
theorem Cb {cs new r:List PV} {arr:Array Value} {o off:Nat} {vs:List Value} (h:yG cs new off=some r) (hc:aO w I β cs arr o) (hn:aU w I new β vs) (h1:∀ v∈vs,v.oneCell'=true) (dK:o+off+vs.length<=arr.size) :
  aO w I β r (arr.toList.take (o+off)++vs++arr.toList.drop (o+off+vs.length)).toArray o:=by
 unfold yG at h
 split at h
 ·rename_i hle
  have hle:=Nat.le_of_ble_eq_true hle
  cases h
  intro j x hx
  have hl:=hn.length
  simp only[List.getElem?_toArray]
  have iT:(arr.toList.take (o+off)).length=o+off:=by simp; omega
  by_cases hj:j < off
  ·rw[List.append_assoc,List.getElem?_append_left (by simp; omega),List.getElem?_take,if_pos hj] at hx
   obtain⟨v,hv,hi,ho⟩:=hc j x hx
   refine⟨v,?_,hi,ho⟩
   rw[List.append_assoc,List.getElem?_append_left (by rw[iT]; omega),List.getElem?_take,if_pos (by omega)]
   simpa using hv
  ·by_cases Lh:j < off+new.length
   ·rw[List.getElem?_append_left (by simp; omega),List.getElem?_append_right (by simp; omega)] at hx
    have ht:(cs.take off).length=off:=by simp; omega
    rw[ht] at hx
    obtain⟨v,hv,hi⟩:=hn.get hx
    refine⟨v,?_,hi,h1 v (List.mem_of_getElem? hv)⟩
    rw[List.getElem?_append_left (by simp; omega),List.getElem?_append_right (by rw[iT]; omega),iT,show o+j - (o+off)=j - off by omega]
    exact hv
   ·rw[List.getElem?_append_right (by simp; omega),List.getElem?_drop] at hx
    have ht:(cs.take off++new).length=off+new.length:=by simp; omega
    rw[ht,show off+new.length+(j - (off+new.length))=j by omega] at hx
    obtain⟨v,hv,hi,ho⟩:=hc j x hx
    refine⟨v,?_,hi,ho⟩
    have h2:(arr.toList.take (o+off)++vs).length=o+off+vs.length:=by simp; omega
    rw[List.getElem?_append_right (by rw[h2]; omega),h2,List.getElem?_drop,show o+off+vs.length+(o+j - (o+off+vs.length))=o+j by omega]
    simpa using hv
 ·cases h
theorem jP (b:aj) (cs:List PV):(b.dy cs).k=b.k/\(b.dy cs).ty=b.ty/\(b.dy cs).size=b.size/\(b.dy cs).m=b.m/\(b.dy cs).live=b.live/\(b.dy cs).cs=cs:=by
 cases b; exact⟨rfl,rfl,rfl,rfl,rfl,rfl⟩
theorem mv {b:aj} (h:b.can=true):b.live=true/\b.m = .w:=by
 unfold aj.can at h
 simp only[Bool.and_eq_true] at h
 refine⟨h.1,?_⟩
 have:=h.2
 cases hm:b.m<;>rw[hm] at this<;>first|rfl|cases this
theorem Cc {v:PV} {u:Value} (he:v.elem=true) (h:v.Is w I β u):(∀ ts,v≠.tup ts)/\∀ (j:Nat) (c:PV),v.cells[j]?=some c->∃ y,u.cells.toList[j]?=some y/\c.Is w I (fun _=>none) y/\y.oneCell'=true:=by
 have nr:∀ {c:PV} {y:Value},c.oz=true->c.Is w I β y->c.Is w I (fun _=>none) y/\y.oneCell'=true:=fun hc hi=>by
  refine⟨?_,jG (hi.flat (by rename_i c _; cases c<;>first|rfl|cases hc))⟩
  refine PV.Is.mono (fun _ h=>h) (fun _ _=>rfl) _ β _ _ (fun l p hl=>?_) hi
  rename_i c _
  cases c<;>simp_all [PV.bW,PV.oz]
 have tw:∀ ts,v≠.tup ts:=fun ts e=>by subst e; cases he
 refine⟨tw,fun j c hc=>?_⟩
 obtain⟨y,hy,hi⟩:=(h.gQ tw).get hc
 refine⟨y,hy,nr ?_ hi⟩
 cases v with
 | agg cs =>
  simp only[PV.elem,List.all_eq_true] at he
  exact he c (List.mem_of_getElem? hc)
 | _ =>
  simp only[PV.cells] at hc
  cases j with
  | zero=>simp at hc; subst hc; exact he
  | succ j=>simp at hc
theorem Cd {x:PV} {y:Value} (tw:∀ ts,x≠.tup ts) (h:x.Is w I β y) (h1:∀ c∈x.cells,c.gP=true):∀ z∈y.cells.toList,z.oneCell'=true:=by
 intro z hz
 obtain⟨k,hk,Us⟩:=List.getElem_of_mem hz
 have hl:=(h.gQ tw).length
 have fl:k < x.cells.length:=by omega
 obtain⟨z',SB,FB⟩:=(h.gQ tw).get (List.getElem?_eq_getElem fl)
 rw[List.getElem?_eq_getElem hk,Us] at SB
 cases SB
 exact jG (FB.flat (h1 _ (List.getElem_mem fl)))
end
structure lX (G:Gx):Prop where
 ok:Ev.dw G.cx
 ba:∀ p∈G.bt,∃ i,G.cx.P.info? p.1=some i/\i.bytes=p.2
section
variable {w w':World} {I I':Nat->Prop} {β aG:au} {cx:Ev.Cx} {G:Gx} {P:Program} {s:aL} {a:Act} {st cA:List aj}
theorem aL.fP (s:aL) (st:List aj):(s.store st).n=s.n/\(s.store st).t=s.t/\(s.store st).st=st/\(s.store st).base=s.base/\(s.store st).rl=s.rl:=by
 cases s; exact⟨rfl,rfl,rfl,rfl,rfl⟩
theorem Rel.grow (hR:Rel G I β s a w) (hh:aB I' aG cA w') (he:Ext I β s.st w I' aG cA w') (jn:∀ l p,β l=some p->aG l=some p) (hl:s.st.length<=cA.length) (hI:∀ g,I' g->g < w'.heap.size):Rel G I' aG (s.store cA) a w':=by
 obtain⟨e1,e2,e3,e4,e5⟩:=aL.fP s cA
 exact⟨by rw[e1]; exact hR.small,hR.defers,by rw[e1]; exact hR.size,by rw[e4,e3]; exact Nat.le_trans hR.base hl,fun t x ht=>by
  rw[e2] at ht
  obtain⟨v,hv,hi⟩:=hR.get t x ht
  exact⟨v,hv,PV.Is.mono he.av (he.keeps hR.heap hR.av.av) x β aG v (fun l p _=>jn l p) hi⟩,by rw[e3]; exact hh,hR.av.ext hR.heap he hI⟩
theorem bN.mk' (hR:Rel G I β s a w) {q:PV->aL->Prop} {x:PV} {v:Value} (h:q x (s.store cA)) (hh:aB I aG cA w') (he:Ext I β s.st w I aG cA w') (jn:∀ l p,β l=some p->aG l=some p) (hl:s.st.length<=cA.length) (eu:∀ l,l < s.st.length->aG l=β l)
  (hx:x.Is w' I aG v):bN G s I β w a q v w':=by
 obtain⟨e1,e2,e3,e4,e5⟩:=aL.fP s cA
 exact⟨x,_,I,aG,h,hR.grow hh he jn hl (fun g hg=>Nat.lt_of_lt_of_le (hR.av.av g hg) he.size),hx,by rw[e3]; exact he,e4,e5,e1,fun l eF _=>eu l (Nat.lt_of_lt_of_le eF hR.base),fun l b hb _=>eu l (List.getElem?_eq_some_iff.1 hb).1⟩
theorem bN.same (hR:Rel G I β s a w) {q:PV->aL->Prop} {x:PV} {v:Value} (h:q x s) (hx:x.Is w I β v):bN G s I β w a q v w :=
 ⟨x,s,I,β,h,hR,hx,Ext.refl,rfl,rfl,rfl,fun _ _ _=>rfl,fun _ _ _ _=>rfl⟩
theorem kA {i:Int} {v:PV} {off m k:Nat}:∀ {cs r:List PV} {p:Nat},jJ i v off m k p cs=some r->∀ (j:Nat) (c:PV),r[j]?=some c->∃ c0,cs[j]?=some c0 /\
  ((¬ (off<=p+j/\p+j < off+k*m/\(p+j - off) % m=0)/\c=c0)\/((off<=p+j/\p+j < off+k*m/\(p+j - off) % m=0)/\mix (i=(((p+j - off) / m:Nat):Int)) v c0=some c))
 | [],r,p,h,j,c,hj=>by simp only[jJ,Option.some.injEq] at h; subst h; simp at hj
 | x::cs,r,p,h,j,c,hj=>by
  unfold jJ at h
  cases hc:(Nat.ble off p && Nat.blt p (off+k*m) && Nat.beq ((p - off) % m) 0) with
  | true =>
   rw[hc,cond_true] at h
   split at h
   ·rename_i y l hy hl
    cases h
    simp only[Bool.and_eq_true] at hc
    have c1:=Nat.le_of_ble_eq_true hc.1.1
    have c2:p < off+k*m:=Nat.le_of_ble_eq_true hc.1.2
    have c3:=Nat.eq_of_beq_eq_true hc.2
    cases j with
    | zero=>simp only[List.getElem?_cons_zero,Option.some.injEq] at hj; subst hj; exact⟨x,rfl,.inr ⟨⟨c1,c2,c3⟩,hy⟩⟩
    | succ j =>
     obtain⟨c0,h0,h1⟩:=kA hl j c hj
     rw[show p+1+j=p+(j+1) by omega] at h1
     exact⟨c0,h0,h1⟩
   ·cases h
  | false =>
   rw[hc,cond_false] at h
   split at h
   ·rename_i l hl
    cases h
    cases j with
    | zero =>
     simp only[List.getElem?_cons_zero,Option.some.injEq] at hj; subst hj
     refine⟨x,rfl,.inl ⟨fun ⟨a1,a2,a3⟩=>?_,rfl⟩⟩
     have:(Nat.ble off p && Nat.blt p (off+k*m) && Nat.beq ((p - off) % m) 0)=true:=by
      simp only[Bool.and_eq_true]
      exact⟨⟨Nat.ble_eq_true_of_le a1,Nat.ble_eq_true_of_le a2⟩,by rw[show (p - off) % m=0 from a3]; rfl⟩
     rw[hc] at this; cases this
    | succ j =>
     obtain⟨c0,h0,h1⟩:=kA hl j c hj
     rw[show p+1+j=p+(j+1) by omega] at h1
     exact⟨c0,h0,h1⟩
   ·cases h
theorem kB {i:Int} {v:PV} {off m k:Nat}:∀ {cs r:List PV} {p:Nat},jJ i v off m k p cs=some r->r.length=cs.length
 | [],r,p,h=>by simp only[jJ,Option.some.injEq] at h; subst h; rfl
 | x::cs,r,p,h=>by
  unfold jJ at h
  cases hc:(Nat.ble off p && Nat.blt p (off+k*m) && Nat.beq ((p - off) % m) 0) with
  | true =>
   rw[hc,cond_true] at h
   split at h
   ·rename_i y l hy hl
    cases h; rw[List.length_cons,List.length_cons,kB hl]
   ·cases h
  | false =>
   rw[hc,cond_false] at h
   split at h
   ·rename_i l hl
    cases h; rw[List.length_cons,List.length_cons,kB hl]
   ·cases h
theorem yX {p:Prop} [Decidable p] {x c z:PV} (h:mix p x c=some z):∃ k a b,z = .int k (if p then a else b)/\(x = .int k a\/x = .lit k a)/\(c = .int k b\/c = .lit k b):=by
 have key:∀ (k l:IntKind) (a b:Int),(if decide (k=l)=true then some (PV.int k (if p then a else b)) else none)=some z->k=l/\z = .int k (if p then a else b):=fun k l a b h=>by
  by_cases hk:k=l
  ·rw[if_pos (decide_eq_true hk)] at h; exact⟨hk,(Option.some.inj h).symm⟩
  ·rw[if_neg (by simp[hk])] at h; cases h
 cases x<;>first
  | (cases h; done)
  | (cases c<;>first
    | (cases h; done)
    | (obtain⟨rfl,rfl⟩:=key _ _ _ _ h
       exact⟨_,_,_,rfl,by simp,by simp⟩))
theorem Ce {p:Prop} [Decidable p] {x c z:PV} {u:Value} (h:mix p x c=some z) (hp:p) (hx:aU w I x.cells β [u]):z.Is w I β u:=by
 obtain⟨k,a,b,rfl,h1,_⟩:=yX h
 rcases h1 with rfl|rfl
 ·simp only[PV.cells,aU,PV.Is,and_true] at hx ⊢
  rw[if_pos hp]; exact hx
 ·simp only[PV.cells,aU,PV.Is,and_true] at hx ⊢
  rw[if_pos hp]; exact hx
theorem Cf {p:Prop} [Decidable p] {x c z:PV} {u:Value} (h:mix p x c=some z) (hp:¬ p) (hc:c.Is w I β u):z.Is w I β u:=by
 obtain⟨k,a,b,rfl,_,h1⟩:=yX h
 rcases h1 with rfl|rfl
 ·simp only[PV.Is] at hc ⊢
  rw[if_neg hp]; exact hc
 ·simp only[PV.Is] at hc ⊢
  rw[if_neg hp]; exact hc
theorem wv (hG:lX G) (hR:Rel G I β s a w) {t:TypeId} {x v:PV} {u y:Value} {q:PV->aL->Prop} (h:yH G s.st t x v fun st=>q (.tup []) (s.store st)) (hx:x.Is w I β u) (hv:v.Is w I β y) :
  ∃ w',(Instr.storeAt t u y).run G.cx.P w = .ok () w'/\bN G s I β w a q undef w':=by
 have hh:=hR.heap
 replace h:=an h
 obtain⟨n,hn,h⟩:=h
 replace h:=aK h
 obtain⟨hc,h⟩:=h
 simp only[Bool.and_eq_true,List.all_eq_true] at hc
 obtain⟨⟨Qi,iN⟩,Pk⟩:=hc
 have Ut:v.cells.length=n:=Nat.eq_of_beq_eq_true Qi
 have gC:0 < n:=Nat.le_of_ble_eq_true iN
 have tw:∀ ts,v≠.tup ts:=fun ts e=>by subst e; exact h.elim
 have SD:=hv.gQ tw
 have Li:=SD.length
 simp only[Array.length_toList] at Li
 have FC:=Cd tw hv Pk
 have bm:∀ {g o:Nat} {arr:Array Value} {ty:TypeId},w.heap[g]?=some (.cells arr ty (0,0))->o+y.cells.toList.length<=arr.size ->
   (Instr.storeAt t (.pointer (some ⟨g,o,none⟩)) y).run G.cx.P w = .ok () (w.setRow g (arr.toList.take o++y.cells.toList++arr.toList.drop (o+y.cells.toList.length)).toArray):=fun {g o arr ty} eh dK=>by
  have:=run_storeCells_at (P:=G.cx.P) g o ty y.cells.toList 0 arr w eh (by simpa using dK) FC
  simp only[Instr.storeAt,Instr.sureAddr,storeVar,Sem.run_bind,Sem.run_pure,Result.andThen_ok,Ev.cn hG.ok hn]
  rw[if_neg (by omega)]
  simpa using this
 split at h
 ·exact h.elim
 ·split at h<;>try simp only[PV.Is] at hx
  ·rename_i l off
   replace h:=an h
   obtain⟨b,hb,h⟩:=h
   replace h:=aK h
   obtain⟨Es,h⟩:=h
   simp only[Bool.and_eq_true] at Es
   obtain⟨gj,nS⟩:=Es
   obtain⟨ax,hm⟩:=mv nS
   replace h:=an h
   obtain⟨cs,fi,h⟩:=h
   replace h:=gi (bz h)
   obtain⟨bA,h⟩:=h
   obtain⟨p,g,o,hp,ha,rfl⟩:=hx
   obtain⟨arr,ty,fr,eh,lY,cB⟩:=fO hh hb gj hp ha
   have wx:fr=(0,0):=(cB.1 (by rw[hm]; decide)).1
   subst wx
   have hle:off+v.cells.length<=b.cs.length:=by
    unfold yG at fi
    split at fi
    ·rename_i hle; exact Nat.le_of_ble_eq_true hle
    ·cases fi
   have dK:o+off+y.cells.toList.length<=arr.size:=by
    obtain⟨z,hz,_⟩:=lY _ _ (List.getElem?_eq_getElem (show off+n - 1 < b.cs.length by omega))
    have:=(Array.getElem?_eq_some_iff.1 hz).1
    simp only[Array.length_toList]
    omega
   obtain⟨k1,k2,k3,k4,k5,k6⟩:=jP b cs
   have Et:cs.length=b.cs.length:=by
    unfold yG at fi
    split at fi
    ·cases fi; simp only[List.length_append,List.length_take,List.length_drop]; omega
    ·cases fi
   have FD:((arr.toList.take (o+off)++y.cells.toList++arr.toList.drop (o+off+y.cells.toList.length)).toArray).size=arr.size:=by
    simp only[List.size_toArray,List.length_append,List.length_take,List.length_drop,Array.length_toList]
    simp only[Array.length_toList] at dK
    omega
   have yY:=Cb fi lY SD FC dK
   obtain⟨hH,hE⟩:=hh.write (b':=b.dy cs) hb ax hm hp ha eh (by rw[k5]; exact ax) (by rw[k4]; exact hm) (arr':=(arr.toList.take (o+off)++y.cells.toList++arr.toList.drop (o+off+y.cells.toList.length)).toArray) (fun hI hO=>by
    have mw:=setRow_heap w g arr (arr.toList.take (o+off)++y.cells.toList++arr.toList.drop (o+off+y.cells.toList.length)).toArray ty (0,0) eh
    obtain⟨q',Cg,hk⟩:=hh.dX l b hb ax
    rw[hp] at Cg
    cases Cg
    refine⟨p,hp,?_⟩
    rw[k1]
    unfold aj.mem at gj
    split at hk
    ·rename_i bH
     refine⟨g,o,_,ty,(0,0),ha,mw,?_,hO⟩
     rw[k6]; exact yY.mono (fun _ h=>h) hI (fun _ _ h=>h)
    ·rename_i bH
     obtain⟨g',arr',SE,cW,L6,_,_,h1,h2,h3,h4,h5⟩:=hk
     rw[ha] at cW; cases cW
     rw[eh] at L6; cases L6
     refine⟨g,_,(0,0),ha,by rw[k2]; exact mw,?_,hO,by rw[k6,k3,Et]; exact h1,h2,h3,by rw[k3,FD]; exact h4,by rw[k3]; exact h5⟩
     rw[k6]; exact yY.mono (fun _ h=>h) hI (fun _ _ h=>h)
    ·rename_i bH
     rw[bH] at gj; simp at gj
    ·rename_i bH
     rw[bH] at gj; simp at gj)
   refine⟨_,bm eh dK,bN.mk' hR h hH hE (fun _ _ h=>h) (by simp) (fun _ _=>rfl) ?_⟩
   simp only[PV.Is]; exact⟨#[],rfl,by simp only[aU]⟩
  ·rename_i l i m off
   replace h:=an h
   obtain⟨b,hb,h⟩:=h
   split at h
   ·rename_i hk
    replace h:=aK h
    obtain⟨Es,hi,h⟩:=h
    simp only[Bool.and_eq_true] at Es
    obtain⟨⟨⟨⟨nS,my⟩,BJ⟩,nT⟩,B8⟩:=Es
    obtain⟨ax,hm⟩:=mv nS
    obtain⟨u,hu⟩:∃ u,v.norm=u:=⟨_,rfl⟩
    rw[hu] at h
    have Qh:u.Is w I β y:=by rw[← hu]; cases v<;>first|exact hv|(simp only[PV.norm,PV.Is] at hv ⊢; exact hv)
    have FE:u.elem=true:=by rw[← hu]; cases v<;>first|exact B8|rfl
    have Qj:u.cells.length=n:=by rw[← hu,← Ut]; cases v<;>rfl
    have my:=Nat.eq_of_beq_eq_true my
    have BJ:=Nat.eq_of_beq_eq_true BJ
    have nT:=Nat.eq_of_beq_eq_true nT
    replace h:=gi h
    obtain⟨bA,h⟩:=h
    obtain⟨p,g,o,hp,ha,rfl⟩:=hx
    obtain⟨BI,hlen,hle,mr,jm⟩:=bT hh hb ax hk hp
    rcases jm with ⟨cW,_⟩|⟨g',arr,fr,cW,_,eh,jM,cB,has⟩
    ·rw[ha] at cW; cases cW
    ·rw[ha] at cW
     cases cW
     have wx:fr=(0,0):=(cB.1 (by rw[hm]; decide)).1
     subst wx
     have yZ:i*n+n<=p.cap*n:=by rw[← Nat.succ_mul]; exact Nat.mul_le_mul_right _ (by omega)
     have dK:0+(i*m+off)+y.cells.toList.length<=arr.size:=by simp only[Array.length_toList]; rw[has,my,BJ,nT]; omega
     obtain⟨k1,k2,k3,k4,k5,k6⟩:=jP b (b.cs.set i u)
     obtain⟨_,jo⟩:=Cc FE Qh
     have FD:((arr.toList.take (0+(i*m+off))++y.cells.toList++arr.toList.drop (0+(i*m+off)+y.cells.toList.length)).toArray).size=arr.size:=by
      simp only[List.size_toArray,List.length_append,List.length_take,List.length_drop,Array.length_toList]
      simp only[Array.length_toList] at dK
      omega
     obtain⟨hH,hE⟩:=hh.write (b':=b.dy (b.cs.set i u)) hb ax hm hp ha eh (by rw[k5]; exact ax) (by rw[k4]; exact hm) (arr':=(arr.toList.take (0+(i*m+off))++y.cells.toList++arr.toList.drop (0+(i*m+off)+y.cells.toList.length)).toArray) (fun hI hO=>by
      have mw:=setRow_heap w g arr (arr.toList.take (0+(i*m+off))++y.cells.toList++arr.toList.drop (0+(i*m+off)+y.cells.toList.length)).toArray b.ty (0,0) eh
      refine⟨p,hp,?_⟩
      rw[k1,hk]
      refine⟨⟨by rw[k3]; exact BI,by rw[k6,List.length_set]; exact hlen,hle,mr⟩,.inr ⟨g,_,(0,0),ha,by rw[k2]; exact mw,?_,hO,by rw[FD,k3]; exact has⟩⟩
      rw[k6,k3]
      have iT:(arr.toList.take (0+(i*m+off))).length=0+(i*m+off):=by rw[List.length_take]; simp only[Array.length_toList] at dK ⊢; omega
      refine bp.of fun j e he=>?_
      by_cases hj:j=i
      ·subst hj
       rw[List.getElem?_set_self hi] at he
       cases he
       refine⟨by rw[Qj,my],bQ.of fun j2 c iN=>?_⟩
       obtain⟨z,hz,FB,FF⟩:=jo j2 c iN
       have pL:=(List.getElem?_eq_some_iff.1 hz).1
       refine⟨z,?_,PV.Is.mono (fun _ h=>h) hI c _ _ z (fun _ _ _ h=>h) FB,FF⟩
       rw[Ev.c8 mw]
       simp only[List.getElem?_toArray]
       rw[List.getElem?_append_left (by rw[List.length_append,iT]; rw[my,BJ,nT]; omega),List.getElem?_append_right (by rw[iT,my,BJ,nT]; omega),iT,show 0+j*b.size+j2 - (0+(j*m+off))=j2 by rw[my,BJ,nT]; omega]
       exact hz
      ·rw[List.getElem?_set_ne (fun e=>hj e.symm)] at he
       obtain⟨Qk,FE⟩:=jM.get he
       refine⟨Qk,bQ.of fun j2 c iN=>?_⟩
       obtain⟨z,hz,FB,FF⟩:=FE.get iN
       refine⟨z,?_,PV.Is.mono (fun _ h=>h) hI c _ _ z (fun _ _ _ h=>h) FB,FF⟩
       rw[Ev.c8 mw]
       rw[Ev.c8 eh] at hz
       simp only[List.getElem?_toArray]
       have Lh:j2 < n:=by have:=(List.getElem?_eq_some_iff.1 iN).1; omega
       rcases Nat.lt_or_ge j i with x8|x8
       ·have:j*n+n<=i*n:=by rw[← Nat.succ_mul]; exact Nat.mul_le_mul_right _ (by omega)
        rw[List.append_assoc,List.getElem?_append_left (by rw[iT,my,BJ,nT]; omega),List.getElem?_take,if_pos (by rw[my,BJ,nT]; omega)]
        simpa using hz
       ·have:i*n+n<=j*n:=by rw[← Nat.succ_mul]; exact Nat.mul_le_mul_right _ (by omega)
        have h2:(arr.toList.take (0+(i*m+off))++y.cells.toList).length=0+(i*m+off)+y.cells.toList.length:=by rw[List.length_append,iT]
        have L7:y.cells.toList.length=n:=by simp only[Array.length_toList]; omega
        rw[List.getElem?_append_right (by rw[h2,L7,my,BJ,nT]; omega),h2,List.getElem?_drop,show 0+(i*m+off)+y.cells.toList.length+(0+j*b.size+j2 - (0+(i*m+off)+y.cells.toList.length))=0+j*b.size+j2 by rw[L7,my,BJ,nT]; omega]
        simpa using hz)
     refine⟨_,bm eh dK,bN.mk' hR h hH hE (fun _ _ h=>h) (by simp) (fun _ _=>rfl) ?_⟩
     simp only[PV.Is]; exact⟨#[],rfl,by simp only[aU]⟩
   ·exact h.elim
  ·rename_i l off i m
   replace h:=an h
   obtain⟨b,hb,h⟩:=h
   replace h:=aK h
   obtain⟨Es,k,WL,WM,h⟩:=h
   simp only[Bool.and_eq_true] at Es
   obtain⟨⟨⟨gj,nS⟩,py⟩,lH⟩:=Es
   have py:=Nat.eq_of_beq_eq_true py
   have lH:0 < m:=Nat.le_of_ble_eq_true lH
   obtain⟨ax,hm⟩:=mv nS
   replace h:=an h
   obtain⟨cs,fi,h⟩:=h
   replace h:=bz h
   obtain⟨Lj,h⟩:=h
   replace h:=gi h
   obtain⟨bA,h⟩:=h
   obtain⟨p,g,o,hp,ha,rfl⟩:=hx
   obtain⟨arr,ty,fr,eh,lY,cB⟩:=fO hh hb gj hp ha
   have wx:fr=(0,0):=(cB.1 (by rw[hm]; decide)).1
   subst wx
   have Uu:y.cells.toList.length=1:=by simp only[Array.length_toList]; omega
   obtain⟨z0,Ql⟩:∃ z0,y.cells.toList = [z0]:=List.length_eq_one_iff.1 Uu
   have FF:z0.oneCell'=true:=FC z0 (by rw[Ql]; simp)
   have dK:o+(off+i.toNat*m)+y.cells.toList.length<=arr.size:=by
    obtain⟨z,hz,_⟩:=lY _ _ (List.getElem?_eq_getElem Lj)
    have:=(Array.getElem?_eq_some_iff.1 hz).1
    omega
   obtain⟨k1,k2,k3,k4,k5,k6⟩:=jP b cs
   have Et:cs.length=b.cs.length:=kB fi
   have FD:((arr.toList.take (o+(off+i.toNat*m))++y.cells.toList++arr.toList.drop (o+(off+i.toNat*m)+y.cells.toList.length)).toArray).size=arr.size:=by
    simp only[List.size_toArray,List.length_append,List.length_take,List.length_drop,Array.length_toList]
    simp only[Array.length_toList] at dK
    omega
   have yY:aO w I β cs (arr.toList.take (o+(off+i.toNat*m))++y.cells.toList++arr.toList.drop (o+(off+i.toNat*m)+y.cells.toList.length)).toArray o:=by
    intro j c hj
    have iT:(arr.toList.take (o+(off+i.toNat*m))).length=o+(off+i.toNat*m):=by rw[List.length_take,Array.length_toList]; omega
    obtain⟨c0,qN,jm⟩:=kA fi j c hj
    rw[Nat.zero_add] at jm
    obtain⟨v0,Uv,L8,L9⟩:=lY j c0 qN
    simp only[List.getElem?_toArray]
    rw[Ql] at dK ⊢
    by_cases SF:j=off+i.toNat*m
    ·subst SF
     rcases jm with ⟨hn,_⟩|⟨_,Ch⟩
     ·exfalso
      apply hn
      refine⟨by omega,?_,by rw[show off+i.toNat*m - off=i.toNat*m by omega]; exact Nat.mul_mod_left _ _⟩
      have:i.toNat < k:=by omega
      have:i.toNat*m < k*m:=Nat.mul_lt_mul_of_pos_right this lH
      omega
     ·rw[show off+i.toNat*m - off=i.toNat*m by omega,Nat.mul_div_cancel _ lH] at Ch
      refine⟨z0,?_,Ce Ch (by omega) ?_,FF⟩
      ·rw[List.getElem?_append_left (by rw[List.length_append,iT]; simp),List.getElem?_append_right (by rw[iT]; omega),iT,Nat.sub_self]; rfl
      ·have SG:=hv.gQ tw
       rw[Ql] at SG
       exact SG
    ·have mz:(arr.toList.take (o+(off+i.toNat*m))++[z0]++arr.toList.drop (o+(off+i.toNat*m) + [z0].length))[o+j]?=arr[o+j]?:=by
      rcases Nat.lt_or_ge j (off+i.toNat*m) with Pj|Pj
      ·rw[List.append_assoc,List.getElem?_append_left (by rw[iT]; omega),List.getElem?_take,if_pos (by omega)]; simp
      ·rw[List.getElem?_append_right (by rw[List.length_append,iT]; simp; omega),List.length_append,iT,List.getElem?_drop]
       simp only[List.length_cons,List.length_nil]
       rw[show o+(off+i.toNat*m)+(0+1)+(o+j - (o+(off+i.toNat*m)+(0+1)))=o+j by omega]; simp
     refine⟨v0,mz.trans Uv,?_,L9⟩
     rcases jm with ⟨_,rfl⟩|⟨⟨q1,q2,q3⟩,Ch⟩
     ·exact L8
     ·refine Cf Ch (fun e=>SF ?_) L8
      have e2:i.toNat=(j - off) / m:=by omega
      have e3:=Nat.div_add_mod (j - off) m
      rw[q3,← e2,Nat.mul_comm] at e3
      omega
   obtain⟨hH,hE⟩:=hh.write (b':=b.dy cs) hb ax hm hp ha eh (by rw[k5]; exact ax) (by rw[k4]; exact hm) (arr':=(arr.toList.take (o+(off+i.toNat*m))++y.cells.toList++arr.toList.drop (o+(off+i.toNat*m)+y.cells.toList.length)).toArray) (fun hI hO=>by
    have mw:=setRow_heap w g arr (arr.toList.take (o+(off+i.toNat*m))++y.cells.toList++arr.toList.drop (o+(off+i.toNat*m)+y.cells.toList.length)).toArray ty (0,0) eh
    obtain⟨q',Cg,hk⟩:=hh.dX l b hb ax
    rw[hp] at Cg
    cases Cg
    refine⟨p,hp,?_⟩
    rw[k1]
    unfold aj.mem at gj
    split at hk
    ·rename_i bH
     refine⟨g,o,_,ty,(0,0),ha,mw,?_,hO⟩
     rw[k6]; exact yY.mono (fun _ h=>h) hI (fun _ _ h=>h)
    ·rename_i bH
     obtain⟨g',arr',SE,cW,L6,_,_,h1,h2,h3,h4,h5⟩:=hk
     rw[ha] at cW; cases cW
     rw[eh] at L6; cases L6
     refine⟨g,_,(0,0),ha,by rw[k2]; exact mw,?_,hO,by rw[k6,k3,Et]; exact h1,h2,h3,by rw[k3,FD]; exact h4,by rw[k3]; exact h5⟩
     rw[k6]; exact yY.mono (fun _ h=>h) hI (fun _ _ h=>h)
    ·rename_i bH
     rw[bH] at gj; simp at gj
    ·rename_i bH
     rw[bH] at gj; simp at gj)
   refine⟨_,bm eh dK,bN.mk' hR h hH hE (fun _ _ h=>h) (by simp) (fun _ _=>rfl) ?_⟩
   simp only[PV.Is]; exact⟨#[],rfl,by simp only[aU]⟩
  ·exact h.elim
theorem aO.new {cs:List PV} {vs:Array Value} (h:aU w I cs β vs.toList) (h1:∀ c∈cs,c.gP=true):aO w I β cs vs 0:=fun i c hc=>by
 obtain⟨v,hv,hi⟩:=h.get hc
 exact⟨v,by simpa using hv,hi,jG (hi.flat (h1 c (List.mem_of_getElem? hc)))⟩
theorem gV (hh:aB I β st w) (hI:∀ g,I g->g < w.heap.size) (o:Obj):∀ g,fL β st g\/I g->(w.alloc o).heap[g]?=w.heap[g]?:=fun g hg=>Ev.qG w o g (hg.elim hh.ch (hI g))
theorem oF (hh:aB I β st w) (hI:∀ g,I g->g < w.heap.size) {vs:Array Value} {t:TypeId} {b:aj} {p:k_} (hp:p.a=some (w.heap.size,0))
  (hb:Own I (β.set st.length p) (st++[b]) st.length w.heap.size (0,0) b->dR I (β.set st.length p) (st++[b]) (w.alloc (.cells vs t)) st.length b) (hm:b.m = .w) :
  aB I (β.set st.length p) (st++[b]) (w.alloc (.cells vs t))/\Ext I β st w I (β.set st.length p) (st++[b]) (w.alloc (.cells vs t)):=by
 have di:∀ g o,p.a=some (g,o)->¬ I g/\¬ fL β st g:=fun g o ha=>by
  rw[hp] at ha; cases ha
  exact⟨fun h=>by have:=hI _ h; omega,fun h=>by have:=hh.ch h; omega⟩
 refine⟨hh.add (gV hh hI _) di (hb ⟨fun _=>⟨rfl,(di _ _ hp).1,fun l' b' bR eF dh p' g' o' cE cW e=>?_⟩,fun hr=>by rw[hm] at hr; cases hr⟩),Ext.add (w':=w.alloc (.cells vs t)) hh rfl rfl rfl (by simp) (fun g hg _=>Ev.qG w _ g hg) fun g o ha bA=>by rw[hp] at ha; cases ha; omega⟩
 subst e
 unfold au.set at cE
 rw[if_neg bR] at cE
 have:=hh.lt cE
 rw[List.getElem?_append_left this] at eF
 exact (di _ _ hp).2 ⟨l',b',p',o',eF,dh,cE,cW⟩
theorem u9 (hR:Rel G I β s a w) {t t':TypeId} {cs:List PV} {vs:Array Value} {q:PV->aL->Prop} (h:Fp s ⟨.loc,t,1,.w,true,cs⟩ q) (hc:aU w I cs β vs.toList) (h1:∀ c∈cs,c.gP=true):bN G s I β w a q (.pointer (some ⟨w.heap.size,0,none⟩)) (w.alloc (.cells vs t')):=by
 replace h:=jN (fk h)
 rw[Nat.zero_add] at h
 have tC:=au.gU hR.heap ⟨some (w.heap.size,0),0,0⟩
 obtain⟨hH,hE⟩:=oF (vs:=vs) (t:=t') hR.heap hR.av.av (b:=⟨.loc,t,1,.w,true,cs⟩) (p:=⟨some (w.heap.size,0),0,0⟩) rfl (fun ho =>
  ⟨_,au.dz ..,w.heap.size,0,vs,t',(0,0),rfl,Ev.qH w _,(aO.new hc h1).mono (fun _ h=>h) (fun g hg=>gV hR.heap hR.av.av _ g (.inr hg)) tC,ho⟩) rfl
 refine bN.mk' hR h hH hE tC (by simp) (fun l hl=>if_neg (by omega)) ?_
 simp only[PV.Is]; exact⟨_,w.heap.size,0,au.dz ..,rfl,rfl⟩
theorem y0 (hR:Rel G I β s a w) {t:TypeId} {len n:Nat} {cs:List PV} {vs:Array Value} {q:PV->aL->Prop} (h:lf s ⟨.arr,t,n,.w,true,cs⟩ q) (hc:aU w I cs β vs.toList) (h1:∀ c∈cs,c.gP=true) (hl:cs.length=len*n) (hn:0 < n) (hm:len<=maxLen):bN G s I β w a q (.slice (some ⟨w.heap.size,0,none⟩) len len) (w.alloc (.cells vs t)):=by
 replace h:=jN (fk h)
 rw[Nat.zero_add] at h
 have tC:=au.gU hR.heap ⟨some (w.heap.size,0),len,len⟩
 have SH:=hc.length
 simp only[Array.length_toList] at SH
 obtain⟨hH,hE⟩:=oF (vs:=vs) (t:=t) hR.heap hR.av.av (b:=⟨.arr,t,n,.w,true,cs⟩) (p:=⟨some (w.heap.size,0),len,len⟩) rfl (fun ho =>
  ⟨_,au.dz ..,w.heap.size,vs,(0,0),rfl,Ev.qH w _,(aO.new hc h1).mono (fun _ h=>h) (fun g hg=>gV hR.heap hR.av.av _ g (.inr hg)) tC,ho,hl,Nat.le_refl _,hm,by rw[← SH]; exact hl,hn⟩) rfl
 refine bN.mk' hR h hH hE tC (by simp) (fun l hl=>if_neg (by omega)) ?_
 simp only[PV.Is]; exact⟨_,au.dz ..,rfl⟩
end
end Go.Proofs.YtnbhdacpogplgaaGreatDoor.Pw

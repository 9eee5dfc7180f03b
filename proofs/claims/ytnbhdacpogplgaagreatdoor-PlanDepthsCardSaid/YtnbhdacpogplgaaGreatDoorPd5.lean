/- What this claim is proved with: no condition. -/
import Derived.Test.YtnbhdacpogplgaaGreatDoorPd4
import Derived.Maps.AppendAt
set_option linter.unusedVariables false
set_option linter.unusedSimpArgs false
namespace Go.Proofs.YtnbhdacpogplgaaGreatDoor.Pw
open Go Go.RowKit
def ax.set (β:ax) (l:Nat) (p:nN):ax:=fun l'=>if l'=l then some p else β l'
section
variable {w w':World} {I I':Nat->Prop} {β aI:ax} {cx:Ev.Cx} {G:Gx} {P:Program} {s:aO} {a:Act} {st dc:List ak}
theorem jd:∀ {st:List ak} {l:Nat} {b:ak} {q:List ak->Prop},s7 st l b q->l < st.length/\q (st.set l b)
 | [],_,_,_,h=>h.elim
 | _::st,0,b,q,h=>⟨by simp,h⟩
 | a::st,n+1,b,q,h=>by
  obtain⟨h1,h2⟩:=jd (st:=st) (q:=fun l=>q (a::l)) h
  exact⟨by simpa using h1,h2⟩
theorem lU:∀ {st:List ak} {b:ak} {q:List ak->Prop},xq st b q->q (st++[b])
 | [],_,_,h=>h
 | a::st,b,q,h=>lU (st:=st) (q:=fun l=>q (a::l)) h
theorem gW {α:Type}:∀ {l:List α} {n:Nat} {q:Nat->Prop},la l n q->q (n+l.length)
 | [],n,q,h=>h
 | _::l,n,q,h=>by
  have:=gW (l:=l) h
  rwa [List.length_cons,show n+(l.length+1)=n+1+l.length by omega]
theorem fD.place {l:Nat} {b:ak} (h:fD I β st w l b) {p:nN} {g o:Nat} (hp:β l=some p) (ha:p.a=some (g,o)):∃ (ob:Obj) (_:Unit) (fr:Nat × Nat),w.heap[g]?=some ob/\Own I β st l g fr b:=by
 obtain⟨q,hq,hk⟩:=h
 rw[hp] at hq
 cases hq
 split at hk
 ·obtain⟨g',o',arr,ty,fr,dJ,hh,_,ho⟩:=hk
  rw[ha] at dJ; cases dJ; exact⟨_,(),fr,hh,ho⟩
 ·obtain⟨g',arr,fr,dJ,hh,_,ho,_⟩:=hk
  rw[ha] at dJ; cases dJ; exact⟨_,(),fr,hh,ho⟩
 ·obtain⟨_,hk⟩:=hk
  rcases hk with ⟨dJ,_⟩|⟨g',arr,fr,dJ,hh,_,ho,_⟩
  ·rw[ha] at dJ; cases dJ
  ·rw[ha] at dJ; cases dJ; exact⟨_,(),fr,hh,ho⟩
 ·obtain⟨g',dJ,⟨es,clock,hh,_⟩,ho⟩:=hk
  rw[ha] at dJ; cases dJ; exact⟨_,(),(0,0),hh,ho⟩
theorem yY.m6 {g:Nat} {cs:List PV} (h:yY w g cs) (hw:w'.heap[g]?=w.heap[g]?):yY w' g cs:=by
 obtain⟨es,clock,hb,F,hs,hD⟩:=h
 exact⟨es,clock,hw.trans hb,F,hs,hD⟩
theorem fD.mono {l:Nat} {b:ak} (hI:∀ g,I g->I' g) (hw:∀ g,I g->w'.heap[g]?=w.heap[g]?) (lg:∀ l p,β l=some p->aI l=some p)
  (hg:∀ p g o,β l=some p->p.a=some (g,o)->w'.heap[g]?=w.heap[g]?/\(b.m≠.r->¬ I' g/\∀ l' b',l'≠l->dc[l']?=some b'->b'.live=true->∀ p g' o',aI l'=some p->p.a=some (g',o')->g'≠g)) (hb:fD I β st w l b):fD I' aI dc w' l b:=by
 obtain⟨p,hp,hk⟩:=hb
 refine⟨p,lg l p hp,?_⟩
 have own:∀ {g o:Nat} {fr:Nat × Nat},p.a=some (g,o)->Own I β st l g fr b->Own I' aI dc l g fr b:=fun ha ho=>⟨fun hr=>⟨(ho.1 hr).1,(hg p _ _ hp ha).2 hr⟩,fun hr=>hI _ (ho.2 hr)⟩
 split at hk
 ·obtain⟨g,o,arr,ty,fr,ha,hh,hc,ho⟩:=hk
  exact⟨g,o,arr,ty,fr,ha,(hg p g o hp ha).1.trans hh,hc.mono hI hw lg,own ha ho⟩
 ·obtain⟨g,arr,fr,ha,hh,hc,ho,h1⟩:=hk
  exact⟨g,arr,fr,ha,(hg p g 0 hp ha).1.trans hh,hc.mono hI hw lg,own ha ho,h1⟩
 ·obtain⟨h1,hk⟩:=hk
  refine⟨h1,?_⟩
  rcases hk with h|⟨g,arr,fr,ha,hh,hc,ho,h2⟩
  ·exact .inl h
  ·exact .inr ⟨g,arr,fr,ha,(hg p g 0 hp ha).1.trans hh,bE.mono hI hw _ _ _ _ (hg p g 0 hp ha).1 hc,own ha ho,h2⟩
 ·obtain⟨g,ha,hm,ho⟩:=hk
  exact⟨g,ha,hm.m6 (hg p g 0 hp ha).1,own ha ho⟩
theorem aD.lt (h:aD I β st w) {l:Nat} {p:nN} (hp:β l=some p):l < st.length:=by
 rcases Nat.lt_or_ge l st.length with h'|h'
 ·exact h'
 ·rw[h.jI l h'] at hp; cases hp
def iD (β:ax) (st:List ak) (g:Nat):Prop:=∃ l b p o,st[l]?=some b/\b.live=true/\β l=some p/\p.a=some (g,o)
theorem ax.jP (h:aD I β st w) (p:nN):∀ l q,β l=some q->(β.set st.length p) l=some q:=fun l q hq=>by
 have:=h.lt hq
 unfold ax.set
 rw[if_neg (by omega)]; exact hq
theorem ax.eP (β:ax) (l:Nat) (p:nN):(β.set l p) l=some p:=if_pos rfl
theorem aD.add (h:aD I β st w) (hw:∀ g,iD β st g\/I g->w'.heap[g]?=w.heap[g]?) {b:ak} {p:nN} (hp:∀ g o,p.a=some (g,o)->¬ I g/\¬ iD β st g)
  (hb:fD I (β.set st.length p) (st++[b]) w' st.length b):aD I (β.set st.length p) (st++[b]) w':=by
 refine⟨fun l hl=>?_,fun l b' hl az=>?_⟩
 ·simp only[List.length_append,List.length_singleton] at hl
  unfold ax.set
  rw[if_neg (by omega),h.jI l (by omega)]
 ·by_cases bG:l < st.length
  ·rw[List.getElem?_append_left bG] at hl
   have cv:=h.fp l b' hl az
   refine cv.mono (fun _ h=>h) (fun g hg=>hw g (.inr hg)) (ax.jP h p) fun q g o hq ha=>?_
   obtain⟨arr,ty,fr,hh,ho⟩:=cv.place hq ha
   have hL:iD β st g:=⟨l,b',q,o,hl,az,hq,ha⟩
   refine⟨hw g (.inl hL),fun hr=>⟨(ho.1 hr).2.1,fun l' k9 bZ iz eg p' g' o' dk dJ=>?_⟩⟩
   unfold ax.set at dk
   split at dk
   ·cases dk
    intro e
    subst e
    exact (hp _ _ dJ).2 hL
   ·have:=h.lt dk
    rw[List.getElem?_append_left this] at iz
    exact (ho.1 hr).2.2 l' k9 bZ iz eg p' g' o' dk dJ
  ·have hle:l=st.length:=by
    have:=(List.getElem?_eq_some_iff.1 hl).1
    simp at this; omega
   subst hle
   rw[List.getElem?_append_right (Nat.le_refl _)] at hl
   simp only[Nat.sub_self,List.getElem?_cons_zero,Option.some.injEq] at hl
   subst hl
   exact hb
theorem aD.cM (h:aD I β st w) {g:Nat} (hg:iD β st g):g < w.heap.size:=by
 obtain⟨l,b,p,o,h1,h2,h3,h4⟩:=hg
 obtain⟨arr,ty,fr,hh,_⟩:=(h.fp l b h1 h2).place h3 h4
 exact cw hh
theorem Ext.add (h:aD I β st w) (Wg:w'.os=w.os) (C_:w'.tape=w.tape) (gV:w'.output=w.output) (eI:w.heap.size<=w'.heap.size) {b:ak} {p:nN} (hw:∀ g,g < w.heap.size->¬ Wr β st g->w'.heap[g]?=w.heap[g]?)
  (hp:∀ g o,p.a=some (g,o)->g < w.heap.size->Wr β st g):Ext I β st w I (β.set st.length p) (st++[b]) w' :=
 ⟨Wg,C_,gV,eI,hw,fun g hg ⟨l,b',q,o,h1,h2,h3,h4,h5⟩=>by
  unfold ax.set at h4
  split at h4
  ·cases h4
   exact hp g o h5 hg
  ·have:=h.lt h4
   rw[List.getElem?_append_left this] at h1
   exact⟨l,b',q,o,h1,h2,h3,h4,h5⟩,fun _ h=>h,fun _ _ h=>.inl h⟩
theorem aD.kill (h:aD I β st w) (l:Nat) {b:ak} (hb:b.live=false):aD I β (st.set l b) w:=by
 refine⟨fun l' iz=>h.jI l' (by simpa using iz),fun l' b' iz az=>?_⟩
 have bZ:l'≠l:=fun e=>by
  subst e
  rw[List.getElem?_set_self (by simpa using (List.getElem?_eq_some_iff.1 iz).1)] at iz
  cases iz; rw[hb] at az; cases az
 rw[List.getElem?_set_ne (fun e=>bZ e.symm)] at iz
 have cv:=h.fp l' b' iz az
 refine cv.mono (fun _ h=>h) (fun _ _=>rfl) (fun _ _ h=>h) fun q g o hq ha=>⟨rfl,fun hr=>?_⟩
 obtain⟨arr,ty,fr,hh,ho⟩:=cv.place hq ha
 refine⟨(ho.1 hr).2.1,fun l2 b2 Wh eJ bn=>?_⟩
 have uK:l2≠l:=fun e=>by
  subst e
  rw[List.getElem?_set_self (by simpa using (List.getElem?_eq_some_iff.1 eJ).1)] at eJ
  cases eJ; rw[hb] at bn; cases bn
 rw[List.getElem?_set_ne (fun e=>uK e.symm)] at eJ
 exact (ho.1 hr).2.2 l2 b2 Wh eJ bn
theorem Da {l g:Nat} {b:ak} (hb:b.live=false\/∃ b0,st[l]?=some b0/\b0.live=b.live/\b0.m=b.m) (h:Wr β (st.set l b) g):Wr β st g:=by
 obtain⟨l',b',p,o,h1,h2,h3,h4,h5⟩:=h
 by_cases bZ:l'=l
 ·subst bZ
  rw[List.getElem?_set_self (by simpa using (List.getElem?_eq_some_iff.1 h1).1)] at h1
  cases h1
  rcases hb with hb|⟨b0,e1,e2,e3⟩
  ·rw[hb] at h2; cases h2
  ·exact⟨l',b0,p,o,e1,by rw[e2]; exact h2,by rw[e3]; exact h3,h4,h5⟩
 ·rw[List.getElem?_set_ne (fun e=>bZ e.symm)] at h1
  exact⟨l',b',p,o,h1,h2,h3,h4,h5⟩
theorem Ext.kill {l:Nat} {b:ak} (hb:b.live=false):Ext I β st w I β (st.set l b) w:=⟨rfl,rfl,rfl,Nat.le_refl _,fun _ _ _=>rfl,fun _ _ h=>Da (.inl hb) h,fun _ h=>h,fun _ _ h=>.inl h⟩
theorem aD.write (h:aD I β st w) {l:Nat} {b b':ak} {p:nN} {g o:Nat} {arr arr':Array Value} {ty:TypeId} (hb:st[l]?=some b) (az:b.live=true) (hm:b.m = .w) (hp:β l=some p) (ha:p.a=some (g,o)) (hh:w.heap[g]?=some (.cells arr ty (0,0)))
  (iz:b'.live=true) (k7:b'.m = .w) (lV:∀ (hI:∀ x,I x->(w.setRow g arr').heap[x]?=w.heap[x]?),Own I β (st.set l b') l g (0,0) b'->fD I β (st.set l b') (w.setRow g arr') l b') :
  aD I β (st.set l b') (w.setRow g arr')/\Ext I β st w I β (st.set l b') (w.setRow g arr'):=by
 have fO:=h.fp l b hb az
 obtain⟨arr0,Wi,fr0,hh0,ho0⟩:=fO.place hp ha
 obtain⟨_,Za,Db⟩:=ho0.1 (by rw[hm]; decide)
 have rM:∀ x,I x->(w.setRow g arr').heap[x]?=w.heap[x]?:=fun x hx=>setRow_other w g x _ fun e=>Za (e ▸ hx)
 have Zb:l < st.length:=(List.getElem?_eq_some_iff.1 hb).1
 have KO:∀ l' k9,l'≠l->(st.set l b')[l']?=some k9->k9.live=true->∀ p g' o',β l'=some p->p.a=some (g',o')->g'≠g:=fun l' k9 bZ GQ G2 p g' o' dk dJ=>by
  rw[List.getElem?_set_ne (fun e=>bZ e.symm)] at GQ
  exact Db l' k9 bZ GQ G2 p g' o' dk dJ
 refine⟨⟨fun l2 eJ=>h.jI l2 (by simpa using eJ),fun l2 b2 eJ bn=>?_⟩,⟨rfl,rfl,rfl,by simp,fun x hx hn=>setRow_other w g x _ fun e=>hn (e ▸ ⟨l,b,p,o,hb,az,hm,hp,ha⟩),fun x hx hw=>Da (.inr ⟨b,hb,by rw[az,iz],by rw[hm,k7]⟩) hw,fun _ h=>h,fun _ _ h=>.inl h⟩⟩
 by_cases bZ:l2=l
 ·subst bZ
  rw[List.getElem?_set_self Zb] at eJ
  cases eJ
  exact lV rM ⟨fun _=>⟨rfl,Za,KO⟩,fun hr=>by rw[k7] at hr; cases hr⟩
 ·rw[List.getElem?_set_ne (fun e=>bZ e.symm)] at eJ
  have cR:=h.fp l2 b2 eJ bn
  refine cR.mono (fun _ h=>h) rM (fun _ _ h=>h) fun q g2 o2 hq fP=>?_
  obtain⟨arr2,ty2,fr2,hh2,KP⟩:=cR.place hq fP
  refine⟨setRow_other w g g2 _ (Db l2 b2 bZ eJ bn q g2 o2 hq fP),fun hr=>⟨(KP.1 hr).2.1,fun l3 b3 Wj QP KQ p3 g3 o3 Wk Wl=>?_⟩⟩
  by_cases h3:l3=l
  ·subst h3
   rw[hp] at Wk
   cases Wk
   rw[ha] at Wl
   cases Wl
   exact fun e=>Db l2 b2 bZ eJ bn q g2 o2 hq fP e.symm
  ·rw[List.getElem?_set_ne (fun e=>h3 e.symm)] at QP
   exact (KP.1 hr).2.2 l3 b3 Wj QP KQ p3 g3 o3 Wk Wl
theorem te {g o n:Nat} {cs:List PV} (hl:cs.length=n) (hc:∀ j c,cs[j]?=some c->∃ v,w.cell? ⟨g,o+j,none⟩=some v/\c.Is w I β v) :
  ∃ vs:Array Value,a_ w I cs β vs.toList/\∀ w2:World,w2.heap[g]?=w.heap[g]?->(loadCells ⟨g,o,none⟩ n).run P w2 = .ok vs w2:=by
 have key:∀ (cs:List PV) (o:Nat),(∀ j c,cs[j]?=some c->∃ v,w.cell? ⟨g,o+j,none⟩=some v/\c.Is w I β v)->∃ l:List Value,a_ w I cs β l/\∀ j v,l[j]?=some v->w.cell? ⟨g,o+j,none⟩=some v:=by
  intro cs
  induction cs with
  | nil=>intro o _; exact⟨[],by simp only[a_],fun j v h=>by simp at h⟩
  | cons a cs ih =>
   intro o hc
   obtain⟨v,hv,hi⟩:=hc 0 a rfl
   obtain⟨l,h1,h2⟩:=ih (o+1) fun j x hx=>by
    obtain⟨u,hu,hui⟩:=hc (j+1) x (by simpa using hx)
    exact⟨u,by rw[show o+1+j=o+(j+1) by omega]; exact hu,hui⟩
   refine⟨v::l,by simp only[a_]; exact⟨hi,h1⟩,fun j u hu=>?_⟩
   cases j with
   | zero=>simp at hu; subst hu; exact hv
   | succ j=>rw[show o+(j+1)=o+1+j by omega]; exact h2 j u (by simpa using hu)
 obtain⟨l,h1,h2⟩:=key cs o hc
 refine⟨l.toArray,by simpa using h1,fun w2 tg=>?_⟩
 have Zb:=h1.length
 rw[show n=l.length by omega]
 exact run_loadCells_list w2 _ l fun j v hv=>by rw[Ev.gk]; exact (World.cell?_of_block (a:=⟨g,o+j,none⟩) tg).trans (h2 j v hv)
theorem iE (hO:Ev.eM cx) {t:TypeId} {cs:List PV} {off g o:Nat} {q:PV->Prop} (h:part cx t cs off q) (hc:∀ j c,cs[j]?=some c->∃ v,w.cell? ⟨g,o+j,none⟩=some v/\c.Is w I β v) :
  ∃ x v,q x/\x.Is w I β v/\∀ w2:World,w2.heap[g]?=w.heap[g]?->(Instr.loadAt t (.pointer (some ⟨g,o+off,none⟩))).run cx.P w2 = .ok v w2:=by
 replace h:=aq h
 obtain⟨x,hx,h⟩:=h
 replace h:=xu h
 unfold nQ at hx
 split at hx
 ·rename_i n ha hn
  split at hx
  ·rename_i hle
   have RB:off+n<=cs.length:=Nat.le_of_ble_eq_true hle
   cases hx
   obtain⟨vs,g1,g2⟩:=te (P:=cx.P) (w:=w) (I:=I) (β:=β) (g:=g) (o:=o+off) (cs:=(cs.drop off).take n) (n:=n) (by simp; omega) (fun j x hx=>by
    rw[List.getElem?_take] at hx
    split at hx
    ·rw[List.getElem?_drop] at hx
     obtain⟨v,hv,hi⟩:=hc _ _ hx
     exact⟨v,by rw[Nat.add_assoc]; exact hv,hi⟩
    ·cases hx)
   exact⟨_,.agg vs,h,by simp only[PV.Is]; exact⟨vs,rfl,g1⟩,fun w2 tg=>by simp[Instr.loadAt,Instr.sureAddr,loadVar,Ev.gd hO ha,Ev.cV hO hn,g2 w2 tg]⟩
  ·cases hx
 ·rename_i ha
  obtain⟨v,hv,hi⟩:=hc _ _ hx
  refine⟨x,v,h,hi,fun w2 tg=>?_⟩
  have Wm:=(World.cell?_of_block (a:=⟨g,o+off,none⟩) tg).trans hv
  simp[Instr.loadAt,Instr.sureAddr,loadVar,Ev.gd hO ha,Wm]
 ·cases hx
end
section
variable {w w':World} {I I':Nat->Prop} {β aI:ax} {cx:Ev.Cx} {G:Gx} {P:Program} {s:aO} {a:Act} {st dc:List ak}
theorem Is.anywhere {x:PV} {v:Value} (h:x.Is w I (fun _=>none) v):x.Is w I β v:=PV.Is.mono (fun _ h=>h) (fun _ _=>rfl) x _ β v (fun _ _ _ h=>by cases h) h
theorem iF (h:aD I β st w) {l:Nat} {b:ak} {p:nN} {g o:Nat} (hb:st[l]?=some b) (hm:b.mem=true) (hp:β l=some p) (ha:p.a=some (g,o)) :
  ∃ arr ty fr,w.heap[g]?=some (.cells arr ty fr)/\aS w I β b.cs arr o/\Own I β st l g fr b:=by
 unfold ak.mem at hm
 simp only[Bool.and_eq_true] at hm
 obtain⟨q,hq,hk⟩:=h.fp l b hb hm.1
 rw[hp] at hq
 cases hq
 have uL:=hm.2
 split at hk
 ·obtain⟨g',o',arr,ty,fr,dJ,hh,hc,ho⟩:=hk
  rw[ha] at dJ; cases dJ; exact⟨arr,ty,fr,hh,hc,ho⟩
 ·obtain⟨g',arr,fr,dJ,hh,hc,ho,_⟩:=hk
  rw[ha] at dJ; cases dJ; exact⟨arr,_,fr,hh,hc,ho⟩
 ·rename_i fg; rw[fg] at uL; cases uL
 ·rename_i fg; rw[fg] at uL; cases uL
theorem aS.load {cs:List PV} {arr:Array Value} {g o:Nat} {ty:TypeId} {fr:Nat × Nat} (h:aS w I β cs arr o) (hh:w.heap[g]?=some (.cells arr ty fr)):∀ j c,cs[j]?=some c->∃ v,w.cell? ⟨g,o+j,none⟩=some v/\c.Is w I β v:=fun j c hc=>by
 obtain⟨v,hv,hi,_⟩:=h j c hc
 exact⟨v,by rw[Ev.dN hh]; exact hv,hi⟩
theorem cd.load {cs:List PV} {g o:Nat} (h:cd w I cs g o):∀ j c,cs[j]?=some c->∃ v,w.cell? ⟨g,o+j,none⟩=some v/\c.Is w I β v:=fun j c hc=>by
 obtain⟨v,hv,hi,_⟩:=h.get hc
 exact⟨v,hv,Is.anywhere hi⟩
theorem Dc (hO:Ev.eM cx) {t:TypeId} {g o:Nat} {v:Value} (ha:Ev.eL cx t=some false) (hc:w.cell? ⟨g,o,none⟩=some v):(Instr.loadAt t (.pointer (some ⟨g,o,none⟩))).run cx.P w = .ok v w:=by
 simp[Instr.loadAt,Instr.sureAddr,loadVar,Ev.gd hO ha,hc]
theorem po (hO:Ev.eM G.cx) (hh:aD I β st w) (hM:cL G I w) {t:TypeId} {x:PV} {u:Value} {q:PV->Prop} (h:rG G st t x q) (hx:x.Is w I β u) :
  ∃ z v g,q z/\z.Is w I β v/\(I g\/∃ l b p o,x.fp=some l/\st[l]?=some b/\b.live=true/\β l=some p/\p.a=some (g,o))/\∀ w2:World,w2.heap[g]?=w.heap[g]?->(Instr.loadAt t u).run G.cx.P w2 = .ok v w2:=by
 have idx:∀ {cs:List PV} {g o off n:Nat} {i:Int},(∀ j c,cs[j]?=some c->∃ v,w.cell? ⟨g,o+j,none⟩=some v/\c.Is w I β v) ->
   ((∃ m:Nat,i=m/\part G.cx t cs (off+m*n) q)\/(Ev.eL G.cx t=some false/\0<=i/\off+i.toNat*n < cs.length/\∀ c,cs[off+i.toNat*n]?=some c->q c))->∃ z v,q z/\z.Is w I β v/\∀ w2:World,w2.heap[g]?=w.heap[g]?->(Instr.loadAt t (.pointer (some ⟨g,o+(off+i.toNat*n),none⟩))).run G.cx.P w2 = .ok v w2:=by
  intro cs g o off n i hc h
  rcases h with ⟨m,rfl,h⟩|⟨ha,h0,bG,h⟩
  ·exact iE hO h hc
  ·obtain⟨v,hv,hi⟩:=hc _ _ (List.getElem?_eq_getElem bG)
   exact⟨_,v,h _ (List.getElem?_eq_getElem bG),hi,fun w2 tg=>Dc hO ha ((World.cell?_of_block (a:=⟨g,o+(off+i.toNat*n),none⟩) tg).trans hv)⟩
 unfold rG at h
 split at h<;>try simp only[PV.Is] at hx
 ·replace h:=aq h
  obtain⟨b,hb,h⟩:=h
  replace h:=aQ h
  obtain⟨hm,h⟩:=h
  obtain⟨p,g,o,hp,ha,rfl⟩:=hx
  obtain⟨arr,ty,fr,fS,hc,_⟩:=iF hh hb hm hp ha
  obtain⟨z,v,h1,h2,h3⟩:=iE hO h (hc.load fS)
  exact⟨z,v,g,h1,h2,.inr ⟨_,b,p,o,rfl,hb,by unfold ak.mem at hm; simp only[Bool.and_eq_true] at hm; exact hm.1,hp,ha⟩,h3⟩
 ·replace h:=aq h
  obtain⟨b,hb,h⟩:=h
  replace h:=aQ h
  obtain⟨hm,h⟩:=h
  obtain⟨p,g,o,hp,ha,rfl⟩:=hx
  obtain⟨arr,ty,fr,fS,hc,_⟩:=iF hh hb hm hp ha
  obtain⟨z,v,h1,h2,h3⟩:=idx (hc.load fS) h
  exact⟨z,v,g,h1,h2,.inr ⟨_,b,p,o,rfl,hb,by unfold ak.mem at hm; simp only[Bool.and_eq_true] at hm; exact hm.1,hp,ha⟩,h3⟩
 ·rename_i l i n off
  replace h:=aq h
  obtain⟨b,hb,h⟩:=h
  split at h
  ·rename_i hk
   replace h:=aQ h
   obtain⟨hc,α,l',enc,gU,hi,h⟩:=h
   simp only[Bool.and_eq_true] at hc
   have hn:b.size=n:=Nat.eq_of_beq_eq_true hc.2
   obtain⟨p,g,o,hp,ha,rfl⟩:=hx
   obtain⟨_,hlen,hle,_,lf⟩:=ct hh hb hc.1 hk hp
   rcases lf with ⟨dJ,_⟩|⟨g',arr,fr,dJ,_,fS,kN,_⟩
   ·rw[ha] at dJ; cases dJ
   ·rw[ha] at dJ
    cases dJ
    have he:b.cs[i]?=some (enc l'[i]):=by rw[gU,List.getElem?_map,List.getElem?_eq_getElem hi]; rfl
    have C':=kN.get he
    obtain⟨z,v,h1,h2,h3⟩:=iE (β:=β) hO (h _ (List.getElem?_eq_getElem hi)) (cd.load C'.2)
    rw[hn,Nat.add_assoc] at h3
    exact⟨z,v,g,h1,h2,.inr ⟨_,b,p,0,rfl,hb,hc.1,hp,ha⟩,h3⟩
  ·exact h.elim
 ·obtain⟨g,o,rfl,hg,hc⟩:=hx
  obtain⟨z,v,h1,h2,h3⟩:=iE (β:=β) hO h hc.load
  exact⟨z,v,g,h1,h2,.inl hg,h3⟩
 ·subst hx
  replace h:=aq h
  obtain⟨cs,gU,h⟩:=h
  obtain⟨hg,hc⟩:=hM.pd _ _ (Ev.jc gU)
  obtain⟨z,v,h1,h2,h3⟩:=iE (β:=β) hO h (cd.load hc)
  rw[Nat.zero_add] at h3
  exact⟨z,v,_,h1,h2,.inl hg,h3⟩
 ·subst hx
  replace h:=aq h
  obtain⟨cs,gU,h⟩:=h
  obtain⟨hg,hc⟩:=hM.pd _ _ (Ev.jc gU)
  obtain⟨z,v,h1,h2,h3⟩:=idx (cd.load hc) h
  rw[Nat.zero_add] at h3
  exact⟨z,v,_,h1,h2,.inl hg,h3⟩
 ·exact h.elim
theorem G3 {cs new r:List PV} {arr:Array Value} {o off:Nat} {vs:List Value} (h:CX cs new off=some r) (hc:aS w I β cs arr o) (hn:a_ w I new β vs) (h1:∀ v∈vs,v.oneCell'=true) (eI:o+off+vs.length<=arr.size) :
  aS w I β r (arr.toList.take (o+off)++vs++arr.toList.drop (o+off+vs.length)).toArray o:=by
 unfold CX at h
 split at h
 ·rename_i hle
  have hle:=Nat.le_of_ble_eq_true hle
  cases h
  intro j x hx
  have hl:=hn.length
  simp only[List.getElem?_toArray]
  have gf:(arr.toList.take (o+off)).length=o+off:=by simp; omega
  by_cases hj:j < off
  ·rw[List.append_assoc,List.getElem?_append_left (by simp; omega),List.getElem?_take,if_pos hj] at hx
   obtain⟨v,hv,hi,ho⟩:=hc j x hx
   refine⟨v,?_,hi,ho⟩
   rw[List.append_assoc,List.getElem?_append_left (by rw[gf]; omega),List.getElem?_take,if_pos (by omega)]
   simpa using hv
  ·by_cases xe:j < off+new.length
   ·rw[List.getElem?_append_left (by simp; omega),List.getElem?_append_right (by simp; omega)] at hx
    have ht:(cs.take off).length=off:=by simp; omega
    rw[ht] at hx
    obtain⟨v,hv,hi⟩:=hn.get hx
    refine⟨v,?_,hi,h1 v (List.mem_of_getElem? hv)⟩
    rw[List.getElem?_append_left (by simp; omega),List.getElem?_append_right (by rw[gf]; omega),gf,show o+j - (o+off)=j - off by omega]
    exact hv
   ·rw[List.getElem?_append_right (by simp; omega),List.getElem?_drop] at hx
    have ht:(cs.take off++new).length=off+new.length:=by simp; omega
    rw[ht,show off+new.length+(j - (off+new.length))=j by omega] at hx
    obtain⟨v,hv,hi,ho⟩:=hc j x hx
    refine⟨v,?_,hi,ho⟩
    have h2:(arr.toList.take (o+off)++vs).length=o+off+vs.length:=by simp; omega
    rw[List.getElem?_append_right (by rw[h2]; omega),h2,List.getElem?_drop,show o+off+vs.length+(o+j - (o+off+vs.length))=o+j by omega]
    simpa using hv
 ·cases h
theorem lW (b:ak) (cs:List PV):(b.eO cs).k=b.k/\(b.eO cs).ty=b.ty/\(b.eO cs).size=b.size/\(b.eO cs).m=b.m/\(b.eO cs).live=b.live/\(b.eO cs).cs=cs:=by
 cases b; exact⟨rfl,rfl,rfl,rfl,rfl,rfl⟩
theorem pq {b:ak} (h:b.can=true):b.live=true/\b.m = .w:=by
 unfold ak.can at h
 simp only[Bool.and_eq_true] at h
 refine⟨h.1,?_⟩
 have:=h.2
 cases hm:b.m<;>rw[hm] at this<;>first|rfl|cases this
theorem G4 {v:PV} {u:Value} (he:v.elem=true) (h:v.Is w I β u):(∀ ts,v≠.tup ts)/\∀ (j:Nat) (c:PV),v.cells[j]?=some c->∃ y,u.cells.toList[j]?=some y/\c.Is w I (fun _=>none) y/\y.oneCell'=true:=by
 have nr:∀ {c:PV} {y:Value},c.rH=true->c.Is w I β y->c.Is w I (fun _=>none) y/\y.oneCell'=true:=fun hc hi=>by
  refine⟨?_,lN (hi.flat (by rename_i c _; cases c<;>first|rfl|cases hc))⟩
  refine PV.Is.mono (fun _ h=>h) (fun _ _=>rfl) _ β _ _ (fun l p hl=>?_) hi
  rename_i c _
  cases c<;>simp_all [PV.cr,PV.rH]
 have za:∀ ts,v≠.tup ts:=fun ts e=>by subst e; cases he
 refine⟨za,fun j c hc=>?_⟩
 obtain⟨y,hy,hi⟩:=(h.jM za).get hc
 refine⟨y,hy,nr ?_ hi⟩
 cases v with
 | agg cs =>
  simp only[PV.elem,List.all_eq_true] at he
  exact he c (List.mem_of_getElem? hc)
 | _ =>
  simp only[PV.cells] at hc
  cases j with
  | zero=>simp at hc; subst hc; exact he
  | succ j=>simp at hc
theorem G5 {x:PV} {y:Value} (za:∀ ts,x≠.tup ts) (h:x.Is w I β y) (h1:∀ c∈x.cells,c.jL=true):∀ z∈y.cells.toList,z.oneCell'=true:=by
 intro z hz
 obtain⟨k,hk,hkz⟩:=List.getElem_of_mem hz
 have hl:=(h.jM za).length
 have fg:k < x.cells.length:=by omega
 obtain⟨z',Zc,KT⟩:=(h.jM za).get (List.getElem?_eq_getElem fg)
 rw[List.getElem?_eq_getElem hk,hkz] at Zc
 cases Zc
 exact lN (KT.flat (h1 _ (List.getElem_mem fg)))
end
structure oS (G:Gx):Prop where
 ok:Ev.eM G.cx
 bm:∀ p∈G.bt,∃ i,G.cx.P.info? p.1=some i/\i.bytes=p.2
section
variable {w w':World} {I I':Nat->Prop} {β aI:ax} {cx:Ev.Cx} {G:Gx} {P:Program} {s:aO} {a:Act} {st dc:List ak}
theorem aO.iG (s:aO) (st:List ak):(s.store st).n=s.n/\(s.store st).t=s.t/\(s.store st).st=st/\(s.store st).base=s.base/\(s.store st).rl=s.rl:=by
 cases s; exact⟨rfl,rfl,rfl,rfl,rfl⟩
theorem Rel.grow (hR:Rel G I β s a w) (hh:aD I' aI dc w') (he:Ext I β s.st w I' aI dc w') (lg:∀ l p,β l=some p->aI l=some p) (hl:s.st.length<=dc.length) (hI:∀ g,I' g->g < w'.heap.size):Rel G I' aI (s.store dc) a w':=by
 obtain⟨e1,e2,e3,e4,e5⟩:=aO.iG s dc
 exact⟨by rw[e1]; exact hR.small,hR.defers,by rw[e1]; exact hR.size,by rw[e4,e3]; exact Nat.le_trans hR.base hl,fun t x ht=>by
  rw[e2] at ht
  obtain⟨v,hv,hi⟩:=hR.get t x ht
  exact⟨v,hv,PV.Is.mono he.aw (he.keeps hR.heap hR.aw.aw) x β aI v (fun l p _=>lg l p) hi⟩,by rw[e3]; exact hh,hR.aw.ext hR.heap he hI⟩
theorem cf.mk' (hR:Rel G I β s a w) {q:PV->aO->Prop} {x:PV} {v:Value} (h:q x (s.store dc)) (hh:aD I aI dc w') (he:Ext I β s.st w I aI dc w') (lg:∀ l p,β l=some p->aI l=some p) (hl:s.st.length<=dc.length) (fT:∀ l,l < s.st.length->aI l=β l)
  (hx:x.Is w' I aI v):cf G s I β w a q v w':=by
 obtain⟨e1,e2,e3,e4,e5⟩:=aO.iG s dc
 exact⟨x,_,I,aI,h,hR.grow hh he lg hl (fun g hg=>Nat.lt_of_lt_of_le (hR.aw.aw g hg) he.size),hx,by rw[e3]; exact he,e4,e5,e1,fun l iz _=>fT l (Nat.lt_of_lt_of_le iz hR.base),fun l b hb _=>fT l (List.getElem?_eq_some_iff.1 hb).1⟩
theorem cf.same (hR:Rel G I β s a w) {q:PV->aO->Prop} {x:PV} {v:Value} (h:q x s) (hx:x.Is w I β v):cf G s I β w a q v w :=
 ⟨x,s,I,β,h,hR,hx,Ext.refl,rfl,rfl,rfl,fun _ _ _=>rfl,fun _ _ _ _=>rfl⟩
theorem m7 {i:Int} {v:PV} {off m k:Nat}:∀ {cs r:List PV} {p:Nat},lQ i v off m k p cs=some r->∀ (j:Nat) (c:PV),r[j]?=some c->∃ c0,cs[j]?=some c0 /\
  ((¬ (off<=p+j/\p+j < off+k*m/\(p+j - off) % m=0)/\c=c0)\/((off<=p+j/\p+j < off+k*m/\(p+j - off) % m=0)/\mix (i=(((p+j - off) / m:Nat):Int)) v c0=some c))
 | [],r,p,h,j,c,hj=>by simp only[lQ,Option.some.injEq] at h; subst h; simp at hj
 | x::cs,r,p,h,j,c,hj=>by
  unfold lQ at h
  cases hc:(Nat.ble off p && Nat.blt p (off+k*m) && Nat.beq ((p - off) % m) 0) with
  | true =>
   rw[hc,cond_true] at h
   split at h
   ·rename_i y l hy hl
    cases h
    simp only[Bool.and_eq_true] at hc
    have c1:=Nat.le_of_ble_eq_true hc.1.1
    have c2:p < off+k*m:=Nat.le_of_ble_eq_true hc.1.2
    have c3:=Nat.eq_of_beq_eq_true hc.2
    cases j with
    | zero=>simp only[List.getElem?_cons_zero,Option.some.injEq] at hj; subst hj; exact⟨x,rfl,.inr ⟨⟨c1,c2,c3⟩,hy⟩⟩
    | succ j =>
     obtain⟨c0,h0,h1⟩:=m7 hl j c hj
     rw[show p+1+j=p+(j+1) by omega] at h1
     exact⟨c0,h0,h1⟩
   ·cases h
  | false =>
   rw[hc,cond_false] at h
   split at h
   ·rename_i l hl
    cases h
    cases j with
    | zero =>
     simp only[List.getElem?_cons_zero,Option.some.injEq] at hj; subst hj
     refine⟨x,rfl,.inl ⟨fun ⟨a1,a2,a3⟩=>?_,rfl⟩⟩
     have:(Nat.ble off p && Nat.blt p (off+k*m) && Nat.beq ((p - off) % m) 0)=true:=by
      simp only[Bool.and_eq_true]
      exact⟨⟨Nat.ble_eq_true_of_le a1,Nat.ble_eq_true_of_le a2⟩,by rw[show (p - off) % m=0 from a3]; rfl⟩
     rw[hc] at this; cases this
    | succ j =>
     obtain⟨c0,h0,h1⟩:=m7 hl j c hj
     rw[show p+1+j=p+(j+1) by omega] at h1
     exact⟨c0,h0,h1⟩
   ·cases h
theorem m8 {i:Int} {v:PV} {off m k:Nat}:∀ {cs r:List PV} {p:Nat},lQ i v off m k p cs=some r->r.length=cs.length
 | [],r,p,h=>by simp only[lQ,Option.some.injEq] at h; subst h; rfl
 | x::cs,r,p,h=>by
  unfold lQ at h
  cases hc:(Nat.ble off p && Nat.blt p (off+k*m) && Nat.beq ((p - off) % m) 0) with
  | true =>
   rw[hc,cond_true] at h
   split at h
   ·rename_i y l hy hl
    cases h; rw[List.length_cons,List.length_cons,m8 hl]
   ·cases h
  | false =>
   rw[hc,cond_false] at h
   split at h
   ·rename_i l hl
    cases h; rw[List.length_cons,List.length_cons,m8 hl]
   ·cases h
theorem Dd {p:Prop} [Decidable p] {x c z:PV} (h:mix p x c=some z):∃ k a b,z = .int k (if p then a else b)/\(x = .int k a\/x = .lit k a)/\(c = .int k b\/c = .lit k b):=by
 have key:∀ (k l:IntKind) (a b:Int),(if decide (k=l)=true then some (PV.int k (if p then a else b)) else none)=some z->k=l/\z = .int k (if p then a else b):=fun k l a b h=>by
  by_cases hk:k=l
  ·rw[if_pos (decide_eq_true hk)] at h; exact⟨hk,(Option.some.inj h).symm⟩
  ·rw[if_neg (by simp[hk])] at h; cases h
 cases x<;>first
  | (cases h; done)
  | (cases c<;>first
    | (cases h; done)
    | (obtain⟨rfl,rfl⟩:=key _ _ _ _ h
       exact⟨_,_,_,rfl,by simp,by simp⟩))
theorem G6 {p:Prop} [Decidable p] {x c z:PV} {u:Value} (h:mix p x c=some z) (hp:p) (hx:a_ w I x.cells β [u]):z.Is w I β u:=by
 obtain⟨k,a,b,rfl,h1,_⟩:=Dd h
 rcases h1 with rfl|rfl
 ·simp only[PV.cells,a_,PV.Is,and_true] at hx ⊢
  rw[if_pos hp]; exact hx
 ·simp only[PV.cells,a_,PV.Is,and_true] at hx ⊢
  rw[if_pos hp]; exact hx
theorem G7 {p:Prop} [Decidable p] {x c z:PV} {u:Value} (h:mix p x c=some z) (hp:¬ p) (hc:c.Is w I β u):z.Is w I β u:=by
 obtain⟨k,a,b,rfl,_,h1⟩:=Dd h
 rcases h1 with rfl|rfl
 ·simp only[PV.Is] at hc ⊢
  rw[if_neg hp]; exact hc
 ·simp only[PV.Is] at hc ⊢
  rw[if_neg hp]; exact hc
theorem Ax (hG:oS G) (hR:Rel G I β s a w) {t:TypeId} {x v:PV} {u y:Value} {q:PV->aO->Prop} (h:CY G s.st t x v fun st=>q (.tup []) (s.store st)) (hx:x.Is w I β u) (hv:v.Is w I β y) :
  ∃ w',(Instr.storeAt t u y).run G.cx.P w = .ok () w'/\cf G s I β w a q undef w':=by
 have hh:=hR.heap
 replace h:=aq h
 obtain⟨n,hn,h⟩:=h
 replace h:=aQ h
 obtain⟨hc,h⟩:=h
 simp only[Bool.and_eq_true,List.all_eq_true] at hc
 obtain⟨⟨Wn,kG⟩,Vr⟩:=hc
 have hvn:v.cells.length=n:=Nat.eq_of_beq_eq_true Wn
 have jy:0 < n:=Nat.le_of_ble_eq_true kG
 have za:∀ ts,v≠.tup ts:=fun ts e=>by subst e; exact h.elim
 have Zd:=hv.jM za
 have Gs:=Zd.length
 simp only[Array.length_toList] at Gs
 have KU:=G5 za hv Vr
 have bx:∀ {g o:Nat} {arr:Array Value} {ty:TypeId},w.heap[g]?=some (.cells arr ty (0,0))->o+y.cells.toList.length<=arr.size ->
   (Instr.storeAt t (.pointer (some ⟨g,o,none⟩)) y).run G.cx.P w = .ok () (w.setRow g (arr.toList.take o++y.cells.toList++arr.toList.drop (o+y.cells.toList.length)).toArray):=fun {g o arr ty} fS eI=>by
  have:=run_storeCells_at (P:=G.cx.P) g o ty y.cells.toList 0 arr w fS (by simpa using eI) KU
  simp only[Instr.storeAt,Instr.sureAddr,storeVar,Sem.run_bind,Sem.run_pure,Result.andThen_ok,Ev.cV hG.ok hn]
  rw[if_neg (by omega)]
  simpa using this
 split at h
 ·exact h.elim
 ·split at h<;>try simp only[PV.Is] at hx
  ·rename_i l off
   replace h:=aq h
   obtain⟨b,hb,h⟩:=h
   replace h:=aQ h
   obtain⟨JI,h⟩:=h
   simp only[Bool.and_eq_true] at JI
   obtain⟨je,qR⟩:=JI
   obtain⟨az,hm⟩:=pq qR
   replace h:=aq h
   obtain⟨cs,gU,h⟩:=h
   replace h:=jd (bP h)
   obtain⟨bG,h⟩:=h
   obtain⟨p,g,o,hp,ha,rfl⟩:=hx
   obtain⟨arr,ty,fr,fS,oT,dd⟩:=iF hh hb je hp ha
   have xA:fr=(0,0):=(dd.1 (by rw[hm]; decide)).1
   subst xA
   have hle:off+v.cells.length<=b.cs.length:=by
    unfold CX at gU
    split at gU
    ·rename_i hle; exact Nat.le_of_ble_eq_true hle
    ·cases gU
   have eI:o+off+y.cells.toList.length<=arr.size:=by
    obtain⟨z,hz,_⟩:=oT _ _ (List.getElem?_eq_getElem (show off+n - 1 < b.cs.length by omega))
    have:=(Array.getElem?_eq_some_iff.1 hz).1
    simp only[Array.length_toList]
    omega
   obtain⟨k1,k2,k3,k4,k5,k6⟩:=lW b cs
   have JJ:cs.length=b.cs.length:=by
    unfold CX at gU
    split at gU
    ·cases gU; simp only[List.length_append,List.length_take,List.length_drop]; omega
    ·cases gU
   have KV:((arr.toList.take (o+off)++y.cells.toList++arr.toList.drop (o+off+y.cells.toList.length)).toArray).size=arr.size:=by
    simp only[List.size_toArray,List.length_append,List.length_take,List.length_drop,Array.length_toList]
    simp only[Array.length_toList] at eI
    omega
   have De:=G3 gU oT Zd KU eI
   obtain⟨hH,hE⟩:=hh.write (b':=b.eO cs) hb az hm hp ha fS (by rw[k5]; exact az) (by rw[k4]; exact hm) (arr':=(arr.toList.take (o+off)++y.cells.toList++arr.toList.drop (o+off+y.cells.toList.length)).toArray) (fun hI hO=>by
    have pr:=setRow_heap w g arr (arr.toList.take (o+off)++y.cells.toList++arr.toList.drop (o+off+y.cells.toList.length)).toArray ty (0,0) fS
    obtain⟨q',G8,hk⟩:=hh.fp l b hb az
    rw[hp] at G8
    cases G8
    refine⟨p,hp,?_⟩
    rw[k1]
    unfold ak.mem at je
    split at hk
    ·rename_i bS
     refine⟨g,o,_,ty,(0,0),ha,pr,?_,hO⟩
     rw[k6]; exact De.mono (fun _ h=>h) hI (fun _ _ h=>h)
    ·rename_i bS
     obtain⟨g',arr',Ze,dJ,RC,_,_,h1,h2,h3,h4,h5⟩:=hk
     rw[ha] at dJ; cases dJ
     rw[fS] at RC; cases RC
     refine⟨g,_,(0,0),ha,by rw[k2]; exact pr,?_,hO,by rw[k6,k3,JJ]; exact h1,h2,h3,by rw[k3,KV]; exact h4,by rw[k3]; exact h5⟩
     rw[k6]; exact De.mono (fun _ h=>h) hI (fun _ _ h=>h)
    ·rename_i bS
     rw[bS] at je; simp at je
    ·rename_i bS
     rw[bS] at je; simp at je)
   refine⟨_,bx fS eI,cf.mk' hR h hH hE (fun _ _ h=>h) (by simp) (fun _ _=>rfl) ?_⟩
   simp only[PV.Is]; exact⟨#[],rfl,by simp only[a_]⟩
  ·rename_i l i m off
   replace h:=aq h
   obtain⟨b,hb,h⟩:=h
   split at h
   ·rename_i hk
    replace h:=aQ h
    obtain⟨JI,hi,h⟩:=h
    simp only[Bool.and_eq_true] at JI
    obtain⟨⟨⟨⟨qR,pt⟩,Gt⟩,qS⟩,C'⟩:=JI
    obtain⟨az,hm⟩:=pq qR
    obtain⟨u,hu⟩:∃ u,v.norm=u:=⟨_,rfl⟩
    rw[hu] at h
    have Wm:u.Is w I β y:=by rw[← hu]; cases v<;>first|exact hv|(simp only[PV.norm,PV.Is] at hv ⊢; exact hv)
    have KW:u.elem=true:=by rw[← hu]; cases v<;>first|exact C'|rfl
    have Wo:u.cells.length=n:=by rw[← hu,← hvn]; cases v<;>rfl
    have pt:=Nat.eq_of_beq_eq_true pt
    have Gt:=Nat.eq_of_beq_eq_true Gt
    have qS:=Nat.eq_of_beq_eq_true qS
    replace h:=jd h
    obtain⟨bG,h⟩:=h
    obtain⟨p,g,o,hp,ha,rfl⟩:=hx
    obtain⟨Gr,hlen,hle,pn,lf⟩:=ct hh hb az hk hp
    rcases lf with ⟨dJ,_⟩|⟨g',arr,fr,dJ,_,fS,kN,dd,has⟩
    ·rw[ha] at dJ; cases dJ
    ·rw[ha] at dJ
     cases dJ
     have xA:fr=(0,0):=(dd.1 (by rw[hm]; decide)).1
     subst xA
     have Df:i*n+n<=p.cap*n:=by rw[← Nat.succ_mul]; exact Nat.mul_le_mul_right _ (by omega)
     have eI:0+(i*m+off)+y.cells.toList.length<=arr.size:=by simp only[Array.length_toList]; rw[has,pt,Gt,qS]; omega
     obtain⟨k1,k2,k3,k4,k5,k6⟩:=lW b (b.cs.set i u)
     obtain⟨_,lh⟩:=G4 KW Wm
     have KV:((arr.toList.take (0+(i*m+off))++y.cells.toList++arr.toList.drop (0+(i*m+off)+y.cells.toList.length)).toArray).size=arr.size:=by
      simp only[List.size_toArray,List.length_append,List.length_take,List.length_drop,Array.length_toList]
      simp only[Array.length_toList] at eI
      omega
     obtain⟨hH,hE⟩:=hh.write (b':=b.eO (b.cs.set i u)) hb az hm hp ha fS (by rw[k5]; exact az) (by rw[k4]; exact hm) (arr':=(arr.toList.take (0+(i*m+off))++y.cells.toList++arr.toList.drop (0+(i*m+off)+y.cells.toList.length)).toArray) (fun hI hO=>by
      have pr:=setRow_heap w g arr (arr.toList.take (0+(i*m+off))++y.cells.toList++arr.toList.drop (0+(i*m+off)+y.cells.toList.length)).toArray b.ty (0,0) fS
      refine⟨p,hp,?_⟩
      rw[k1,hk]
      refine⟨⟨by rw[k3]; exact Gr,by rw[k6,List.length_set]; exact hlen,hle,pn⟩,.inr ⟨g,_,(0,0),ha,by rw[k2]; exact pr,?_,hO,by rw[KV,k3]; exact has⟩⟩
      rw[k6,k3]
      have gf:(arr.toList.take (0+(i*m+off))).length=0+(i*m+off):=by rw[List.length_take]; simp only[Array.length_toList] at eI ⊢; omega
      refine bE.of fun j e he=>?_
      by_cases hj:j=i
      ·subst hj
       rw[List.getElem?_set_self hi] at he
       cases he
       refine⟨by rw[Wo,pt],cd.of fun j2 c kG=>?_⟩
       obtain⟨z,hz,KT,Co⟩:=lh j2 c kG
       have th:=(List.getElem?_eq_some_iff.1 hz).1
       refine⟨z,?_,PV.Is.mono (fun _ h=>h) hI c _ _ z (fun _ _ _ h=>h) KT,Co⟩
       rw[Ev.dN pr]
       simp only[List.getElem?_toArray]
       rw[List.getElem?_append_left (by rw[List.length_append,gf]; rw[pt,Gt,qS]; omega),List.getElem?_append_right (by rw[gf,pt,Gt,qS]; omega),gf,show 0+j*b.size+j2 - (0+(j*m+off))=j2 by rw[pt,Gt,qS]; omega]
       exact hz
      ·rw[List.getElem?_set_ne (fun e=>hj e.symm)] at he
       obtain⟨Wp,KW⟩:=kN.get he
       refine⟨Wp,cd.of fun j2 c kG=>?_⟩
       obtain⟨z,hz,KT,Co⟩:=KW.get kG
       refine⟨z,?_,PV.Is.mono (fun _ h=>h) hI c _ _ z (fun _ _ _ h=>h) KT,Co⟩
       rw[Ev.dN pr]
       rw[Ev.dN fS] at hz
       simp only[List.getElem?_toArray]
       have xe:j2 < n:=by have:=(List.getElem?_eq_some_iff.1 kG).1; omega
       rcases Nat.lt_or_ge j i with Cp|Cp
       ·have:j*n+n<=i*n:=by rw[← Nat.succ_mul]; exact Nat.mul_le_mul_right _ (by omega)
        rw[List.append_assoc,List.getElem?_append_left (by rw[gf,pt,Gt,qS]; omega),List.getElem?_take,if_pos (by rw[pt,Gt,qS]; omega)]
        simpa using hz
       ·have:i*n+n<=j*n:=by rw[← Nat.succ_mul]; exact Nat.mul_le_mul_right _ (by omega)
        have h2:(arr.toList.take (0+(i*m+off))++y.cells.toList).length=0+(i*m+off)+y.cells.toList.length:=by rw[List.length_append,gf]
        have RD:y.cells.toList.length=n:=by simp only[Array.length_toList]; omega
        rw[List.getElem?_append_right (by rw[h2,RD,pt,Gt,qS]; omega),h2,List.getElem?_drop,show 0+(i*m+off)+y.cells.toList.length+(0+j*b.size+j2 - (0+(i*m+off)+y.cells.toList.length))=0+j*b.size+j2 by rw[RD,pt,Gt,qS]; omega]
        simpa using hz)
     refine⟨_,bx fS eI,cf.mk' hR h hH hE (fun _ _ h=>h) (by simp) (fun _ _=>rfl) ?_⟩
     simp only[PV.Is]; exact⟨#[],rfl,by simp only[a_]⟩
   ·exact h.elim
  ·rename_i l off i m
   replace h:=aq h
   obtain⟨b,hb,h⟩:=h
   replace h:=aQ h
   obtain⟨JI,k,hi0,hik,h⟩:=h
   simp only[Bool.and_eq_true] at JI
   obtain⟨⟨⟨je,qR⟩,sY⟩,oA⟩:=JI
   have sY:=Nat.eq_of_beq_eq_true sY
   have oA:0 < m:=Nat.le_of_ble_eq_true oA
   obtain⟨az,hm⟩:=pq qR
   replace h:=aq h
   obtain⟨cs,gU,h⟩:=h
   replace h:=bP h
   obtain⟨JK,h⟩:=h
   replace h:=jd h
   obtain⟨bG,h⟩:=h
   obtain⟨p,g,o,hp,ha,rfl⟩:=hx
   obtain⟨arr,ty,fr,fS,oT,dd⟩:=iF hh hb je hp ha
   have xA:fr=(0,0):=(dd.1 (by rw[hm]; decide)).1
   subst xA
   have JL:y.cells.toList.length=1:=by simp only[Array.length_toList]; omega
   obtain⟨z0,QQ⟩:∃ z0,y.cells.toList = [z0]:=List.length_eq_one_iff.1 JL
   have Co:z0.oneCell'=true:=KU z0 (by rw[QQ]; simp)
   have eI:o+(off+i.toNat*m)+y.cells.toList.length<=arr.size:=by
    obtain⟨z,hz,_⟩:=oT _ _ (List.getElem?_eq_getElem JK)
    have:=(Array.getElem?_eq_some_iff.1 hz).1
    omega
   obtain⟨k1,k2,k3,k4,k5,k6⟩:=lW b cs
   have JJ:cs.length=b.cs.length:=m8 gU
   have KV:((arr.toList.take (o+(off+i.toNat*m))++y.cells.toList++arr.toList.drop (o+(off+i.toNat*m)+y.cells.toList.length)).toArray).size=arr.size:=by
    simp only[List.size_toArray,List.length_append,List.length_take,List.length_drop,Array.length_toList]
    simp only[Array.length_toList] at eI
    omega
   have De:aS w I β cs (arr.toList.take (o+(off+i.toNat*m))++y.cells.toList++arr.toList.drop (o+(off+i.toNat*m)+y.cells.toList.length)).toArray o:=by
    intro j c hj
    have gf:(arr.toList.take (o+(off+i.toNat*m))).length=o+(off+i.toNat*m):=by rw[List.length_take,Array.length_toList]; omega
    obtain⟨c0,pk,lf⟩:=m7 gU j c hj
    rw[Nat.zero_add] at lf
    obtain⟨v0,hv0,RE,RF⟩:=oT j c0 pk
    simp only[List.getElem?_toArray]
    rw[QQ] at eI ⊢
    by_cases Zf:j=off+i.toNat*m
    ·subst Zf
     rcases lf with ⟨hn,_⟩|⟨_,G9⟩
     ·exfalso
      apply hn
      refine⟨by omega,?_,by rw[show off+i.toNat*m - off=i.toNat*m by omega]; exact Nat.mul_mod_left _ _⟩
      have:i.toNat < k:=by omega
      have:i.toNat*m < k*m:=Nat.mul_lt_mul_of_pos_right this oA
      omega
     ·rw[show off+i.toNat*m - off=i.toNat*m by omega,Nat.mul_div_cancel _ oA] at G9
      refine⟨z0,?_,G6 G9 (by omega) ?_,Co⟩
      ·rw[List.getElem?_append_left (by rw[List.length_append,gf]; simp),List.getElem?_append_right (by rw[gf]; omega),gf,Nat.sub_self]; rfl
      ·have Zg:=hv.jM za
       rw[QQ] at Zg
       exact Zg
    ·have pv:(arr.toList.take (o+(off+i.toNat*m))++[z0]++arr.toList.drop (o+(off+i.toNat*m) + [z0].length))[o+j]?=arr[o+j]?:=by
      rcases Nat.lt_or_ge j (off+i.toNat*m) with QO|QO
      ·rw[List.append_assoc,List.getElem?_append_left (by rw[gf]; omega),List.getElem?_take,if_pos (by omega)]; simp
      ·rw[List.getElem?_append_right (by rw[List.length_append,gf]; simp; omega),List.length_append,gf,List.getElem?_drop]
       simp only[List.length_cons,List.length_nil]
       rw[show o+(off+i.toNat*m)+(0+1)+(o+j - (o+(off+i.toNat*m)+(0+1)))=o+j by omega]; simp
     refine⟨v0,pv.trans hv0,?_,RF⟩
     rcases lf with ⟨_,rfl⟩|⟨⟨q1,q2,q3⟩,G9⟩
     ·exact RE
     ·refine G7 G9 (fun e=>Zf ?_) RE
      have e2:i.toNat=(j - off) / m:=by omega
      have e3:=Nat.div_add_mod (j - off) m
      rw[q3,← e2,Nat.mul_comm] at e3
      omega
   obtain⟨hH,hE⟩:=hh.write (b':=b.eO cs) hb az hm hp ha fS (by rw[k5]; exact az) (by rw[k4]; exact hm) (arr':=(arr.toList.take (o+(off+i.toNat*m))++y.cells.toList++arr.toList.drop (o+(off+i.toNat*m)+y.cells.toList.length)).toArray) (fun hI hO=>by
    have pr:=setRow_heap w g arr (arr.toList.take (o+(off+i.toNat*m))++y.cells.toList++arr.toList.drop (o+(off+i.toNat*m)+y.cells.toList.length)).toArray ty (0,0) fS
    obtain⟨q',G8,hk⟩:=hh.fp l b hb az
    rw[hp] at G8
    cases G8
    refine⟨p,hp,?_⟩
    rw[k1]
    unfold ak.mem at je
    split at hk
    ·rename_i bS
     refine⟨g,o,_,ty,(0,0),ha,pr,?_,hO⟩
     rw[k6]; exact De.mono (fun _ h=>h) hI (fun _ _ h=>h)
    ·rename_i bS
     obtain⟨g',arr',Ze,dJ,RC,_,_,h1,h2,h3,h4,h5⟩:=hk
     rw[ha] at dJ; cases dJ
     rw[fS] at RC; cases RC
     refine⟨g,_,(0,0),ha,by rw[k2]; exact pr,?_,hO,by rw[k6,k3,JJ]; exact h1,h2,h3,by rw[k3,KV]; exact h4,by rw[k3]; exact h5⟩
     rw[k6]; exact De.mono (fun _ h=>h) hI (fun _ _ h=>h)
    ·rename_i bS
     rw[bS] at je; simp at je
    ·rename_i bS
     rw[bS] at je; simp at je)
   refine⟨_,bx fS eI,cf.mk' hR h hH hE (fun _ _ h=>h) (by simp) (fun _ _=>rfl) ?_⟩
   simp only[PV.Is]; exact⟨#[],rfl,by simp only[a_]⟩
  ·exact h.elim
theorem aS.new {cs:List PV} {vs:Array Value} (h:a_ w I cs β vs.toList) (h1:∀ c∈cs,c.jL=true):aS w I β cs vs 0:=fun i c hc=>by
 obtain⟨v,hv,hi⟩:=h.get hc
 exact⟨v,by simpa using hv,hi,lN (hi.flat (h1 c (List.mem_of_getElem? hc)))⟩
theorem jQ (hh:aD I β st w) (hI:∀ g,I g->g < w.heap.size) (o:Obj):∀ g,iD β st g\/I g->(w.alloc o).heap[g]?=w.heap[g]?:=fun g hg=>Ev.uC w o g (hg.elim hh.cM (hI g))
theorem rN (hh:aD I β st w) (hI:∀ g,I g->g < w.heap.size) {vs:Array Value} {t:TypeId} {b:ak} {p:nN} (hp:p.a=some (w.heap.size,0))
  (hb:Own I (β.set st.length p) (st++[b]) st.length w.heap.size (0,0) b->fD I (β.set st.length p) (st++[b]) (w.alloc (.cells vs t)) st.length b) (hm:b.m = .w) :
  aD I (β.set st.length p) (st++[b]) (w.alloc (.cells vs t))/\Ext I β st w I (β.set st.length p) (st++[b]) (w.alloc (.cells vs t)):=by
 have eu:∀ g o,p.a=some (g,o)->¬ I g/\¬ iD β st g:=fun g o ha=>by
  rw[hp] at ha; cases ha
  exact⟨fun h=>by have:=hI _ h; omega,fun h=>by have:=hh.cM h; omega⟩
 refine⟨hh.add (jQ hh hI _) eu (hb ⟨fun _=>⟨rfl,(eu _ _ hp).1,fun l' b' bZ iz eg p' g' o' dk dJ e=>?_⟩,fun hr=>by rw[hm] at hr; cases hr⟩),Ext.add (w':=w.alloc (.cells vs t)) hh rfl rfl rfl (by simp) (fun g hg _=>Ev.uC w _ g hg) fun g o ha bG=>by rw[hp] at ha; cases ha; omega⟩
 subst e
 unfold ax.set at dk
 rw[if_neg bZ] at dk
 have:=hh.lt dk
 rw[List.getElem?_append_left this] at iz
 exact (eu _ _ hp).2 ⟨l',b',p',o',iz,eg,dk,dJ⟩
theorem zc (hR:Rel G I β s a w) {t t':TypeId} {cs:List PV} {vs:Array Value} {q:PV->aO->Prop} (h:KE s ⟨.loc,t,1,.w,true,cs⟩ q) (hc:a_ w I cs β vs.toList) (h1:∀ c∈cs,c.jL=true):cf G s I β w a q (.pointer (some ⟨w.heap.size,0,none⟩)) (w.alloc (.cells vs t')):=by
 replace h:=lU (gW h)
 rw[Nat.zero_add] at h
 have xB:=ax.jP hR.heap ⟨some (w.heap.size,0),0,0⟩
 obtain⟨hH,hE⟩:=rN (vs:=vs) (t:=t') hR.heap hR.aw.aw (b:=⟨.loc,t,1,.w,true,cs⟩) (p:=⟨some (w.heap.size,0),0,0⟩) rfl (fun ho =>
  ⟨_,ax.eP ..,w.heap.size,0,vs,t',(0,0),rfl,Ev.uD w _,(aS.new hc h1).mono (fun _ h=>h) (fun g hg=>jQ hR.heap hR.aw.aw _ g (.inr hg)) xB,ho⟩) rfl
 refine cf.mk' hR h hH hE xB (by simp) (fun l hl=>if_neg (by omega)) ?_
 simp only[PV.Is]; exact⟨_,w.heap.size,0,ax.eP ..,rfl,rfl⟩
theorem Dg (hR:Rel G I β s a w) {t:TypeId} {len n:Nat} {cs:List PV} {vs:Array Value} {q:PV->aO->Prop} (h:nS s ⟨.arr,t,n,.w,true,cs⟩ q) (hc:a_ w I cs β vs.toList) (h1:∀ c∈cs,c.jL=true) (hl:cs.length=len*n) (hn:0 < n) (hm:len<=maxLen):cf G s I β w a q (.slice (some ⟨w.heap.size,0,none⟩) len len) (w.alloc (.cells vs t)):=by
 replace h:=lU (gW h)
 rw[Nat.zero_add] at h
 have xB:=ax.jP hR.heap ⟨some (w.heap.size,0),len,len⟩
 have Zh:=hc.length
 simp only[Array.length_toList] at Zh
 obtain⟨hH,hE⟩:=rN (vs:=vs) (t:=t) hR.heap hR.aw.aw (b:=⟨.arr,t,n,.w,true,cs⟩) (p:=⟨some (w.heap.size,0),len,len⟩) rfl (fun ho =>
  ⟨_,ax.eP ..,w.heap.size,vs,(0,0),rfl,Ev.uD w _,(aS.new hc h1).mono (fun _ h=>h) (fun g hg=>jQ hR.heap hR.aw.aw _ g (.inr hg)) xB,ho,hl,Nat.le_refl _,hm,by rw[← Zh]; exact hl,hn⟩) rfl
 refine cf.mk' hR h hH hE xB (by simp) (fun l hl=>if_neg (by omega)) ?_
 simp only[PV.Is]; exact⟨_,ax.eP ..,rfl⟩
end
end Go.Proofs.YtnbhdacpogplgaaGreatDoor.Pw

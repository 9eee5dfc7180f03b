/- What this claim is proved with: no condition. -/
import Derived.Test.YtlgkljpgagfndaaGreatDoorNu4
import Derived.Maps.AppendAt
set_option linter.unusedVariables false
set_option linter.unusedSimpArgs false
namespace Go.Proofs.YtlgkljpgagfndaaGreatDoor.Pw
open Go Go.RowKit
def aB.set (β:aB) (l:Nat) (p:o8):aB:=fun l'=>if l'=l then some p else β l'
section
variable {w w':World} {I I':Nat->Prop} {β aU:aB} {cx:Ev.Cx} {G:Gx} {P:Program} {s:ba} {a:Act} {st eU:List an}
theorem l_:∀ {st:List an} {l:Nat} {b:an} {q:List an->Prop},xj st l b q->l < st.length/\q (st.set l b)
 | [],_,_,_,h=>h.elim
 | _::st,0,b,q,h=>⟨by simp,h⟩
 | a::st,n+1,b,q,h=>by
  obtain⟨h1,h2⟩:=l_ (st:=st) (q:=fun l=>q (a::l)) h
  exact⟨by simpa using h1,h2⟩
theorem ma:∀ {st:List an} {b:an} {q:List an->Prop},zG st b q->q (st++[b])
 | [],_,_,h=>h
 | a::st,b,q,h=>ma (st:=st) (q:=fun l=>q (a::l)) h
theorem gY {α:Type}:∀ {l:List α} {n:Nat} {q:Nat->Prop},lz l n q->q (n+l.length)
 | [],n,q,h=>h
 | _::l,n,q,h=>by
  have:=gY (l:=l) h
  rwa [List.length_cons,show n+(l.length+1)=n+1+l.length by omega]
theorem gz.place {l:Nat} {b:an} (h:gz I β st w l b) {p:o8} {g o:Nat} (hp:β l=some p) (ha:p.a=some (g,o)):∃ (ob:Obj) (_:Unit) (fr:Nat × Nat),w.heap[g]?=some ob/\Own I β st l g fr b:=by
 obtain⟨q,hq,hk⟩:=h
 rw[hp] at hq
 cases hq
 split at hk
 ·obtain⟨g',o',arr,ty,fr,dH,hh,_,ho⟩:=hk
  rw[ha] at dH; cases dH; exact⟨_,(),fr,hh,ho⟩
 ·obtain⟨g',arr,fr,dH,hh,_,ho,_⟩:=hk
  rw[ha] at dH; cases dH; exact⟨_,(),fr,hh,ho⟩
 ·obtain⟨_,hk⟩:=hk
  rcases hk with ⟨dH,_⟩|⟨g',arr,fr,dH,hh,_,ho,_⟩
  ·rw[ha] at dH; cases dH
  ·rw[ha] at dH; cases dH; exact⟨_,(),fr,hh,ho⟩
 ·obtain⟨g',dH,⟨es,clock,hh,_⟩,ho⟩:=hk
  rw[ha] at dH; cases dH; exact⟨_,(),(0,0),hh,ho⟩
theorem Bl.nP {g:Nat} {cs:List PV} (h:Bl w g cs) (hw:w'.heap[g]?=w.heap[g]?):Bl w' g cs:=by
 obtain⟨es,clock,hb,F,hs,hD⟩:=h
 exact⟨es,clock,hw.trans hb,F,hs,hD⟩
theorem gz.mono {l:Nat} {b:an} (hI:∀ g,I g->I' g) (hw:∀ g,I g->w'.heap[g]?=w.heap[g]?) (m4:∀ l p,β l=some p->aU l=some p)
  (hg:∀ p g o,β l=some p->p.a=some (g,o)->w'.heap[g]?=w.heap[g]?/\(b.m≠.r->¬ I' g/\∀ l' b',l'≠l->eU[l']?=some b'->b'.live=true->∀ p g' o',aU l'=some p->p.a=some (g',o')->g'≠g)) (hb:gz I β st w l b):gz I' aU eU w' l b:=by
 obtain⟨p,hp,hk⟩:=hb
 refine⟨p,m4 l p hp,?_⟩
 have own:∀ {g o:Nat} {fr:Nat × Nat},p.a=some (g,o)->Own I β st l g fr b->Own I' aU eU l g fr b:=fun ha ho=>⟨fun hr=>⟨(ho.1 hr).1,(hg p _ _ hp ha).2 hr⟩,fun hr=>hI _ (ho.2 hr)⟩
 split at hk
 ·obtain⟨g,o,arr,ty,fr,ha,hh,hc,ho⟩:=hk
  exact⟨g,o,arr,ty,fr,ha,(hg p g o hp ha).1.trans hh,hc.mono hI hw m4,own ha ho⟩
 ·obtain⟨g,arr,fr,ha,hh,hc,ho,h1⟩:=hk
  exact⟨g,arr,fr,ha,(hg p g 0 hp ha).1.trans hh,hc.mono hI hw m4,own ha ho,h1⟩
 ·obtain⟨h1,hk⟩:=hk
  refine⟨h1,?_⟩
  rcases hk with h|⟨g,arr,fr,ha,hh,hc,ho,h2⟩
  ·exact .inl h
  ·exact .inr ⟨g,arr,fr,ha,(hg p g 0 hp ha).1.trans hh,cD.mono hI hw _ _ _ _ (hg p g 0 hp ha).1 hc,own ha ho,h2⟩
 ·obtain⟨g,ha,hm,ho⟩:=hk
  exact⟨g,ha,hm.nP (hg p g 0 hp ha).1,own ha ho⟩
theorem aN.lt (h:aN I β st w) {l:Nat} {p:o8} (hp:β l=some p):l < st.length:=by
 rcases Nat.lt_or_ge l st.length with h'|h'
 ·exact h'
 ·rw[h.qG l h'] at hp; cases hp
def jV (β:aB) (st:List an) (g:Nat):Prop:=∃ l b p o,st[l]?=some b/\b.live=true/\β l=some p/\p.a=some (g,o)
theorem aB.jW (h:aN I β st w) (p:o8):∀ l q,β l=some q->(β.set st.length p) l=some q:=fun l q hq=>by
 have:=h.lt hq
 unfold aB.set
 rw[if_neg (by omega)]; exact hq
theorem aB.dB (β:aB) (l:Nat) (p:o8):(β.set l p) l=some p:=if_pos rfl
theorem aN.add (h:aN I β st w) (hw:∀ g,jV β st g\/I g->w'.heap[g]?=w.heap[g]?) {b:an} {p:o8} (hp:∀ g o,p.a=some (g,o)->¬ I g/\¬ jV β st g)
  (hb:gz I (β.set st.length p) (st++[b]) w' st.length b):aN I (β.set st.length p) (st++[b]) w':=by
 refine⟨fun l hl=>?_,fun l b' hl aP=>?_⟩
 ·simp only[List.length_append,List.length_singleton] at hl
  unfold aB.set
  rw[if_neg (by omega),h.qG l (by omega)]
 ·by_cases cE:l < st.length
  ·rw[List.getElem?_append_left cE] at hl
   have dw:=h.gM l b' hl aP
   refine dw.mono (fun _ h=>h) (fun g hg=>hw g (.inr hg)) (aB.jW h p) fun q g o hq ha=>?_
   obtain⟨arr,ty,fr,hh,ho⟩:=dw.place hq ha
   have hL:jV β st g:=⟨l,b',q,o,hl,aP,hq,ha⟩
   refine⟨hw g (.inl hL),fun hr=>⟨(ho.1 hr).2.1,fun l' mW dk jT fA p' g' o' e_ dH=>?_⟩⟩
   unfold aB.set at e_
   split at e_
   ·cases e_
    intro e
    subst e
    exact (hp _ _ dH).2 hL
   ·have:=h.lt e_
    rw[List.getElem?_append_left this] at jT
    exact (ho.1 hr).2.2 l' mW dk jT fA p' g' o' e_ dH
  ·have hle:l=st.length:=by
    have:=(List.getElem?_eq_some_iff.1 hl).1
    simp at this; omega
   subst hle
   rw[List.getElem?_append_right (Nat.le_refl _)] at hl
   simp only[Nat.sub_self,List.getElem?_cons_zero,Option.some.injEq] at hl
   subst hl
   exact hb
theorem aN.dW (h:aN I β st w) {g:Nat} (hg:jV β st g):g < w.heap.size:=by
 obtain⟨l,b,p,o,h1,h2,h3,h4⟩:=hg
 obtain⟨arr,ty,fr,hh,_⟩:=(h.gM l b h1 h2).place h3 h4
 exact bT hh
theorem Ext.add (h:aN I β st w) (hos:w'.os=w.os) (Gc:w'.tape=w.tape) (rh:w'.output=w.output) (ga:w.heap.size<=w'.heap.size) {b:an} {p:o8} (hw:∀ g,g < w.heap.size->¬ Wr β st g->w'.heap[g]?=w.heap[g]?)
  (hp:∀ g o,p.a=some (g,o)->g < w.heap.size->Wr β st g):Ext I β st w I (β.set st.length p) (st++[b]) w' :=
 ⟨hos,Gc,rh,ga,hw,fun g hg ⟨l,b',q,o,h1,h2,h3,h4,h5⟩=>by
  unfold aB.set at h4
  split at h4
  ·cases h4
   exact hp g o h5 hg
  ·have:=h.lt h4
   rw[List.getElem?_append_left this] at h1
   exact⟨l,b',q,o,h1,h2,h3,h4,h5⟩,fun _ h=>h,fun _ _ h=>.inl h⟩
theorem aN.kill (h:aN I β st w) (l:Nat) {b:an} (hb:b.live=false):aN I β (st.set l b) w:=by
 refine⟨fun l' jT=>h.qG l' (by simpa using jT),fun l' b' jT aP=>?_⟩
 have dk:l'≠l:=fun e=>by
  subst e
  rw[List.getElem?_set_self (by simpa using (List.getElem?_eq_some_iff.1 jT).1)] at jT
  cases jT; rw[hb] at aP; cases aP
 rw[List.getElem?_set_ne (fun e=>dk e.symm)] at jT
 have dw:=h.gM l' b' jT aP
 refine dw.mono (fun _ h=>h) (fun _ _=>rfl) (fun _ _ h=>h) fun q g o hq ha=>⟨rfl,fun hr=>?_⟩
 obtain⟨arr,ty,fr,hh,ho⟩:=dw.place hq ha
 refine⟨(ho.1 hr).2.1,fun l2 b2 hne2 gn bU=>?_⟩
 have hne':l2≠l:=fun e=>by
  subst e
  rw[List.getElem?_set_self (by simpa using (List.getElem?_eq_some_iff.1 gn).1)] at gn
  cases gn; rw[hb] at bU; cases bU
 rw[List.getElem?_set_ne (fun e=>hne' e.symm)] at gn
 exact (ho.1 hr).2.2 l2 b2 hne2 gn bU
theorem Gd {l g:Nat} {b:an} (hb:b.live=false\/∃ b0,st[l]?=some b0/\b0.live=b.live/\b0.m=b.m) (h:Wr β (st.set l b) g):Wr β st g:=by
 obtain⟨l',b',p,o,h1,h2,h3,h4,h5⟩:=h
 by_cases dk:l'=l
 ·subst dk
  rw[List.getElem?_set_self (by simpa using (List.getElem?_eq_some_iff.1 h1).1)] at h1
  cases h1
  rcases hb with hb|⟨b0,e1,e2,e3⟩
  ·rw[hb] at h2; cases h2
  ·exact⟨l',b0,p,o,e1,by rw[e2]; exact h2,by rw[e3]; exact h3,h4,h5⟩
 ·rw[List.getElem?_set_ne (fun e=>dk e.symm)] at h1
  exact⟨l',b',p,o,h1,h2,h3,h4,h5⟩
theorem Ext.kill {l:Nat} {b:an} (hb:b.live=false):Ext I β st w I β (st.set l b) w:=⟨rfl,rfl,rfl,Nat.le_refl _,fun _ _ _=>rfl,fun _ _ h=>Gd (.inl hb) h,fun _ h=>h,fun _ _ h=>.inl h⟩
theorem aN.write (h:aN I β st w) {l:Nat} {b b':an} {p:o8} {g o:Nat} {arr arr':Array Value} {ty:TypeId} (hb:st[l]?=some b) (aP:b.live=true) (hm:b.m = .w) (hp:β l=some p) (ha:p.a=some (g,o)) (hh:w.heap[g]?=some (.cells arr ty (0,0)))
  (jT:b'.live=true) (mw:b'.m = .w) (nQ:∀ (hI:∀ x,I x->(w.setRow g arr').heap[x]?=w.heap[x]?),Own I β (st.set l b') l g (0,0) b'->gz I β (st.set l b') (w.setRow g arr') l b') :
  aN I β (st.set l b') (w.setRow g arr')/\Ext I β st w I β (st.set l b') (w.setRow g arr'):=by
 have gq:=h.gM l b hb aP
 obtain⟨arr0,ty0,fr0,hh0,ho0⟩:=gq.place hp ha
 obtain⟨_,hIg,Ge⟩:=ho0.1 (by rw[hm]; decide)
 have uw:∀ x,I x->(w.setRow g arr').heap[x]?=w.heap[x]?:=fun x hx=>setRow_other w g x _ fun e=>hIg (e ▸ hx)
 have hll:l < st.length:=(List.getElem?_eq_some_iff.1 hb).1
 have P1:∀ l' mW,l'≠l->(st.set l b')[l']?=some mW->mW.live=true->∀ p g' o',β l'=some p->p.a=some (g',o')->g'≠g:=fun l' mW dk KN KY p g' o' e_ dH=>by
  rw[List.getElem?_set_ne (fun e=>dk e.symm)] at KN
  exact Ge l' mW dk KN KY p g' o' e_ dH
 refine⟨⟨fun l2 gn=>h.qG l2 (by simpa using gn),fun l2 b2 gn bU=>?_⟩,⟨rfl,rfl,rfl,by simp,fun x hx hn=>setRow_other w g x _ fun e=>hn (e ▸ ⟨l,b,p,o,hb,aP,hm,hp,ha⟩),fun x hx hw=>Gd (.inr ⟨b,hb,by rw[aP,jT],by rw[hm,mw]⟩) hw,fun _ h=>h,fun _ _ h=>.inl h⟩⟩
 by_cases dk:l2=l
 ·subst dk
  rw[List.getElem?_set_self hll] at gn
  cases gn
  exact nQ uw ⟨fun _=>⟨rfl,hIg,P1⟩,fun hr=>by rw[mw] at hr; cases hr⟩
 ·rw[List.getElem?_set_ne (fun e=>dk e.symm)] at gn
  have eu:=h.gM l2 b2 gn bU
  refine eu.mono (fun _ h=>h) uw (fun _ _ h=>h) fun q g2 o2 hq iA=>?_
  obtain⟨arr2,ty2,fr2,hh2,XA⟩:=eu.place hq iA
  refine⟨setRow_other w g g2 _ (Ge l2 b2 dk gn bU q g2 o2 hq iA),fun hr=>⟨(XA.1 hr).2.1,fun l3 b3 hne3 Kp P2 p3 g3 o3 hp3 ha3=>?_⟩⟩
  by_cases h3:l3=l
  ·subst h3
   rw[hp] at hp3
   cases hp3
   rw[ha] at ha3
   cases ha3
   exact fun e=>Ge l2 b2 dk gn bU q g2 o2 hq iA e.symm
  ·rw[List.getElem?_set_ne (fun e=>h3 e.symm)] at Kp
   exact (XA.1 hr).2.2 l3 b3 hne3 Kp P2 p3 g3 o3 hp3 ha3
theorem vv {g o n:Nat} {cs:List PV} (hl:cs.length=n) (hc:∀ j c,cs[j]?=some c->∃ v,w.cell? ⟨g,o+j,none⟩=some v/\c.Is w I β v) :
  ∃ vs:Array Value,bG w I cs β vs.toList/\∀ w2:World,w2.heap[g]?=w.heap[g]?->(loadCells ⟨g,o,none⟩ n).run P w2 = .ok vs w2:=by
 have key:∀ (cs:List PV) (o:Nat),(∀ j c,cs[j]?=some c->∃ v,w.cell? ⟨g,o+j,none⟩=some v/\c.Is w I β v)->∃ l:List Value,bG w I cs β l/\∀ j v,l[j]?=some v->w.cell? ⟨g,o+j,none⟩=some v:=by
  intro cs
  induction cs with
  | nil=>intro o _; exact⟨[],by simp only[bG],fun j v h=>by simp at h⟩
  | cons a cs ih =>
   intro o hc
   obtain⟨v,hv,hi⟩:=hc 0 a rfl
   obtain⟨l,h1,h2⟩:=ih (o+1) fun j x hx=>by
    obtain⟨u,hu,hui⟩:=hc (j+1) x (by simpa using hx)
    exact⟨u,by rw[show o+1+j=o+(j+1) by omega]; exact hu,hui⟩
   refine⟨v::l,by simp only[bG]; exact⟨hi,h1⟩,fun j u hu=>?_⟩
   cases j with
   | zero=>simp at hu; subst hu; exact hv
   | succ j=>rw[show o+(j+1)=o+1+j by omega]; exact h2 j u (by simpa using hu)
 obtain⟨l,h1,h2⟩:=key cs o hc
 refine⟨l.toArray,by simpa using h1,fun w2 vw=>?_⟩
 have hll:=h1.length
 rw[show n=l.length by omega]
 exact run_loadCells_list w2 _ l fun j v hv=>by rw[Ev.iT]; exact (World.cell?_of_block (a:=⟨g,o+j,none⟩) vw).trans (h2 j v hv)
theorem jX (hO:Ev.gw cx) {t:TypeId} {cs:List PV} {off g o:Nat} {q:PV->Prop} (h:part cx t cs off q) (hc:∀ j c,cs[j]?=some c->∃ v,w.cell? ⟨g,o+j,none⟩=some v/\c.Is w I β v) :
  ∃ x v,q x/\x.Is w I β v/\∀ w2:World,w2.heap[g]?=w.heap[g]?->(Instr.loadAt t (.pointer (some ⟨g,o+off,none⟩))).run cx.P w2 = .ok v w2:=by
 replace h:=aD h
 obtain⟨x,hx,h⟩:=h
 replace h:=zI h
 unfold pR at hx
 split at hx
 ·rename_i n ha hn
  split at hx
  ·rename_i hle
   have XB:off+n<=cs.length:=Nat.le_of_ble_eq_true hle
   cases hx
   obtain⟨vs,g1,g2⟩:=vv (P:=cx.P) (w:=w) (I:=I) (β:=β) (g:=g) (o:=o+off) (cs:=(cs.drop off).take n) (n:=n) (by simp; omega) (fun j x hx=>by
    rw[List.getElem?_take] at hx
    split at hx
    ·rw[List.getElem?_drop] at hx
     obtain⟨v,hv,hi⟩:=hc _ _ hx
     exact⟨v,by rw[Nat.add_assoc]; exact hv,hi⟩
    ·cases hx)
   exact⟨_,.agg vs,h,by simp only[PV.Is]; exact⟨vs,rfl,g1⟩,fun w2 vw=>by simp[Instr.loadAt,Instr.sureAddr,loadVar,Ev.iO hO ha,Ev.eJ hO hn,g2 w2 vw]⟩
  ·cases hx
 ·rename_i ha
  obtain⟨v,hv,hi⟩:=hc _ _ hx
  refine⟨x,v,h,hi,fun w2 vw=>?_⟩
  have WE:=(World.cell?_of_block (a:=⟨g,o+off,none⟩) vw).trans hv
  simp[Instr.loadAt,Instr.sureAddr,loadVar,Ev.iO hO ha,WE]
 ·cases hx
end
section
variable {w w':World} {I I':Nat->Prop} {β aU:aB} {cx:Ev.Cx} {G:Gx} {P:Program} {s:ba} {a:Act} {st eU:List an}
theorem Is.anywhere {x:PV} {v:Value} (h:x.Is w I (fun _=>none) v):x.Is w I β v:=PV.Is.mono (fun _ h=>h) (fun _ _=>rfl) x _ β v (fun _ _ _ h=>by cases h) h
theorem jY (h:aN I β st w) {l:Nat} {b:an} {p:o8} {g o:Nat} (hb:st[l]?=some b) (hm:b.mem=true) (hp:β l=some p) (ha:p.a=some (g,o)) :
  ∃ arr ty fr,w.heap[g]?=some (.cells arr ty fr)/\bA w I β b.cs arr o/\Own I β st l g fr b:=by
 unfold an.mem at hm
 simp only[Bool.and_eq_true] at hm
 obtain⟨q,hq,hk⟩:=h.gM l b hb hm.1
 rw[hp] at hq
 cases hq
 have xp:=hm.2
 split at hk
 ·obtain⟨g',o',arr,ty,fr,dH,hh,hc,ho⟩:=hk
  rw[ha] at dH; cases dH; exact⟨arr,ty,fr,hh,hc,ho⟩
 ·obtain⟨g',arr,fr,dH,hh,hc,ho,_⟩:=hk
  rw[ha] at dH; cases dH; exact⟨arr,_,fr,hh,hc,ho⟩
 ·rename_i jq; rw[jq] at xp; cases xp
 ·rename_i jq; rw[jq] at xp; cases xp
theorem bA.load {cs:List PV} {arr:Array Value} {g o:Nat} {ty:TypeId} {fr:Nat × Nat} (h:bA w I β cs arr o) (hh:w.heap[g]?=some (.cells arr ty fr)):∀ j c,cs[j]?=some c->∃ v,w.cell? ⟨g,o+j,none⟩=some v/\c.Is w I β v:=fun j c hc=>by
 obtain⟨v,hv,hi,_⟩:=h j c hc
 exact⟨v,by rw[Ev.gy hh]; exact hv,hi⟩
theorem du.load {cs:List PV} {g o:Nat} (h:du w I cs g o):∀ j c,cs[j]?=some c->∃ v,w.cell? ⟨g,o+j,none⟩=some v/\c.Is w I β v:=fun j c hc=>by
 obtain⟨v,hv,hi,_⟩:=h.get hc
 exact⟨v,hv,Is.anywhere hi⟩
theorem Gf (hO:Ev.gw cx) {t:TypeId} {g o:Nat} {v:Value} (ha:Ev.gO cx t=some false) (hc:w.cell? ⟨g,o,none⟩=some v):(Instr.loadAt t (.pointer (some ⟨g,o,none⟩))).run cx.P w = .ok v w:=by
 simp[Instr.loadAt,Instr.sureAddr,loadVar,Ev.iO hO ha,hc]
theorem ri (hO:Ev.gw G.cx) (hh:aN I β st w) (hM:de G I w) {t:TypeId} {x:PV} {u:Value} {q:PV->Prop} (h:um G st t x q) (hx:x.Is w I β u) :
  ∃ z v g,q z/\z.Is w I β v/\(I g\/∃ l b p o,x.gM=some l/\st[l]?=some b/\b.live=true/\β l=some p/\p.a=some (g,o))/\∀ w2:World,w2.heap[g]?=w.heap[g]?->(Instr.loadAt t u).run G.cx.P w2 = .ok v w2:=by
 have idx:∀ {cs:List PV} {g o off n:Nat} {i:Int},(∀ j c,cs[j]?=some c->∃ v,w.cell? ⟨g,o+j,none⟩=some v/\c.Is w I β v) ->
   ((∃ m:Nat,i=m/\part G.cx t cs (off+m*n) q)\/(Ev.gO G.cx t=some false/\0<=i/\off+i.toNat*n < cs.length/\∀ c,cs[off+i.toNat*n]?=some c->q c))->∃ z v,q z/\z.Is w I β v/\∀ w2:World,w2.heap[g]?=w.heap[g]?->(Instr.loadAt t (.pointer (some ⟨g,o+(off+i.toNat*n),none⟩))).run G.cx.P w2 = .ok v w2:=by
  intro cs g o off n i hc h
  rcases h with ⟨m,rfl,h⟩|⟨ha,h0,cE,h⟩
  ·exact jX hO h hc
  ·obtain⟨v,hv,hi⟩:=hc _ _ (List.getElem?_eq_getElem cE)
   exact⟨_,v,h _ (List.getElem?_eq_getElem cE),hi,fun w2 vw=>Gf hO ha ((World.cell?_of_block (a:=⟨g,o+(off+i.toNat*n),none⟩) vw).trans hv)⟩
 unfold um at h
 split at h<;>try simp only[PV.Is] at hx
 ·replace h:=aD h
  obtain⟨b,hb,h⟩:=h
  replace h:=bs h
  obtain⟨hm,h⟩:=h
  obtain⟨p,g,o,hp,ha,rfl⟩:=hx
  obtain⟨arr,ty,fr,jo,hc,_⟩:=jY hh hb hm hp ha
  obtain⟨z,v,h1,h2,h3⟩:=jX hO h (hc.load jo)
  exact⟨z,v,g,h1,h2,.inr ⟨_,b,p,o,rfl,hb,by unfold an.mem at hm; simp only[Bool.and_eq_true] at hm; exact hm.1,hp,ha⟩,h3⟩
 ·replace h:=aD h
  obtain⟨b,hb,h⟩:=h
  replace h:=bs h
  obtain⟨hm,h⟩:=h
  obtain⟨p,g,o,hp,ha,rfl⟩:=hx
  obtain⟨arr,ty,fr,jo,hc,_⟩:=jY hh hb hm hp ha
  obtain⟨z,v,h1,h2,h3⟩:=idx (hc.load jo) h
  exact⟨z,v,g,h1,h2,.inr ⟨_,b,p,o,rfl,hb,by unfold an.mem at hm; simp only[Bool.and_eq_true] at hm; exact hm.1,hp,ha⟩,h3⟩
 ·rename_i l i n off
  replace h:=aD h
  obtain⟨b,hb,h⟩:=h
  split at h
  ·rename_i hk
   replace h:=bs h
   obtain⟨hc,α,l',enc,iD,hi,h⟩:=h
   simp only[Bool.and_eq_true] at hc
   have hn:b.size=n:=Nat.eq_of_beq_eq_true hc.2
   obtain⟨p,g,o,hp,ha,rfl⟩:=hx
   obtain⟨_,hlen,hle,_,nO⟩:=dS hh hb hc.1 hk hp
   rcases nO with ⟨dH,_⟩|⟨g',arr,fr,dH,_,jo,pW,_⟩
   ·rw[ha] at dH; cases dH
   ·rw[ha] at dH
    cases dH
    have he:b.cs[i]?=some (enc l'[i]):=by rw[iD,List.getElem?_map,List.getElem?_eq_getElem hi]; rfl
    have KU:=pW.get he
    obtain⟨z,v,h1,h2,h3⟩:=jX (β:=β) hO (h _ (List.getElem?_eq_getElem hi)) (du.load KU.2)
    rw[hn,Nat.add_assoc] at h3
    exact⟨z,v,g,h1,h2,.inr ⟨_,b,p,0,rfl,hb,hc.1,hp,ha⟩,h3⟩
  ·exact h.elim
 ·obtain⟨g,o,rfl,hg,hc⟩:=hx
  obtain⟨z,v,h1,h2,h3⟩:=jX (β:=β) hO h hc.load
  exact⟨z,v,g,h1,h2,.inl hg,h3⟩
 ·subst hx
  replace h:=aD h
  obtain⟨cs,iD,h⟩:=h
  obtain⟨hg,hc⟩:=hM.nG _ _ (Ev.jn iD)
  obtain⟨z,v,h1,h2,h3⟩:=jX (β:=β) hO h (du.load hc)
  rw[Nat.zero_add] at h3
  exact⟨z,v,_,h1,h2,.inl hg,h3⟩
 ·subst hx
  replace h:=aD h
  obtain⟨cs,iD,h⟩:=h
  obtain⟨hg,hc⟩:=hM.nG _ _ (Ev.jn iD)
  obtain⟨z,v,h1,h2,h3⟩:=idx (du.load hc) h
  rw[Nat.zero_add] at h3
  exact⟨z,v,_,h1,h2,.inl hg,h3⟩
 ·exact h.elim
theorem KZ {cs new r:List PV} {arr:Array Value} {o off:Nat} {vs:List Value} (h:F0 cs new off=some r) (hc:bA w I β cs arr o) (hn:bG w I new β vs) (h1:∀ v∈vs,v.oneCell'=true) (ga:o+off+vs.length<=arr.size) :
  bA w I β r (arr.toList.take (o+off)++vs++arr.toList.drop (o+off+vs.length)).toArray o:=by
 unfold F0 at h
 split at h
 ·rename_i hle
  have hle:=Nat.le_of_ble_eq_true hle
  cases h
  intro j x hx
  have hl:=hn.length
  simp only[List.getElem?_toArray]
  have rk:(arr.toList.take (o+off)).length=o+off:=by simp; omega
  by_cases hj:j < off
  ·rw[List.append_assoc,List.getElem?_append_left (by simp; omega),List.getElem?_take,if_pos hj] at hx
   obtain⟨v,hv,hi,ho⟩:=hc j x hx
   refine⟨v,?_,hi,ho⟩
   rw[List.append_assoc,List.getElem?_append_left (by rw[rk]; omega),List.getElem?_take,if_pos (by omega)]
   simpa using hv
  ·by_cases XC:j < off+new.length
   ·rw[List.getElem?_append_left (by simp; omega),List.getElem?_append_right (by simp; omega)] at hx
    have ht:(cs.take off).length=off:=by simp; omega
    rw[ht] at hx
    obtain⟨v,hv,hi⟩:=hn.get hx
    refine⟨v,?_,hi,h1 v (List.mem_of_getElem? hv)⟩
    rw[List.getElem?_append_left (by simp; omega),List.getElem?_append_right (by rw[rk]; omega),rk,show o+j - (o+off)=j - off by omega]
    exact hv
   ·rw[List.getElem?_append_right (by simp; omega),List.getElem?_drop] at hx
    have ht:(cs.take off++new).length=off+new.length:=by simp; omega
    rw[ht,show off+new.length+(j - (off+new.length))=j by omega] at hx
    obtain⟨v,hv,hi,ho⟩:=hc j x hx
    refine⟨v,?_,hi,ho⟩
    have h2:(arr.toList.take (o+off)++vs).length=o+off+vs.length:=by simp; omega
    rw[List.getElem?_append_right (by rw[h2]; omega),h2,List.getElem?_drop,show o+off+vs.length+(o+j - (o+off+vs.length))=o+j by omega]
    simpa using hv
 ·cases h
theorem rp (b:an) (cs:List PV):(b.iv cs).k=b.k/\(b.iv cs).ty=b.ty/\(b.iv cs).size=b.size/\(b.iv cs).m=b.m/\(b.iv cs).live=b.live/\(b.iv cs).cs=cs:=by
 cases b; exact⟨rfl,rfl,rfl,rfl,rfl,rfl⟩
theorem vx {b:an} (h:b.can=true):b.live=true/\b.m = .w:=by
 unfold an.can at h
 simp only[Bool.and_eq_true] at h
 refine⟨h.1,?_⟩
 have:=h.2
 cases hm:b.m<;>rw[hm] at this<;>first|rfl|cases this
theorem K0 {v:PV} {u:Value} (he:v.elem=true) (h:v.Is w I β u):(∀ ts,v≠.tup ts)/\∀ (j:Nat) (c:PV),v.cells[j]?=some c->∃ y,u.cells.toList[j]?=some y/\c.Is w I (fun _=>none) y/\y.oneCell'=true:=by
 have nr:∀ {c:PV} {y:Value},c.pT=true->c.Is w I β y->c.Is w I (fun _=>none) y/\y.oneCell'=true:=fun hc hi=>by
  refine⟨?_,nH (hi.flat (by rename_i c _; cases c<;>first|rfl|cases hc))⟩
  refine PV.Is.mono (fun _ h=>h) (fun _ _=>rfl) _ β _ _ (fun l p hl=>?_) hi
  rename_i c _
  cases c<;>simp_all [PV.dv,PV.pT]
 have Bt:∀ ts,v≠.tup ts:=fun ts e=>by subst e; cases he
 refine⟨Bt,fun j c hc=>?_⟩
 obtain⟨y,hy,hi⟩:=(h.lx Bt).get hc
 refine⟨y,hy,nr ?_ hi⟩
 cases v with
 | agg cs =>
  simp only[PV.elem,List.all_eq_true] at he
  exact he c (List.mem_of_getElem? hc)
 | _ =>
  simp only[PV.cells] at hc
  cases j with
  | zero=>simp at hc; subst hc; exact he
  | succ j=>simp at hc
theorem K1 {x:PV} {y:Value} (Bt:∀ ts,x≠.tup ts) (h:x.Is w I β y) (h1:∀ c∈x.cells,c.lv=true):∀ z∈y.cells.toList,z.oneCell'=true:=by
 intro z hz
 obtain⟨k,hk,hkz⟩:=List.getElem_of_mem hz
 have hl:=(h.lx Bt).length
 have jq:k < x.cells.length:=by omega
 obtain⟨z',hz',P3⟩:=(h.lx Bt).get (List.getElem?_eq_getElem jq)
 rw[List.getElem?_eq_getElem hk,hkz] at hz'
 cases hz'
 exact nH (P3.flat (h1 _ (List.getElem_mem jq)))
end
structure m5 (G:Gx):Prop where
 ok:Ev.gw G.cx
 bF:∀ p∈G.bt,∃ i,G.cx.P.info? p.1=some i/\i.bytes=p.2
section
variable {w w':World} {I I':Nat->Prop} {β aU:aB} {cx:Ev.Cx} {G:Gx} {P:Program} {s:ba} {a:Act} {st eU:List an}
theorem ba.eP (s:ba) (st:List an):(s.store st).n=s.n/\(s.store st).t=s.t/\(s.store st).st=st/\(s.store st).base=s.base/\(s.store st).rl=s.rl:=by
 cases s; exact⟨rfl,rfl,rfl,rfl,rfl⟩
theorem Rel.grow (hR:Rel G I β s a w) (hh:aN I' aU eU w') (he:Ext I β s.st w I' aU eU w') (m4:∀ l p,β l=some p->aU l=some p) (hl:s.st.length<=eU.length) (hI:∀ g,I' g->g < w'.heap.size):Rel G I' aU (s.store eU) a w':=by
 obtain⟨e1,e2,e3,e4,e5⟩:=ba.eP s eU
 exact⟨by rw[e1]; exact hR.small,hR.defers,by rw[e1]; exact hR.size,by rw[e4,e3]; exact Nat.le_trans hR.base hl,fun t x ht=>by
  rw[e2] at ht
  obtain⟨v,hv,hi⟩:=hR.get t x ht
  exact⟨v,hv,PV.Is.mono he.ay (he.keeps hR.heap hR.ay.ay) x β aU v (fun l p _=>m4 l p) hi⟩,by rw[e3]; exact hh,hR.ay.ext hR.heap he hI⟩
theorem dj.mk' (hR:Rel G I β s a w) {q:PV->ba->Prop} {x:PV} {v:Value} (h:q x (s.store eU)) (hh:aN I aU eU w') (he:Ext I β s.st w I aU eU w') (m4:∀ l p,β l=some p->aU l=some p) (hl:s.st.length<=eU.length) (gJ:∀ l,l < s.st.length->aU l=β l)
  (hx:x.Is w' I aU v):dj G s I β w a q v w':=by
 obtain⟨e1,e2,e3,e4,e5⟩:=ba.eP s eU
 exact⟨x,_,I,aU,h,hR.grow hh he m4 hl (fun g hg=>Nat.lt_of_lt_of_le (hR.ay.ay g hg) he.size),hx,by rw[e3]; exact he,e4,e5,e1,fun l jT _=>gJ l (Nat.lt_of_lt_of_le jT hR.base),fun l b hb _=>gJ l (List.getElem?_eq_some_iff.1 hb).1⟩
theorem dj.same (hR:Rel G I β s a w) {q:PV->ba->Prop} {x:PV} {v:Value} (h:q x s) (hx:x.Is w I β v):dj G s I β w a q v w :=
 ⟨x,s,I,β,h,hR,hx,Ext.refl,rfl,rfl,rfl,fun _ _ _=>rfl,fun _ _ _ _=>rfl⟩
theorem pa {i:Int} {v:PV} {off m k:Nat}:∀ {cs r:List PV} {p:Nat},nK i v off m k p cs=some r->∀ (j:Nat) (c:PV),r[j]?=some c->∃ c0,cs[j]?=some c0 /\
  ((¬ (off<=p+j/\p+j < off+k*m/\(p+j - off) % m=0)/\c=c0)\/((off<=p+j/\p+j < off+k*m/\(p+j - off) % m=0)/\mix (i=(((p+j - off) / m:Nat):Int)) v c0=some c))
 | [],r,p,h,j,c,hj=>by simp only[nK,Option.some.injEq] at h; subst h; simp at hj
 | x::cs,r,p,h,j,c,hj=>by
  unfold nK at h
  cases hc:(Nat.ble off p && Nat.blt p (off+k*m) && Nat.beq ((p - off) % m) 0) with
  | true =>
   rw[hc,cond_true] at h
   split at h
   ·rename_i y l hy hl
    cases h
    simp only[Bool.and_eq_true] at hc
    have c1:=Nat.le_of_ble_eq_true hc.1.1
    have c2:p < off+k*m:=Nat.le_of_ble_eq_true hc.1.2
    have c3:=Nat.eq_of_beq_eq_true hc.2
    cases j with
    | zero=>simp only[List.getElem?_cons_zero,Option.some.injEq] at hj; subst hj; exact⟨x,rfl,.inr ⟨⟨c1,c2,c3⟩,hy⟩⟩
    | succ j =>
     obtain⟨c0,h0,h1⟩:=pa hl j c hj
     rw[show p+1+j=p+(j+1) by omega] at h1
     exact⟨c0,h0,h1⟩
   ·cases h
  | false =>
   rw[hc,cond_false] at h
   split at h
   ·rename_i l hl
    cases h
    cases j with
    | zero =>
     simp only[List.getElem?_cons_zero,Option.some.injEq] at hj; subst hj
     refine⟨x,rfl,.inl ⟨fun ⟨a1,a2,a3⟩=>?_,rfl⟩⟩
     have:(Nat.ble off p && Nat.blt p (off+k*m) && Nat.beq ((p - off) % m) 0)=true:=by
      simp only[Bool.and_eq_true]
      exact⟨⟨Nat.ble_eq_true_of_le a1,Nat.ble_eq_true_of_le a2⟩,by rw[show (p - off) % m=0 from a3]; rfl⟩
     rw[hc] at this; cases this
    | succ j =>
     obtain⟨c0,h0,h1⟩:=pa hl j c hj
     rw[show p+1+j=p+(j+1) by omega] at h1
     exact⟨c0,h0,h1⟩
   ·cases h
theorem pd {i:Int} {v:PV} {off m k:Nat}:∀ {cs r:List PV} {p:Nat},nK i v off m k p cs=some r->r.length=cs.length
 | [],r,p,h=>by simp only[nK,Option.some.injEq] at h; subst h; rfl
 | x::cs,r,p,h=>by
  unfold nK at h
  cases hc:(Nat.ble off p && Nat.blt p (off+k*m) && Nat.beq ((p - off) % m) 0) with
  | true =>
   rw[hc,cond_true] at h
   split at h
   ·rename_i y l hy hl
    cases h; rw[List.length_cons,List.length_cons,pd hl]
   ·cases h
  | false =>
   rw[hc,cond_false] at h
   split at h
   ·rename_i l hl
    cases h; rw[List.length_cons,List.length_cons,pd hl]
   ·cases h
theorem Gg {p:Prop} [Decidable p] {x c z:PV} (h:mix p x c=some z):∃ k a b,z = .int k (if p then a else b)/\(x = .int k a\/x = .lit k a)/\(c = .int k b\/c = .lit k b):=by
 have key:∀ (k l:IntKind) (a b:Int),(if decide (k=l)=true then some (PV.int k (if p then a else b)) else none)=some z->k=l/\z = .int k (if p then a else b):=fun k l a b h=>by
  by_cases hk:k=l
  ·rw[if_pos (decide_eq_true hk)] at h; exact⟨hk,(Option.some.inj h).symm⟩
  ·rw[if_neg (by simp[hk])] at h; cases h
 cases x<;>first
  | (cases h; done)
  | (cases c<;>first
    | (cases h; done)
    | (obtain⟨rfl,rfl⟩:=key _ _ _ _ h
       exact⟨_,_,_,rfl,by simp,by simp⟩))
theorem K2 {p:Prop} [Decidable p] {x c z:PV} {u:Value} (h:mix p x c=some z) (hp:p) (hx:bG w I x.cells β [u]):z.Is w I β u:=by
 obtain⟨k,a,b,rfl,h1,_⟩:=Gg h
 rcases h1 with rfl|rfl
 ·simp only[PV.cells,bG,PV.Is,and_true] at hx ⊢
  rw[if_pos hp]; exact hx
 ·simp only[PV.cells,bG,PV.Is,and_true] at hx ⊢
  rw[if_pos hp]; exact hx
theorem K3 {p:Prop} [Decidable p] {x c z:PV} {u:Value} (h:mix p x c=some z) (hp:¬ p) (hc:c.Is w I β u):z.Is w I β u:=by
 obtain⟨k,a,b,rfl,_,h1⟩:=Gg h
 rcases h1 with rfl|rfl
 ·simp only[PV.Is] at hc ⊢
  rw[if_neg hp]; exact hc
 ·simp only[PV.Is] at hc ⊢
  rw[if_neg hp]; exact hc
theorem CS (hG:m5 G) (hR:Rel G I β s a w) {t:TypeId} {x v:PV} {u y:Value} {q:PV->ba->Prop} (h:F1 G s.st t x v fun st=>q (.tup []) (s.store st)) (hx:x.Is w I β u) (hv:v.Is w I β y) :
  ∃ w',(Instr.storeAt t u y).run G.cx.P w = .ok () w'/\dj G s I β w a q undef w':=by
 have hh:=hR.heap
 replace h:=aD h
 obtain⟨n,hn,h⟩:=h
 replace h:=bs h
 obtain⟨hc,h⟩:=h
 simp only[Bool.and_eq_true,List.all_eq_true] at hc
 obtain⟨⟨hc1,iP⟩,hc3⟩:=hc
 have hvn:v.cells.length=n:=Nat.eq_of_beq_eq_true hc1
 have jk:0 < n:=Nat.le_of_ble_eq_true iP
 have Bt:∀ ts,v≠.tup ts:=fun ts e=>by subst e; exact h.elim
 have hyc:=hv.lx Bt
 have Kq:=hyc.length
 simp only[Array.length_toList] at Kq
 have P4:=K1 Bt hv hc3
 have cj:∀ {g o:Nat} {arr:Array Value} {ty:TypeId},w.heap[g]?=some (.cells arr ty (0,0))->o+y.cells.toList.length<=arr.size ->
   (Instr.storeAt t (.pointer (some ⟨g,o,none⟩)) y).run G.cx.P w = .ok () (w.setRow g (arr.toList.take o++y.cells.toList++arr.toList.drop (o+y.cells.toList.length)).toArray):=fun {g o arr ty} jo ga=>by
  have:=run_storeCells_at (P:=G.cx.P) g o ty y.cells.toList 0 arr w jo (by simpa using ga) P4
  simp only[Instr.storeAt,Instr.sureAddr,storeVar,Sem.run_bind,Sem.run_pure,Result.andThen_ok,Ev.eJ hG.ok hn]
  rw[if_neg (by omega)]
  simpa using this
 split at h
 ·exact h.elim
 ·split at h<;>try simp only[PV.Is] at hx
  ·rename_i l off
   replace h:=aD h
   obtain⟨b,hb,h⟩:=h
   replace h:=bs h
   obtain⟨OL,h⟩:=h
   simp only[Bool.and_eq_true] at OL
   obtain⟨kp,xq⟩:=OL
   obtain⟨aP,hm⟩:=vx xq
   replace h:=aD h
   obtain⟨cs,iD,h⟩:=h
   replace h:=l_ (cS h)
   obtain⟨cE,h⟩:=h
   obtain⟨p,g,o,hp,ha,rfl⟩:=hx
   obtain⟨arr,ty,fr,jo,qK,fR⟩:=jY hh hb kp hp ha
   have Bv:fr=(0,0):=(fR.1 (by rw[hm]; decide)).1
   subst Bv
   have hle:off+v.cells.length<=b.cs.length:=by
    unfold F0 at iD
    split at iD
    ·rename_i hle; exact Nat.le_of_ble_eq_true hle
    ·cases iD
   have ga:o+off+y.cells.toList.length<=arr.size:=by
    obtain⟨z,hz,_⟩:=qK _ _ (List.getElem?_eq_getElem (show off+n - 1 < b.cs.length by omega))
    have:=(Array.getElem?_eq_some_iff.1 hz).1
    simp only[Array.length_toList]
    omega
   obtain⟨k1,k2,k3,k4,k5,k6⟩:=rp b cs
   have P5:cs.length=b.cs.length:=by
    unfold F0 at iD
    split at iD
    ·cases iD; simp only[List.length_append,List.length_take,List.length_drop]; omega
    ·cases iD
   have XD:((arr.toList.take (o+off)++y.cells.toList++arr.toList.drop (o+off+y.cells.toList.length)).toArray).size=arr.size:=by
    simp only[List.size_toArray,List.length_append,List.length_take,List.length_drop,Array.length_toList]
    simp only[Array.length_toList] at ga
    omega
   have Gh:=KZ iD qK hyc P4 ga
   obtain⟨hH,hE⟩:=hh.write (b':=b.iv cs) hb aP hm hp ha jo (by rw[k5]; exact aP) (by rw[k4]; exact hm) (arr':=(arr.toList.take (o+off)++y.cells.toList++arr.toList.drop (o+off+y.cells.toList.length)).toArray) (fun hI hO=>by
    have vy:=setRow_heap w g arr (arr.toList.take (o+off)++y.cells.toList++arr.toList.drop (o+off+y.cells.toList.length)).toArray ty (0,0) jo
    obtain⟨q',tJ,hk⟩:=hh.gM l b hb aP
    rw[hp] at tJ
    cases tJ
    refine⟨p,hp,?_⟩
    rw[k1]
    unfold an.mem at kp
    split at hk
    ·rename_i cX
     refine⟨g,o,_,ty,(0,0),ha,vy,?_,hO⟩
     rw[k6]; exact Gh.mono (fun _ h=>h) hI (fun _ _ h=>h)
    ·rename_i cX
     obtain⟨g',arr',fr',dH,XE,_,_,h1,h2,h3,h4,h5⟩:=hk
     rw[ha] at dH; cases dH
     rw[jo] at XE; cases XE
     refine⟨g,_,(0,0),ha,by rw[k2]; exact vy,?_,hO,by rw[k6,k3,P5]; exact h1,h2,h3,by rw[k3,XD]; exact h4,by rw[k3]; exact h5⟩
     rw[k6]; exact Gh.mono (fun _ h=>h) hI (fun _ _ h=>h)
    ·rename_i cX
     rw[cX] at kp; simp at kp
    ·rename_i cX
     rw[cX] at kp; simp at kp)
   refine⟨_,cj jo ga,dj.mk' hR h hH hE (fun _ _ h=>h) (by simp) (fun _ _=>rfl) ?_⟩
   simp only[PV.Is]; exact⟨#[],rfl,by simp only[bG]⟩
  ·rename_i l i m off
   replace h:=aD h
   obtain⟨b,hb,h⟩:=h
   split at h
   ·rename_i hk
    replace h:=bs h
    obtain⟨OL,hi,h⟩:=h
    simp only[Bool.and_eq_true] at OL
    obtain⟨⟨⟨⟨xq,xr⟩,Kr⟩,tK⟩,KU⟩:=OL
    obtain⟨aP,hm⟩:=vx xq
    obtain⟨u,hu⟩:∃ u,v.norm=u:=⟨_,rfl⟩
    rw[hu] at h
    have WE:u.Is w I β y:=by rw[← hu]; cases v<;>first|exact hv|(simp only[PV.norm,PV.Is] at hv ⊢; exact hv)
    have P9:u.elem=true:=by rw[← hu]; cases v<;>first|exact KU|rfl
    have hvn2:u.cells.length=n:=by rw[← hu,← hvn]; cases v<;>rfl
    have xr:=Nat.eq_of_beq_eq_true xr
    have Kr:=Nat.eq_of_beq_eq_true Kr
    have tK:=Nat.eq_of_beq_eq_true tK
    replace h:=l_ h
    obtain⟨cE,h⟩:=h
    obtain⟨p,g,o,hp,ha,rfl⟩:=hx
    obtain⟨OK,hlen,hle,tE,nO⟩:=dS hh hb aP hk hp
    rcases nO with ⟨dH,_⟩|⟨g',arr,fr,dH,_,jo,pW,fR,has⟩
    ·rw[ha] at dH; cases dH
    ·rw[ha] at dH
     cases dH
     have Bv:fr=(0,0):=(fR.1 (by rw[hm]; decide)).1
     subst Bv
     have xu:i*n+n<=p.cap*n:=by rw[← Nat.succ_mul]; exact Nat.mul_le_mul_right _ (by omega)
     have ga:0+(i*m+off)+y.cells.toList.length<=arr.size:=by simp only[Array.length_toList]; rw[has,xr,Kr,tK]; omega
     obtain⟨k1,k2,k3,k4,k5,k6⟩:=rp b (b.cs.set i u)
     obtain⟨_,m6⟩:=K0 P9 WE
     have XD:((arr.toList.take (0+(i*m+off))++y.cells.toList++arr.toList.drop (0+(i*m+off)+y.cells.toList.length)).toArray).size=arr.size:=by
      simp only[List.size_toArray,List.length_append,List.length_take,List.length_drop,Array.length_toList]
      simp only[Array.length_toList] at ga
      omega
     obtain⟨hH,hE⟩:=hh.write (b':=b.iv (b.cs.set i u)) hb aP hm hp ha jo (by rw[k5]; exact aP) (by rw[k4]; exact hm) (arr':=(arr.toList.take (0+(i*m+off))++y.cells.toList++arr.toList.drop (0+(i*m+off)+y.cells.toList.length)).toArray) (fun hI hO=>by
      have vy:=setRow_heap w g arr (arr.toList.take (0+(i*m+off))++y.cells.toList++arr.toList.drop (0+(i*m+off)+y.cells.toList.length)).toArray b.ty (0,0) jo
      refine⟨p,hp,?_⟩
      rw[k1,hk]
      refine⟨⟨by rw[k3]; exact OK,by rw[k6,List.length_set]; exact hlen,hle,tE⟩,.inr ⟨g,_,(0,0),ha,by rw[k2]; exact vy,?_,hO,by rw[XD,k3]; exact has⟩⟩
      rw[k6,k3]
      have rk:(arr.toList.take (0+(i*m+off))).length=0+(i*m+off):=by rw[List.length_take]; simp only[Array.length_toList] at ga ⊢; omega
      refine cD.of fun j e he=>?_
      by_cases hj:j=i
      ·subst hj
       rw[List.getElem?_set_self hi] at he
       cases he
       refine⟨by rw[hvn2,xr],du.of fun j2 c iP=>?_⟩
       obtain⟨z,hz,P3,XF⟩:=m6 j2 c iP
       have zN:=(List.getElem?_eq_some_iff.1 hz).1
       refine⟨z,?_,PV.Is.mono (fun _ h=>h) hI c _ _ z (fun _ _ _ h=>h) P3,XF⟩
       rw[Ev.gy vy]
       simp only[List.getElem?_toArray]
       rw[List.getElem?_append_left (by rw[List.length_append,rk]; rw[xr,Kr,tK]; omega),List.getElem?_append_right (by rw[rk,xr,Kr,tK]; omega),rk,show 0+j*b.size+j2 - (0+(j*m+off))=j2 by rw[xr,Kr,tK]; omega]
       exact hz
      ·rw[List.getElem?_set_ne (fun e=>hj e.symm)] at he
       obtain⟨hel1,P9⟩:=pW.get he
       refine⟨hel1,du.of fun j2 c iP=>?_⟩
       obtain⟨z,hz,P3,XF⟩:=P9.get iP
       refine⟨z,?_,PV.Is.mono (fun _ h=>h) hI c _ _ z (fun _ _ _ h=>h) P3,XF⟩
       rw[Ev.gy vy]
       rw[Ev.gy jo] at hz
       simp only[List.getElem?_toArray]
       have XC:j2 < n:=by have:=(List.getElem?_eq_some_iff.1 iP).1; omega
       rcases Nat.lt_or_ge j i with Fs|Fs
       ·have:j*n+n<=i*n:=by rw[← Nat.succ_mul]; exact Nat.mul_le_mul_right _ (by omega)
        rw[List.append_assoc,List.getElem?_append_left (by rw[rk,xr,Kr,tK]; omega),List.getElem?_take,if_pos (by rw[xr,Kr,tK]; omega)]
        simpa using hz
       ·have:i*n+n<=j*n:=by rw[← Nat.succ_mul]; exact Nat.mul_le_mul_right _ (by omega)
        have h2:(arr.toList.take (0+(i*m+off))++y.cells.toList).length=0+(i*m+off)+y.cells.toList.length:=by rw[List.length_append,rk]
        have XG:y.cells.toList.length=n:=by simp only[Array.length_toList]; omega
        rw[List.getElem?_append_right (by rw[h2,XG,xr,Kr,tK]; omega),h2,List.getElem?_drop,show 0+(i*m+off)+y.cells.toList.length+(0+j*b.size+j2 - (0+(i*m+off)+y.cells.toList.length))=0+j*b.size+j2 by rw[XG,xr,Kr,tK]; omega]
        simpa using hz)
     refine⟨_,cj jo ga,dj.mk' hR h hH hE (fun _ _ h=>h) (by simp) (fun _ _=>rfl) ?_⟩
     simp only[PV.Is]; exact⟨#[],rfl,by simp only[bG]⟩
   ·exact h.elim
  ·rename_i l off i m
   replace h:=aD h
   obtain⟨b,hb,h⟩:=h
   replace h:=bs h
   obtain⟨OL,k,hi0,hik,h⟩:=h
   simp only[Bool.and_eq_true] at OL
   obtain⟨⟨⟨kp,xq⟩,l6⟩,m0⟩:=OL
   have l6:=Nat.eq_of_beq_eq_true l6
   have m0:0 < m:=Nat.le_of_ble_eq_true m0
   obtain⟨aP,hm⟩:=vx xq
   replace h:=aD h
   obtain⟨cs,iD,h⟩:=h
   replace h:=cS h
   obtain⟨Bw,h⟩:=h
   replace h:=l_ h
   obtain⟨cE,h⟩:=h
   obtain⟨p,g,o,hp,ha,rfl⟩:=hx
   obtain⟨arr,ty,fr,jo,qK,fR⟩:=jY hh hb kp hp ha
   have Bv:fr=(0,0):=(fR.1 (by rw[hm]; decide)).1
   subst Bv
   have lC:y.cells.toList.length=1:=by simp only[Array.length_toList]; omega
   obtain⟨z0,WG⟩:∃ z0,y.cells.toList = [z0]:=List.length_eq_one_iff.1 lC
   have XF:z0.oneCell'=true:=P4 z0 (by rw[WG]; simp)
   have ga:o+(off+i.toNat*m)+y.cells.toList.length<=arr.size:=by
    obtain⟨z,hz,_⟩:=qK _ _ (List.getElem?_eq_getElem Bw)
    have:=(Array.getElem?_eq_some_iff.1 hz).1
    omega
   obtain⟨k1,k2,k3,k4,k5,k6⟩:=rp b cs
   have P5:cs.length=b.cs.length:=pd iD
   have XD:((arr.toList.take (o+(off+i.toNat*m))++y.cells.toList++arr.toList.drop (o+(off+i.toNat*m)+y.cells.toList.length)).toArray).size=arr.size:=by
    simp only[List.size_toArray,List.length_append,List.length_take,List.length_drop,Array.length_toList]
    simp only[Array.length_toList] at ga
    omega
   have Gh:bA w I β cs (arr.toList.take (o+(off+i.toNat*m))++y.cells.toList++arr.toList.drop (o+(off+i.toNat*m)+y.cells.toList.length)).toArray o:=by
    intro j c hj
    have rk:(arr.toList.take (o+(off+i.toNat*m))).length=o+(off+i.toNat*m):=by rw[List.length_take,Array.length_toList]; omega
    obtain⟨c0,rf,nO⟩:=pa iD j c hj
    rw[Nat.zero_add] at nO
    obtain⟨v0,XH,XI,XJ⟩:=qK j c0 rf
    simp only[List.getElem?_toArray]
    rw[WG] at ga ⊢
    by_cases hje:j=off+i.toNat*m
    ·subst hje
     rcases nO with ⟨hn,_⟩|⟨_,K4⟩
     ·exfalso
      apply hn
      refine⟨by omega,?_,by rw[show off+i.toNat*m - off=i.toNat*m by omega]; exact Nat.mul_mod_left _ _⟩
      have:i.toNat < k:=by omega
      have:i.toNat*m < k*m:=Nat.mul_lt_mul_of_pos_right this m0
      omega
     ·rw[show off+i.toNat*m - off=i.toNat*m by omega,Nat.mul_div_cancel _ m0] at K4
      refine⟨z0,?_,K2 K4 (by omega) ?_,XF⟩
      ·rw[List.getElem?_append_left (by rw[List.length_append,rk]; simp),List.getElem?_append_right (by rw[rk]; omega),rk,Nat.sub_self]; rfl
      ·have hvc:=hv.lx Bt
       rw[WG] at hvc
       exact hvc
    ·have rq:(arr.toList.take (o+(off+i.toNat*m))++[z0]++arr.toList.drop (o+(off+i.toNat*m) + [z0].length))[o+j]?=arr[o+j]?:=by
      rcases Nat.lt_or_ge j (off+i.toNat*m) with hjl|hjl
      ·rw[List.append_assoc,List.getElem?_append_left (by rw[rk]; omega),List.getElem?_take,if_pos (by omega)]; simp
      ·rw[List.getElem?_append_right (by rw[List.length_append,rk]; simp; omega),List.length_append,rk,List.getElem?_drop]
       simp only[List.length_cons,List.length_nil]
       rw[show o+(off+i.toNat*m)+(0+1)+(o+j - (o+(off+i.toNat*m)+(0+1)))=o+j by omega]; simp
     refine⟨v0,rq.trans XH,?_,XJ⟩
     rcases nO with ⟨_,rfl⟩|⟨⟨q1,q2,q3⟩,K4⟩
     ·exact XI
     ·refine K3 K4 (fun e=>hje ?_) XI
      have e2:i.toNat=(j - off) / m:=by omega
      have e3:=Nat.div_add_mod (j - off) m
      rw[q3,← e2,Nat.mul_comm] at e3
      omega
   obtain⟨hH,hE⟩:=hh.write (b':=b.iv cs) hb aP hm hp ha jo (by rw[k5]; exact aP) (by rw[k4]; exact hm) (arr':=(arr.toList.take (o+(off+i.toNat*m))++y.cells.toList++arr.toList.drop (o+(off+i.toNat*m)+y.cells.toList.length)).toArray) (fun hI hO=>by
    have vy:=setRow_heap w g arr (arr.toList.take (o+(off+i.toNat*m))++y.cells.toList++arr.toList.drop (o+(off+i.toNat*m)+y.cells.toList.length)).toArray ty (0,0) jo
    obtain⟨q',tJ,hk⟩:=hh.gM l b hb aP
    rw[hp] at tJ
    cases tJ
    refine⟨p,hp,?_⟩
    rw[k1]
    unfold an.mem at kp
    split at hk
    ·rename_i cX
     refine⟨g,o,_,ty,(0,0),ha,vy,?_,hO⟩
     rw[k6]; exact Gh.mono (fun _ h=>h) hI (fun _ _ h=>h)
    ·rename_i cX
     obtain⟨g',arr',fr',dH,XE,_,_,h1,h2,h3,h4,h5⟩:=hk
     rw[ha] at dH; cases dH
     rw[jo] at XE; cases XE
     refine⟨g,_,(0,0),ha,by rw[k2]; exact vy,?_,hO,by rw[k6,k3,P5]; exact h1,h2,h3,by rw[k3,XD]; exact h4,by rw[k3]; exact h5⟩
     rw[k6]; exact Gh.mono (fun _ h=>h) hI (fun _ _ h=>h)
    ·rename_i cX
     rw[cX] at kp; simp at kp
    ·rename_i cX
     rw[cX] at kp; simp at kp)
   refine⟨_,cj jo ga,dj.mk' hR h hH hE (fun _ _ h=>h) (by simp) (fun _ _=>rfl) ?_⟩
   simp only[PV.Is]; exact⟨#[],rfl,by simp only[bG]⟩
  ·exact h.elim
theorem bA.new {cs:List PV} {vs:Array Value} (h:bG w I cs β vs.toList) (h1:∀ c∈cs,c.lv=true):bA w I β cs vs 0:=fun i c hc=>by
 obtain⟨v,hv,hi⟩:=h.get hc
 exact⟨v,by simpa using hv,hi,nH (hi.flat (h1 c (List.mem_of_getElem? hc)))⟩
theorem jr (hh:aN I β st w) (hI:∀ g,I g->g < w.heap.size) (o:Obj):∀ g,jV β st g\/I g->(w.alloc o).heap[g]?=w.heap[g]?:=fun g hg=>Ev.qY w o g (hg.elim hh.dW (hI g))
theorem mb (hh:aN I β st w) (hI:∀ g,I g->g < w.heap.size) {vs:Array Value} {t:TypeId} {b:an} {p:o8} (hp:p.a=some (w.heap.size,0))
  (hb:Own I (β.set st.length p) (st++[b]) st.length w.heap.size (0,0) b->gz I (β.set st.length p) (st++[b]) (w.alloc (.cells vs t)) st.length b) (hm:b.m = .w) :
  aN I (β.set st.length p) (st++[b]) (w.alloc (.cells vs t))/\Ext I β st w I (β.set st.length p) (st++[b]) (w.alloc (.cells vs t)):=by
 have gb:∀ g o,p.a=some (g,o)->¬ I g/\¬ jV β st g:=fun g o ha=>by
  rw[hp] at ha; cases ha
  exact⟨fun h=>by have:=hI _ h; omega,fun h=>by have:=hh.dW h; omega⟩
 refine⟨hh.add (jr hh hI _) gb (hb ⟨fun _=>⟨rfl,(gb _ _ hp).1,fun l' b' dk jT fA p' g' o' e_ dH e=>?_⟩,fun hr=>by rw[hm] at hr; cases hr⟩),Ext.add (w':=w.alloc (.cells vs t)) hh rfl rfl rfl (by simp) (fun g hg _=>Ev.qY w _ g hg) fun g o ha cE=>by rw[hp] at ha; cases ha; omega⟩
 subst e
 unfold aB.set at e_
 rw[if_neg dk] at e_
 have:=hh.lt e_
 rw[List.getElem?_append_left this] at jT
 exact (gb _ _ hp).2 ⟨l',b',p',o',jT,fA,e_,dH⟩
theorem Bx (hR:Rel G I β s a w) {t t':TypeId} {cs:List PV} {vs:Array Value} {q:PV->ba->Prop} (h:PS s ⟨.loc,t,1,.w,true,cs⟩ q) (hc:bG w I cs β vs.toList) (h1:∀ c∈cs,c.lv=true):dj G s I β w a q (.pointer (some ⟨w.heap.size,0,none⟩)) (w.alloc (.cells vs t')):=by
 replace h:=ma (gY h)
 rw[Nat.zero_add] at h
 have qn:=aB.jW hR.heap ⟨some (w.heap.size,0),0,0⟩
 obtain⟨hH,hE⟩:=mb (vs:=vs) (t:=t') hR.heap hR.ay.ay (b:=⟨.loc,t,1,.w,true,cs⟩) (p:=⟨some (w.heap.size,0),0,0⟩) rfl (fun ho =>
  ⟨_,aB.dB ..,w.heap.size,0,vs,t',(0,0),rfl,Ev.lr w _,(bA.new hc h1).mono (fun _ h=>h) (fun g hg=>jr hR.heap hR.ay.ay _ g (.inr hg)) qn,ho⟩) rfl
 refine dj.mk' hR h hH hE qn (by simp) (fun l hl=>if_neg (by omega)) ?_
 simp only[PV.Is]; exact⟨_,w.heap.size,0,aB.dB ..,rfl,rfl⟩
theorem Gi (hR:Rel G I β s a w) {t:TypeId} {len n:Nat} {cs:List PV} {vs:Array Value} {q:PV->ba->Prop} (h:nL s ⟨.arr,t,n,.w,true,cs⟩ q) (hc:bG w I cs β vs.toList) (h1:∀ c∈cs,c.lv=true) (hl:cs.length=len*n) (hn:0 < n) (hm:len<=maxLen):dj G s I β w a q (.slice (some ⟨w.heap.size,0,none⟩) len len) (w.alloc (.cells vs t)):=by
 replace h:=ma (gY h)
 rw[Nat.zero_add] at h
 have qn:=aB.jW hR.heap ⟨some (w.heap.size,0),len,len⟩
 have hvl:=hc.length
 simp only[Array.length_toList] at hvl
 obtain⟨hH,hE⟩:=mb (vs:=vs) (t:=t) hR.heap hR.ay.ay (b:=⟨.arr,t,n,.w,true,cs⟩) (p:=⟨some (w.heap.size,0),len,len⟩) rfl (fun ho =>
  ⟨_,aB.dB ..,w.heap.size,vs,(0,0),rfl,Ev.lr w _,(bA.new hc h1).mono (fun _ h=>h) (fun g hg=>jr hR.heap hR.ay.ay _ g (.inr hg)) qn,ho,hl,Nat.le_refl _,hm,by rw[← hvl]; exact hl,hn⟩) rfl
 refine dj.mk' hR h hH hE qn (by simp) (fun l hl=>if_neg (by omega)) ?_
 simp only[PV.Is]; exact⟨_,aB.dB ..,rfl⟩
end
end Go.Proofs.YtlgkljpgagfndaaGreatDoor.Pw

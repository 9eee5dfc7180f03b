/- What this claim is proved with: no condition. -/
import Derived.Test.YtnbngokbamifbaaGreatDoorNr4
import Derived.Maps.AppendAt
set_option linter.unusedVariables false
set_option linter.unusedSimpArgs false
namespace Go.Proofs.YtnbngokbamifbaaGreatDoor.Pw
open Go Go.RowKit
def ay.set (β:ay) (l:Nat) (p:ph):ay:=fun l'=>if l'=l then some p else β l'
section
variable {w w':World} {I I':Nat->Prop} {β aN:ay} {cx:Ev.Cx} {G:Gx} {P:Program} {s:aV} {a:Act} {st dY:List au}
theorem mn:∀ {st:List au} {l:Nat} {b:au} {q:List au->Prop},xM st l b q->l < st.length/\q (st.set l b)
 | [],_,_,_,h=>h.elim
 | _::st,0,b,q,h=>⟨by simp,h⟩
 | a::st,n+1,b,q,h=>by
  obtain⟨h1,h2⟩:=mn (st:=st) (q:=fun l=>q (a::l)) h
  exact⟨by simpa using h1,h2⟩
theorem mo:∀ {st:List au} {b:au} {q:List au->Prop},Al st b q->q (st++[b])
 | [],_,_,h=>h
 | a::st,b,q,h=>mo (st:=st) (q:=fun l=>q (a::l)) h
theorem gR {α:Type}:∀ {l:List α} {n:Nat} {q:Nat->Prop},lD l n q->q (n+l.length)
 | [],n,q,h=>h
 | _::l,n,q,h=>by
  have:=gR (l:=l) h
  rwa [List.length_cons,show n+(l.length+1)=n+1+l.length by omega]
theorem gb.place {l:Nat} {b:au} (h:gb I β st w l b) {p:ph} {g o:Nat} (hp:β l=some p) (ha:p.a=some (g,o)):∃ (ob:Obj) (_:Unit) (fr:Nat × Nat),w.heap[g]?=some ob/\Own I β st l g fr b:=by
 obtain⟨q,hq,hk⟩:=h
 rw[hp] at hq
 cases hq
 split at hk
 ·obtain⟨g',o',arr,ty,fr,dv,hh,_,ho⟩:=hk
  rw[ha] at dv; cases dv; exact⟨_,(),fr,hh,ho⟩
 ·obtain⟨g',arr,fr,dv,hh,_,ho,_⟩:=hk
  rw[ha] at dv; cases dv; exact⟨_,(),fr,hh,ho⟩
 ·obtain⟨_,hk⟩:=hk
  rcases hk with ⟨dv,_⟩|⟨g',arr,fr,dv,hh,_,ho,_⟩
  ·rw[ha] at dv; cases dv
  ·rw[ha] at dv; cases dv; exact⟨_,(),fr,hh,ho⟩
 ·obtain⟨g',dv,⟨es,clock,hh,_⟩,ho⟩:=hk
  rw[ha] at dv; cases dv; exact⟨_,(),(0,0),hh,ho⟩
theorem BX.og {g:Nat} {cs:List PV} (h:BX w g cs) (hw:w'.heap[g]?=w.heap[g]?):BX w' g cs:=by
 obtain⟨es,clock,hb,F,hs,hD⟩:=h
 exact⟨es,clock,hw.trans hb,F,hs,hD⟩
theorem gb.mono {l:Nat} {b:au} (hI:∀ g,I g->I' g) (hw:∀ g,I g->w'.heap[g]?=w.heap[g]?) (nz:∀ l p,β l=some p->aN l=some p)
  (hg:∀ p g o,β l=some p->p.a=some (g,o)->w'.heap[g]?=w.heap[g]?/\(b.m≠.r->¬ I' g/\∀ l' b',l'≠l->dY[l']?=some b'->b'.live=true->∀ p g' o',aN l'=some p->p.a=some (g',o')->g'≠g)) (hb:gb I β st w l b):gb I' aN dY w' l b:=by
 obtain⟨p,hp,hk⟩:=hb
 refine⟨p,nz l p hp,?_⟩
 have own:∀ {g o:Nat} {fr:Nat × Nat},p.a=some (g,o)->Own I β st l g fr b->Own I' aN dY l g fr b:=fun ha ho=>⟨fun hr=>⟨(ho.1 hr).1,(hg p _ _ hp ha).2 hr⟩,fun hr=>hI _ (ho.2 hr)⟩
 split at hk
 ·obtain⟨g,o,arr,ty,fr,ha,hh,hc,ho⟩:=hk
  exact⟨g,o,arr,ty,fr,ha,(hg p g o hp ha).1.trans hh,hc.mono hI hw nz,own ha ho⟩
 ·obtain⟨g,arr,fr,ha,hh,hc,ho,h1⟩:=hk
  exact⟨g,arr,fr,ha,(hg p g 0 hp ha).1.trans hh,hc.mono hI hw nz,own ha ho,h1⟩
 ·obtain⟨h1,hk⟩:=hk
  refine⟨h1,?_⟩
  rcases hk with h|⟨g,arr,fr,ha,hh,hc,ho,h2⟩
  ·exact .inl h
  ·exact .inr ⟨g,arr,fr,ha,(hg p g 0 hp ha).1.trans hh,cr.mono hI hw _ _ _ _ (hg p g 0 hp ha).1 hc,own ha ho,h2⟩
 ·obtain⟨g,ha,hm,ho⟩:=hk
  exact⟨g,ha,hm.og (hg p g 0 hp ha).1,own ha ho⟩
theorem aE.lt (h:aE I β st w) {l:Nat} {p:ph} (hp:β l=some p):l < st.length:=by
 rcases Nat.lt_or_ge l st.length with h'|h'
 ·exact h'
 ·rw[h.qS l h'] at hp; cases hp
def jN (β:ay) (st:List au) (g:Nat):Prop:=∃ l b p o,st[l]?=some b/\b.live=true/\β l=some p/\p.a=some (g,o)
theorem ay.jO (h:aE I β st w) (p:ph):∀ l q,β l=some q->(β.set st.length p) l=some q:=fun l q hq=>by
 have:=h.lt hq
 unfold ay.set
 rw[if_neg (by omega)]; exact hq
theorem ay.eU (β:ay) (l:Nat) (p:ph):(β.set l p) l=some p:=if_pos rfl
theorem aE.add (h:aE I β st w) (hw:∀ g,jN β st g\/I g->w'.heap[g]?=w.heap[g]?) {b:au} {p:ph} (hp:∀ g o,p.a=some (g,o)->¬ I g/\¬ jN β st g)
  (hb:gb I (β.set st.length p) (st++[b]) w' st.length b):aE I (β.set st.length p) (st++[b]) w':=by
 refine⟨fun l hl=>?_,fun l b' hl aH=>?_⟩
 ·simp only[List.length_append,List.length_singleton] at hl
  unfold ay.set
  rw[if_neg (by omega),h.qS l (by omega)]
 ·by_cases cI:l < st.length
  ·rw[List.getElem?_append_left cI] at hl
   have di:=h.gA l b' hl aH
   refine di.mono (fun _ h=>h) (fun g hg=>hw g (.inr hg)) (ay.jO h p) fun q g o hq ha=>?_
   obtain⟨arr,ty,fr,hh,ho⟩:=di.place hq ha
   have hL:jN β st g:=⟨l,b',q,o,hl,aH,hq,ha⟩
   refine⟨hw g (.inl hL),fun hr=>⟨(ho.1 hr).2.1,fun l' nu dt jL eY p' g' o' dA dv=>?_⟩⟩
   unfold ay.set at dA
   split at dA
   ·cases dA
    intro e
    subst e
    exact (hp _ _ dv).2 hL
   ·have:=h.lt dA
    rw[List.getElem?_append_left this] at jL
    exact (ho.1 hr).2.2 l' nu dt jL eY p' g' o' dA dv
  ·have hle:l=st.length:=by
    have:=(List.getElem?_eq_some_iff.1 hl).1
    simp at this; omega
   subst hle
   rw[List.getElem?_append_right (Nat.le_refl _)] at hl
   simp only[Nat.sub_self,List.getElem?_cons_zero,Option.some.injEq] at hl
   subst hl
   exact hb
theorem aE.dH (h:aE I β st w) {g:Nat} (hg:jN β st g):g < w.heap.size:=by
 obtain⟨l,b,p,o,h1,h2,h3,h4⟩:=hg
 obtain⟨arr,ty,fr,hh,_⟩:=(h.gA l b h1 h2).place h3 h4
 exact bR hh
theorem Ext.add (h:aE I β st w) (hos:w'.os=w.os) (GD:w'.tape=w.tape) (rR:w'.output=w.output) (fA:w.heap.size<=w'.heap.size) {b:au} {p:ph} (hw:∀ g,g < w.heap.size->¬ Wr β st g->w'.heap[g]?=w.heap[g]?)
  (hp:∀ g o,p.a=some (g,o)->g < w.heap.size->Wr β st g):Ext I β st w I (β.set st.length p) (st++[b]) w' :=
 ⟨hos,GD,rR,fA,hw,fun g hg ⟨l,b',q,o,h1,h2,h3,h4,h5⟩=>by
  unfold ay.set at h4
  split at h4
  ·cases h4
   exact hp g o h5 hg
  ·have:=h.lt h4
   rw[List.getElem?_append_left this] at h1
   exact⟨l,b',q,o,h1,h2,h3,h4,h5⟩,fun _ h=>h,fun _ _ h=>.inl h⟩
theorem aE.kill (h:aE I β st w) (l:Nat) {b:au} (hb:b.live=false):aE I β (st.set l b) w:=by
 refine⟨fun l' jL=>h.qS l' (by simpa using jL),fun l' b' jL aH=>?_⟩
 have dt:l'≠l:=fun e=>by
  subst e
  rw[List.getElem?_set_self (by simpa using (List.getElem?_eq_some_iff.1 jL).1)] at jL
  cases jL; rw[hb] at aH; cases aH
 rw[List.getElem?_set_ne (fun e=>dt e.symm)] at jL
 have di:=h.gA l' b' jL aH
 refine di.mono (fun _ h=>h) (fun _ _=>rfl) (fun _ _ h=>h) fun q g o hq ha=>⟨rfl,fun hr=>?_⟩
 obtain⟨arr,ty,fr,hh,ho⟩:=di.place hq ha
 refine⟨(ho.1 hr).2.1,fun l2 b2 hne2 fM bS=>?_⟩
 have hne':l2≠l:=fun e=>by
  subst e
  rw[List.getElem?_set_self (by simpa using (List.getElem?_eq_some_iff.1 fM).1)] at fM
  cases fM; rw[hb] at bS; cases bS
 rw[List.getElem?_set_ne (fun e=>hne' e.symm)] at fM
 exact (ho.1 hr).2.2 l2 b2 hne2 fM bS
theorem GF {l g:Nat} {b:au} (hb:b.live=false\/∃ b0,st[l]?=some b0/\b0.live=b.live/\b0.m=b.m) (h:Wr β (st.set l b) g):Wr β st g:=by
 obtain⟨l',b',p,o,h1,h2,h3,h4,h5⟩:=h
 by_cases dt:l'=l
 ·subst dt
  rw[List.getElem?_set_self (by simpa using (List.getElem?_eq_some_iff.1 h1).1)] at h1
  cases h1
  rcases hb with hb|⟨b0,e1,e2,e3⟩
  ·rw[hb] at h2; cases h2
  ·exact⟨l',b0,p,o,e1,by rw[e2]; exact h2,by rw[e3]; exact h3,h4,h5⟩
 ·rw[List.getElem?_set_ne (fun e=>dt e.symm)] at h1
  exact⟨l',b',p,o,h1,h2,h3,h4,h5⟩
theorem Ext.kill {l:Nat} {b:au} (hb:b.live=false):Ext I β st w I β (st.set l b) w:=⟨rfl,rfl,rfl,Nat.le_refl _,fun _ _ _=>rfl,fun _ _ h=>GF (.inl hb) h,fun _ h=>h,fun _ _ h=>.inl h⟩
theorem aE.write (h:aE I β st w) {l:Nat} {b b':au} {p:ph} {g o:Nat} {arr arr':Array Value} {ty:TypeId} (hb:st[l]?=some b) (aH:b.live=true) (hm:b.m = .w) (hp:β l=some p) (ha:p.a=some (g,o)) (hh:w.heap[g]?=some (.cells arr ty (0,0)))
  (jL:b'.live=true) (mY:b'.m = .w) (oh:∀ (hI:∀ x,I x->(w.setRow g arr').heap[x]?=w.heap[x]?),Own I β (st.set l b') l g (0,0) b'->gb I β (st.set l b') (w.setRow g arr') l b') :
  aE I β (st.set l b') (w.setRow g arr')/\Ext I β st w I β (st.set l b') (w.setRow g arr'):=by
 have gw:=h.gA l b hb aH
 obtain⟨arr0,ty0,fr0,hh0,ho0⟩:=gw.place hp ha
 obtain⟨_,hIg,GG⟩:=ho0.1 (by rw[hm]; decide)
 have uB:∀ x,I x->(w.setRow g arr').heap[x]?=w.heap[x]?:=fun x hx=>setRow_other w g x _ fun e=>hIg (e ▸ hx)
 have hll:l < st.length:=(List.getElem?_eq_some_iff.1 hb).1
 have P1:∀ l' nu,l'≠l->(st.set l b')[l']?=some nu->nu.live=true->∀ p g' o',β l'=some p->p.a=some (g',o')->g'≠g:=fun l' nu dt Kr KB p g' o' dA dv=>by
  rw[List.getElem?_set_ne (fun e=>dt e.symm)] at Kr
  exact GG l' nu dt Kr KB p g' o' dA dv
 refine⟨⟨fun l2 fM=>h.qS l2 (by simpa using fM),fun l2 b2 fM bS=>?_⟩,⟨rfl,rfl,rfl,by simp,fun x hx hn=>setRow_other w g x _ fun e=>hn (e ▸ ⟨l,b,p,o,hb,aH,hm,hp,ha⟩),fun x hx hw=>GF (.inr ⟨b,hb,by rw[aH,jL],by rw[hm,mY]⟩) hw,fun _ h=>h,fun _ _ h=>.inl h⟩⟩
 by_cases dt:l2=l
 ·subst dt
  rw[List.getElem?_set_self hll] at fM
  cases fM
  exact oh uB ⟨fun _=>⟨rfl,hIg,P1⟩,fun hr=>by rw[mY] at hr; cases hr⟩
 ·rw[List.getElem?_set_ne (fun e=>dt e.symm)] at fM
  have dO:=h.gA l2 b2 fM bS
  refine dO.mono (fun _ h=>h) uB (fun _ _ h=>h) fun q g2 o2 hq ir=>?_
  obtain⟨arr2,ty2,fr2,hh2,WR⟩:=dO.place hq ir
  refine⟨setRow_other w g g2 _ (GG l2 b2 dt fM bS q g2 o2 hq ir),fun hr=>⟨(WR.1 hr).2.1,fun l3 b3 hne3 J5 P2 p3 g3 o3 hp3 ha3=>?_⟩⟩
  by_cases h3:l3=l
  ·subst h3
   rw[hp] at hp3
   cases hp3
   rw[ha] at ha3
   cases ha3
   exact fun e=>GG l2 b2 dt fM bS q g2 o2 hq ir e.symm
  ·rw[List.getElem?_set_ne (fun e=>h3 e.symm)] at J5
   exact (WR.1 hr).2.2 l3 b3 hne3 J5 P2 p3 g3 o3 hp3 ha3
theorem vJ {g o n:Nat} {cs:List PV} (hl:cs.length=n) (hc:∀ j c,cs[j]?=some c->∃ v,w.cell? ⟨g,o+j,none⟩=some v/\c.Is w I β v) :
  ∃ vs:Array Value,bJ w I cs β vs.toList/\∀ w2:World,w2.heap[g]?=w.heap[g]?->(loadCells ⟨g,o,none⟩ n).run P w2 = .ok vs w2:=by
 have key:∀ (cs:List PV) (o:Nat),(∀ j c,cs[j]?=some c->∃ v,w.cell? ⟨g,o+j,none⟩=some v/\c.Is w I β v)->∃ l:List Value,bJ w I cs β l/\∀ j v,l[j]?=some v->w.cell? ⟨g,o+j,none⟩=some v:=by
  intro cs
  induction cs with
  | nil=>intro o _; exact⟨[],by simp only[bJ],fun j v h=>by simp at h⟩
  | cons a cs ih =>
   intro o hc
   obtain⟨v,hv,hi⟩:=hc 0 a rfl
   obtain⟨l,h1,h2⟩:=ih (o+1) fun j x hx=>by
    obtain⟨u,hu,hui⟩:=hc (j+1) x (by simpa using hx)
    exact⟨u,by rw[show o+1+j=o+(j+1) by omega]; exact hu,hui⟩
   refine⟨v::l,by simp only[bJ]; exact⟨hi,h1⟩,fun j u hu=>?_⟩
   cases j with
   | zero=>simp at hu; subst hu; exact hv
   | succ j=>rw[show o+(j+1)=o+1+j by omega]; exact h2 j u (by simpa using hu)
 obtain⟨l,h1,h2⟩:=key cs o hc
 refine⟨l.toArray,by simpa using h1,fun w2 vK=>?_⟩
 have hll:=h1.length
 rw[show n=l.length by omega]
 exact run_loadCells_list w2 _ l fun j v hv=>by rw[Ev.iO]; exact (World.cell?_of_block (a:=⟨g,o+j,none⟩) vK).trans (h2 j v hv)
theorem jP (hO:Ev.fY cx) {t:TypeId} {cs:List PV} {off g o:Nat} {q:PV->Prop} (h:part cx t cs off q) (hc:∀ j c,cs[j]?=some c->∃ v,w.cell? ⟨g,o+j,none⟩=some v/\c.Is w I β v) :
  ∃ x v,q x/\x.Is w I β v/\∀ w2:World,w2.heap[g]?=w.heap[g]?->(Instr.loadAt t (.pointer (some ⟨g,o+off,none⟩))).run cx.P w2 = .ok v w2:=by
 replace h:=az h
 obtain⟨x,hx,h⟩:=h
 replace h:=An h
 unfold pX at hx
 split at hx
 ·rename_i n ha hn
  split at hx
  ·rename_i hle
   have WS:off+n<=cs.length:=Nat.le_of_ble_eq_true hle
   cases hx
   obtain⟨vs,g1,g2⟩:=vJ (P:=cx.P) (w:=w) (I:=I) (β:=β) (g:=g) (o:=o+off) (cs:=(cs.drop off).take n) (n:=n) (by simp; omega) (fun j x hx=>by
    rw[List.getElem?_take] at hx
    split at hx
    ·rw[List.getElem?_drop] at hx
     obtain⟨v,hv,hi⟩:=hc _ _ hx
     exact⟨v,by rw[Nat.add_assoc]; exact hv,hi⟩
    ·cases hx)
   exact⟨_,.agg vs,h,by simp only[PV.Is]; exact⟨vs,rfl,g1⟩,fun w2 vK=>by simp[Instr.loadAt,Instr.sureAddr,loadVar,Ev.iJ hO ha,Ev.dS hO hn,g2 w2 vK]⟩
  ·cases hx
 ·rename_i ha
  obtain⟨v,hv,hi⟩:=hc _ _ hx
  refine⟨x,v,h,hi,fun w2 vK=>?_⟩
  have VZ:=(World.cell?_of_block (a:=⟨g,o+off,none⟩) vK).trans hv
  simp[Instr.loadAt,Instr.sureAddr,loadVar,Ev.iJ hO ha,VZ]
 ·cases hx
end
section
variable {w w':World} {I I':Nat->Prop} {β aN:ay} {cx:Ev.Cx} {G:Gx} {P:Program} {s:aV} {a:Act} {st dY:List au}
theorem Is.anywhere {x:PV} {v:Value} (h:x.Is w I (fun _=>none) v):x.Is w I β v:=PV.Is.mono (fun _ h=>h) (fun _ _=>rfl) x _ β v (fun _ _ _ h=>by cases h) h
theorem jQ (h:aE I β st w) {l:Nat} {b:au} {p:ph} {g o:Nat} (hb:st[l]?=some b) (hm:b.mem=true) (hp:β l=some p) (ha:p.a=some (g,o)) :
  ∃ arr ty fr,w.heap[g]?=some (.cells arr ty fr)/\bB w I β b.cs arr o/\Own I β st l g fr b:=by
 unfold au.mem at hm
 simp only[Bool.and_eq_true] at hm
 obtain⟨q,hq,hk⟩:=h.gA l b hb hm.1
 rw[hp] at hq
 cases hq
 have xA:=hm.2
 split at hk
 ·obtain⟨g',o',arr,ty,fr,dv,hh,hc,ho⟩:=hk
  rw[ha] at dv; cases dv; exact⟨arr,ty,fr,hh,hc,ho⟩
 ·obtain⟨g',arr,fr,dv,hh,hc,ho,_⟩:=hk
  rw[ha] at dv; cases dv; exact⟨arr,_,fr,hh,hc,ho⟩
 ·rename_i jf; rw[jf] at xA; cases xA
 ·rename_i jf; rw[jf] at xA; cases xA
theorem bB.load {cs:List PV} {arr:Array Value} {g o:Nat} {ty:TypeId} {fr:Nat × Nat} (h:bB w I β cs arr o) (hh:w.heap[g]?=some (.cells arr ty fr)):∀ j c,cs[j]?=some c->∃ v,w.cell? ⟨g,o+j,none⟩=some v/\c.Is w I β v:=fun j c hc=>by
 obtain⟨v,hv,hi,_⟩:=h j c hc
 exact⟨v,by rw[Ev.f_ hh]; exact hv,hi⟩
theorem dc.load {cs:List PV} {g o:Nat} (h:dc w I cs g o):∀ j c,cs[j]?=some c->∃ v,w.cell? ⟨g,o+j,none⟩=some v/\c.Is w I β v:=fun j c hc=>by
 obtain⟨v,hv,hi,_⟩:=h.get hc
 exact⟨v,hv,Is.anywhere hi⟩
theorem GH (hO:Ev.fY cx) {t:TypeId} {g o:Nat} {v:Value} (ha:Ev.gG cx t=some false) (hc:w.cell? ⟨g,o,none⟩=some v):(Instr.loadAt t (.pointer (some ⟨g,o,none⟩))).run cx.P w = .ok v w:=by
 simp[Instr.loadAt,Instr.sureAddr,loadVar,Ev.iJ hO ha,hc]
theorem rT (hO:Ev.fY G.cx) (hh:aE I β st w) (hM:dd G I w) {t:TypeId} {x:PV} {u:Value} {q:PV->Prop} (h:uw G st t x q) (hx:x.Is w I β u) :
  ∃ z v g,q z/\z.Is w I β v/\(I g\/∃ l b p o,x.gA=some l/\st[l]?=some b/\b.live=true/\β l=some p/\p.a=some (g,o))/\∀ w2:World,w2.heap[g]?=w.heap[g]?->(Instr.loadAt t u).run G.cx.P w2 = .ok v w2:=by
 have idx:∀ {cs:List PV} {g o off n:Nat} {i:Int},(∀ j c,cs[j]?=some c->∃ v,w.cell? ⟨g,o+j,none⟩=some v/\c.Is w I β v) ->
   ((∃ m:Nat,i=m/\part G.cx t cs (off+m*n) q)\/(Ev.gG G.cx t=some false/\0<=i/\off+i.toNat*n < cs.length/\∀ c,cs[off+i.toNat*n]?=some c->q c))->∃ z v,q z/\z.Is w I β v/\∀ w2:World,w2.heap[g]?=w.heap[g]?->(Instr.loadAt t (.pointer (some ⟨g,o+(off+i.toNat*n),none⟩))).run G.cx.P w2 = .ok v w2:=by
  intro cs g o off n i hc h
  rcases h with ⟨m,rfl,h⟩|⟨ha,h0,cI,h⟩
  ·exact jP hO h hc
  ·obtain⟨v,hv,hi⟩:=hc _ _ (List.getElem?_eq_getElem cI)
   exact⟨_,v,h _ (List.getElem?_eq_getElem cI),hi,fun w2 vK=>GH hO ha ((World.cell?_of_block (a:=⟨g,o+(off+i.toNat*n),none⟩) vK).trans hv)⟩
 unfold uw at h
 split at h<;>try simp only[PV.Is] at hx
 ·replace h:=az h
  obtain⟨b,hb,h⟩:=h
  replace h:=bp h
  obtain⟨hm,h⟩:=h
  obtain⟨p,g,o,hp,ha,rfl⟩:=hx
  obtain⟨arr,ty,fr,je,hc,_⟩:=jQ hh hb hm hp ha
  obtain⟨z,v,h1,h2,h3⟩:=jP hO h (hc.load je)
  exact⟨z,v,g,h1,h2,.inr ⟨_,b,p,o,rfl,hb,by unfold au.mem at hm; simp only[Bool.and_eq_true] at hm; exact hm.1,hp,ha⟩,h3⟩
 ·replace h:=az h
  obtain⟨b,hb,h⟩:=h
  replace h:=bp h
  obtain⟨hm,h⟩:=h
  obtain⟨p,g,o,hp,ha,rfl⟩:=hx
  obtain⟨arr,ty,fr,je,hc,_⟩:=jQ hh hb hm hp ha
  obtain⟨z,v,h1,h2,h3⟩:=idx (hc.load je) h
  exact⟨z,v,g,h1,h2,.inr ⟨_,b,p,o,rfl,hb,by unfold au.mem at hm; simp only[Bool.and_eq_true] at hm; exact hm.1,hp,ha⟩,h3⟩
 ·rename_i l i n off
  replace h:=az h
  obtain⟨b,hb,h⟩:=h
  split at h
  ·rename_i hk
   replace h:=bp h
   obtain⟨hc,α,l',enc,ja,hi,h⟩:=h
   simp only[Bool.and_eq_true] at hc
   have hn:b.size=n:=Nat.eq_of_beq_eq_true hc.2
   obtain⟨p,g,o,hp,ha,rfl⟩:=hx
   obtain⟨_,hlen,hle,_,oe⟩:=dE hh hb hc.1 hk hp
   rcases oe with ⟨dv,_⟩|⟨g',arr,fr,dv,_,je,p9,_⟩
   ·rw[ha] at dv; cases dv
   ·rw[ha] at dv
    cases dv
    have he:b.cs[i]?=some (enc l'[i]):=by rw[ja,List.getElem?_map,List.getElem?_eq_getElem hi]; rfl
    have DM:=p9.get he
    obtain⟨z,v,h1,h2,h3⟩:=jP (β:=β) hO (h _ (List.getElem?_eq_getElem hi)) (dc.load DM.2)
    rw[hn,Nat.add_assoc] at h3
    exact⟨z,v,g,h1,h2,.inr ⟨_,b,p,0,rfl,hb,hc.1,hp,ha⟩,h3⟩
  ·exact h.elim
 ·obtain⟨g,o,rfl,hg,hc⟩:=hx
  obtain⟨z,v,h1,h2,h3⟩:=jP (β:=β) hO h hc.load
  exact⟨z,v,g,h1,h2,.inl hg,h3⟩
 ·subst hx
  replace h:=az h
  obtain⟨cs,ja,h⟩:=h
  obtain⟨hg,hc⟩:=hM.nY _ _ (Ev.jd ja)
  obtain⟨z,v,h1,h2,h3⟩:=jP (β:=β) hO h (dc.load hc)
  rw[Nat.zero_add] at h3
  exact⟨z,v,_,h1,h2,.inl hg,h3⟩
 ·subst hx
  replace h:=az h
  obtain⟨cs,ja,h⟩:=h
  obtain⟨hg,hc⟩:=hM.nY _ _ (Ev.jd ja)
  obtain⟨z,v,h1,h2,h3⟩:=idx (dc.load hc) h
  rw[Nat.zero_add] at h3
  exact⟨z,v,_,h1,h2,.inl hg,h3⟩
 ·exact h.elim
theorem KC {cs new r:List PV} {arr:Array Value} {o off:Nat} {vs:List Value} (h:Gn cs new off=some r) (hc:bB w I β cs arr o) (hn:bJ w I new β vs) (h1:∀ v∈vs,v.oneCell'=true) (fA:o+off+vs.length<=arr.size) :
  bB w I β r (arr.toList.take (o+off)++vs++arr.toList.drop (o+off+vs.length)).toArray o:=by
 unfold Gn at h
 split at h
 ·rename_i hle
  have hle:=Nat.le_of_ble_eq_true hle
  cases h
  intro j x hx
  have hl:=hn.length
  simp only[List.getElem?_toArray]
  have qB:(arr.toList.take (o+off)).length=o+off:=by simp; omega
  by_cases hj:j < off
  ·rw[List.append_assoc,List.getElem?_append_left (by simp; omega),List.getElem?_take,if_pos hj] at hx
   obtain⟨v,hv,hi,ho⟩:=hc j x hx
   refine⟨v,?_,hi,ho⟩
   rw[List.append_assoc,List.getElem?_append_left (by rw[qB]; omega),List.getElem?_take,if_pos (by omega)]
   simpa using hv
  ·by_cases hj2:j < off+new.length
   ·rw[List.getElem?_append_left (by simp; omega),List.getElem?_append_right (by simp; omega)] at hx
    have ht:(cs.take off).length=off:=by simp; omega
    rw[ht] at hx
    obtain⟨v,hv,hi⟩:=hn.get hx
    refine⟨v,?_,hi,h1 v (List.mem_of_getElem? hv)⟩
    rw[List.getElem?_append_left (by simp; omega),List.getElem?_append_right (by rw[qB]; omega),qB,show o+j - (o+off)=j - off by omega]
    exact hv
   ·rw[List.getElem?_append_right (by simp; omega),List.getElem?_drop] at hx
    have ht:(cs.take off++new).length=off+new.length:=by simp; omega
    rw[ht,show off+new.length+(j - (off+new.length))=j by omega] at hx
    obtain⟨v,hv,hi,ho⟩:=hc j x hx
    refine⟨v,?_,hi,ho⟩
    have h2:(arr.toList.take (o+off)++vs).length=o+off+vs.length:=by simp; omega
    rw[List.getElem?_append_right (by rw[h2]; omega),h2,List.getElem?_drop,show o+off+vs.length+(o+j - (o+off+vs.length))=o+j by omega]
    simpa using hv
 ·cases h
theorem rU (b:au) (cs:List PV):(b.ib cs).k=b.k/\(b.ib cs).ty=b.ty/\(b.ib cs).size=b.size/\(b.ib cs).m=b.m/\(b.ib cs).live=b.live/\(b.ib cs).cs=cs:=by
 cases b; exact⟨rfl,rfl,rfl,rfl,rfl,rfl⟩
theorem vL {b:au} (h:b.can=true):b.live=true/\b.m = .w:=by
 unfold au.can at h
 simp only[Bool.and_eq_true] at h
 refine⟨h.1,?_⟩
 have:=h.2
 cases hm:b.m<;>rw[hm] at this<;>first|rfl|cases this
theorem KD {v:PV} {u:Value} (he:v.elem=true) (h:v.Is w I β u):(∀ ts,v≠.tup ts)/\∀ (j:Nat) (c:PV),v.cells[j]?=some c->∃ y,u.cells.toList[j]?=some y/\c.Is w I (fun _=>none) y/\y.oneCell'=true:=by
 have nr:∀ {c:PV} {y:Value},c.pZ=true->c.Is w I β y->c.Is w I (fun _=>none) y/\y.oneCell'=true:=fun hc hi=>by
  refine⟨?_,nZ (hi.flat (by rename_i c _; cases c<;>first|rfl|cases hc))⟩
  refine PV.Is.mono (fun _ h=>h) (fun _ _=>rfl) _ β _ _ (fun l p hl=>?_) hi
  rename_i c _
  cases c<;>simp_all [PV.dx,PV.pZ]
 have B5:∀ ts,v≠.tup ts:=fun ts e=>by subst e; cases he
 refine⟨B5,fun j c hc=>?_⟩
 obtain⟨y,hy,hi⟩:=(h.lB B5).get hc
 refine⟨y,hy,nr ?_ hi⟩
 cases v with
 | agg cs =>
  simp only[PV.elem,List.all_eq_true] at he
  exact he c (List.mem_of_getElem? hc)
 | _ =>
  simp only[PV.cells] at hc
  cases j with
  | zero=>simp at hc; subst hc; exact he
  | succ j=>simp at hc
theorem KE {x:PV} {y:Value} (B5:∀ ts,x≠.tup ts) (h:x.Is w I β y) (h1:∀ c∈x.cells,c.lA=true):∀ z∈y.cells.toList,z.oneCell'=true:=by
 intro z hz
 obtain⟨k,hk,hkz⟩:=List.getElem_of_mem hz
 have hl:=(h.lB B5).length
 have jf:k < x.cells.length:=by omega
 obtain⟨z',hz',P3⟩:=(h.lB B5).get (List.getElem?_eq_getElem jf)
 rw[List.getElem?_eq_getElem hk,hkz] at hz'
 cases hz'
 exact nZ (P3.flat (h1 _ (List.getElem_mem jf)))
end
structure nA (G:Gx):Prop where
 ok:Ev.fY G.cx
 bG:∀ p∈G.bt,∃ i,G.cx.P.info? p.1=some i/\i.bytes=p.2
section
variable {w w':World} {I I':Nat->Prop} {β aN:ay} {cx:Ev.Cx} {G:Gx} {P:Program} {s:aV} {a:Act} {st dY:List au}
theorem aV.dT (s:aV) (st:List au):(s.store st).n=s.n/\(s.store st).t=s.t/\(s.store st).st=st/\(s.store st).base=s.base/\(s.store st).rl=s.rl:=by
 cases s; exact⟨rfl,rfl,rfl,rfl,rfl⟩
theorem Rel.grow (hR:Rel G I β s a w) (hh:aE I' aN dY w') (he:Ext I β s.st w I' aN dY w') (nz:∀ l p,β l=some p->aN l=some p) (hl:s.st.length<=dY.length) (hI:∀ g,I' g->g < w'.heap.size):Rel G I' aN (s.store dY) a w':=by
 obtain⟨e1,e2,e3,e4,e5⟩:=aV.dT s dY
 exact⟨by rw[e1]; exact hR.small,hR.defers,by rw[e1]; exact hR.size,by rw[e4,e3]; exact Nat.le_trans hR.base hl,fun t x ht=>by
  rw[e2] at ht
  obtain⟨v,hv,hi⟩:=hR.get t x ht
  exact⟨v,hv,PV.Is.mono he.av (he.keeps hR.heap hR.av.av) x β aN v (fun l p _=>nz l p) hi⟩,by rw[e3]; exact hh,hR.av.ext hR.heap he hI⟩
theorem dn.mk' (hR:Rel G I β s a w) {q:PV->aV->Prop} {x:PV} {v:Value} (h:q x (s.store dY)) (hh:aE I aN dY w') (he:Ext I β s.st w I aN dY w') (nz:∀ l p,β l=some p->aN l=some p) (hl:s.st.length<=dY.length) (gx:∀ l,l < s.st.length->aN l=β l)
  (hx:x.Is w' I aN v):dn G s I β w a q v w':=by
 obtain⟨e1,e2,e3,e4,e5⟩:=aV.dT s dY
 exact⟨x,_,I,aN,h,hR.grow hh he nz hl (fun g hg=>Nat.lt_of_lt_of_le (hR.av.av g hg) he.size),hx,by rw[e3]; exact he,e4,e5,e1,fun l jL _=>gx l (Nat.lt_of_lt_of_le jL hR.base),fun l b hb _=>gx l (List.getElem?_eq_some_iff.1 hb).1⟩
theorem dn.same (hR:Rel G I β s a w) {q:PV->aV->Prop} {x:PV} {v:Value} (h:q x s) (hx:x.Is w I β v):dn G s I β w a q v w :=
 ⟨x,s,I,β,h,hR,hx,Ext.refl,rfl,rfl,rfl,fun _ _ _=>rfl,fun _ _ _ _=>rfl⟩
theorem po {i:Int} {v:PV} {off m k:Nat}:∀ {cs r:List PV} {p:Nat},n9 i v off m k p cs=some r->∀ (j:Nat) (c:PV),r[j]?=some c->∃ c0,cs[j]?=some c0 /\
  ((¬ (off<=p+j/\p+j < off+k*m/\(p+j - off) % m=0)/\c=c0)\/((off<=p+j/\p+j < off+k*m/\(p+j - off) % m=0)/\mix (i=(((p+j - off) / m:Nat):Int)) v c0=some c))
 | [],r,p,h,j,c,hj=>by simp only[n9,Option.some.injEq] at h; subst h; simp at hj
 | x::cs,r,p,h,j,c,hj=>by
  unfold n9 at h
  cases hc:(Nat.ble off p && Nat.blt p (off+k*m) && Nat.beq ((p - off) % m) 0) with
  | true =>
   rw[hc,cond_true] at h
   split at h
   ·rename_i y l hy hl
    cases h
    simp only[Bool.and_eq_true] at hc
    have c1:=Nat.le_of_ble_eq_true hc.1.1
    have c2:p < off+k*m:=Nat.le_of_ble_eq_true hc.1.2
    have c3:=Nat.eq_of_beq_eq_true hc.2
    cases j with
    | zero=>simp only[List.getElem?_cons_zero,Option.some.injEq] at hj; subst hj; exact⟨x,rfl,.inr ⟨⟨c1,c2,c3⟩,hy⟩⟩
    | succ j =>
     obtain⟨c0,h0,h1⟩:=po hl j c hj
     rw[show p+1+j=p+(j+1) by omega] at h1
     exact⟨c0,h0,h1⟩
   ·cases h
  | false =>
   rw[hc,cond_false] at h
   split at h
   ·rename_i l hl
    cases h
    cases j with
    | zero =>
     simp only[List.getElem?_cons_zero,Option.some.injEq] at hj; subst hj
     refine⟨x,rfl,.inl ⟨fun ⟨a1,a2,a3⟩=>?_,rfl⟩⟩
     have:(Nat.ble off p && Nat.blt p (off+k*m) && Nat.beq ((p - off) % m) 0)=true:=by
      simp only[Bool.and_eq_true]
      exact⟨⟨Nat.ble_eq_true_of_le a1,Nat.ble_eq_true_of_le a2⟩,by rw[show (p - off) % m=0 from a3]; rfl⟩
     rw[hc] at this; cases this
    | succ j =>
     obtain⟨c0,h0,h1⟩:=po hl j c hj
     rw[show p+1+j=p+(j+1) by omega] at h1
     exact⟨c0,h0,h1⟩
   ·cases h
theorem pq {i:Int} {v:PV} {off m k:Nat}:∀ {cs r:List PV} {p:Nat},n9 i v off m k p cs=some r->r.length=cs.length
 | [],r,p,h=>by simp only[n9,Option.some.injEq] at h; subst h; rfl
 | x::cs,r,p,h=>by
  unfold n9 at h
  cases hc:(Nat.ble off p && Nat.blt p (off+k*m) && Nat.beq ((p - off) % m) 0) with
  | true =>
   rw[hc,cond_true] at h
   split at h
   ·rename_i y l hy hl
    cases h; rw[List.length_cons,List.length_cons,pq hl]
   ·cases h
  | false =>
   rw[hc,cond_false] at h
   split at h
   ·rename_i l hl
    cases h; rw[List.length_cons,List.length_cons,pq hl]
   ·cases h
theorem GI {p:Prop} [Decidable p] {x c z:PV} (h:mix p x c=some z):∃ k a b,z = .int k (if p then a else b)/\(x = .int k a\/x = .lit k a)/\(c = .int k b\/c = .lit k b):=by
 have key:∀ (k l:IntKind) (a b:Int),(if decide (k=l)=true then some (PV.int k (if p then a else b)) else none)=some z->k=l/\z = .int k (if p then a else b):=fun k l a b h=>by
  by_cases hk:k=l
  ·rw[if_pos (decide_eq_true hk)] at h; exact⟨hk,(Option.some.inj h).symm⟩
  ·rw[if_neg (by simp[hk])] at h; cases h
 cases x<;>first
  | (cases h; done)
  | (cases c<;>first
    | (cases h; done)
    | (obtain⟨rfl,rfl⟩:=key _ _ _ _ h
       exact⟨_,_,_,rfl,by simp,by simp⟩))
theorem KF {p:Prop} [Decidable p] {x c z:PV} {u:Value} (h:mix p x c=some z) (hp:p) (hx:bJ w I x.cells β [u]):z.Is w I β u:=by
 obtain⟨k,a,b,rfl,h1,_⟩:=GI h
 rcases h1 with rfl|rfl
 ·simp only[PV.cells,bJ,PV.Is,and_true] at hx ⊢
  rw[if_pos hp]; exact hx
 ·simp only[PV.cells,bJ,PV.Is,and_true] at hx ⊢
  rw[if_pos hp]; exact hx
theorem KG {p:Prop} [Decidable p] {x c z:PV} {u:Value} (h:mix p x c=some z) (hp:¬ p) (hc:c.Is w I β u):z.Is w I β u:=by
 obtain⟨k,a,b,rfl,_,h1⟩:=GI h
 rcases h1 with rfl|rfl
 ·simp only[PV.Is] at hc ⊢
  rw[if_neg hp]; exact hc
 ·simp only[PV.Is] at hc ⊢
  rw[if_neg hp]; exact hc
theorem DQ (hG:nA G) (hR:Rel G I β s a w) {t:TypeId} {x v:PV} {u y:Value} {q:PV->aV->Prop} (h:Gp G s.st t x v fun st=>q (.tup []) (s.store st)) (hx:x.Is w I β u) (hv:v.Is w I β y) :
  ∃ w',(Instr.storeAt t u y).run G.cx.P w = .ok () w'/\dn G s I β w a q undef w':=by
 have hh:=hR.heap
 replace h:=az h
 obtain⟨n,hn,h⟩:=h
 replace h:=bp h
 obtain⟨hc,h⟩:=h
 simp only[Bool.and_eq_true,List.all_eq_true] at hc
 obtain⟨⟨P4,jv⟩,hc3⟩:=hc
 have hvn:v.cells.length=n:=Nat.eq_of_beq_eq_true P4
 have iP:0 < n:=Nat.le_of_ble_eq_true jv
 have B5:∀ ts,v≠.tup ts:=fun ts e=>by subst e; exact h.elim
 have hyc:=hv.lB B5
 have KH:=hyc.length
 simp only[Array.length_toList] at KH
 have P5:=KE B5 hv hc3
 have ck:∀ {g o:Nat} {arr:Array Value} {ty:TypeId},w.heap[g]?=some (.cells arr ty (0,0))->o+y.cells.toList.length<=arr.size ->
   (Instr.storeAt t (.pointer (some ⟨g,o,none⟩)) y).run G.cx.P w = .ok () (w.setRow g (arr.toList.take o++y.cells.toList++arr.toList.drop (o+y.cells.toList.length)).toArray):=fun {g o arr ty} je fA=>by
  have:=run_storeCells_at (P:=G.cx.P) g o ty y.cells.toList 0 arr w je (by simpa using fA) P5
  simp only[Instr.storeAt,Instr.sureAddr,storeVar,Sem.run_bind,Sem.run_pure,Result.andThen_ok,Ev.dS hG.ok hn]
  rw[if_neg (by omega)]
  simpa using this
 split at h
 ·exact h.elim
 ·split at h<;>try simp only[PV.Is] at hx
  ·rename_i l off
   replace h:=az h
   obtain⟨b,hb,h⟩:=h
   replace h:=bp h
   obtain⟨On,h⟩:=h
   simp only[Bool.and_eq_true] at On
   obtain⟨km,xT⟩:=On
   obtain⟨aH,hm⟩:=vL xT
   replace h:=az h
   obtain⟨cs,ja,h⟩:=h
   replace h:=mn (cO h)
   obtain⟨cI,h⟩:=h
   obtain⟨p,g,o,hp,ha,rfl⟩:=hx
   obtain⟨arr,ty,fr,je,qX,fC⟩:=jQ hh hb km hp ha
   have GJ:fr=(0,0):=(fC.1 (by rw[hm]; decide)).1
   subst GJ
   have hle:off+v.cells.length<=b.cs.length:=by
    unfold Gn at ja
    split at ja
    ·rename_i hle; exact Nat.le_of_ble_eq_true hle
    ·cases ja
   have fA:o+off+y.cells.toList.length<=arr.size:=by
    obtain⟨z,hz,_⟩:=qX _ _ (List.getElem?_eq_getElem (show off+n - 1 < b.cs.length by omega))
    have:=(Array.getElem?_eq_some_iff.1 hz).1
    simp only[Array.length_toList]
    omega
   obtain⟨k1,k2,k3,k4,k5,k6⟩:=rU b cs
   have P8:cs.length=b.cs.length:=by
    unfold Gn at ja
    split at ja
    ·cases ja; simp only[List.length_append,List.length_take,List.length_drop]; omega
    ·cases ja
   have WT:((arr.toList.take (o+off)++y.cells.toList++arr.toList.drop (o+off+y.cells.toList.length)).toArray).size=arr.size:=by
    simp only[List.size_toArray,List.length_append,List.length_take,List.length_drop,Array.length_toList]
    simp only[Array.length_toList] at fA
    omega
   have GK:=KC ja qX hyc P5 fA
   obtain⟨hH,hE⟩:=hh.write (b':=b.ib cs) hb aH hm hp ha je (by rw[k5]; exact aH) (by rw[k4]; exact hm) (arr':=(arr.toList.take (o+off)++y.cells.toList++arr.toList.drop (o+off+y.cells.toList.length)).toArray) (fun hI hO=>by
    have vM:=setRow_heap w g arr (arr.toList.take (o+off)++y.cells.toList++arr.toList.drop (o+off+y.cells.toList.length)).toArray ty (0,0) je
    obtain⟨q',vN,hk⟩:=hh.gA l b hb aH
    rw[hp] at vN
    cases vN
    refine⟨p,hp,?_⟩
    rw[k1]
    unfold au.mem at km
    split at hk
    ·rename_i cP
     refine⟨g,o,_,ty,(0,0),ha,vM,?_,hO⟩
     rw[k6]; exact GK.mono (fun _ h=>h) hI (fun _ _ h=>h)
    ·rename_i cP
     obtain⟨g',arr',fr',dv,WU,_,_,h1,h2,h3,h4,h5⟩:=hk
     rw[ha] at dv; cases dv
     rw[je] at WU; cases WU
     refine⟨g,_,(0,0),ha,by rw[k2]; exact vM,?_,hO,by rw[k6,k3,P8]; exact h1,h2,h3,by rw[k3,WT]; exact h4,by rw[k3]; exact h5⟩
     rw[k6]; exact GK.mono (fun _ h=>h) hI (fun _ _ h=>h)
    ·rename_i cP
     rw[cP] at km; simp at km
    ·rename_i cP
     rw[cP] at km; simp at km)
   refine⟨_,ck je fA,dn.mk' hR h hH hE (fun _ _ h=>h) (by simp) (fun _ _=>rfl) ?_⟩
   simp only[PV.Is]; exact⟨#[],rfl,by simp only[bJ]⟩
  ·rename_i l i m off
   replace h:=az h
   obtain⟨b,hb,h⟩:=h
   split at h
   ·rename_i hk
    replace h:=bp h
    obtain⟨On,hi,h⟩:=h
    simp only[Bool.and_eq_true] at On
    obtain⟨⟨⟨⟨xT,xU⟩,J6⟩,tV⟩,DM⟩:=On
    obtain⟨aH,hm⟩:=vL xT
    obtain⟨u,hu⟩:∃ u,v.norm=u:=⟨_,rfl⟩
    rw[hu] at h
    have VZ:u.Is w I β y:=by rw[← hu]; cases v<;>first|exact hv|(simp only[PV.norm,PV.Is] at hv ⊢; exact hv)
    have P9:u.elem=true:=by rw[← hu]; cases v<;>first|exact DM|rfl
    have hvn2:u.cells.length=n:=by rw[← hu,← hvn]; cases v<;>rfl
    have xU:=Nat.eq_of_beq_eq_true xU
    have J6:=Nat.eq_of_beq_eq_true J6
    have tV:=Nat.eq_of_beq_eq_true tV
    replace h:=mn h
    obtain⟨cI,h⟩:=h
    obtain⟨p,g,o,hp,ha,rfl⟩:=hx
    obtain⟨Om,hlen,hle,rQ,oe⟩:=dE hh hb aH hk hp
    rcases oe with ⟨dv,_⟩|⟨g',arr,fr,dv,_,je,p9,fC,has⟩
    ·rw[ha] at dv; cases dv
    ·rw[ha] at dv
     cases dv
     have GJ:fr=(0,0):=(fC.1 (by rw[hm]; decide)).1
     subst GJ
     have qC:i*n+n<=p.cap*n:=by rw[← Nat.succ_mul]; exact Nat.mul_le_mul_right _ (by omega)
     have fA:0+(i*m+off)+y.cells.toList.length<=arr.size:=by simp only[Array.length_toList]; rw[has,xU,J6,tV]; omega
     obtain⟨k1,k2,k3,k4,k5,k6⟩:=rU b (b.cs.set i u)
     obtain⟨_,nB⟩:=KD P9 VZ
     have WT:((arr.toList.take (0+(i*m+off))++y.cells.toList++arr.toList.drop (0+(i*m+off)+y.cells.toList.length)).toArray).size=arr.size:=by
      simp only[List.size_toArray,List.length_append,List.length_take,List.length_drop,Array.length_toList]
      simp only[Array.length_toList] at fA
      omega
     obtain⟨hH,hE⟩:=hh.write (b':=b.ib (b.cs.set i u)) hb aH hm hp ha je (by rw[k5]; exact aH) (by rw[k4]; exact hm) (arr':=(arr.toList.take (0+(i*m+off))++y.cells.toList++arr.toList.drop (0+(i*m+off)+y.cells.toList.length)).toArray) (fun hI hO=>by
      have vM:=setRow_heap w g arr (arr.toList.take (0+(i*m+off))++y.cells.toList++arr.toList.drop (0+(i*m+off)+y.cells.toList.length)).toArray b.ty (0,0) je
      refine⟨p,hp,?_⟩
      rw[k1,hk]
      refine⟨⟨by rw[k3]; exact Om,by rw[k6,List.length_set]; exact hlen,hle,rQ⟩,.inr ⟨g,_,(0,0),ha,by rw[k2]; exact vM,?_,hO,by rw[WT,k3]; exact has⟩⟩
      rw[k6,k3]
      have qB:(arr.toList.take (0+(i*m+off))).length=0+(i*m+off):=by rw[List.length_take]; simp only[Array.length_toList] at fA ⊢; omega
      refine cr.of fun j e he=>?_
      by_cases hj:j=i
      ·subst hj
       rw[List.getElem?_set_self hi] at he
       cases he
       refine⟨by rw[hvn2,xU],dc.of fun j2 c jv=>?_⟩
       obtain⟨z,hz,P3,WV⟩:=nB j2 c jv
       have As:=(List.getElem?_eq_some_iff.1 hz).1
       refine⟨z,?_,PV.Is.mono (fun _ h=>h) hI c _ _ z (fun _ _ _ h=>h) P3,WV⟩
       rw[Ev.f_ vM]
       simp only[List.getElem?_toArray]
       rw[List.getElem?_append_left (by rw[List.length_append,qB]; rw[xU,J6,tV]; omega),List.getElem?_append_right (by rw[qB,xU,J6,tV]; omega),qB,show 0+j*b.size+j2 - (0+(j*m+off))=j2 by rw[xU,J6,tV]; omega]
       exact hz
      ·rw[List.getElem?_set_ne (fun e=>hj e.symm)] at he
       obtain⟨hel1,P9⟩:=p9.get he
       refine⟨hel1,dc.of fun j2 c jv=>?_⟩
       obtain⟨z,hz,P3,WV⟩:=P9.get jv
       refine⟨z,?_,PV.Is.mono (fun _ h=>h) hI c _ _ z (fun _ _ _ h=>h) P3,WV⟩
       rw[Ev.f_ vM]
       rw[Ev.f_ je] at hz
       simp only[List.getElem?_toArray]
       have hj2:j2 < n:=by have:=(List.getElem?_eq_some_iff.1 jv).1; omega
       rcases Nat.lt_or_ge j i with FO|FO
       ·have:j*n+n<=i*n:=by rw[← Nat.succ_mul]; exact Nat.mul_le_mul_right _ (by omega)
        rw[List.append_assoc,List.getElem?_append_left (by rw[qB,xU,J6,tV]; omega),List.getElem?_take,if_pos (by rw[xU,J6,tV]; omega)]
        simpa using hz
       ·have:i*n+n<=j*n:=by rw[← Nat.succ_mul]; exact Nat.mul_le_mul_right _ (by omega)
        have h2:(arr.toList.take (0+(i*m+off))++y.cells.toList).length=0+(i*m+off)+y.cells.toList.length:=by rw[List.length_append,qB]
        have WW:y.cells.toList.length=n:=by simp only[Array.length_toList]; omega
        rw[List.getElem?_append_right (by rw[h2,WW,xU,J6,tV]; omega),h2,List.getElem?_drop,show 0+(i*m+off)+y.cells.toList.length+(0+j*b.size+j2 - (0+(i*m+off)+y.cells.toList.length))=0+j*b.size+j2 by rw[WW,xU,J6,tV]; omega]
        simpa using hz)
     refine⟨_,ck je fA,dn.mk' hR h hH hE (fun _ _ h=>h) (by simp) (fun _ _=>rfl) ?_⟩
     simp only[PV.Is]; exact⟨#[],rfl,by simp only[bJ]⟩
   ·exact h.elim
  ·rename_i l off i m
   replace h:=az h
   obtain⟨b,hb,h⟩:=h
   replace h:=bp h
   obtain⟨On,k,hi0,hik,h⟩:=h
   simp only[Bool.and_eq_true] at On
   obtain⟨⟨⟨km,xT⟩,lx⟩,lG⟩:=On
   have lx:=Nat.eq_of_beq_eq_true lx
   have lG:0 < m:=Nat.le_of_ble_eq_true lG
   obtain⟨aH,hm⟩:=vL xT
   replace h:=az h
   obtain⟨cs,ja,h⟩:=h
   replace h:=cO h
   obtain⟨hbd,h⟩:=h
   replace h:=mn h
   obtain⟨cI,h⟩:=h
   obtain⟨p,g,o,hp,ha,rfl⟩:=hx
   obtain⟨arr,ty,fr,je,qX,fC⟩:=jQ hh hb km hp ha
   have GJ:fr=(0,0):=(fC.1 (by rw[hm]; decide)).1
   subst GJ
   have At:y.cells.toList.length=1:=by simp only[Array.length_toList]; omega
   obtain⟨z0,hz0⟩:∃ z0,y.cells.toList = [z0]:=List.length_eq_one_iff.1 At
   have WV:z0.oneCell'=true:=P5 z0 (by rw[hz0]; simp)
   have fA:o+(off+i.toNat*m)+y.cells.toList.length<=arr.size:=by
    obtain⟨z,hz,_⟩:=qX _ _ (List.getElem?_eq_getElem hbd)
    have:=(Array.getElem?_eq_some_iff.1 hz).1
    omega
   obtain⟨k1,k2,k3,k4,k5,k6⟩:=rU b cs
   have P8:cs.length=b.cs.length:=pq ja
   have WT:((arr.toList.take (o+(off+i.toNat*m))++y.cells.toList++arr.toList.drop (o+(off+i.toNat*m)+y.cells.toList.length)).toArray).size=arr.size:=by
    simp only[List.size_toArray,List.length_append,List.length_take,List.length_drop,Array.length_toList]
    simp only[Array.length_toList] at fA
    omega
   have GK:bB w I β cs (arr.toList.take (o+(off+i.toNat*m))++y.cells.toList++arr.toList.drop (o+(off+i.toNat*m)+y.cells.toList.length)).toArray o:=by
    intro j c hj
    have qB:(arr.toList.take (o+(off+i.toNat*m))).length=o+(off+i.toNat*m):=by rw[List.length_take,Array.length_toList]; omega
    obtain⟨c0,qW,oe⟩:=po ja j c hj
    rw[Nat.zero_add] at oe
    obtain⟨v0,hv0,WX,WY⟩:=qX j c0 qW
    simp only[List.getElem?_toArray]
    rw[hz0] at fA ⊢
    by_cases hje:j=off+i.toNat*m
    ·subst hje
     rcases oe with ⟨hn,_⟩|⟨_,KI⟩
     ·exfalso
      apply hn
      refine⟨by omega,?_,by rw[show off+i.toNat*m - off=i.toNat*m by omega]; exact Nat.mul_mod_left _ _⟩
      have:i.toNat < k:=by omega
      have:i.toNat*m < k*m:=Nat.mul_lt_mul_of_pos_right this lG
      omega
     ·rw[show off+i.toNat*m - off=i.toNat*m by omega,Nat.mul_div_cancel _ lG] at KI
      refine⟨z0,?_,KF KI (by omega) ?_,WV⟩
      ·rw[List.getElem?_append_left (by rw[List.length_append,qB]; simp),List.getElem?_append_right (by rw[qB]; omega),qB,Nat.sub_self]; rfl
      ·have hvc:=hv.lB B5
       rw[hz0] at hvc
       exact hvc
    ·have rV:(arr.toList.take (o+(off+i.toNat*m))++[z0]++arr.toList.drop (o+(off+i.toNat*m) + [z0].length))[o+j]?=arr[o+j]?:=by
      rcases Nat.lt_or_ge j (off+i.toNat*m) with hjl|hjl
      ·rw[List.append_assoc,List.getElem?_append_left (by rw[qB]; omega),List.getElem?_take,if_pos (by omega)]; simp
      ·rw[List.getElem?_append_right (by rw[List.length_append,qB]; simp; omega),List.length_append,qB,List.getElem?_drop]
       simp only[List.length_cons,List.length_nil]
       rw[show o+(off+i.toNat*m)+(0+1)+(o+j - (o+(off+i.toNat*m)+(0+1)))=o+j by omega]; simp
     refine⟨v0,rV.trans hv0,?_,WY⟩
     rcases oe with ⟨_,rfl⟩|⟨⟨q1,q2,q3⟩,KI⟩
     ·exact WX
     ·refine KG KI (fun e=>hje ?_) WX
      have e2:i.toNat=(j - off) / m:=by omega
      have e3:=Nat.div_add_mod (j - off) m
      rw[q3,← e2,Nat.mul_comm] at e3
      omega
   obtain⟨hH,hE⟩:=hh.write (b':=b.ib cs) hb aH hm hp ha je (by rw[k5]; exact aH) (by rw[k4]; exact hm) (arr':=(arr.toList.take (o+(off+i.toNat*m))++y.cells.toList++arr.toList.drop (o+(off+i.toNat*m)+y.cells.toList.length)).toArray) (fun hI hO=>by
    have vM:=setRow_heap w g arr (arr.toList.take (o+(off+i.toNat*m))++y.cells.toList++arr.toList.drop (o+(off+i.toNat*m)+y.cells.toList.length)).toArray ty (0,0) je
    obtain⟨q',vN,hk⟩:=hh.gA l b hb aH
    rw[hp] at vN
    cases vN
    refine⟨p,hp,?_⟩
    rw[k1]
    unfold au.mem at km
    split at hk
    ·rename_i cP
     refine⟨g,o,_,ty,(0,0),ha,vM,?_,hO⟩
     rw[k6]; exact GK.mono (fun _ h=>h) hI (fun _ _ h=>h)
    ·rename_i cP
     obtain⟨g',arr',fr',dv,WU,_,_,h1,h2,h3,h4,h5⟩:=hk
     rw[ha] at dv; cases dv
     rw[je] at WU; cases WU
     refine⟨g,_,(0,0),ha,by rw[k2]; exact vM,?_,hO,by rw[k6,k3,P8]; exact h1,h2,h3,by rw[k3,WT]; exact h4,by rw[k3]; exact h5⟩
     rw[k6]; exact GK.mono (fun _ h=>h) hI (fun _ _ h=>h)
    ·rename_i cP
     rw[cP] at km; simp at km
    ·rename_i cP
     rw[cP] at km; simp at km)
   refine⟨_,ck je fA,dn.mk' hR h hH hE (fun _ _ h=>h) (by simp) (fun _ _=>rfl) ?_⟩
   simp only[PV.Is]; exact⟨#[],rfl,by simp only[bJ]⟩
  ·exact h.elim
theorem bB.new {cs:List PV} {vs:Array Value} (h:bJ w I cs β vs.toList) (h1:∀ c∈cs,c.lA=true):bB w I β cs vs 0:=fun i c hc=>by
 obtain⟨v,hv,hi⟩:=h.get hc
 exact⟨v,by simpa using hv,hi,nZ (hi.flat (h1 c (List.mem_of_getElem? hc)))⟩
theorem jg (hh:aE I β st w) (hI:∀ g,I g->g < w.heap.size) (o:Obj):∀ g,jN β st g\/I g->(w.alloc o).heap[g]?=w.heap[g]?:=fun g hg=>Ev.xJ w o g (hg.elim hh.dH (hI g))
theorem pr (hh:aE I β st w) (hI:∀ g,I g->g < w.heap.size) {vs:Array Value} {t:TypeId} {b:au} {p:ph} (hp:p.a=some (w.heap.size,0))
  (hb:Own I (β.set st.length p) (st++[b]) st.length w.heap.size (0,0) b->gb I (β.set st.length p) (st++[b]) (w.alloc (.cells vs t)) st.length b) (hm:b.m = .w) :
  aE I (β.set st.length p) (st++[b]) (w.alloc (.cells vs t))/\Ext I β st w I (β.set st.length p) (st++[b]) (w.alloc (.cells vs t)):=by
 have fN:∀ g o,p.a=some (g,o)->¬ I g/\¬ jN β st g:=fun g o ha=>by
  rw[hp] at ha; cases ha
  exact⟨fun h=>by have:=hI _ h; omega,fun h=>by have:=hh.dH h; omega⟩
 refine⟨hh.add (jg hh hI _) fN (hb ⟨fun _=>⟨rfl,(fN _ _ hp).1,fun l' b' dt jL eY p' g' o' dA dv e=>?_⟩,fun hr=>by rw[hm] at hr; cases hr⟩),Ext.add (w':=w.alloc (.cells vs t)) hh rfl rfl rfl (by simp) (fun g hg _=>Ev.xJ w _ g hg) fun g o ha cI=>by rw[hp] at ha; cases ha; omega⟩
 subst e
 unfold ay.set at dA
 rw[if_neg dt] at dA
 have:=hh.lt dA
 rw[List.getElem?_append_left this] at jL
 exact (fN _ _ hp).2 ⟨l',b',p',o',jL,eY,dA,dv⟩
theorem B8 (hR:Rel G I β s a w) {t t':TypeId} {cs:List PV} {vs:Array Value} {q:PV->aV->Prop} (h:PS s ⟨.loc,t,1,.w,true,cs⟩ q) (hc:bJ w I cs β vs.toList) (h1:∀ c∈cs,c.lA=true):dn G s I β w a q (.pointer (some ⟨w.heap.size,0,none⟩)) (w.alloc (.cells vs t')):=by
 replace h:=mo (gR h)
 rw[Nat.zero_add] at h
 have lH:=ay.jO hR.heap ⟨some (w.heap.size,0),0,0⟩
 obtain⟨hH,hE⟩:=pr (vs:=vs) (t:=t') hR.heap hR.av.av (b:=⟨.loc,t,1,.w,true,cs⟩) (p:=⟨some (w.heap.size,0),0,0⟩) rfl (fun ho =>
  ⟨_,ay.eU ..,w.heap.size,0,vs,t',(0,0),rfl,Ev.nW w _,(bB.new hc h1).mono (fun _ h=>h) (fun g hg=>jg hR.heap hR.av.av _ g (.inr hg)) lH,ho⟩) rfl
 refine dn.mk' hR h hH hE lH (by simp) (fun l hl=>if_neg (by omega)) ?_
 simp only[PV.Is]; exact⟨_,w.heap.size,0,ay.eU ..,rfl,rfl⟩
theorem GL (hR:Rel G I β s a w) {t:TypeId} {len n:Nat} {cs:List PV} {vs:Array Value} {q:PV->aV->Prop} (h:n_ s ⟨.arr,t,n,.w,true,cs⟩ q) (hc:bJ w I cs β vs.toList) (h1:∀ c∈cs,c.lA=true) (hl:cs.length=len*n) (hn:0 < n) (hm:len<=maxLen):dn G s I β w a q (.slice (some ⟨w.heap.size,0,none⟩) len len) (w.alloc (.cells vs t)):=by
 replace h:=mo (gR h)
 rw[Nat.zero_add] at h
 have lH:=ay.jO hR.heap ⟨some (w.heap.size,0),len,len⟩
 have hvl:=hc.length
 simp only[Array.length_toList] at hvl
 obtain⟨hH,hE⟩:=pr (vs:=vs) (t:=t) hR.heap hR.av.av (b:=⟨.arr,t,n,.w,true,cs⟩) (p:=⟨some (w.heap.size,0),len,len⟩) rfl (fun ho =>
  ⟨_,ay.eU ..,w.heap.size,vs,(0,0),rfl,Ev.nW w _,(bB.new hc h1).mono (fun _ h=>h) (fun g hg=>jg hR.heap hR.av.av _ g (.inr hg)) lH,ho,hl,Nat.le_refl _,hm,by rw[← hvl]; exact hl,hn⟩) rfl
 refine dn.mk' hR h hH hE lH (by simp) (fun l hl=>if_neg (by omega)) ?_
 simp only[PV.Is]; exact⟨_,ay.eU ..,rfl⟩
end
end Go.Proofs.YtnbngokbamifbaaGreatDoor.Pw

/- What this claim is proved with: no condition. -/
import Derived.Test.YtlgkljpgagfndaaGreatDoorNs4
import Derived.Maps.AppendAt
set_option linter.unusedVariables false
set_option linter.unusedSimpArgs false
namespace Go.Proofs.YtlgkljpgagfndaaGreatDoor.Pw
open Go Go.RowKit
def aB.set (β:aB) (l:Nat) (p:na):aB:=fun l'=>if l'=l then some p else β l'
section
variable {w w':World} {I I':Nat->Prop} {β aV:aB} {cx:Ev.Cx} {G:Gx} {P:Program} {s:ba} {a:Act} {st dM:List ak}
theorem jX:∀ {st:List ak} {l:Nat} {b:ak} {q:List ak->Prop},s5 st l b q->l < st.length/\q (st.set l b)
 | [],_,_,_,h=>h.elim
 | _::st,0,b,q,h=>⟨by simp,h⟩
 | a::st,n+1,b,q,h=>by
  obtain⟨h1,h2⟩:=jX (st:=st) (q:=fun l=>q (a::l)) h
  exact⟨by simpa using h1,h2⟩
theorem jY:∀ {st:List ak} {b:ak} {q:List ak->Prop},vu st b q->q (st++[b])
 | [],_,_,h=>h
 | a::st,b,q,h=>jY (st:=st) (q:=fun l=>q (a::l)) h
theorem ga {α:Type}:∀ {l:List α} {n:Nat} {q:Nat->Prop},kL l n q->q (n+l.length)
 | [],n,q,h=>h
 | _::l,n,q,h=>by
  have:=ga (l:=l) h
  rwa [List.length_cons,show n+(l.length+1)=n+1+l.length by omega]
theorem fN.place {l:Nat} {b:ak} (h:fN I β st w l b) {p:na} {g o:Nat} (hp:β l=some p) (ha:p.a=some (g,o)):∃ (ob:Obj) (_:Unit) (fr:Nat × Nat),w.heap[g]?=some ob/\Own I β st l g fr b:=by
 obtain⟨q,hq,hk⟩:=h
 rw[hp] at hq
 cases hq
 split at hk
 ·obtain⟨g',o',arr,ty,fr,dH,hh,_,ho⟩:=hk
  rw[ha] at dH; cases dH; exact⟨_,(),fr,hh,ho⟩
 ·obtain⟨g',arr,fr,dH,hh,_,ho,_⟩:=hk
  rw[ha] at dH; cases dH; exact⟨_,(),fr,hh,ho⟩
 ·obtain⟨_,hk⟩:=hk
  rcases hk with ⟨dH,_⟩|⟨g',arr,fr,dH,hh,_,ho,_⟩
  ·rw[ha] at dH; cases dH
  ·rw[ha] at dH; cases dH; exact⟨_,(),fr,hh,ho⟩
 ·obtain⟨g',dH,⟨es,clock,hh,_⟩,ho⟩:=hk
  rw[ha] at dH; cases dH; exact⟨_,(),(0,0),hh,ho⟩
theorem xh.rB {g:Nat} {cs:List PV} (h:xh w g cs) (hw:w'.heap[g]?=w.heap[g]?):xh w' g cs:=by
 obtain⟨es,clock,hb,F,hs,hD⟩:=h
 exact⟨es,clock,hw.trans hb,F,hs,hD⟩
theorem fN.mono {l:Nat} {b:ak} (hI:∀ g,I g->I' g) (hw:∀ g,I g->w'.heap[g]?=w.heap[g]?) (kO:∀ l p,β l=some p->aV l=some p)
  (hg:∀ p g o,β l=some p->p.a=some (g,o)->w'.heap[g]?=w.heap[g]?/\(b.m≠.r->¬ I' g/\∀ l' b',l'≠l->dM[l']?=some b'->b'.live=true->∀ p g' o',aV l'=some p->p.a=some (g',o')->g'≠g)) (hb:fN I β st w l b):fN I' aV dM w' l b:=by
 obtain⟨p,hp,hk⟩:=hb
 refine⟨p,kO l p hp,?_⟩
 have own:∀ {g o:Nat} {fr:Nat × Nat},p.a=some (g,o)->Own I β st l g fr b->Own I' aV dM l g fr b:=fun ha ho=>⟨fun hr=>⟨(ho.1 hr).1,(hg p _ _ hp ha).2 hr⟩,fun hr=>hI _ (ho.2 hr)⟩
 split at hk
 ·obtain⟨g,o,arr,ty,fr,ha,hh,hc,ho⟩:=hk
  exact⟨g,o,arr,ty,fr,ha,(hg p g o hp ha).1.trans hh,hc.mono hI hw kO,own ha ho⟩
 ·obtain⟨g,arr,fr,ha,hh,hc,ho,h1⟩:=hk
  exact⟨g,arr,fr,ha,(hg p g 0 hp ha).1.trans hh,hc.mono hI hw kO,own ha ho,h1⟩
 ·obtain⟨h1,hk⟩:=hk
  refine⟨h1,?_⟩
  rcases hk with h|⟨g,arr,fr,ha,hh,hc,ho,h2⟩
  ·exact .inl h
  ·exact .inr ⟨g,arr,fr,ha,(hg p g 0 hp ha).1.trans hh,cl.mono hI hw _ _ _ _ (hg p g 0 hp ha).1 hc,own ha ho,h2⟩
 ·obtain⟨g,ha,hm,ho⟩:=hk
  exact⟨g,ha,hm.rB (hg p g 0 hp ha).1,own ha ho⟩
theorem aN.lt (h:aN I β st w) {l:Nat} {p:na} (hp:β l=some p):l < st.length:=by
 rcases Nat.lt_or_ge l st.length with h'|h'
 ·exact h'
 ·rw[h.pM l h'] at hp; cases hp
def ik (β:aB) (st:List ak) (g:Nat):Prop:=∃ l b p o,st[l]?=some b/\b.live=true/\β l=some p/\p.a=some (g,o)
theorem aB.il (h:aN I β st w) (p:na):∀ l q,β l=some q->(β.set st.length p) l=some q:=fun l q hq=>by
 have:=h.lt hq
 unfold aB.set
 rw[if_neg (by omega)]; exact hq
theorem aB.c8 (β:aB) (l:Nat) (p:na):(β.set l p) l=some p:=if_pos rfl
theorem aN.add (h:aN I β st w) (hw:∀ g,ik β st g\/I g->w'.heap[g]?=w.heap[g]?) {b:ak} {p:na} (hp:∀ g o,p.a=some (g,o)->¬ I g/\¬ ik β st g)
  (hb:fN I (β.set st.length p) (st++[b]) w' st.length b):aN I (β.set st.length p) (st++[b]) w':=by
 refine⟨fun l hl=>?_,fun l b' hl aL=>?_⟩
 ·simp only[List.length_append,List.length_singleton] at hl
  unfold aB.set
  rw[if_neg (by omega),h.pM l (by omega)]
 ·by_cases cz:l < st.length
  ·rw[List.getElem?_append_left cz] at hl
   have db:=h.fR l b' hl aL
   refine db.mono (fun _ h=>h) (fun g hg=>hw g (.inr hg)) (aB.il h p) fun q g o hq ha=>?_
   obtain⟨arr,ty,fr,hh,ho⟩:=db.place hq ha
   have hL:ik β st g:=⟨l,b',q,o,hl,aL,hq,ha⟩
   refine⟨hw g (.inl hL),fun hr=>⟨(ho.1 hr).2.1,fun l' kJ cZ ig eV p' g' o' eE dH=>?_⟩⟩
   unfold aB.set at eE
   split at eE
   ·cases eE
    intro e
    subst e
    exact (hp _ _ dH).2 hL
   ·have:=h.lt eE
    rw[List.getElem?_append_left this] at ig
    exact (ho.1 hr).2.2 l' kJ cZ ig eV p' g' o' eE dH
  ·have hle:l=st.length:=by
    have:=(List.getElem?_eq_some_iff.1 hl).1
    simp at this; omega
   subst hle
   rw[List.getElem?_append_right (Nat.le_refl _)] at hl
   simp only[Nat.sub_self,List.getElem?_cons_zero,Option.some.injEq] at hl
   subst hl
   exact hb
theorem aN.dk (h:aN I β st w) {g:Nat} (hg:ik β st g):g < w.heap.size:=by
 obtain⟨l,b,p,o,h1,h2,h3,h4⟩:=hg
 obtain⟨arr,ty,fr,hh,_⟩:=(h.fR l b h1 h2).place h3 h4
 exact cY hh
theorem Ext.add (h:aN I β st w) (Wc:w'.os=w.os) (BL:w'.tape=w.tape) (oz:w'.output=w.output) (fe:w.heap.size<=w'.heap.size) {b:ak} {p:na} (hw:∀ g,g < w.heap.size->¬ Wr β st g->w'.heap[g]?=w.heap[g]?)
  (hp:∀ g o,p.a=some (g,o)->g < w.heap.size->Wr β st g):Ext I β st w I (β.set st.length p) (st++[b]) w' :=
 ⟨Wc,BL,oz,fe,hw,fun g hg ⟨l,b',q,o,h1,h2,h3,h4,h5⟩=>by
  unfold aB.set at h4
  split at h4
  ·cases h4
   exact hp g o h5 hg
  ·have:=h.lt h4
   rw[List.getElem?_append_left this] at h1
   exact⟨l,b',q,o,h1,h2,h3,h4,h5⟩,fun _ h=>h,fun _ _ h=>.inl h⟩
theorem aN.kill (h:aN I β st w) (l:Nat) {b:ak} (hb:b.live=false):aN I β (st.set l b) w:=by
 refine⟨fun l' ig=>h.pM l' (by simpa using ig),fun l' b' ig aL=>?_⟩
 have cZ:l'≠l:=fun e=>by
  subst e
  rw[List.getElem?_set_self (by simpa using (List.getElem?_eq_some_iff.1 ig).1)] at ig
  cases ig; rw[hb] at aL; cases aL
 rw[List.getElem?_set_ne (fun e=>cZ e.symm)] at ig
 have db:=h.fR l' b' ig aL
 refine db.mono (fun _ h=>h) (fun _ _=>rfl) (fun _ _ h=>h) fun q g o hq ha=>⟨rfl,fun hr=>?_⟩
 obtain⟨arr,ty,fr,hh,ho⟩:=db.place hq ha
 refine⟨(ho.1 hr).2.1,fun l2 b2 Wd fv bN=>?_⟩
 have We:l2≠l:=fun e=>by
  subst e
  rw[List.getElem?_set_self (by simpa using (List.getElem?_eq_some_iff.1 fv).1)] at fv
  cases fv; rw[hb] at bN; cases bN
 rw[List.getElem?_set_ne (fun e=>We e.symm)] at fv
 exact (ho.1 hr).2.2 l2 b2 Wd fv bN
theorem BM {l g:Nat} {b:ak} (hb:b.live=false\/∃ b0,st[l]?=some b0/\b0.live=b.live/\b0.m=b.m) (h:Wr β (st.set l b) g):Wr β st g:=by
 obtain⟨l',b',p,o,h1,h2,h3,h4,h5⟩:=h
 by_cases cZ:l'=l
 ·subst cZ
  rw[List.getElem?_set_self (by simpa using (List.getElem?_eq_some_iff.1 h1).1)] at h1
  cases h1
  rcases hb with hb|⟨b0,e1,e2,e3⟩
  ·rw[hb] at h2; cases h2
  ·exact⟨l',b0,p,o,e1,by rw[e2]; exact h2,by rw[e3]; exact h3,h4,h5⟩
 ·rw[List.getElem?_set_ne (fun e=>cZ e.symm)] at h1
  exact⟨l',b',p,o,h1,h2,h3,h4,h5⟩
theorem Ext.kill {l:Nat} {b:ak} (hb:b.live=false):Ext I β st w I β (st.set l b) w:=⟨rfl,rfl,rfl,Nat.le_refl _,fun _ _ _=>rfl,fun _ _ h=>BM (.inl hb) h,fun _ h=>h,fun _ _ h=>.inl h⟩
theorem aN.write (h:aN I β st w) {l:Nat} {b b':ak} {p:na} {g o:Nat} {arr arr':Array Value} {ty:TypeId} (hb:st[l]?=some b) (aL:b.live=true) (hm:b.m = .w) (hp:β l=some p) (ha:p.a=some (g,o)) (hh:w.heap[g]?=some (.cells arr ty (0,0)))
  (ig:b'.live=true) (mw:b'.m = .w) (lH:∀ (hI:∀ x,I x->(w.setRow g arr').heap[x]?=w.heap[x]?),Own I β (st.set l b') l g (0,0) b'->fN I β (st.set l b') (w.setRow g arr') l b') :
  aN I β (st.set l b') (w.setRow g arr')/\Ext I β st w I β (st.set l b') (w.setRow g arr'):=by
 have fw:=h.fR l b hb aL
 obtain⟨arr0,ty0,fr0,hh0,ho0⟩:=fw.place hp ha
 obtain⟨_,YT,BN⟩:=ho0.1 (by rw[hm]; decide)
 have qo:∀ x,I x->(w.setRow g arr').heap[x]?=w.heap[x]?:=fun x hx=>setRow_other w g x _ fun e=>YT (e ▸ hx)
 have YU:l < st.length:=(List.getElem?_eq_some_iff.1 hb).1
 have Ko:∀ l' kJ,l'≠l->(st.set l b')[l']?=some kJ->kJ.live=true->∀ p g' o',β l'=some p->p.a=some (g',o')->g'≠g:=fun l' kJ cZ Fv FH p g' o' eE dH=>by
  rw[List.getElem?_set_ne (fun e=>cZ e.symm)] at Fv
  exact BN l' kJ cZ Fv FH p g' o' eE dH
 refine⟨⟨fun l2 fv=>h.pM l2 (by simpa using fv),fun l2 b2 fv bN=>?_⟩,⟨rfl,rfl,rfl,by simp,fun x hx hn=>setRow_other w g x _ fun e=>hn (e ▸ ⟨l,b,p,o,hb,aL,hm,hp,ha⟩),fun x hx hw=>BM (.inr ⟨b,hb,by rw[aL,ig],by rw[hm,mw]⟩) hw,fun _ h=>h,fun _ _ h=>.inl h⟩⟩
 by_cases cZ:l2=l
 ·subst cZ
  rw[List.getElem?_set_self YU] at fv
  cases fv
  exact lH qo ⟨fun _=>⟨rfl,YT,Ko⟩,fun hr=>by rw[mw] at hr; cases hr⟩
 ·rw[List.getElem?_set_ne (fun e=>cZ e.symm)] at fv
  have dD:=h.fR l2 b2 fv bN
  refine dD.mono (fun _ h=>h) qo (fun _ _ h=>h) fun q g2 o2 hq fY=>?_
  obtain⟨arr2,ty2,fr2,hh2,Rg⟩:=dD.place hq fY
  refine⟨setRow_other w g g2 _ (BN l2 b2 cZ fv bN q g2 o2 hq fY),fun hr=>⟨(Rg.1 hr).2.1,fun l3 b3 Wf QC Kp p3 g3 o3 Wg Wh=>?_⟩⟩
  by_cases h3:l3=l
  ·subst h3
   rw[hp] at Wg
   cases Wg
   rw[ha] at Wh
   cases Wh
   exact fun e=>BN l2 b2 cZ fv bN q g2 o2 hq fY e.symm
  ·rw[List.getElem?_set_ne (fun e=>h3 e.symm)] at QC
   exact (Rg.1 hr).2.2 l3 b3 Wf QC Kp p3 g3 o3 Wg Wh
theorem rC {g o n:Nat} {cs:List PV} (hl:cs.length=n) (hc:∀ j c,cs[j]?=some c->∃ v,w.cell? ⟨g,o+j,none⟩=some v/\c.Is w I β v) :
  ∃ vs:Array Value,bB w I cs β vs.toList/\∀ w2:World,w2.heap[g]?=w.heap[g]?->(loadCells ⟨g,o,none⟩ n).run P w2 = .ok vs w2:=by
 have key:∀ (cs:List PV) (o:Nat),(∀ j c,cs[j]?=some c->∃ v,w.cell? ⟨g,o+j,none⟩=some v/\c.Is w I β v)->∃ l:List Value,bB w I cs β l/\∀ j v,l[j]?=some v->w.cell? ⟨g,o+j,none⟩=some v:=by
  intro cs
  induction cs with
  | nil=>intro o _; exact⟨[],by simp only[bB],fun j v h=>by simp at h⟩
  | cons a cs ih =>
   intro o hc
   obtain⟨v,hv,hi⟩:=hc 0 a rfl
   obtain⟨l,h1,h2⟩:=ih (o+1) fun j x hx=>by
    obtain⟨u,hu,hui⟩:=hc (j+1) x (by simpa using hx)
    exact⟨u,by rw[show o+1+j=o+(j+1) by omega]; exact hu,hui⟩
   refine⟨v::l,by simp only[bB]; exact⟨hi,h1⟩,fun j u hu=>?_⟩
   cases j with
   | zero=>simp at hu; subst hu; exact hv
   | succ j=>rw[show o+(j+1)=o+1+j by omega]; exact h2 j u (by simpa using hu)
 obtain⟨l,h1,h2⟩:=key cs o hc
 refine⟨l.toArray,by simpa using h1,fun w2 rD=>?_⟩
 have YU:=h1.length
 rw[show n=l.length by omega]
 exact run_loadCells_list w2 _ l fun j v hv=>by rw[Ev.gr]; exact (World.cell?_of_block (a:=⟨g,o+j,none⟩) rD).trans (h2 j v hv)
theorem im (hO:Ev.fg cx) {t:TypeId} {cs:List PV} {off g o:Nat} {q:PV->Prop} (h:part cx t cs off q) (hc:∀ j c,cs[j]?=some c->∃ v,w.cell? ⟨g,o+j,none⟩=some v/\c.Is w I β v) :
  ∃ x v,q x/\x.Is w I β v/\∀ w2:World,w2.heap[g]?=w.heap[g]?->(Instr.loadAt t (.pointer (some ⟨g,o+off,none⟩))).run cx.P w2 = .ok v w2:=by
 replace h:=ay h
 obtain⟨x,hx,h⟩:=h
 replace h:=vw h
 unfold nc at hx
 split at hx
 ·rename_i n ha hn
  split at hx
  ·rename_i hle
   have Rh:off+n<=cs.length:=Nat.le_of_ble_eq_true hle
   cases hx
   obtain⟨vs,g1,g2⟩:=rC (P:=cx.P) (w:=w) (I:=I) (β:=β) (g:=g) (o:=o+off) (cs:=(cs.drop off).take n) (n:=n) (by simp; omega) (fun j x hx=>by
    rw[List.getElem?_take] at hx
    split at hx
    ·rw[List.getElem?_drop] at hx
     obtain⟨v,hv,hi⟩:=hc _ _ hx
     exact⟨v,by rw[Nat.add_assoc]; exact hv,hi⟩
    ·cases hx)
   exact⟨_,.agg vs,h,by simp only[PV.Is]; exact⟨vs,rfl,g1⟩,fun w2 rD=>by simp[Instr.loadAt,Instr.sureAddr,loadVar,Ev.gm hO ha,Ev.dA hO hn,g2 w2 rD]⟩
  ·cases hx
 ·rename_i ha
  obtain⟨v,hv,hi⟩:=hc _ _ hx
  refine⟨x,v,h,hi,fun w2 rD=>?_⟩
  have Wi:=(World.cell?_of_block (a:=⟨g,o+off,none⟩) rD).trans hv
  simp[Instr.loadAt,Instr.sureAddr,loadVar,Ev.gm hO ha,Wi]
 ·cases hx
end
section
variable {w w':World} {I I':Nat->Prop} {β aV:aB} {cx:Ev.Cx} {G:Gx} {P:Program} {s:ba} {a:Act} {st dM:List ak}
theorem Is.anywhere {x:PV} {v:Value} (h:x.Is w I (fun _=>none) v):x.Is w I β v:=PV.Is.mono (fun _ h=>h) (fun _ _=>rfl) x _ β v (fun _ _ _ h=>by cases h) h
theorem iq (h:aN I β st w) {l:Nat} {b:ak} {p:na} {g o:Nat} (hb:st[l]?=some b) (hm:b.mem=true) (hp:β l=some p) (ha:p.a=some (g,o)) :
  ∃ arr ty fr,w.heap[g]?=some (.cells arr ty fr)/\bp w I β b.cs arr o/\Own I β st l g fr b:=by
 unfold ak.mem at hm
 simp only[Bool.and_eq_true] at hm
 obtain⟨q,hq,hk⟩:=h.fR l b hb hm.1
 rw[hp] at hq
 cases hq
 have yN:=hm.2
 split at hk
 ·obtain⟨g',o',arr,ty,fr,dH,hh,hc,ho⟩:=hk
  rw[ha] at dH; cases dH; exact⟨arr,ty,fr,hh,hc,ho⟩
 ·obtain⟨g',arr,fr,dH,hh,hc,ho,_⟩:=hk
  rw[ha] at dH; cases dH; exact⟨arr,_,fr,hh,hc,ho⟩
 ·rename_i gP; rw[gP] at yN; cases yN
 ·rename_i gP; rw[gP] at yN; cases yN
theorem bp.load {cs:List PV} {arr:Array Value} {g o:Nat} {ty:TypeId} {fr:Nat × Nat} (h:bp w I β cs arr o) (hh:w.heap[g]?=some (.cells arr ty fr)):∀ j c,cs[j]?=some c->∃ v,w.cell? ⟨g,o+j,none⟩=some v/\c.Is w I β v:=fun j c hc=>by
 obtain⟨v,hv,hi,_⟩:=h j c hc
 exact⟨v,by rw[Ev.fi hh]; exact hv,hi⟩
theorem cX.load {cs:List PV} {g o:Nat} (h:cX w I cs g o):∀ j c,cs[j]?=some c->∃ v,w.cell? ⟨g,o+j,none⟩=some v/\c.Is w I β v:=fun j c hc=>by
 obtain⟨v,hv,hi,_⟩:=h.get hc
 exact⟨v,hv,Is.anywhere hi⟩
theorem BO (hO:Ev.fg cx) {t:TypeId} {g o:Nat} {v:Value} (ha:Ev.fC cx t=some false) (hc:w.cell? ⟨g,o,none⟩=some v):(Instr.loadAt t (.pointer (some ⟨g,o,none⟩))).run cx.P w = .ok v w:=by
 simp[Instr.loadAt,Instr.sureAddr,loadVar,Ev.gm hO ha,hc]
theorem oA (hO:Ev.fg G.cx) (hh:aN I β st w) (hM:dj G I w) {t:TypeId} {x:PV} {u:Value} {q:PV->Prop} (h:qi G st t x q) (hx:x.Is w I β u) :
  ∃ z v g,q z/\z.Is w I β v/\(I g\/∃ l b p o,x.fR=some l/\st[l]?=some b/\b.live=true/\β l=some p/\p.a=some (g,o))/\∀ w2:World,w2.heap[g]?=w.heap[g]?->(Instr.loadAt t u).run G.cx.P w2 = .ok v w2:=by
 have idx:∀ {cs:List PV} {g o off n:Nat} {i:Int},(∀ j c,cs[j]?=some c->∃ v,w.cell? ⟨g,o+j,none⟩=some v/\c.Is w I β v) ->
   ((∃ m:Nat,i=m/\part G.cx t cs (off+m*n) q)\/(Ev.fC G.cx t=some false/\0<=i/\off+i.toNat*n < cs.length/\∀ c,cs[off+i.toNat*n]?=some c->q c))->∃ z v,q z/\z.Is w I β v/\∀ w2:World,w2.heap[g]?=w.heap[g]?->(Instr.loadAt t (.pointer (some ⟨g,o+(off+i.toNat*n),none⟩))).run G.cx.P w2 = .ok v w2:=by
  intro cs g o off n i hc h
  rcases h with ⟨m,rfl,h⟩|⟨ha,h0,cz,h⟩
  ·exact im hO h hc
  ·obtain⟨v,hv,hi⟩:=hc _ _ (List.getElem?_eq_getElem cz)
   exact⟨_,v,h _ (List.getElem?_eq_getElem cz),hi,fun w2 rD=>BO hO ha ((World.cell?_of_block (a:=⟨g,o+(off+i.toNat*n),none⟩) rD).trans hv)⟩
 unfold qi at h
 split at h<;>try simp only[PV.Is] at hx
 ·replace h:=ay h
  obtain⟨b,hb,h⟩:=h
  replace h:=bf h
  obtain⟨hm,h⟩:=h
  obtain⟨p,g,o,hp,ha,rfl⟩:=hx
  obtain⟨arr,ty,fr,gO,hc,_⟩:=iq hh hb hm hp ha
  obtain⟨z,v,h1,h2,h3⟩:=im hO h (hc.load gO)
  exact⟨z,v,g,h1,h2,.inr ⟨_,b,p,o,rfl,hb,by unfold ak.mem at hm; simp only[Bool.and_eq_true] at hm; exact hm.1,hp,ha⟩,h3⟩
 ·replace h:=ay h
  obtain⟨b,hb,h⟩:=h
  replace h:=bf h
  obtain⟨hm,h⟩:=h
  obtain⟨p,g,o,hp,ha,rfl⟩:=hx
  obtain⟨arr,ty,fr,gO,hc,_⟩:=iq hh hb hm hp ha
  obtain⟨z,v,h1,h2,h3⟩:=idx (hc.load gO) h
  exact⟨z,v,g,h1,h2,.inr ⟨_,b,p,o,rfl,hb,by unfold ak.mem at hm; simp only[Bool.and_eq_true] at hm; exact hm.1,hp,ha⟩,h3⟩
 ·rename_i l i n off
  replace h:=ay h
  obtain⟨b,hb,h⟩:=h
  split at h
  ·rename_i hk
   replace h:=bf h
   obtain⟨hc,α,l',enc,gb,hi,h⟩:=h
   simp only[Bool.and_eq_true] at hc
   have hn:b.size=n:=Nat.eq_of_beq_eq_true hc.2
   obtain⟨p,g,o,hp,ha,rfl⟩:=hx
   obtain⟨_,hlen,hle,_,lE⟩:=df hh hb hc.1 hk hp
   rcases lE with ⟨dH,_⟩|⟨g',arr,fr,dH,_,gO,ow,_⟩
   ·rw[ha] at dH; cases dH
   ·rw[ha] at dH
    cases dH
    have he:b.cs[i]?=some (enc l'[i]):=by rw[gb,List.getElem?_map,List.getElem?_eq_getElem hi]; rfl
    have FD:=ow.get he
    obtain⟨z,v,h1,h2,h3⟩:=im (β:=β) hO (h _ (List.getElem?_eq_getElem hi)) (cX.load FD.2)
    rw[hn,Nat.add_assoc] at h3
    exact⟨z,v,g,h1,h2,.inr ⟨_,b,p,0,rfl,hb,hc.1,hp,ha⟩,h3⟩
  ·exact h.elim
 ·obtain⟨g,o,rfl,hg,hc⟩:=hx
  obtain⟨z,v,h1,h2,h3⟩:=im (β:=β) hO h hc.load
  exact⟨z,v,g,h1,h2,.inl hg,h3⟩
 ·subst hx
  replace h:=ay h
  obtain⟨cs,gb,h⟩:=h
  obtain⟨hg,hc⟩:=hM.oh _ _ (Ev.gN gb)
  obtain⟨z,v,h1,h2,h3⟩:=im (β:=β) hO h (cX.load hc)
  rw[Nat.zero_add] at h3
  exact⟨z,v,_,h1,h2,.inl hg,h3⟩
 ·subst hx
  replace h:=ay h
  obtain⟨cs,gb,h⟩:=h
  obtain⟨hg,hc⟩:=hM.oh _ _ (Ev.gN gb)
  obtain⟨z,v,h1,h2,h3⟩:=idx (cX.load hc) h
  rw[Nat.zero_add] at h3
  exact⟨z,v,_,h1,h2,.inl hg,h3⟩
 ·exact h.elim
theorem FI {cs new r:List PV} {arr:Array Value} {o off:Nat} {vs:List Value} (h:Bw cs new off=some r) (hc:bp w I β cs arr o) (hn:bB w I new β vs) (h1:∀ v∈vs,v.oneCell'=true) (fe:o+off+vs.length<=arr.size) :
  bp w I β r (arr.toList.take (o+off)++vs++arr.toList.drop (o+off+vs.length)).toArray o:=by
 unfold Bw at h
 split at h
 ·rename_i hle
  have hle:=Nat.le_of_ble_eq_true hle
  cases h
  intro j x hx
  have hl:=hn.length
  simp only[List.getElem?_toArray]
  have pK:(arr.toList.take (o+off)).length=o+off:=by simp; omega
  by_cases hj:j < off
  ·rw[List.append_assoc,List.getElem?_append_left (by simp; omega),List.getElem?_take,if_pos hj] at hx
   obtain⟨v,hv,hi,ho⟩:=hc j x hx
   refine⟨v,?_,hi,ho⟩
   rw[List.append_assoc,List.getElem?_append_left (by rw[pK]; omega),List.getElem?_take,if_pos (by omega)]
   simpa using hv
  ·by_cases Vi:j < off+new.length
   ·rw[List.getElem?_append_left (by simp; omega),List.getElem?_append_right (by simp; omega)] at hx
    have ht:(cs.take off).length=off:=by simp; omega
    rw[ht] at hx
    obtain⟨v,hv,hi⟩:=hn.get hx
    refine⟨v,?_,hi,h1 v (List.mem_of_getElem? hv)⟩
    rw[List.getElem?_append_left (by simp; omega),List.getElem?_append_right (by rw[pK]; omega),pK,show o+j - (o+off)=j - off by omega]
    exact hv
   ·rw[List.getElem?_append_right (by simp; omega),List.getElem?_drop] at hx
    have ht:(cs.take off++new).length=off+new.length:=by simp; omega
    rw[ht,show off+new.length+(j - (off+new.length))=j by omega] at hx
    obtain⟨v,hv,hi,ho⟩:=hc j x hx
    refine⟨v,?_,hi,ho⟩
    have h2:(arr.toList.take (o+off)++vs).length=o+off+vs.length:=by simp; omega
    rw[List.getElem?_append_right (by rw[h2]; omega),h2,List.getElem?_drop,show o+off+vs.length+(o+j - (o+off+vs.length))=o+j by omega]
    simpa using hv
 ·cases h
theorem oC (b:ak) (cs:List PV):(b.fU cs).k=b.k/\(b.fU cs).ty=b.ty/\(b.fU cs).size=b.size/\(b.fU cs).m=b.m/\(b.fU cs).live=b.live/\(b.fU cs).cs=cs:=by
 cases b; exact⟨rfl,rfl,rfl,rfl,rfl,rfl⟩
theorem rE {b:ak} (h:b.can=true):b.live=true/\b.m = .w:=by
 unfold ak.can at h
 simp only[Bool.and_eq_true] at h
 refine⟨h.1,?_⟩
 have:=h.2
 cases hm:b.m<;>rw[hm] at this<;>first|rfl|cases this
theorem FJ {v:PV} {u:Value} (he:v.elem=true) (h:v.Is w I β u):(∀ ts,v≠.tup ts)/\∀ (j:Nat) (c:PV),v.cells[j]?=some c->∃ y,u.cells.toList[j]?=some y/\c.Is w I (fun _=>none) y/\y.oneCell'=true:=by
 have nr:∀ {c:PV} {y:Value},c.nf=true->c.Is w I β y->c.Is w I (fun _=>none) y/\y.oneCell'=true:=fun hc hi=>by
  refine⟨?_,lx (hi.flat (by rename_i c _; cases c<;>first|rfl|cases hc))⟩
  refine PV.Is.mono (fun _ h=>h) (fun _ _=>rfl) _ β _ _ (fun l p hl=>?_) hi
  rename_i c _
  cases c<;>simp_all [PV.cR,PV.nf]
 have xp:∀ ts,v≠.tup ts:=fun ts e=>by subst e; cases he
 refine⟨xp,fun j c hc=>?_⟩
 obtain⟨y,hy,hi⟩:=(h.jo xp).get hc
 refine⟨y,hy,nr ?_ hi⟩
 cases v with
 | agg cs =>
  simp only[PV.elem,List.all_eq_true] at he
  exact he c (List.mem_of_getElem? hc)
 | _ =>
  simp only[PV.cells] at hc
  cases j with
  | zero=>simp at hc; subst hc; exact he
  | succ j=>simp at hc
theorem FK {x:PV} {y:Value} (xp:∀ ts,x≠.tup ts) (h:x.Is w I β y) (h1:∀ c∈x.cells,c.jn=true):∀ z∈y.cells.toList,z.oneCell'=true:=by
 intro z hz
 obtain⟨k,hk,hkz⟩:=List.getElem_of_mem hz
 have hl:=(h.jo xp).length
 have gP:k < x.cells.length:=by omega
 obtain⟨z',YV,Kq⟩:=(h.jo xp).get (List.getElem?_eq_getElem gP)
 rw[List.getElem?_eq_getElem hk,hkz] at YV
 cases YV
 exact lx (Kq.flat (h1 _ (List.getElem_mem gP)))
end
structure nS (G:Gx):Prop where
 ok:Ev.fg G.cx
 bC:∀ p∈G.bt,∃ i,G.cx.P.info? p.1=some i/\i.bytes=p.2
section
variable {w w':World} {I I':Nat->Prop} {β aV:aB} {cx:Ev.Cx} {G:Gx} {P:Program} {s:ba} {a:Act} {st dM:List ak}
theorem ba.ir (s:ba) (st:List ak):(s.store st).n=s.n/\(s.store st).t=s.t/\(s.store st).st=st/\(s.store st).base=s.base/\(s.store st).rl=s.rl:=by
 cases s; exact⟨rfl,rfl,rfl,rfl,rfl⟩
theorem Rel.grow (hR:Rel G I β s a w) (hh:aN I' aV dM w') (he:Ext I β s.st w I' aV dM w') (kO:∀ l p,β l=some p->aV l=some p) (hl:s.st.length<=dM.length) (hI:∀ g,I' g->g < w'.heap.size):Rel G I' aV (s.store dM) a w':=by
 obtain⟨e1,e2,e3,e4,e5⟩:=ba.ir s dM
 exact⟨by rw[e1]; exact hR.small,hR.defers,by rw[e1]; exact hR.size,by rw[e4,e3]; exact Nat.le_trans hR.base hl,fun t x ht=>by
  rw[e2] at ht
  obtain⟨v,hv,hi⟩:=hR.get t x ht
  exact⟨v,hv,PV.Is.mono he.az (he.keeps hR.heap hR.az.az) x β aV v (fun l p _=>kO l p) hi⟩,by rw[e3]; exact hh,hR.az.ext hR.heap he hI⟩
theorem cN.mk' (hR:Rel G I β s a w) {q:PV->ba->Prop} {x:PV} {v:Value} (h:q x (s.store dM)) (hh:aN I aV dM w') (he:Ext I β s.st w I aV dM w') (kO:∀ l p,β l=some p->aV l=some p) (hl:s.st.length<=dM.length) (gd:∀ l,l < s.st.length->aV l=β l)
  (hx:x.Is w' I aV v):cN G s I β w a q v w':=by
 obtain⟨e1,e2,e3,e4,e5⟩:=ba.ir s dM
 exact⟨x,_,I,aV,h,hR.grow hh he kO hl (fun g hg=>Nat.lt_of_lt_of_le (hR.az.az g hg) he.size),hx,by rw[e3]; exact he,e4,e5,e1,fun l ig _=>gd l (Nat.lt_of_lt_of_le ig hR.base),fun l b hb _=>gd l (List.getElem?_eq_some_iff.1 hb).1⟩
theorem cN.same (hR:Rel G I β s a w) {q:PV->ba->Prop} {x:PV} {v:Value} (h:q x s) (hx:x.Is w I β v):cN G s I β w a q v w :=
 ⟨x,s,I,β,h,hR,hx,Ext.refl,rfl,rfl,rfl,fun _ _ _=>rfl,fun _ _ _ _=>rfl⟩
theorem mD {i:Int} {v:PV} {off m k:Nat}:∀ {cs r:List PV} {p:Nat},lA i v off m k p cs=some r->∀ (j:Nat) (c:PV),r[j]?=some c->∃ c0,cs[j]?=some c0 /\
  ((¬ (off<=p+j/\p+j < off+k*m/\(p+j - off) % m=0)/\c=c0)\/((off<=p+j/\p+j < off+k*m/\(p+j - off) % m=0)/\mix (i=(((p+j - off) / m:Nat):Int)) v c0=some c))
 | [],r,p,h,j,c,hj=>by simp only[lA,Option.some.injEq] at h; subst h; simp at hj
 | x::cs,r,p,h,j,c,hj=>by
  unfold lA at h
  cases hc:(Nat.ble off p && Nat.blt p (off+k*m) && Nat.beq ((p - off) % m) 0) with
  | true =>
   rw[hc,cond_true] at h
   split at h
   ·rename_i y l hy hl
    cases h
    simp only[Bool.and_eq_true] at hc
    have c1:=Nat.le_of_ble_eq_true hc.1.1
    have c2:p < off+k*m:=Nat.le_of_ble_eq_true hc.1.2
    have c3:=Nat.eq_of_beq_eq_true hc.2
    cases j with
    | zero=>simp only[List.getElem?_cons_zero,Option.some.injEq] at hj; subst hj; exact⟨x,rfl,.inr ⟨⟨c1,c2,c3⟩,hy⟩⟩
    | succ j =>
     obtain⟨c0,h0,h1⟩:=mD hl j c hj
     rw[show p+1+j=p+(j+1) by omega] at h1
     exact⟨c0,h0,h1⟩
   ·cases h
  | false =>
   rw[hc,cond_false] at h
   split at h
   ·rename_i l hl
    cases h
    cases j with
    | zero =>
     simp only[List.getElem?_cons_zero,Option.some.injEq] at hj; subst hj
     refine⟨x,rfl,.inl ⟨fun ⟨a1,a2,a3⟩=>?_,rfl⟩⟩
     have:(Nat.ble off p && Nat.blt p (off+k*m) && Nat.beq ((p - off) % m) 0)=true:=by
      simp only[Bool.and_eq_true]
      exact⟨⟨Nat.ble_eq_true_of_le a1,Nat.ble_eq_true_of_le a2⟩,by rw[show (p - off) % m=0 from a3]; rfl⟩
     rw[hc] at this; cases this
    | succ j =>
     obtain⟨c0,h0,h1⟩:=mD hl j c hj
     rw[show p+1+j=p+(j+1) by omega] at h1
     exact⟨c0,h0,h1⟩
   ·cases h
theorem mE {i:Int} {v:PV} {off m k:Nat}:∀ {cs r:List PV} {p:Nat},lA i v off m k p cs=some r->r.length=cs.length
 | [],r,p,h=>by simp only[lA,Option.some.injEq] at h; subst h; rfl
 | x::cs,r,p,h=>by
  unfold lA at h
  cases hc:(Nat.ble off p && Nat.blt p (off+k*m) && Nat.beq ((p - off) % m) 0) with
  | true =>
   rw[hc,cond_true] at h
   split at h
   ·rename_i y l hy hl
    cases h; rw[List.length_cons,List.length_cons,mE hl]
   ·cases h
  | false =>
   rw[hc,cond_false] at h
   split at h
   ·rename_i l hl
    cases h; rw[List.length_cons,List.length_cons,mE hl]
   ·cases h
theorem BP {p:Prop} [Decidable p] {x c z:PV} (h:mix p x c=some z):∃ k a b,z = .int k (if p then a else b)/\(x = .int k a\/x = .lit k a)/\(c = .int k b\/c = .lit k b):=by
 have key:∀ (k l:IntKind) (a b:Int),(if decide (k=l)=true then some (PV.int k (if p then a else b)) else none)=some z->k=l/\z = .int k (if p then a else b):=fun k l a b h=>by
  by_cases hk:k=l
  ·rw[if_pos (decide_eq_true hk)] at h; exact⟨hk,(Option.some.inj h).symm⟩
  ·rw[if_neg (by simp[hk])] at h; cases h
 cases x<;>first
  | (cases h; done)
  | (cases c<;>first
    | (cases h; done)
    | (obtain⟨rfl,rfl⟩:=key _ _ _ _ h
       exact⟨_,_,_,rfl,by simp,by simp⟩))
theorem FM {p:Prop} [Decidable p] {x c z:PV} {u:Value} (h:mix p x c=some z) (hp:p) (hx:bB w I x.cells β [u]):z.Is w I β u:=by
 obtain⟨k,a,b,rfl,h1,_⟩:=BP h
 rcases h1 with rfl|rfl
 ·simp only[PV.cells,bB,PV.Is,and_true] at hx ⊢
  rw[if_pos hp]; exact hx
 ·simp only[PV.cells,bB,PV.Is,and_true] at hx ⊢
  rw[if_pos hp]; exact hx
theorem FN {p:Prop} [Decidable p] {x c z:PV} {u:Value} (h:mix p x c=some z) (hp:¬ p) (hc:c.Is w I β u):z.Is w I β u:=by
 obtain⟨k,a,b,rfl,_,h1⟩:=BP h
 rcases h1 with rfl|rfl
 ·simp only[PV.Is] at hc ⊢
  rw[if_neg hp]; exact hc
 ·simp only[PV.Is] at hc ⊢
  rw[if_neg hp]; exact hc
theorem yO (hG:nS G) (hR:Rel G I β s a w) {t:TypeId} {x v:PV} {u y:Value} {q:PV->ba->Prop} (h:Bx G s.st t x v fun st=>q (.tup []) (s.store st)) (hx:x.Is w I β u) (hv:v.Is w I β y) :
  ∃ w',(Instr.storeAt t u y).run G.cx.P w = .ok () w'/\cN G s I β w a q undef w':=by
 have hh:=hR.heap
 replace h:=ay h
 obtain⟨n,hn,h⟩:=h
 replace h:=bf h
 obtain⟨hc,h⟩:=h
 simp only[Bool.and_eq_true,List.all_eq_true] at hc
 obtain⟨⟨Ri,iI⟩,Vj⟩:=hc
 have hvn:v.cells.length=n:=Nat.eq_of_beq_eq_true Ri
 have iH:0 < n:=Nat.le_of_ble_eq_true iI
 have xp:∀ ts,v≠.tup ts:=fun ts e=>by subst e; exact h.elim
 have YW:=hv.jo xp
 have Fa:=YW.length
 simp only[Array.length_toList] at Fa
 have Kr:=FK xp hv Vj
 have cf:∀ {g o:Nat} {arr:Array Value} {ty:TypeId},w.heap[g]?=some (.cells arr ty (0,0))->o+y.cells.toList.length<=arr.size ->
   (Instr.storeAt t (.pointer (some ⟨g,o,none⟩)) y).run G.cx.P w = .ok () (w.setRow g (arr.toList.take o++y.cells.toList++arr.toList.drop (o+y.cells.toList.length)).toArray):=fun {g o arr ty} gO fe=>by
  have:=run_storeCells_at (P:=G.cx.P) g o ty y.cells.toList 0 arr w gO (by simpa using fe) Kr
  simp only[Instr.storeAt,Instr.sureAddr,storeVar,Sem.run_bind,Sem.run_pure,Result.andThen_ok,Ev.dA hG.ok hn]
  rw[if_neg (by omega)]
  simpa using this
 split at h
 ·exact h.elim
 ·split at h<;>try simp only[PV.Is] at hx
  ·rename_i l off
   replace h:=ay h
   obtain⟨b,hb,h⟩:=h
   replace h:=bf h
   obtain⟨Jp,h⟩:=h
   simp only[Bool.and_eq_true] at Jp
   obtain⟨gu,ta⟩:=Jp
   obtain⟨aL,hm⟩:=rE ta
   replace h:=ay h
   obtain⟨cs,gb,h⟩:=h
   replace h:=jX (cv h)
   obtain⟨cz,h⟩:=h
   obtain⟨p,g,o,hp,ha,rfl⟩:=hx
   obtain⟨arr,ty,fr,gO,nT,eK⟩:=iq hh hb gu hp ha
   have xr:fr=(0,0):=(eK.1 (by rw[hm]; decide)).1
   subst xr
   have hle:off+v.cells.length<=b.cs.length:=by
    unfold Bw at gb
    split at gb
    ·rename_i hle; exact Nat.le_of_ble_eq_true hle
    ·cases gb
   have fe:o+off+y.cells.toList.length<=arr.size:=by
    obtain⟨z,hz,_⟩:=nT _ _ (List.getElem?_eq_getElem (show off+n - 1 < b.cs.length by omega))
    have:=(Array.getElem?_eq_some_iff.1 hz).1
    simp only[Array.length_toList]
    omega
   obtain⟨k1,k2,k3,k4,k5,k6⟩:=oC b cs
   have Ks:cs.length=b.cs.length:=by
    unfold Bw at gb
    split at gb
    ·cases gb; simp only[List.length_append,List.length_take,List.length_drop]; omega
    ·cases gb
   have Rj:((arr.toList.take (o+off)++y.cells.toList++arr.toList.drop (o+off+y.cells.toList.length)).toArray).size=arr.size:=by
    simp only[List.size_toArray,List.length_append,List.length_take,List.length_drop,Array.length_toList]
    simp only[Array.length_toList] at fe
    omega
   have BQ:=FI gb nT YW Kr fe
   obtain⟨hH,hE⟩:=hh.write (b':=b.fU cs) hb aL hm hp ha gO (by rw[k5]; exact aL) (by rw[k4]; exact hm) (arr':=(arr.toList.take (o+off)++y.cells.toList++arr.toList.drop (o+off+y.cells.toList.length)).toArray) (fun hI hO=>by
    have rF:=setRow_heap w g arr (arr.toList.take (o+off)++y.cells.toList++arr.toList.drop (o+off+y.cells.toList.length)).toArray ty (0,0) gO
    obtain⟨q',FO,hk⟩:=hh.fR l b hb aL
    rw[hp] at FO
    cases FO
    refine⟨p,hp,?_⟩
    rw[k1]
    unfold ak.mem at gu
    split at hk
    ·rename_i cI
     refine⟨g,o,_,ty,(0,0),ha,rF,?_,hO⟩
     rw[k6]; exact BQ.mono (fun _ h=>h) hI (fun _ _ h=>h)
    ·rename_i cI
     obtain⟨g',arr',YX,dH,Rk,_,_,h1,h2,h3,h4,h5⟩:=hk
     rw[ha] at dH; cases dH
     rw[gO] at Rk; cases Rk
     refine⟨g,_,(0,0),ha,by rw[k2]; exact rF,?_,hO,by rw[k6,k3,Ks]; exact h1,h2,h3,by rw[k3,Rj]; exact h4,by rw[k3]; exact h5⟩
     rw[k6]; exact BQ.mono (fun _ h=>h) hI (fun _ _ h=>h)
    ·rename_i cI
     rw[cI] at gu; simp at gu
    ·rename_i cI
     rw[cI] at gu; simp at gu)
   refine⟨_,cf gO fe,cN.mk' hR h hH hE (fun _ _ h=>h) (by simp) (fun _ _=>rfl) ?_⟩
   simp only[PV.Is]; exact⟨#[],rfl,by simp only[bB]⟩
  ·rename_i l i m off
   replace h:=ay h
   obtain⟨b,hb,h⟩:=h
   split at h
   ·rename_i hk
    replace h:=bf h
    obtain⟨Jp,hi,h⟩:=h
    simp only[Bool.and_eq_true] at Jp
    obtain⟨⟨⟨⟨ta,tc⟩,Fb⟩,pQ⟩,FD⟩:=Jp
    obtain⟨aL,hm⟩:=rE ta
    obtain⟨u,hu⟩:∃ u,v.norm=u:=⟨_,rfl⟩
    rw[hu] at h
    have Wi:u.Is w I β y:=by rw[← hu]; cases v<;>first|exact hv|(simp only[PV.norm,PV.Is] at hv ⊢; exact hv)
    have Kt:u.elem=true:=by rw[← hu]; cases v<;>first|exact FD|rfl
    have Wj:u.cells.length=n:=by rw[← hu,← hvn]; cases v<;>rfl
    have tc:=Nat.eq_of_beq_eq_true tc
    have Fb:=Nat.eq_of_beq_eq_true Fb
    have pQ:=Nat.eq_of_beq_eq_true pQ
    replace h:=jX h
    obtain⟨cz,h⟩:=h
    obtain⟨p,g,o,hp,ha,rfl⟩:=hx
    obtain⟨Jo,hlen,hle,pP,lE⟩:=df hh hb aL hk hp
    rcases lE with ⟨dH,_⟩|⟨g',arr,fr,dH,_,gO,ow,eK,has⟩
    ·rw[ha] at dH; cases dH
    ·rw[ha] at dH
     cases dH
     have xr:fr=(0,0):=(eK.1 (by rw[hm]; decide)).1
     subst xr
     have xu:i*n+n<=p.cap*n:=by rw[← Nat.succ_mul]; exact Nat.mul_le_mul_right _ (by omega)
     have fe:0+(i*m+off)+y.cells.toList.length<=arr.size:=by simp only[Array.length_toList]; rw[has,tc,Fb,pQ]; omega
     obtain⟨k1,k2,k3,k4,k5,k6⟩:=oC b (b.cs.set i u)
     obtain⟨_,kP⟩:=FJ Kt Wi
     have Rj:((arr.toList.take (0+(i*m+off))++y.cells.toList++arr.toList.drop (0+(i*m+off)+y.cells.toList.length)).toArray).size=arr.size:=by
      simp only[List.size_toArray,List.length_append,List.length_take,List.length_drop,Array.length_toList]
      simp only[Array.length_toList] at fe
      omega
     obtain⟨hH,hE⟩:=hh.write (b':=b.fU (b.cs.set i u)) hb aL hm hp ha gO (by rw[k5]; exact aL) (by rw[k4]; exact hm) (arr':=(arr.toList.take (0+(i*m+off))++y.cells.toList++arr.toList.drop (0+(i*m+off)+y.cells.toList.length)).toArray) (fun hI hO=>by
      have rF:=setRow_heap w g arr (arr.toList.take (0+(i*m+off))++y.cells.toList++arr.toList.drop (0+(i*m+off)+y.cells.toList.length)).toArray b.ty (0,0) gO
      refine⟨p,hp,?_⟩
      rw[k1,hk]
      refine⟨⟨by rw[k3]; exact Jo,by rw[k6,List.length_set]; exact hlen,hle,pP⟩,.inr ⟨g,_,(0,0),ha,by rw[k2]; exact rF,?_,hO,by rw[Rj,k3]; exact has⟩⟩
      rw[k6,k3]
      have pK:(arr.toList.take (0+(i*m+off))).length=0+(i*m+off):=by rw[List.length_take]; simp only[Array.length_toList] at fe ⊢; omega
      refine cl.of fun j e he=>?_
      by_cases hj:j=i
      ·subst hj
       rw[List.getElem?_set_self hi] at he
       cases he
       refine⟨by rw[Wj,tc],cX.of fun j2 c iI=>?_⟩
       obtain⟨z,hz,Kq,Rl⟩:=kP j2 c iI
       have vB:=(List.getElem?_eq_some_iff.1 hz).1
       refine⟨z,?_,PV.Is.mono (fun _ h=>h) hI c _ _ z (fun _ _ _ h=>h) Kq,Rl⟩
       rw[Ev.fi rF]
       simp only[List.getElem?_toArray]
       rw[List.getElem?_append_left (by rw[List.length_append,pK]; rw[tc,Fb,pQ]; omega),List.getElem?_append_right (by rw[pK,tc,Fb,pQ]; omega),pK,show 0+j*b.size+j2 - (0+(j*m+off))=j2 by rw[tc,Fb,pQ]; omega]
       exact hz
      ·rw[List.getElem?_set_ne (fun e=>hj e.symm)] at he
       obtain⟨Wk,Kt⟩:=ow.get he
       refine⟨Wk,cX.of fun j2 c iI=>?_⟩
       obtain⟨z,hz,Kq,Rl⟩:=Kt.get iI
       refine⟨z,?_,PV.Is.mono (fun _ h=>h) hI c _ _ z (fun _ _ _ h=>h) Kq,Rl⟩
       rw[Ev.fi rF]
       rw[Ev.fi gO] at hz
       simp only[List.getElem?_toArray]
       have Vi:j2 < n:=by have:=(List.getElem?_eq_some_iff.1 iI).1; omega
       rcases Nat.lt_or_ge j i with A6|A6
       ·have:j*n+n<=i*n:=by rw[← Nat.succ_mul]; exact Nat.mul_le_mul_right _ (by omega)
        rw[List.append_assoc,List.getElem?_append_left (by rw[pK,tc,Fb,pQ]; omega),List.getElem?_take,if_pos (by rw[tc,Fb,pQ]; omega)]
        simpa using hz
       ·have:i*n+n<=j*n:=by rw[← Nat.succ_mul]; exact Nat.mul_le_mul_right _ (by omega)
        have h2:(arr.toList.take (0+(i*m+off))++y.cells.toList).length=0+(i*m+off)+y.cells.toList.length:=by rw[List.length_append,pK]
        have Rn:y.cells.toList.length=n:=by simp only[Array.length_toList]; omega
        rw[List.getElem?_append_right (by rw[h2,Rn,tc,Fb,pQ]; omega),h2,List.getElem?_drop,show 0+(i*m+off)+y.cells.toList.length+(0+j*b.size+j2 - (0+(i*m+off)+y.cells.toList.length))=0+j*b.size+j2 by rw[Rn,tc,Fb,pQ]; omega]
        simpa using hz)
     refine⟨_,cf gO fe,cN.mk' hR h hH hE (fun _ _ h=>h) (by simp) (fun _ _=>rfl) ?_⟩
     simp only[PV.Is]; exact⟨#[],rfl,by simp only[bB]⟩
   ·exact h.elim
  ·rename_i l off i m
   replace h:=ay h
   obtain⟨b,hb,h⟩:=h
   replace h:=bf h
   obtain⟨Jp,k,Wl,hik,h⟩:=h
   simp only[Bool.and_eq_true] at Jp
   obtain⟨⟨⟨gu,ta⟩,lv⟩,lG⟩:=Jp
   have lv:=Nat.eq_of_beq_eq_true lv
   have lG:0 < m:=Nat.le_of_ble_eq_true lG
   obtain⟨aL,hm⟩:=rE ta
   replace h:=ay h
   obtain⟨cs,gb,h⟩:=h
   replace h:=cv h
   obtain⟨hbd,h⟩:=h
   replace h:=jX h
   obtain⟨cz,h⟩:=h
   obtain⟨p,g,o,hp,ha,rfl⟩:=hx
   obtain⟨arr,ty,fr,gO,nT,eK⟩:=iq hh hb gu hp ha
   have xr:fr=(0,0):=(eK.1 (by rw[hm]; decide)).1
   subst xr
   have vC:y.cells.toList.length=1:=by simp only[Array.length_toList]; omega
   obtain⟨z0,QD⟩:∃ z0,y.cells.toList = [z0]:=List.length_eq_one_iff.1 vC
   have Rl:z0.oneCell'=true:=Kr z0 (by rw[QD]; simp)
   have fe:o+(off+i.toNat*m)+y.cells.toList.length<=arr.size:=by
    obtain⟨z,hz,_⟩:=nT _ _ (List.getElem?_eq_getElem hbd)
    have:=(Array.getElem?_eq_some_iff.1 hz).1
    omega
   obtain⟨k1,k2,k3,k4,k5,k6⟩:=oC b cs
   have Ks:cs.length=b.cs.length:=mE gb
   have Rj:((arr.toList.take (o+(off+i.toNat*m))++y.cells.toList++arr.toList.drop (o+(off+i.toNat*m)+y.cells.toList.length)).toArray).size=arr.size:=by
    simp only[List.size_toArray,List.length_append,List.length_take,List.length_drop,Array.length_toList]
    simp only[Array.length_toList] at fe
    omega
   have BQ:bp w I β cs (arr.toList.take (o+(off+i.toNat*m))++y.cells.toList++arr.toList.drop (o+(off+i.toNat*m)+y.cells.toList.length)).toArray o:=by
    intro j c hj
    have pK:(arr.toList.take (o+(off+i.toNat*m))).length=o+(off+i.toNat*m):=by rw[List.length_take,Array.length_toList]; omega
    obtain⟨c0,vf,lE⟩:=mD gb j c hj
    rw[Nat.zero_add] at lE
    obtain⟨v0,Wm,Ro,Rp⟩:=nT j c0 vf
    simp only[List.getElem?_toArray]
    rw[QD] at fe ⊢
    by_cases YY:j=off+i.toNat*m
    ·subst YY
     rcases lE with ⟨hn,_⟩|⟨_,FP⟩
     ·exfalso
      apply hn
      refine⟨by omega,?_,by rw[show off+i.toNat*m - off=i.toNat*m by omega]; exact Nat.mul_mod_left _ _⟩
      have:i.toNat < k:=by omega
      have:i.toNat*m < k*m:=Nat.mul_lt_mul_of_pos_right this lG
      omega
     ·rw[show off+i.toNat*m - off=i.toNat*m by omega,Nat.mul_div_cancel _ lG] at FP
      refine⟨z0,?_,FM FP (by omega) ?_,Rl⟩
      ·rw[List.getElem?_append_left (by rw[List.length_append,pK]; simp),List.getElem?_append_right (by rw[pK]; omega),pK,Nat.sub_self]; rfl
      ·have Vk:=hv.jo xp
       rw[QD] at Vk
       exact Vk
    ·have oD:(arr.toList.take (o+(off+i.toNat*m))++[z0]++arr.toList.drop (o+(off+i.toNat*m) + [z0].length))[o+j]?=arr[o+j]?:=by
      rcases Nat.lt_or_ge j (off+i.toNat*m) with YS|YS
      ·rw[List.append_assoc,List.getElem?_append_left (by rw[pK]; omega),List.getElem?_take,if_pos (by omega)]; simp
      ·rw[List.getElem?_append_right (by rw[List.length_append,pK]; simp; omega),List.length_append,pK,List.getElem?_drop]
       simp only[List.length_cons,List.length_nil]
       rw[show o+(off+i.toNat*m)+(0+1)+(o+j - (o+(off+i.toNat*m)+(0+1)))=o+j by omega]; simp
     refine⟨v0,oD.trans Wm,?_,Rp⟩
     rcases lE with ⟨_,rfl⟩|⟨⟨q1,q2,q3⟩,FP⟩
     ·exact Ro
     ·refine FN FP (fun e=>YY ?_) Ro
      have e2:i.toNat=(j - off) / m:=by omega
      have e3:=Nat.div_add_mod (j - off) m
      rw[q3,← e2,Nat.mul_comm] at e3
      omega
   obtain⟨hH,hE⟩:=hh.write (b':=b.fU cs) hb aL hm hp ha gO (by rw[k5]; exact aL) (by rw[k4]; exact hm) (arr':=(arr.toList.take (o+(off+i.toNat*m))++y.cells.toList++arr.toList.drop (o+(off+i.toNat*m)+y.cells.toList.length)).toArray) (fun hI hO=>by
    have rF:=setRow_heap w g arr (arr.toList.take (o+(off+i.toNat*m))++y.cells.toList++arr.toList.drop (o+(off+i.toNat*m)+y.cells.toList.length)).toArray ty (0,0) gO
    obtain⟨q',FO,hk⟩:=hh.fR l b hb aL
    rw[hp] at FO
    cases FO
    refine⟨p,hp,?_⟩
    rw[k1]
    unfold ak.mem at gu
    split at hk
    ·rename_i cI
     refine⟨g,o,_,ty,(0,0),ha,rF,?_,hO⟩
     rw[k6]; exact BQ.mono (fun _ h=>h) hI (fun _ _ h=>h)
    ·rename_i cI
     obtain⟨g',arr',YX,dH,Rk,_,_,h1,h2,h3,h4,h5⟩:=hk
     rw[ha] at dH; cases dH
     rw[gO] at Rk; cases Rk
     refine⟨g,_,(0,0),ha,by rw[k2]; exact rF,?_,hO,by rw[k6,k3,Ks]; exact h1,h2,h3,by rw[k3,Rj]; exact h4,by rw[k3]; exact h5⟩
     rw[k6]; exact BQ.mono (fun _ h=>h) hI (fun _ _ h=>h)
    ·rename_i cI
     rw[cI] at gu; simp at gu
    ·rename_i cI
     rw[cI] at gu; simp at gu)
   refine⟨_,cf gO fe,cN.mk' hR h hH hE (fun _ _ h=>h) (by simp) (fun _ _=>rfl) ?_⟩
   simp only[PV.Is]; exact⟨#[],rfl,by simp only[bB]⟩
  ·exact h.elim
theorem bp.new {cs:List PV} {vs:Array Value} (h:bB w I cs β vs.toList) (h1:∀ c∈cs,c.jn=true):bp w I β cs vs 0:=fun i c hc=>by
 obtain⟨v,hv,hi⟩:=h.get hc
 exact⟨v,by simpa using hv,hi,lx (hi.flat (h1 c (List.mem_of_getElem? hc)))⟩
theorem gQ (hh:aN I β st w) (hI:∀ g,I g->g < w.heap.size) (o:Obj):∀ g,ik β st g\/I g->(w.alloc o).heap[g]?=w.heap[g]?:=fun g hg=>Ev.og w o g (hg.elim hh.dk (hI g))
theorem jZ (hh:aN I β st w) (hI:∀ g,I g->g < w.heap.size) {vs:Array Value} {t:TypeId} {b:ak} {p:na} (hp:p.a=some (w.heap.size,0))
  (hb:Own I (β.set st.length p) (st++[b]) st.length w.heap.size (0,0) b->fN I (β.set st.length p) (st++[b]) (w.alloc (.cells vs t)) st.length b) (hm:b.m = .w) :
  aN I (β.set st.length p) (st++[b]) (w.alloc (.cells vs t))/\Ext I β st w I (β.set st.length p) (st++[b]) (w.alloc (.cells vs t)):=by
 have eW:∀ g o,p.a=some (g,o)->¬ I g/\¬ ik β st g:=fun g o ha=>by
  rw[hp] at ha; cases ha
  exact⟨fun h=>by have:=hI _ h; omega,fun h=>by have:=hh.dk h; omega⟩
 refine⟨hh.add (gQ hh hI _) eW (hb ⟨fun _=>⟨rfl,(eW _ _ hp).1,fun l' b' cZ ig eV p' g' o' eE dH e=>?_⟩,fun hr=>by rw[hm] at hr; cases hr⟩),Ext.add (w':=w.alloc (.cells vs t)) hh rfl rfl rfl (by simp) (fun g hg _=>Ev.og w _ g hg) fun g o ha cz=>by rw[hp] at ha; cases ha; omega⟩
 subst e
 unfold aB.set at eE
 rw[if_neg cZ] at eE
 have:=hh.lt eE
 rw[List.getElem?_append_left this] at ig
 exact (eW _ _ hp).2 ⟨l',b',p',o',ig,eV,eE,dH⟩
theorem xv (hR:Rel G I β s a w) {t t':TypeId} {cs:List PV} {vs:Array Value} {q:PV->ba->Prop} (h:Kg s ⟨.loc,t,1,.w,true,cs⟩ q) (hc:bB w I cs β vs.toList) (h1:∀ c∈cs,c.jn=true):cN G s I β w a q (.pointer (some ⟨w.heap.size,0,none⟩)) (w.alloc (.cells vs t')):=by
 replace h:=jY (ga h)
 rw[Nat.zero_add] at h
 have nC:=aB.il hR.heap ⟨some (w.heap.size,0),0,0⟩
 obtain⟨hH,hE⟩:=jZ (vs:=vs) (t:=t') hR.heap hR.az.az (b:=⟨.loc,t,1,.w,true,cs⟩) (p:=⟨some (w.heap.size,0),0,0⟩) rfl (fun ho =>
  ⟨_,aB.c8 ..,w.heap.size,0,vs,t',(0,0),rfl,Ev.jm w _,(bp.new hc h1).mono (fun _ h=>h) (fun g hg=>gQ hR.heap hR.az.az _ g (.inr hg)) nC,ho⟩) rfl
 refine cN.mk' hR h hH hE nC (by simp) (fun l hl=>if_neg (by omega)) ?_
 simp only[PV.Is]; exact⟨_,w.heap.size,0,aB.c8 ..,rfl,rfl⟩
theorem BR (hR:Rel G I β s a w) {t:TypeId} {len n:Nat} {cs:List PV} {vs:Array Value} {q:PV->ba->Prop} (h:lB s ⟨.arr,t,n,.w,true,cs⟩ q) (hc:bB w I cs β vs.toList) (h1:∀ c∈cs,c.jn=true) (hl:cs.length=len*n) (hn:0 < n) (hm:len<=maxLen):cN G s I β w a q (.slice (some ⟨w.heap.size,0,none⟩) len len) (w.alloc (.cells vs t)):=by
 replace h:=jY (ga h)
 rw[Nat.zero_add] at h
 have nC:=aB.il hR.heap ⟨some (w.heap.size,0),len,len⟩
 have YZ:=hc.length
 simp only[Array.length_toList] at YZ
 obtain⟨hH,hE⟩:=jZ (vs:=vs) (t:=t) hR.heap hR.az.az (b:=⟨.arr,t,n,.w,true,cs⟩) (p:=⟨some (w.heap.size,0),len,len⟩) rfl (fun ho =>
  ⟨_,aB.c8 ..,w.heap.size,vs,(0,0),rfl,Ev.jm w _,(bp.new hc h1).mono (fun _ h=>h) (fun g hg=>gQ hR.heap hR.az.az _ g (.inr hg)) nC,ho,hl,Nat.le_refl _,hm,by rw[← YZ]; exact hl,hn⟩) rfl
 refine cN.mk' hR h hH hE nC (by simp) (fun l hl=>if_neg (by omega)) ?_
 simp only[PV.Is]; exact⟨_,aB.c8 ..,rfl⟩
end
end Go.Proofs.YtlgkljpgagfndaaGreatDoor.Pw

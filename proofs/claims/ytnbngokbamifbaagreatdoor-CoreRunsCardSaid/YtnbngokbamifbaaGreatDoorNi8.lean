/- What a law is proved with. -/
import Derived.Test.YtnbngokbamifbaaGreatDoorNi7
import Derived.Maps.AppendAt
set_option linter.unusedVariables false
set_option linter.unusedSimpArgs false
namespace Go.Proofs.YtnbngokbamifbaaGreatDoor.Pw
open Go Go.RowKit
def Places.set (β : Places) (l : Nat) (p : Plc) : Places:=fun l'=>if l' = l then some p else β l'
section
variable {w w' : World} {I I' : Nat -> Prop} {β β' : Places} {cx : Ev.Cx} {G : Gx} {P : Program} {s : PSt} {a : Act} {st st' : List PBlk}
theorem setB_ok : ∀ {st : List PBlk} {l : Nat} {b : PBlk} {q : List PBlk -> Prop},setB st l b q -> l < st.length /\ q (st.set l b)
 | [],_,_,_,h=>h.elim
 | _ :: st,0,b,q,h=>⟨by simp,h⟩
 | a :: st,n + 1,b,q,h=>by
  obtain ⟨h1,h2⟩:=setB_ok (st:=st) (q:=fun l=>q (a :: l)) h
  exact ⟨by simpa using h1,h2⟩
theorem addB_ok : ∀ {st : List PBlk} {b : PBlk} {q : List PBlk -> Prop},addB st b q -> q (st ++ [b])
 | [],_,_,h=>h
 | a :: st,b,q,h=>addB_ok (st:=st) (q:=fun l=>q (a :: l)) h
theorem lenK_ok {α : Type} : ∀ {l : List α} {n : Nat} {q : Nat -> Prop},lenK l n q -> q (n + l.length)
 | [],n,q,h=>h
 | _ :: l,n,q,h=>by
  have:=lenK_ok (l:=l) h
  rwa [List.length_cons,show n + (l.length + 1) = n + 1 + l.length by omega]
theorem BlkOk.place {l : Nat} {b : PBlk} (h : BlkOk I β st w l b) {p : Plc} {g o : Nat} (hp : β l = some p) (ha : p.a = some (g,o)) : ∃ (ob : Obj) (_ : Unit) (fr : Nat × Nat),w.heap[g]? = some ob /\ Own I β st l g fr b:=by
 obtain ⟨q,hq,hk⟩:=h
 rw [hp] at hq
 cases hq
 split at hk
 ·obtain ⟨g',o',arr,ty,fr,ha',hh,_,ho⟩:=hk
  rw [ha] at ha'; cases ha'; exact ⟨_,(),fr,hh,ho⟩
 ·obtain ⟨g',arr,fr,ha',hh,_,ho,_⟩:=hk
  rw [ha] at ha'; cases ha'; exact ⟨_,(),fr,hh,ho⟩
 ·obtain ⟨_,hk⟩:=hk
  rcases hk with ⟨ha',_⟩ | ⟨g',arr,fr,ha',hh,_,ho,_⟩
  ·rw [ha] at ha'; cases ha'
  ·rw [ha] at ha'; cases ha'; exact ⟨_,(),fr,hh,ho⟩
 ·obtain ⟨g',ha',⟨es,clock,hh,_⟩,ho⟩:=hk
  rw [ha] at ha'; cases ha'; exact ⟨_,(),(0,0),hh,ho⟩
theorem MapAt.keep {g : Nat} {cs : List PV} (h : MapAt w g cs) (hw : w'.heap[g]? = w.heap[g]?) : MapAt w' g cs:=by
 obtain ⟨es,clock,hb,F,hs,hD⟩:=h
 exact ⟨es,clock,hw.trans hb,F,hs,hD⟩
theorem BlkOk.mono {l : Nat} {b : PBlk} (hI : ∀ g,I g -> I' g) (hw : ∀ g,I g -> w'.heap[g]? = w.heap[g]?) (hβ : ∀ l p,β l = some p -> β' l = some p)
  (hg : ∀ p g o,β l = some p -> p.a = some (g,o) -> w'.heap[g]? = w.heap[g]? /\ (b.m ≠ .r -> ¬ I' g /\ ∀ l' b',l' ≠ l -> st'[l']? = some b' -> b'.live = true -> ∀ p g' o',β' l' = some p -> p.a = some (g',o') -> g' ≠ g)) (hb : BlkOk I β st w l b) : BlkOk I' β' st' w' l b:=by
 obtain ⟨p,hp,hk⟩:=hb
 refine ⟨p,hβ l p hp,?_⟩
 have own : ∀ {g o : Nat} {fr : Nat × Nat},p.a = some (g,o) -> Own I β st l g fr b -> Own I' β' st' l g fr b:=fun ha ho=>⟨fun hr=>⟨(ho.1 hr).1,(hg p _ _ hp ha).2 hr⟩,fun hr=>hI _ (ho.2 hr)⟩
 split at hk
 ·obtain ⟨g,o,arr,ty,fr,ha,hh,hc,ho⟩:=hk
  exact ⟨g,o,arr,ty,fr,ha,(hg p g o hp ha).1.trans hh,hc.mono hI hw hβ,own ha ho⟩
 ·obtain ⟨g,arr,fr,ha,hh,hc,ho,h1⟩:=hk
  exact ⟨g,arr,fr,ha,(hg p g 0 hp ha).1.trans hh,hc.mono hI hw hβ,own ha ho,h1⟩
 ·obtain ⟨h1,hk⟩:=hk
  refine ⟨h1,?_⟩
  rcases hk with h | ⟨g,arr,fr,ha,hh,hc,ho,h2⟩
  ·exact .inl h
  ·exact .inr ⟨g,arr,fr,ha,(hg p g 0 hp ha).1.trans hh,IsEs.mono hI hw _ _ _ _ (hg p g 0 hp ha).1 hc,own ha ho,h2⟩
 ·obtain ⟨g,ha,hm,ho⟩:=hk
  exact ⟨g,ha,hm.keep (hg p g 0 hp ha).1,own ha ho⟩
theorem HeapOk.lt (h : HeapOk I β st w) {l : Nat} {p : Plc} (hp : β l = some p) : l < st.length:=by
 rcases Nat.lt_or_ge l st.length with h' | h'
 ·exact h'
 ·rw [h.far l h'] at hp; cases hp
def Lives (β : Places) (st : List PBlk) (g : Nat) : Prop:=∃ l b p o,st[l]? = some b /\ b.live = true /\ β l = some p /\ p.a = some (g,o)
theorem Places.set_mono (h : HeapOk I β st w) (p : Plc) : ∀ l q,β l = some q -> (β.set st.length p) l = some q:=fun l q hq=>by
 have:=h.lt hq
 unfold Places.set
 rw [if_neg (by omega)]; exact hq
theorem Places.set_self (β : Places) (l : Nat) (p : Plc) : (β.set l p) l = some p:=if_pos rfl
theorem HeapOk.add (h : HeapOk I β st w) (hw : ∀ g,Lives β st g \/ I g -> w'.heap[g]? = w.heap[g]?) {b : PBlk} {p : Plc} (hp : ∀ g o,p.a = some (g,o) -> ¬ I g /\ ¬ Lives β st g)
  (hb : BlkOk I (β.set st.length p) (st ++ [b]) w' st.length b) : HeapOk I (β.set st.length p) (st ++ [b]) w':=by
 refine ⟨fun l hl=>?_,fun l b' hl hlive=>?_⟩
 ·simp only [List.length_append,List.length_singleton] at hl
  unfold Places.set
  rw [if_neg (by omega),h.far l (by omega)]
 ·by_cases hlt : l < st.length
  ·rw [List.getElem?_append_left hlt] at hl
   have hb':=h.blk l b' hl hlive
   refine hb'.mono (fun _ h=>h) (fun g hg=>hw g (.inr hg)) (Places.set_mono h p) fun q g o hq ha=>?_
   obtain ⟨arr,ty,fr,hh,ho⟩:=hb'.place hq ha
   have hL : Lives β st g:=⟨l,b',q,o,hl,hlive,hq,ha⟩
   refine ⟨hw g (.inl hL),fun hr=>⟨(ho.1 hr).2.1,fun l' b'' hne hl' hlive' p' g' o' hp' ha'=>?_⟩⟩
   unfold Places.set at hp'
   split at hp'
   ·cases hp'
    intro e
    subst e
    exact (hp _ _ ha').2 hL
   ·have:=h.lt hp'
    rw [List.getElem?_append_left this] at hl'
    exact (ho.1 hr).2.2 l' b'' hne hl' hlive' p' g' o' hp' ha'
  ·have hle : l = st.length:=by
    have:=(List.getElem?_eq_some_iff.1 hl).1
    simp at this; omega
   subst hle
   rw [List.getElem?_append_right (Nat.le_refl _)] at hl
   simp only [Nat.sub_self,List.getElem?_cons_zero,Option.some.injEq] at hl
   subst hl
   exact hb
theorem HeapOk.lives_lt (h : HeapOk I β st w) {g : Nat} (hg : Lives β st g) : g < w.heap.size:=by
 obtain ⟨l,b,p,o,h1,h2,h3,h4⟩:=hg
 obtain ⟨arr,ty,fr,hh,_⟩:=(h.blk l b h1 h2).place h3 h4
 exact lt_of_heap hh
theorem Ext.add (h : HeapOk I β st w) (hos : w'.os = w.os) (htape : w'.tape = w.tape) (hout : w'.output = w.output) (hsz : w.heap.size <= w'.heap.size) {b : PBlk} {p : Plc} (hw : ∀ g,g < w.heap.size -> ¬ Wr β st g -> w'.heap[g]? = w.heap[g]?)
  (hp : ∀ g o,p.a = some (g,o) -> g < w.heap.size -> Wr β st g) : Ext I β st w I (β.set st.length p) (st ++ [b]) w' :=
 ⟨hos,htape,hout,hsz,hw,fun g hg ⟨l,b',q,o,h1,h2,h3,h4,h5⟩=>by
  unfold Places.set at h4
  split at h4
  ·cases h4
   exact hp g o h5 hg
  ·have:=h.lt h4
   rw [List.getElem?_append_left this] at h1
   exact ⟨l,b',q,o,h1,h2,h3,h4,h5⟩,fun _ h=>h,fun _ _ h=>.inl h⟩
theorem HeapOk.kill (h : HeapOk I β st w) (l : Nat) {b : PBlk} (hb : b.live = false) : HeapOk I β (st.set l b) w:=by
 refine ⟨fun l' hl'=>h.far l' (by simpa using hl'),fun l' b' hl' hlive=>?_⟩
 have hne : l' ≠ l:=fun e=>by
  subst e
  rw [List.getElem?_set_self (by simpa using (List.getElem?_eq_some_iff.1 hl').1)] at hl'
  cases hl'; rw [hb] at hlive; cases hlive
 rw [List.getElem?_set_ne (fun e=>hne e.symm)] at hl'
 have hb':=h.blk l' b' hl' hlive
 refine hb'.mono (fun _ h=>h) (fun _ _=>rfl) (fun _ _ h=>h) fun q g o hq ha=>⟨rfl,fun hr=>?_⟩
 obtain ⟨arr,ty,fr,hh,ho⟩:=hb'.place hq ha
 refine ⟨(ho.1 hr).2.1,fun l2 b2 hne2 hl2 hlive2=>?_⟩
 have hne' : l2 ≠ l:=fun e=>by
  subst e
  rw [List.getElem?_set_self (by simpa using (List.getElem?_eq_some_iff.1 hl2).1)] at hl2
  cases hl2; rw [hb] at hlive2; cases hlive2
 rw [List.getElem?_set_ne (fun e=>hne' e.symm)] at hl2
 exact (ho.1 hr).2.2 l2 b2 hne2 hl2 hlive2
theorem wr_set {l g : Nat} {b : PBlk} (hb : b.live = false \/ ∃ b0,st[l]? = some b0 /\ b0.live = b.live /\ b0.m = b.m) (h : Wr β (st.set l b) g) : Wr β st g:=by
 obtain ⟨l',b',p,o,h1,h2,h3,h4,h5⟩:=h
 by_cases hne : l' = l
 ·subst hne
  rw [List.getElem?_set_self (by simpa using (List.getElem?_eq_some_iff.1 h1).1)] at h1
  cases h1
  rcases hb with hb | ⟨b0,e1,e2,e3⟩
  ·rw [hb] at h2; cases h2
  ·exact ⟨l',b0,p,o,e1,by rw [e2]; exact h2,by rw [e3]; exact h3,h4,h5⟩
 ·rw [List.getElem?_set_ne (fun e=>hne e.symm)] at h1
  exact ⟨l',b',p,o,h1,h2,h3,h4,h5⟩
theorem Ext.kill {l : Nat} {b : PBlk} (hb : b.live = false) : Ext I β st w I β (st.set l b) w:=⟨rfl,rfl,rfl,Nat.le_refl _,fun _ _ _=>rfl,fun _ _ h=>wr_set (.inl hb) h,fun _ h=>h,fun _ _ h=>.inl h⟩
theorem HeapOk.write (h : HeapOk I β st w) {l : Nat} {b b' : PBlk} {p : Plc} {g o : Nat} {arr arr' : Array Value} {ty : TypeId} (hb : st[l]? = some b) (hlive : b.live = true) (hm : b.m = .w) (hp : β l = some p) (ha : p.a = some (g,o)) (hh : w.heap[g]? = some (.cells arr ty (0,0)))
  (hl' : b'.live = true) (hm' : b'.m = .w) (hblk : ∀ (hI : ∀ x,I x -> (w.setRow g arr').heap[x]? = w.heap[x]?),Own I β (st.set l b') l g (0,0) b' -> BlkOk I β (st.set l b') (w.setRow g arr') l b') :
  HeapOk I β (st.set l b') (w.setRow g arr') /\ Ext I β st w I β (st.set l b') (w.setRow g arr'):=by
 have hb0:=h.blk l b hb hlive
 obtain ⟨arr0,ty0,fr0,hh0,ho0⟩:=hb0.place hp ha
 obtain ⟨_,hIg,huniq⟩:=ho0.1 (by rw [hm]; decide)
 have hII : ∀ x,I x -> (w.setRow g arr').heap[x]? = w.heap[x]?:=fun x hx=>setRow_other w g x _ fun e=>hIg (e ▸ hx)
 have hll : l < st.length:=(List.getElem?_eq_some_iff.1 hb).1
 have huniq' : ∀ l' b'',l' ≠ l -> (st.set l b')[l']? = some b'' -> b''.live = true -> ∀ p g' o',β l' = some p -> p.a = some (g',o') -> g' ≠ g:=fun l' b'' hne hl'' hlive'' p g' o' hp' ha'=>by
  rw [List.getElem?_set_ne (fun e=>hne e.symm)] at hl''
  exact huniq l' b'' hne hl'' hlive'' p g' o' hp' ha'
 refine ⟨⟨fun l2 hl2=>h.far l2 (by simpa using hl2),fun l2 b2 hl2 hlive2=>?_⟩,⟨rfl,rfl,rfl,by simp,fun x hx hn=>setRow_other w g x _ fun e=>hn (e ▸ ⟨l,b,p,o,hb,hlive,hm,hp,ha⟩),fun x hx hw=>wr_set (.inr ⟨b,hb,by rw [hlive,hl'],by rw [hm,hm']⟩) hw,fun _ h=>h,fun _ _ h=>.inl h⟩⟩
 by_cases hne : l2 = l
 ·subst hne
  rw [List.getElem?_set_self hll] at hl2
  cases hl2
  exact hblk hII ⟨fun _=>⟨rfl,hIg,huniq'⟩,fun hr=>by rw [hm'] at hr; cases hr⟩
 ·rw [List.getElem?_set_ne (fun e=>hne e.symm)] at hl2
  have hb2:=h.blk l2 b2 hl2 hlive2
  refine hb2.mono (fun _ h=>h) hII (fun _ _ h=>h) fun q g2 o2 hq ha2=>?_
  obtain ⟨arr2,ty2,fr2,hh2,ho2⟩:=hb2.place hq ha2
  refine ⟨setRow_other w g g2 _ (huniq l2 b2 hne hl2 hlive2 q g2 o2 hq ha2),fun hr=>⟨(ho2.1 hr).2.1,fun l3 b3 hne3 hl3 hlive3 p3 g3 o3 hp3 ha3=>?_⟩⟩
  by_cases h3 : l3 = l
  ·subst h3
   rw [hp] at hp3
   cases hp3
   rw [ha] at ha3
   cases ha3
   exact fun e=>huniq l2 b2 hne hl2 hlive2 q g2 o2 hq ha2 e.symm
  ·rw [List.getElem?_set_ne (fun e=>h3 e.symm)] at hl3
   exact (ho2.1 hr).2.2 l3 b3 hne3 hl3 hlive3 p3 g3 o3 hp3 ha3
theorem loadCells_ok {g o n : Nat} {cs : List PV} (hl : cs.length = n) (hc : ∀ j c,cs[j]? = some c -> ∃ v,w.cell? ⟨g,o + j,none⟩ = some v /\ c.Is w I β v) :
  ∃ vs : Array Value,IsL w I cs β vs.toList /\ ∀ w2 : World,w2.heap[g]? = w.heap[g]? -> (loadCells ⟨g,o,none⟩ n).run P w2 = .ok vs w2:=by
 have key : ∀ (cs : List PV) (o : Nat),(∀ j c,cs[j]? = some c -> ∃ v,w.cell? ⟨g,o + j,none⟩ = some v /\ c.Is w I β v) -> ∃ l : List Value,IsL w I cs β l /\ ∀ j v,l[j]? = some v -> w.cell? ⟨g,o + j,none⟩ = some v:=by
  intro cs
  induction cs with
  | nil=>intro o _; exact ⟨[],by simp only [IsL],fun j v h=>by simp at h⟩
  | cons a cs ih =>
   intro o hc
   obtain ⟨v,hv,hi⟩:=hc 0 a rfl
   obtain ⟨l,h1,h2⟩:=ih (o + 1) fun j x hx=>by
    obtain ⟨u,hu,hui⟩:=hc (j + 1) x (by simpa using hx)
    exact ⟨u,by rw [show o + 1 + j = o + (j + 1) by omega]; exact hu,hui⟩
   refine ⟨v :: l,by simp only [IsL]; exact ⟨hi,h1⟩,fun j u hu=>?_⟩
   cases j with
   | zero=>simp at hu; subst hu; exact hv
   | succ j=>rw [show o + (j + 1) = o + 1 + j by omega]; exact h2 j u (by simpa using hu)
 obtain ⟨l,h1,h2⟩:=key cs o hc
 refine ⟨l.toArray,by simpa using h1,fun w2 hw2=>?_⟩
 have hll:=h1.length
 rw [show n = l.length by omega]
 exact run_loadCells_list w2 _ l fun j v hv=>by rw [Ev.addr_add]; exact (World.cell?_of_block (a:=⟨g,o + j,none⟩) hw2).trans (h2 j v hv)
theorem part_load (hO : Ev.CxOk cx) {t : TypeId} {cs : List PV} {off g o : Nat} {q : PV -> Prop} (h : part cx t cs off q) (hc : ∀ j c,cs[j]? = some c -> ∃ v,w.cell? ⟨g,o + j,none⟩ = some v /\ c.Is w I β v) :
  ∃ x v,q x /\ x.Is w I β v /\ ∀ w2 : World,w2.heap[g]? = w.heap[g]? -> (Instr.loadAt t (.pointer (some ⟨g,o + off,none⟩))).run cx.P w2 = .ok v w2:=by
 replace h:=need_ok h
 obtain ⟨x,hx,h⟩:=h
 replace h:=fcA_ok h
 unfold partO at hx
 split at hx
 ·rename_i n ha hn
  split at hx
  ·rename_i hle
   have hle' : off + n <= cs.length:=Nat.le_of_ble_eq_true hle
   cases hx
   obtain ⟨vs,g1,g2⟩:=loadCells_ok (P:=cx.P) (w:=w) (I:=I) (β:=β) (g:=g) (o:=o + off) (cs:=(cs.drop off).take n) (n:=n) (by simp; omega) (fun j x hx=>by
    rw [List.getElem?_take] at hx
    split at hx
    ·rw [List.getElem?_drop] at hx
     obtain ⟨v,hv,hi⟩:=hc _ _ hx
     exact ⟨v,by rw [Nat.add_assoc]; exact hv,hi⟩
    ·cases hx)
   exact ⟨_,.agg vs,h,by simp only [PV.Is]; exact ⟨vs,rfl,g1⟩,fun w2 hw2=>by simp [Instr.loadAt,Instr.sureAddr,loadVar,Ev.isAgg_run hO ha,Ev.size_run hO hn,g2 w2 hw2]⟩
  ·cases hx
 ·rename_i ha
  obtain ⟨v,hv,hi⟩:=hc _ _ hx
  refine ⟨x,v,h,hi,fun w2 hw2=>?_⟩
  have hv2:=(World.cell?_of_block (a:=⟨g,o + off,none⟩) hw2).trans hv
  simp [Instr.loadAt,Instr.sureAddr,loadVar,Ev.isAgg_run hO ha,hv2]
 ·cases hx
end
end Go.Proofs.YtnbngokbamifbaaGreatDoor.Pw
namespace Go.Proofs.YtnbngokbamifbaaGreatDoor.Pw
open Go Go.RowKit
section
variable {w w' : World} {I I' : Nat -> Prop} {β β' : Places} {cx : Ev.Cx} {G : Gx} {P : Program} {s : PSt} {a : Act} {st st' : List PBlk}
theorem Is.anywhere {x : PV} {v : Value} (h : x.Is w I (fun _=>none) v) : x.Is w I β v:=PV.Is.mono (fun _ h=>h) (fun _ _=>rfl) x _ β v (fun _ _ _ h=>by cases h) h
theorem mem_cells (h : HeapOk I β st w) {l : Nat} {b : PBlk} {p : Plc} {g o : Nat} (hb : st[l]? = some b) (hm : b.mem = true) (hp : β l = some p) (ha : p.a = some (g,o)) :
  ∃ arr ty fr,w.heap[g]? = some (.cells arr ty fr) /\ CellsAt w I β b.cs arr o /\ Own I β st l g fr b:=by
 unfold PBlk.mem at hm
 simp only [Bool.and_eq_true] at hm
 obtain ⟨q,hq,hk⟩:=h.blk l b hb hm.1
 rw [hp] at hq
 cases hq
 have hm2:=hm.2
 split at hk
 ·obtain ⟨g',o',arr,ty,fr,ha',hh,hc,ho⟩:=hk
  rw [ha] at ha'; cases ha'; exact ⟨arr,ty,fr,hh,hc,ho⟩
 ·obtain ⟨g',arr,fr,ha',hh,hc,ho,_⟩:=hk
  rw [ha] at ha'; cases ha'; exact ⟨arr,_,fr,hh,hc,ho⟩
 ·rename_i hk'; rw [hk'] at hm2; cases hm2
 ·rename_i hk'; rw [hk'] at hm2; cases hm2
theorem CellsAt.load {cs : List PV} {arr : Array Value} {g o : Nat} {ty : TypeId} {fr : Nat × Nat} (h : CellsAt w I β cs arr o) (hh : w.heap[g]? = some (.cells arr ty fr)) : ∀ j c,cs[j]? = some c -> ∃ v,w.cell? ⟨g,o + j,none⟩ = some v /\ c.Is w I β v:=fun j c hc=>by
 obtain ⟨v,hv,hi,_⟩:=h j c hc
 exact ⟨v,by rw [Ev.cells_of hh]; exact hv,hi⟩
theorem IsAt.load {cs : List PV} {g o : Nat} (h : IsAt w I cs g o) : ∀ j c,cs[j]? = some c -> ∃ v,w.cell? ⟨g,o + j,none⟩ = some v /\ c.Is w I β v:=fun j c hc=>by
 obtain ⟨v,hv,hi,_⟩:=h.get hc
 exact ⟨v,hv,Is.anywhere hi⟩
theorem load_one (hO : Ev.CxOk cx) {t : TypeId} {g o : Nat} {v : Value} (ha : Ev.isAggT cx t = some false) (hc : w.cell? ⟨g,o,none⟩ = some v) : (Instr.loadAt t (.pointer (some ⟨g,o,none⟩))).run cx.P w = .ok v w:=by
 simp [Instr.loadAt,Instr.sureAddr,loadVar,Ev.isAgg_run hO ha,hc]
theorem pload_ok (hO : Ev.CxOk G.cx) (hh : HeapOk I β st w) (hM : ImmOk G I w) {t : TypeId} {x : PV} {u : Value} {q : PV -> Prop} (h : pload G st t x q) (hx : x.Is w I β u) :
  ∃ z v g,q z /\ z.Is w I β v /\ (I g \/ ∃ l b p o,x.blk = some l /\ st[l]? = some b /\ b.live = true /\ β l = some p /\ p.a = some (g,o)) /\ ∀ w2 : World,w2.heap[g]? = w.heap[g]? -> (Instr.loadAt t u).run G.cx.P w2 = .ok v w2:=by
 have idx : ∀ {cs : List PV} {g o off n : Nat} {i : Int},(∀ j c,cs[j]? = some c -> ∃ v,w.cell? ⟨g,o + j,none⟩ = some v /\ c.Is w I β v) ->
   ((∃ m : Nat,i = m /\ part G.cx t cs (off + m * n) q) \/ (Ev.isAggT G.cx t = some false /\ 0 <= i /\ off + i.toNat * n < cs.length /\ ∀ c,cs[off + i.toNat * n]? = some c -> q c)) -> ∃ z v,q z /\ z.Is w I β v /\ ∀ w2 : World,w2.heap[g]? = w.heap[g]? -> (Instr.loadAt t (.pointer (some ⟨g,o + (off + i.toNat * n),none⟩))).run G.cx.P w2 = .ok v w2:=by
  intro cs g o off n i hc h
  rcases h with ⟨m,rfl,h⟩ | ⟨ha,h0,hlt,h⟩
  ·exact part_load hO h hc
  ·obtain ⟨v,hv,hi⟩:=hc _ _ (List.getElem?_eq_getElem hlt)
   exact ⟨_,v,h _ (List.getElem?_eq_getElem hlt),hi,fun w2 hw2=>load_one hO ha ((World.cell?_of_block (a:=⟨g,o + (off + i.toNat * n),none⟩) hw2).trans hv)⟩
 unfold pload at h
 split at h <;> try simp only [PV.Is] at hx
 ·replace h:=need_ok h
  obtain ⟨b,hb,h⟩:=h
  replace h:=bif_ok h
  obtain ⟨hm,h⟩:=h
  obtain ⟨p,g,o,hp,ha,rfl⟩:=hx
  obtain ⟨arr,ty,fr,hhg,hc,_⟩:=mem_cells hh hb hm hp ha
  obtain ⟨z,v,h1,h2,h3⟩:=part_load hO h (hc.load hhg)
  exact ⟨z,v,g,h1,h2,.inr ⟨_,b,p,o,rfl,hb,by unfold PBlk.mem at hm; simp only [Bool.and_eq_true] at hm; exact hm.1,hp,ha⟩,h3⟩
 ·replace h:=need_ok h
  obtain ⟨b,hb,h⟩:=h
  replace h:=bif_ok h
  obtain ⟨hm,h⟩:=h
  obtain ⟨p,g,o,hp,ha,rfl⟩:=hx
  obtain ⟨arr,ty,fr,hhg,hc,_⟩:=mem_cells hh hb hm hp ha
  obtain ⟨z,v,h1,h2,h3⟩:=idx (hc.load hhg) h
  exact ⟨z,v,g,h1,h2,.inr ⟨_,b,p,o,rfl,hb,by unfold PBlk.mem at hm; simp only [Bool.and_eq_true] at hm; exact hm.1,hp,ha⟩,h3⟩
 ·rename_i l i n off
  replace h:=need_ok h
  obtain ⟨b,hb,h⟩:=h
  split at h
  ·rename_i hk
   replace h:=bif_ok h
   obtain ⟨hc,α,l',enc,hcs,hi,h⟩:=h
   simp only [Bool.and_eq_true] at hc
   have hn : b.size = n:=Nat.eq_of_beq_eq_true hc.2
   obtain ⟨p,g,o,hp,ha,rfl⟩:=hx
   obtain ⟨_,hlen,hle,_,hor⟩:=whole_dyn hh hb hc.1 hk hp
   rcases hor with ⟨ha',_⟩ | ⟨g',arr,fr,ha',_,hhg,hes,_⟩
   ·rw [ha] at ha'; cases ha'
   ·rw [ha] at ha'
    cases ha'
    have he : b.cs[i]? = some (enc l'[i]):=by rw [hcs,List.getElem?_map,List.getElem?_eq_getElem hi]; rfl
    have hel:=hes.get he
    obtain ⟨z,v,h1,h2,h3⟩:=part_load (β:=β) hO (h _ (List.getElem?_eq_getElem hi)) (IsAt.load hel.2)
    rw [hn,Nat.add_assoc] at h3
    exact ⟨z,v,g,h1,h2,.inr ⟨_,b,p,0,rfl,hb,hc.1,hp,ha⟩,h3⟩
  ·exact h.elim
 ·obtain ⟨g,o,rfl,hg,hc⟩:=hx
  obtain ⟨z,v,h1,h2,h3⟩:=part_load (β:=β) hO h hc.load
  exact ⟨z,v,g,h1,h2,.inl hg,h3⟩
 ·subst hx
  replace h:=need_ok h
  obtain ⟨cs,hcs,h⟩:=h
  obtain ⟨hg,hc⟩:=hM.tab _ _ (Ev.lkT_mem hcs)
  obtain ⟨z,v,h1,h2,h3⟩:=part_load (β:=β) hO h (IsAt.load hc)
  rw [Nat.zero_add] at h3
  exact ⟨z,v,_,h1,h2,.inl hg,h3⟩
 ·subst hx
  replace h:=need_ok h
  obtain ⟨cs,hcs,h⟩:=h
  obtain ⟨hg,hc⟩:=hM.tab _ _ (Ev.lkT_mem hcs)
  obtain ⟨z,v,h1,h2,h3⟩:=idx (IsAt.load hc) h
  rw [Nat.zero_add] at h3
  exact ⟨z,v,_,h1,h2,.inl hg,h3⟩
 ·exact h.elim
theorem putC_ok {cs new r : List PV} {arr : Array Value} {o off : Nat} {vs : List Value} (h : putC cs new off = some r) (hc : CellsAt w I β cs arr o) (hn : IsL w I new β vs) (h1 : ∀ v ∈ vs,v.oneCell' = true) (hsz : o + off + vs.length <= arr.size) :
  CellsAt w I β r (arr.toList.take (o + off) ++ vs ++ arr.toList.drop (o + off + vs.length)).toArray o:=by
 unfold putC at h
 split at h
 ·rename_i hle
  have hle:=Nat.le_of_ble_eq_true hle
  cases h
  intro j x hx
  have hl:=hn.length
  simp only [List.getElem?_toArray]
  have h1' : (arr.toList.take (o + off)).length = o + off:=by simp; omega
  by_cases hj : j < off
  ·rw [List.append_assoc,List.getElem?_append_left (by simp; omega),List.getElem?_take,if_pos hj] at hx
   obtain ⟨v,hv,hi,ho⟩:=hc j x hx
   refine ⟨v,?_,hi,ho⟩
   rw [List.append_assoc,List.getElem?_append_left (by rw [h1']; omega),List.getElem?_take,if_pos (by omega)]
   simpa using hv
  ·by_cases hj2 : j < off + new.length
   ·rw [List.getElem?_append_left (by simp; omega),List.getElem?_append_right (by simp; omega)] at hx
    have ht : (cs.take off).length = off:=by simp; omega
    rw [ht] at hx
    obtain ⟨v,hv,hi⟩:=hn.get hx
    refine ⟨v,?_,hi,h1 v (List.mem_of_getElem? hv)⟩
    rw [List.getElem?_append_left (by simp; omega),List.getElem?_append_right (by rw [h1']; omega),h1',show o + j - (o + off) = j - off by omega]
    exact hv
   ·rw [List.getElem?_append_right (by simp; omega),List.getElem?_drop] at hx
    have ht : (cs.take off ++ new).length = off + new.length:=by simp; omega
    rw [ht,show off + new.length + (j - (off + new.length)) = j by omega] at hx
    obtain ⟨v,hv,hi,ho⟩:=hc j x hx
    refine ⟨v,?_,hi,ho⟩
    have h2 : (arr.toList.take (o + off) ++ vs).length = o + off + vs.length:=by simp; omega
    rw [List.getElem?_append_right (by rw [h2]; omega),h2,List.getElem?_drop,show o + off + vs.length + (o + j - (o + off + vs.length)) = o + j by omega]
    simpa using hv
 ·cases h
theorem withCs_k (b : PBlk) (cs : List PV) : (b.withCs cs).k = b.k /\ (b.withCs cs).ty = b.ty /\ (b.withCs cs).size = b.size /\ (b.withCs cs).m = b.m /\ (b.withCs cs).live = b.live /\ (b.withCs cs).cs = cs:=by
 cases b; exact ⟨rfl,rfl,rfl,rfl,rfl,rfl⟩
theorem can_ok {b : PBlk} (h : b.can = true) : b.live = true /\ b.m = .w:=by
 unfold PBlk.can at h
 simp only [Bool.and_eq_true] at h
 refine ⟨h.1,?_⟩
 have:=h.2
 cases hm : b.m <;> rw [hm] at this <;> first | rfl | cases this
theorem elem_ok {v : PV} {u : Value} (he : v.elem = true) (h : v.Is w I β u) : (∀ ts,v ≠ .tup ts) /\ ∀ (j : Nat) (c : PV),v.cells[j]? = some c -> ∃ y,u.cells.toList[j]? = some y /\ c.Is w I (fun _=>none) y /\ y.oneCell' = true:=by
 have nr : ∀ {c : PV} {y : Value},c.noRef = true -> c.Is w I β y -> c.Is w I (fun _=>none) y /\ y.oneCell' = true:=fun hc hi=>by
  refine ⟨?_,flat_one (hi.flat (by rename_i c _; cases c <;> first | rfl | cases hc))⟩
  refine PV.Is.mono (fun _ h=>h) (fun _ _=>rfl) _ β _ _ (fun l p hl=>?_) hi
  rename_i c _
  cases c <;> simp_all [PV.uses,PV.noRef]
 have hnt : ∀ ts,v ≠ .tup ts:=fun ts e=>by subst e; cases he
 refine ⟨hnt,fun j c hc=>?_⟩
 obtain ⟨y,hy,hi⟩:=(h.cellsL hnt).get hc
 refine ⟨y,hy,nr ?_ hi⟩
 cases v with
 | agg cs =>
  simp only [PV.elem,List.all_eq_true] at he
  exact he c (List.mem_of_getElem? hc)
 | _ =>
  simp only [PV.cells] at hc
  cases j with
  | zero=>simp at hc; subst hc; exact he
  | succ j=>simp at hc
theorem ones_of {x : PV} {y : Value} (hnt : ∀ ts,x ≠ .tup ts) (h : x.Is w I β y) (h1 : ∀ c ∈ x.cells,c.cell1 = true) : ∀ z ∈ y.cells.toList,z.oneCell' = true:=by
 intro z hz
 obtain ⟨k,hk,hkz⟩:=List.getElem_of_mem hz
 have hl:=(h.cellsL hnt).length
 have hk' : k < x.cells.length:=by omega
 obtain ⟨z',hz',hzi⟩:=(h.cellsL hnt).get (List.getElem?_eq_getElem hk')
 rw [List.getElem?_eq_getElem hk,hkz] at hz'
 cases hz'
 exact flat_one (hzi.flat (h1 _ (List.getElem_mem hk')))
end
end Go.Proofs.YtnbngokbamifbaaGreatDoor.Pw
namespace Go.Proofs.YtnbngokbamifbaaGreatDoor.Pw
open Go Go.RowKit
structure GOk (G : Gx) : Prop where
 ok : Ev.CxOk G.cx
 by_ : ∀ p ∈ G.bt,∃ i,G.cx.P.info? p.1 = some i /\ i.bytes = p.2
section
variable {w w' : World} {I I' : Nat -> Prop} {β β' : Places} {cx : Ev.Cx} {G : Gx} {P : Program} {s : PSt} {a : Act} {st st' : List PBlk}
theorem PSt.store_eq (s : PSt) (st : List PBlk) : (s.store st).n = s.n /\ (s.store st).t = s.t /\ (s.store st).st = st /\ (s.store st).base = s.base /\ (s.store st).rl = s.rl:=by
 cases s; exact ⟨rfl,rfl,rfl,rfl,rfl⟩
theorem Rel.grow (hR : Rel G I β s a w) (hh : HeapOk I' β' st' w') (he : Ext I β s.st w I' β' st' w') (hβ : ∀ l p,β l = some p -> β' l = some p) (hl : s.st.length <= st'.length) (hI : ∀ g,I' g -> g < w'.heap.size) : Rel G I' β' (s.store st') a w':=by
 obtain ⟨e1,e2,e3,e4,e5⟩:=PSt.store_eq s st'
 exact ⟨by rw [e1]; exact hR.small,hR.defers,by rw [e1]; exact hR.size,by rw [e4,e3]; exact Nat.le_trans hR.base hl,fun t x ht=>by
  rw [e2] at ht
  obtain ⟨v,hv,hi⟩:=hR.get t x ht
  exact ⟨v,hv,PV.Is.mono he.imm (he.keeps hR.heap hR.imm.imm) x β β' v (fun l p _=>hβ l p) hi⟩,by rw [e3]; exact hh,hR.imm.ext hR.heap he hI⟩
theorem OpPost.mk' (hR : Rel G I β s a w) {q : PV -> PSt -> Prop} {x : PV} {v : Value} (h : q x (s.store st')) (hh : HeapOk I β' st' w') (he : Ext I β s.st w I β' st' w') (hβ : ∀ l p,β l = some p -> β' l = some p) (hl : s.st.length <= st'.length) (hlow : ∀ l,l < s.st.length -> β' l = β l)
  (hx : x.Is w' I β' v) : OpPost G s I β w a q v w':=by
 obtain ⟨e1,e2,e3,e4,e5⟩:=PSt.store_eq s st'
 exact ⟨x,_,I,β',h,hR.grow hh he hβ hl (fun g hg=>Nat.lt_of_lt_of_le (hR.imm.imm g hg) he.size),hx,by rw [e3]; exact he,e4,e5,e1,fun l hl' _=>hlow l (Nat.lt_of_lt_of_le hl' hR.base),fun l b hb _=>hlow l (List.getElem?_eq_some_iff.1 hb).1⟩
theorem OpPost.same (hR : Rel G I β s a w) {q : PV -> PSt -> Prop} {x : PV} {v : Value} (h : q x s) (hx : x.Is w I β v) : OpPost G s I β w a q v w :=
 ⟨x,s,I,β,h,hR,hx,Ext.refl,rfl,rfl,rfl,fun _ _ _=>rfl,fun _ _ _ _=>rfl⟩
theorem mixAt_get {i : Int} {v : PV} {off m k : Nat} : ∀ {cs r : List PV} {p : Nat},mixAt i v off m k p cs = some r -> ∀ (j : Nat) (c : PV),r[j]? = some c -> ∃ c0,cs[j]? = some c0 /\
  ((¬ (off <= p + j /\ p + j < off + k * m /\ (p + j - off) % m = 0) /\ c = c0) \/ ((off <= p + j /\ p + j < off + k * m /\ (p + j - off) % m = 0) /\ mix (i = (((p + j - off) / m : Nat) : Int)) v c0 = some c))
 | [],r,p,h,j,c,hj=>by simp only [mixAt,Option.some.injEq] at h; subst h; simp at hj
 | x :: cs,r,p,h,j,c,hj=>by
  unfold mixAt at h
  cases hc : (Nat.ble off p && Nat.blt p (off + k * m) && Nat.beq ((p - off) % m) 0) with
  | true =>
   rw [hc,cond_true] at h
   split at h
   ·rename_i y l hy hl
    cases h
    simp only [Bool.and_eq_true] at hc
    have c1:=Nat.le_of_ble_eq_true hc.1.1
    have c2 : p < off + k * m:=Nat.le_of_ble_eq_true hc.1.2
    have c3:=Nat.eq_of_beq_eq_true hc.2
    cases j with
    | zero=>simp only [List.getElem?_cons_zero,Option.some.injEq] at hj; subst hj; exact ⟨x,rfl,.inr ⟨⟨c1,c2,c3⟩,hy⟩⟩
    | succ j =>
     obtain ⟨c0,h0,h1⟩:=mixAt_get hl j c hj
     rw [show p + 1 + j = p + (j + 1) by omega] at h1
     exact ⟨c0,h0,h1⟩
   ·cases h
  | false =>
   rw [hc,cond_false] at h
   split at h
   ·rename_i l hl
    cases h
    cases j with
    | zero =>
     simp only [List.getElem?_cons_zero,Option.some.injEq] at hj; subst hj
     refine ⟨x,rfl,.inl ⟨fun ⟨a1,a2,a3⟩=>?_,rfl⟩⟩
     have : (Nat.ble off p && Nat.blt p (off + k * m) && Nat.beq ((p - off) % m) 0) = true:=by
      simp only [Bool.and_eq_true]
      exact ⟨⟨Nat.ble_eq_true_of_le a1,Nat.ble_eq_true_of_le a2⟩,by rw [show (p - off) % m = 0 from a3]; rfl⟩
     rw [hc] at this; cases this
    | succ j =>
     obtain ⟨c0,h0,h1⟩:=mixAt_get hl j c hj
     rw [show p + 1 + j = p + (j + 1) by omega] at h1
     exact ⟨c0,h0,h1⟩
   ·cases h
theorem mixAt_len {i : Int} {v : PV} {off m k : Nat} : ∀ {cs r : List PV} {p : Nat},mixAt i v off m k p cs = some r -> r.length = cs.length
 | [],r,p,h=>by simp only [mixAt,Option.some.injEq] at h; subst h; rfl
 | x :: cs,r,p,h=>by
  unfold mixAt at h
  cases hc : (Nat.ble off p && Nat.blt p (off + k * m) && Nat.beq ((p - off) % m) 0) with
  | true =>
   rw [hc,cond_true] at h
   split at h
   ·rename_i y l hy hl
    cases h; rw [List.length_cons,List.length_cons,mixAt_len hl]
   ·cases h
  | false =>
   rw [hc,cond_false] at h
   split at h
   ·rename_i l hl
    cases h; rw [List.length_cons,List.length_cons,mixAt_len hl]
   ·cases h
theorem mix_eq {p : Prop} [Decidable p] {x c z : PV} (h : mix p x c = some z) : ∃ k a b,z = .int k (if p then a else b) /\ (x = .int k a \/ x = .lit k a) /\ (c = .int k b \/ c = .lit k b):=by
 have key : ∀ (k l : IntKind) (a b : Int),(if decide (k = l) = true then some (PV.int k (if p then a else b)) else none) = some z -> k = l /\ z = .int k (if p then a else b):=fun k l a b h=>by
  by_cases hk : k = l
  ·rw [if_pos (decide_eq_true hk)] at h; exact ⟨hk,(Option.some.inj h).symm⟩
  ·rw [if_neg (by simp [hk])] at h; cases h
 cases x <;> first
  | (cases h; done)
  | (cases c <;> first
    | (cases h; done)
    | (obtain ⟨rfl,rfl⟩:=key _ _ _ _ h
       exact ⟨_,_,_,rfl,by simp,by simp⟩))
theorem mix_pos {p : Prop} [Decidable p] {x c z : PV} {u : Value} (h : mix p x c = some z) (hp : p) (hx : IsL w I x.cells β [u]) : z.Is w I β u:=by
 obtain ⟨k,a,b,rfl,h1,_⟩:=mix_eq h
 rcases h1 with rfl | rfl
 ·simp only [PV.cells,IsL,PV.Is,and_true] at hx ⊢
  rw [if_pos hp]; exact hx
 ·simp only [PV.cells,IsL,PV.Is,and_true] at hx ⊢
  rw [if_pos hp]; exact hx
theorem mix_neg {p : Prop} [Decidable p] {x c z : PV} {u : Value} (h : mix p x c = some z) (hp : ¬ p) (hc : c.Is w I β u) : z.Is w I β u:=by
 obtain ⟨k,a,b,rfl,_,h1⟩:=mix_eq h
 rcases h1 with rfl | rfl
 ·simp only [PV.Is] at hc ⊢
  rw [if_neg hp]; exact hc
 ·simp only [PV.Is] at hc ⊢
  rw [if_neg hp]; exact hc
theorem pstore_ok (hG : GOk G) (hR : Rel G I β s a w) {t : TypeId} {x v : PV} {u y : Value} {q : PV -> PSt -> Prop} (h : pstore G s.st t x v fun st=>q (.tup []) (s.store st)) (hx : x.Is w I β u) (hv : v.Is w I β y) :
  ∃ w',(Instr.storeAt t u y).run G.cx.P w = .ok () w' /\ OpPost G s I β w a q undef w':=by
 have hh:=hR.heap
 replace h:=need_ok h
 obtain ⟨n,hn,h⟩:=h
 replace h:=bif_ok h
 obtain ⟨hc,h⟩:=h
 simp only [Bool.and_eq_true,List.all_eq_true] at hc
 obtain ⟨⟨hc1,hc2⟩,hc3⟩:=hc
 have hvn : v.cells.length = n:=Nat.eq_of_beq_eq_true hc1
 have hn0 : 0 < n:=Nat.le_of_ble_eq_true hc2
 have hnt : ∀ ts,v ≠ .tup ts:=fun ts e=>by subst e; exact h.elim
 have hyc:=hv.cellsL hnt
 have hyl:=hyc.length
 simp only [Array.length_toList] at hyl
 have hone:=ones_of hnt hv hc3
 have hrun : ∀ {g o : Nat} {arr : Array Value} {ty : TypeId},w.heap[g]? = some (.cells arr ty (0,0)) -> o + y.cells.toList.length <= arr.size ->
   (Instr.storeAt t (.pointer (some ⟨g,o,none⟩)) y).run G.cx.P w = .ok () (w.setRow g (arr.toList.take o ++ y.cells.toList ++ arr.toList.drop (o + y.cells.toList.length)).toArray):=fun {g o arr ty} hhg hsz=>by
  have:=run_storeCells_at (P:=G.cx.P) g o ty y.cells.toList 0 arr w hhg (by simpa using hsz) hone
  simp only [Instr.storeAt,Instr.sureAddr,storeVar,Sem.run_bind,Sem.run_pure,Result.andThen_ok,Ev.size_run hG.ok hn]
  rw [if_neg (by omega)]
  simpa using this
 split at h
 ·exact h.elim
 ·split at h <;> try simp only [PV.Is] at hx
  ·rename_i l off
   replace h:=need_ok h
   obtain ⟨b,hb,h⟩:=h
   replace h:=bif_ok h
   obtain ⟨hbc,h⟩:=h
   simp only [Bool.and_eq_true] at hbc
   obtain ⟨hmem,hcan⟩:=hbc
   obtain ⟨hlive,hm⟩:=can_ok hcan
   replace h:=need_ok h
   obtain ⟨cs,hcs,h⟩:=h
   replace h:=setB_ok (forceL_ok h)
   obtain ⟨hlt,h⟩:=h
   obtain ⟨p,g,o,hp,ha,rfl⟩:=hx
   obtain ⟨arr,ty,fr,hhg,hca,hown⟩:=mem_cells hh hb hmem hp ha
   have hfr : fr = (0,0):=(hown.1 (by rw [hm]; decide)).1
   subst hfr
   have hle : off + v.cells.length <= b.cs.length:=by
    unfold putC at hcs
    split at hcs
    ·rename_i hle; exact Nat.le_of_ble_eq_true hle
    ·cases hcs
   have hsz : o + off + y.cells.toList.length <= arr.size:=by
    obtain ⟨z,hz,_⟩:=hca _ _ (List.getElem?_eq_getElem (show off + n - 1 < b.cs.length by omega))
    have:=(Array.getElem?_eq_some_iff.1 hz).1
    simp only [Array.length_toList]
    omega
   obtain ⟨k1,k2,k3,k4,k5,k6⟩:=withCs_k b cs
   have hlc : cs.length = b.cs.length:=by
    unfold putC at hcs
    split at hcs
    ·cases hcs; simp only [List.length_append,List.length_take,List.length_drop]; omega
    ·cases hcs
   have hsa : ((arr.toList.take (o + off) ++ y.cells.toList ++ arr.toList.drop (o + off + y.cells.toList.length)).toArray).size = arr.size:=by
    simp only [List.size_toArray,List.length_append,List.length_take,List.length_drop,Array.length_toList]
    simp only [Array.length_toList] at hsz
    omega
   have hput:=putC_ok hcs hca hyc hone hsz
   obtain ⟨hH,hE⟩:=hh.write (b':=b.withCs cs) hb hlive hm hp ha hhg (by rw [k5]; exact hlive) (by rw [k4]; exact hm) (arr':=(arr.toList.take (o + off) ++ y.cells.toList ++ arr.toList.drop (o + off + y.cells.toList.length)).toArray) (fun hI hO=>by
    have hrow:=setRow_heap w g arr (arr.toList.take (o + off) ++ y.cells.toList ++ arr.toList.drop (o + off + y.cells.toList.length)).toArray ty (0,0) hhg
    obtain ⟨q',hq',hk⟩:=hh.blk l b hb hlive
    rw [hp] at hq'
    cases hq'
    refine ⟨p,hp,?_⟩
    rw [k1]
    unfold PBlk.mem at hmem
    split at hk
    ·rename_i hkk
     refine ⟨g,o,_,ty,(0,0),ha,hrow,?_,hO⟩
     rw [k6]; exact hput.mono (fun _ h=>h) hI (fun _ _ h=>h)
    ·rename_i hkk
     obtain ⟨g',arr',fr',ha',hh',_,_,h1,h2,h3,h4,h5⟩:=hk
     rw [ha] at ha'; cases ha'
     rw [hhg] at hh'; cases hh'
     refine ⟨g,_,(0,0),ha,by rw [k2]; exact hrow,?_,hO,by rw [k6,k3,hlc]; exact h1,h2,h3,by rw [k3,hsa]; exact h4,by rw [k3]; exact h5⟩
     rw [k6]; exact hput.mono (fun _ h=>h) hI (fun _ _ h=>h)
    ·rename_i hkk
     rw [hkk] at hmem; simp at hmem
    ·rename_i hkk
     rw [hkk] at hmem; simp at hmem)
   refine ⟨_,hrun hhg hsz,OpPost.mk' hR h hH hE (fun _ _ h=>h) (by simp) (fun _ _=>rfl) ?_⟩
   simp only [PV.Is]; exact ⟨#[],rfl,by simp only [IsL]⟩
  ·rename_i l i m off
   replace h:=need_ok h
   obtain ⟨b,hb,h⟩:=h
   split at h
   ·rename_i hk
    replace h:=bif_ok h
    obtain ⟨hbc,hi,h⟩:=h
    simp only [Bool.and_eq_true] at hbc
    obtain ⟨⟨⟨⟨hcan,hbn⟩,hmn⟩,hoff⟩,hel⟩:=hbc
    obtain ⟨hlive,hm⟩:=can_ok hcan
    obtain ⟨u,hu⟩ : ∃ u,v.norm = u:=⟨_,rfl⟩
    rw [hu] at h
    have hv2 : u.Is w I β y:=by rw [← hu]; cases v <;> first | exact hv | (simp only [PV.norm,PV.Is] at hv ⊢; exact hv)
    have hel2 : u.elem = true:=by rw [← hu]; cases v <;> first | exact hel | rfl
    have hvn2 : u.cells.length = n:=by rw [← hu,← hvn]; cases v <;> rfl
    have hbn:=Nat.eq_of_beq_eq_true hbn
    have hmn:=Nat.eq_of_beq_eq_true hmn
    have hoff:=Nat.eq_of_beq_eq_true hoff
    replace h:=setB_ok h
    obtain ⟨hlt,h⟩:=h
    obtain ⟨p,g,o,hp,ha,rfl⟩:=hx
    obtain ⟨hsp,hlen,hle,hmx,hor⟩:=whole_dyn hh hb hlive hk hp
    rcases hor with ⟨ha',_⟩ | ⟨g',arr,fr,ha',_,hhg,hes,hown,has⟩
    ·rw [ha] at ha'; cases ha'
    ·rw [ha] at ha'
     cases ha'
     have hfr : fr = (0,0):=(hown.1 (by rw [hm]; decide)).1
     subst hfr
     have hin : i * n + n <= p.cap * n:=by rw [← Nat.succ_mul]; exact Nat.mul_le_mul_right _ (by omega)
     have hsz : 0 + (i * m + off) + y.cells.toList.length <= arr.size:=by simp only [Array.length_toList]; rw [has,hbn,hmn,hoff]; omega
     obtain ⟨k1,k2,k3,k4,k5,k6⟩:=withCs_k b (b.cs.set i u)
     obtain ⟨_,hcells⟩:=elem_ok hel2 hv2
     have hsa : ((arr.toList.take (0 + (i * m + off)) ++ y.cells.toList ++ arr.toList.drop (0 + (i * m + off) + y.cells.toList.length)).toArray).size = arr.size:=by
      simp only [List.size_toArray,List.length_append,List.length_take,List.length_drop,Array.length_toList]
      simp only [Array.length_toList] at hsz
      omega
     obtain ⟨hH,hE⟩:=hh.write (b':=b.withCs (b.cs.set i u)) hb hlive hm hp ha hhg (by rw [k5]; exact hlive) (by rw [k4]; exact hm) (arr':=(arr.toList.take (0 + (i * m + off)) ++ y.cells.toList ++ arr.toList.drop (0 + (i * m + off) + y.cells.toList.length)).toArray) (fun hI hO=>by
      have hrow:=setRow_heap w g arr (arr.toList.take (0 + (i * m + off)) ++ y.cells.toList ++ arr.toList.drop (0 + (i * m + off) + y.cells.toList.length)).toArray b.ty (0,0) hhg
      refine ⟨p,hp,?_⟩
      rw [k1,hk]
      refine ⟨⟨by rw [k3]; exact hsp,by rw [k6,List.length_set]; exact hlen,hle,hmx⟩,.inr ⟨g,_,(0,0),ha,by rw [k2]; exact hrow,?_,hO,by rw [hsa,k3]; exact has⟩⟩
      rw [k6,k3]
      have h1' : (arr.toList.take (0 + (i * m + off))).length = 0 + (i * m + off):=by rw [List.length_take]; simp only [Array.length_toList] at hsz ⊢; omega
      refine IsEs.of fun j e he=>?_
      by_cases hj : j = i
      ·subst hj
       rw [List.getElem?_set_self hi] at he
       cases he
       refine ⟨by rw [hvn2,hbn],IsAt.of fun j2 c hc2=>?_⟩
       obtain ⟨z,hz,hzi,hz1⟩:=hcells j2 c hc2
       have hlt2:=(List.getElem?_eq_some_iff.1 hz).1
       refine ⟨z,?_,PV.Is.mono (fun _ h=>h) hI c _ _ z (fun _ _ _ h=>h) hzi,hz1⟩
       rw [Ev.cells_of hrow]
       simp only [List.getElem?_toArray]
       rw [List.getElem?_append_left (by rw [List.length_append,h1']; rw [hbn,hmn,hoff]; omega),List.getElem?_append_right (by rw [h1',hbn,hmn,hoff]; omega),h1',show 0 + j * b.size + j2 - (0 + (j * m + off)) = j2 by rw [hbn,hmn,hoff]; omega]
       exact hz
      ·rw [List.getElem?_set_ne (fun e=>hj e.symm)] at he
       obtain ⟨hel1,hel2⟩:=hes.get he
       refine ⟨hel1,IsAt.of fun j2 c hc2=>?_⟩
       obtain ⟨z,hz,hzi,hz1⟩:=hel2.get hc2
       refine ⟨z,?_,PV.Is.mono (fun _ h=>h) hI c _ _ z (fun _ _ _ h=>h) hzi,hz1⟩
       rw [Ev.cells_of hrow]
       rw [Ev.cells_of hhg] at hz
       simp only [List.getElem?_toArray]
       have hj2 : j2 < n:=by have:=(List.getElem?_eq_some_iff.1 hc2).1; omega
       rcases Nat.lt_or_ge j i with hji | hji
       ·have : j * n + n <= i * n:=by rw [← Nat.succ_mul]; exact Nat.mul_le_mul_right _ (by omega)
        rw [List.append_assoc,List.getElem?_append_left (by rw [h1',hbn,hmn,hoff]; omega),List.getElem?_take,if_pos (by rw [hbn,hmn,hoff]; omega)]
        simpa using hz
       ·have : i * n + n <= j * n:=by rw [← Nat.succ_mul]; exact Nat.mul_le_mul_right _ (by omega)
        have h2 : (arr.toList.take (0 + (i * m + off)) ++ y.cells.toList).length = 0 + (i * m + off) + y.cells.toList.length:=by rw [List.length_append,h1']
        have hyl' : y.cells.toList.length = n:=by simp only [Array.length_toList]; omega
        rw [List.getElem?_append_right (by rw [h2,hyl',hbn,hmn,hoff]; omega),h2,List.getElem?_drop,show 0 + (i * m + off) + y.cells.toList.length + (0 + j * b.size + j2 - (0 + (i * m + off) + y.cells.toList.length)) = 0 + j * b.size + j2 by rw [hyl',hbn,hmn,hoff]; omega]
        simpa using hz)
     refine ⟨_,hrun hhg hsz,OpPost.mk' hR h hH hE (fun _ _ h=>h) (by simp) (fun _ _=>rfl) ?_⟩
     simp only [PV.Is]; exact ⟨#[],rfl,by simp only [IsL]⟩
   ·exact h.elim
  ·rename_i l off i m
   replace h:=need_ok h
   obtain ⟨b,hb,h⟩:=h
   replace h:=bif_ok h
   obtain ⟨hbc,k,hi0,hik,h⟩:=h
   simp only [Bool.and_eq_true] at hbc
   obtain ⟨⟨⟨hmem,hcan⟩,hn1⟩,hm0⟩:=hbc
   have hn1:=Nat.eq_of_beq_eq_true hn1
   have hm0 : 0 < m:=Nat.le_of_ble_eq_true hm0
   obtain ⟨hlive,hm⟩:=can_ok hcan
   replace h:=need_ok h
   obtain ⟨cs,hcs,h⟩:=h
   replace h:=forceL_ok h
   obtain ⟨hbd,h⟩:=h
   replace h:=setB_ok h
   obtain ⟨hlt,h⟩:=h
   obtain ⟨p,g,o,hp,ha,rfl⟩:=hx
   obtain ⟨arr,ty,fr,hhg,hca,hown⟩:=mem_cells hh hb hmem hp ha
   have hfr : fr = (0,0):=(hown.1 (by rw [hm]; decide)).1
   subst hfr
   have hy1 : y.cells.toList.length = 1:=by simp only [Array.length_toList]; omega
   obtain ⟨z0,hz0⟩ : ∃ z0,y.cells.toList = [z0]:=List.length_eq_one_iff.1 hy1
   have hz1 : z0.oneCell' = true:=hone z0 (by rw [hz0]; simp)
   have hsz : o + (off + i.toNat * m) + y.cells.toList.length <= arr.size:=by
    obtain ⟨z,hz,_⟩:=hca _ _ (List.getElem?_eq_getElem hbd)
    have:=(Array.getElem?_eq_some_iff.1 hz).1
    omega
   obtain ⟨k1,k2,k3,k4,k5,k6⟩:=withCs_k b cs
   have hlc : cs.length = b.cs.length:=mixAt_len hcs
   have hsa : ((arr.toList.take (o + (off + i.toNat * m)) ++ y.cells.toList ++ arr.toList.drop (o + (off + i.toNat * m) + y.cells.toList.length)).toArray).size = arr.size:=by
    simp only [List.size_toArray,List.length_append,List.length_take,List.length_drop,Array.length_toList]
    simp only [Array.length_toList] at hsz
    omega
   have hput : CellsAt w I β cs (arr.toList.take (o + (off + i.toNat * m)) ++ y.cells.toList ++ arr.toList.drop (o + (off + i.toNat * m) + y.cells.toList.length)).toArray o:=by
    intro j c hj
    have h1' : (arr.toList.take (o + (off + i.toNat * m))).length = o + (off + i.toNat * m):=by rw [List.length_take,Array.length_toList]; omega
    obtain ⟨c0,hc0,hor⟩:=mixAt_get hcs j c hj
    rw [Nat.zero_add] at hor
    obtain ⟨v0,hv0,hi0',hone0⟩:=hca j c0 hc0
    simp only [List.getElem?_toArray]
    rw [hz0] at hsz ⊢
    by_cases hje : j = off + i.toNat * m
    ·subst hje
     rcases hor with ⟨hn,_⟩ | ⟨_,hmix⟩
     ·exfalso
      apply hn
      refine ⟨by omega,?_,by rw [show off + i.toNat * m - off = i.toNat * m by omega]; exact Nat.mul_mod_left _ _⟩
      have : i.toNat < k:=by omega
      have : i.toNat * m < k * m:=Nat.mul_lt_mul_of_pos_right this hm0
      omega
     ·rw [show off + i.toNat * m - off = i.toNat * m by omega,Nat.mul_div_cancel _ hm0] at hmix
      refine ⟨z0,?_,mix_pos hmix (by omega) ?_,hz1⟩
      ·rw [List.getElem?_append_left (by rw [List.length_append,h1']; simp),List.getElem?_append_right (by rw [h1']; omega),h1',Nat.sub_self]; rfl
      ·have hvc:=hv.cellsL hnt
       rw [hz0] at hvc
       exact hvc
    ·have hkeep : (arr.toList.take (o + (off + i.toNat * m)) ++ [z0] ++ arr.toList.drop (o + (off + i.toNat * m) + [z0].length))[o + j]? = arr[o + j]?:=by
      rcases Nat.lt_or_ge j (off + i.toNat * m) with hjl | hjl
      ·rw [List.append_assoc,List.getElem?_append_left (by rw [h1']; omega),List.getElem?_take,if_pos (by omega)]; simp
      ·rw [List.getElem?_append_right (by rw [List.length_append,h1']; simp; omega),List.length_append,h1',List.getElem?_drop]
       simp only [List.length_cons,List.length_nil]
       rw [show o + (off + i.toNat * m) + (0 + 1) + (o + j - (o + (off + i.toNat * m) + (0 + 1))) = o + j by omega]; simp
     refine ⟨v0,hkeep.trans hv0,?_,hone0⟩
     rcases hor with ⟨_,rfl⟩ | ⟨⟨q1,q2,q3⟩,hmix⟩
     ·exact hi0'
     ·refine mix_neg hmix (fun e=>hje ?_) hi0'
      have e2 : i.toNat = (j - off) / m:=by omega
      have e3:=Nat.div_add_mod (j - off) m
      rw [q3,← e2,Nat.mul_comm] at e3
      omega
   obtain ⟨hH,hE⟩:=hh.write (b':=b.withCs cs) hb hlive hm hp ha hhg (by rw [k5]; exact hlive) (by rw [k4]; exact hm) (arr':=(arr.toList.take (o + (off + i.toNat * m)) ++ y.cells.toList ++ arr.toList.drop (o + (off + i.toNat * m) + y.cells.toList.length)).toArray) (fun hI hO=>by
    have hrow:=setRow_heap w g arr (arr.toList.take (o + (off + i.toNat * m)) ++ y.cells.toList ++ arr.toList.drop (o + (off + i.toNat * m) + y.cells.toList.length)).toArray ty (0,0) hhg
    obtain ⟨q',hq',hk⟩:=hh.blk l b hb hlive
    rw [hp] at hq'
    cases hq'
    refine ⟨p,hp,?_⟩
    rw [k1]
    unfold PBlk.mem at hmem
    split at hk
    ·rename_i hkk
     refine ⟨g,o,_,ty,(0,0),ha,hrow,?_,hO⟩
     rw [k6]; exact hput.mono (fun _ h=>h) hI (fun _ _ h=>h)
    ·rename_i hkk
     obtain ⟨g',arr',fr',ha',hh',_,_,h1,h2,h3,h4,h5⟩:=hk
     rw [ha] at ha'; cases ha'
     rw [hhg] at hh'; cases hh'
     refine ⟨g,_,(0,0),ha,by rw [k2]; exact hrow,?_,hO,by rw [k6,k3,hlc]; exact h1,h2,h3,by rw [k3,hsa]; exact h4,by rw [k3]; exact h5⟩
     rw [k6]; exact hput.mono (fun _ h=>h) hI (fun _ _ h=>h)
    ·rename_i hkk
     rw [hkk] at hmem; simp at hmem
    ·rename_i hkk
     rw [hkk] at hmem; simp at hmem)
   refine ⟨_,hrun hhg hsz,OpPost.mk' hR h hH hE (fun _ _ h=>h) (by simp) (fun _ _=>rfl) ?_⟩
   simp only [PV.Is]; exact ⟨#[],rfl,by simp only [IsL]⟩
  ·exact h.elim
theorem CellsAt.new {cs : List PV} {vs : Array Value} (h : IsL w I cs β vs.toList) (h1 : ∀ c ∈ cs,c.cell1 = true) : CellsAt w I β cs vs 0:=fun i c hc=>by
 obtain ⟨v,hv,hi⟩:=h.get hc
 exact ⟨v,by simpa using hv,hi,flat_one (hi.flat (h1 c (List.mem_of_getElem? hc)))⟩
theorem alloc_keeps (hh : HeapOk I β st w) (hI : ∀ g,I g -> g < w.heap.size) (o : Obj) : ∀ g,Lives β st g \/ I g -> (w.alloc o).heap[g]? = w.heap[g]?:=fun g hg=>Ev.heap_old w o g (hg.elim hh.lives_lt (hI g))
theorem alloc_new (hh : HeapOk I β st w) (hI : ∀ g,I g -> g < w.heap.size) {vs : Array Value} {t : TypeId} {b : PBlk} {p : Plc} (hp : p.a = some (w.heap.size,0))
  (hb : Own I (β.set st.length p) (st ++ [b]) st.length w.heap.size (0,0) b -> BlkOk I (β.set st.length p) (st ++ [b]) (w.alloc (.cells vs t)) st.length b) (hm : b.m = .w) :
  HeapOk I (β.set st.length p) (st ++ [b]) (w.alloc (.cells vs t)) /\ Ext I β st w I (β.set st.length p) (st ++ [b]) (w.alloc (.cells vs t)):=by
 have hfresh : ∀ g o,p.a = some (g,o) -> ¬ I g /\ ¬ Lives β st g:=fun g o ha=>by
  rw [hp] at ha; cases ha
  exact ⟨fun h=>by have:=hI _ h; omega,fun h=>by have:=hh.lives_lt h; omega⟩
 refine ⟨hh.add (alloc_keeps hh hI _) hfresh (hb ⟨fun _=>⟨rfl,(hfresh _ _ hp).1,fun l' b' hne hl' hlive' p' g' o' hp' ha' e=>?_⟩,fun hr=>by rw [hm] at hr; cases hr⟩),Ext.add (w':=w.alloc (.cells vs t)) hh rfl rfl rfl (by simp) (fun g hg _=>Ev.heap_old w _ g hg) fun g o ha hlt=>by rw [hp] at ha; cases ha; omega⟩
 subst e
 unfold Places.set at hp'
 rw [if_neg hne] at hp'
 have:=hh.lt hp'
 rw [List.getElem?_append_left this] at hl'
 exact (hfresh _ _ hp).2 ⟨l',b',p',o',hl',hlive',hp',ha'⟩
theorem pnew_ok (hR : Rel G I β s a w) {t t' : TypeId} {cs : List PV} {vs : Array Value} {q : PV -> PSt -> Prop} (h : pnew s ⟨.loc,t,1,.w,true,cs⟩ q) (hc : IsL w I cs β vs.toList) (h1 : ∀ c ∈ cs,c.cell1 = true) : OpPost G s I β w a q (.pointer (some ⟨w.heap.size,0,none⟩)) (w.alloc (.cells vs t')):=by
 replace h:=addB_ok (lenK_ok h)
 rw [Nat.zero_add] at h
 have hset:=Places.set_mono hR.heap ⟨some (w.heap.size,0),0,0⟩
 obtain ⟨hH,hE⟩:=alloc_new (vs:=vs) (t:=t') hR.heap hR.imm.imm (b:=⟨.loc,t,1,.w,true,cs⟩) (p:=⟨some (w.heap.size,0),0,0⟩) rfl (fun ho =>
  ⟨_,Places.set_self ..,w.heap.size,0,vs,t',(0,0),rfl,Ev.heap_new w _,(CellsAt.new hc h1).mono (fun _ h=>h) (fun g hg=>alloc_keeps hR.heap hR.imm.imm _ g (.inr hg)) hset,ho⟩) rfl
 refine OpPost.mk' hR h hH hE hset (by simp) (fun l hl=>if_neg (by omega)) ?_
 simp only [PV.Is]; exact ⟨_,w.heap.size,0,Places.set_self ..,rfl,rfl⟩
theorem pnewS_ok (hR : Rel G I β s a w) {t : TypeId} {len n : Nat} {cs : List PV} {vs : Array Value} {q : PV -> PSt -> Prop} (h : pnewS s ⟨.arr,t,n,.w,true,cs⟩ q) (hc : IsL w I cs β vs.toList) (h1 : ∀ c ∈ cs,c.cell1 = true) (hl : cs.length = len * n) (hn : 0 < n) (hm : len <= maxLen) : OpPost G s I β w a q (.slice (some ⟨w.heap.size,0,none⟩) len len) (w.alloc (.cells vs t)):=by
 replace h:=addB_ok (lenK_ok h)
 rw [Nat.zero_add] at h
 have hset:=Places.set_mono hR.heap ⟨some (w.heap.size,0),len,len⟩
 have hvl:=hc.length
 simp only [Array.length_toList] at hvl
 obtain ⟨hH,hE⟩:=alloc_new (vs:=vs) (t:=t) hR.heap hR.imm.imm (b:=⟨.arr,t,n,.w,true,cs⟩) (p:=⟨some (w.heap.size,0),len,len⟩) rfl (fun ho =>
  ⟨_,Places.set_self ..,w.heap.size,vs,(0,0),rfl,Ev.heap_new w _,(CellsAt.new hc h1).mono (fun _ h=>h) (fun g hg=>alloc_keeps hR.heap hR.imm.imm _ g (.inr hg)) hset,ho,hl,Nat.le_refl _,hm,by rw [← hvl]; exact hl,hn⟩) rfl
 refine OpPost.mk' hR h hH hE hset (by simp) (fun l hl=>if_neg (by omega)) ?_
 simp only [PV.Is]; exact ⟨_,Places.set_self ..,rfl⟩
end
end Go.Proofs.YtnbngokbamifbaaGreatDoor.Pw

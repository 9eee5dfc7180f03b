/- What the laws of this claim are proved with, joined (join.py) of 10 texts: no condition. -/
import Derived.Test.YtnjmfedleimlmaaDoorJa2
import Derived.Maps.AppendAt
import Derived.Scope
set_option linter.unusedVariables false

/- Memory: loads, stores, new blocks, append, as the evaluator says. -/
namespace Go.Proofs.YtnjmfedleimlmaaDoor.Pw
open Go Go.RowKit

def Places.set (β : Places) (l : Nat) (p : Plc) : Places := fun l' => if l' = l then some p else β l'
section
variable {w w' : World} {I I' : Nat → Prop} {β β' : Places} {cx : Ev.Cx} {G : Gx} {P : Program} {s : PSt} {a : Act} {st st' : List PBlk}

theorem setB_ok : ∀ {st : List PBlk} {l : Nat} {b : PBlk} {q : List PBlk → Prop}, setB st l b q → l < st.length ∧ q (st.set l b)
  | [], _, _, _, h => h.elim
  | _ :: st, 0, b, q, h => ⟨by simp, h⟩
  | a :: st, n + 1, b, q, h => by
    obtain ⟨h1, h2⟩ := setB_ok (st := st) (q := fun l => q (a :: l)) h
    exact ⟨by simpa using h1, h2⟩
theorem addB_ok : ∀ {st : List PBlk} {b : PBlk} {q : List PBlk → Prop}, addB st b q → q (st ++ [b])
  | [], _, _, h => h
  | a :: st, b, q, h => addB_ok (st := st) (q := fun l => q (a :: l)) h
theorem lenK_ok {α : Type} : ∀ {l : List α} {n : Nat} {q : Nat → Prop}, lenK l n q → q (n + l.length)
  | [], n, q, h => h
  | _ :: l, n, q, h => by
    have := lenK_ok (l := l) h
    rwa [List.length_cons, show n + (l.length + 1) = n + 1 + l.length by omega]

/-! ### blocks -/
theorem BlkOk.place {l : Nat} {b : PBlk} (h : BlkOk I β st w l b) {p : Plc} {g o : Nat} (hp : β l = some p) (ha : p.a = some (g, o)) : ∃ arr ty fr, w.heap[g]? = some (.cells arr ty fr) ∧ Own I β st l g fr b := by
  obtain ⟨q, hq, hk⟩ := h
  rw [hp] at hq
  cases hq
  split at hk
  · obtain ⟨g', o', arr, ty, fr, ha', hh, _, ho⟩ := hk
    rw [ha] at ha'; cases ha'; exact ⟨arr, ty, fr, hh, ho⟩
  · obtain ⟨g', arr, fr, ha', hh, _, ho, _⟩ := hk
    rw [ha] at ha'; cases ha'; exact ⟨arr, _, fr, hh, ho⟩
  · obtain ⟨_, hk⟩ := hk
    rcases hk with ⟨ha', _⟩ | ⟨g', arr, fr, ha', hh, _, ho, _⟩
    · rw [ha] at ha'; cases ha'
    · rw [ha] at ha'; cases ha'; exact ⟨arr, _, fr, hh, ho⟩
theorem BlkOk.mono {l : Nat} {b : PBlk} (hI : ∀ g, I g → I' g) (hw : ∀ g, I g → w'.heap[g]? = w.heap[g]?) (hβ : ∀ l p, β l = some p → β' l = some p)
    (hg : ∀ p g o, β l = some p → p.a = some (g, o) → w'.heap[g]? = w.heap[g]? ∧ (b.m ≠ .r → ¬ I' g ∧ ∀ l' b', l' ≠ l → st'[l']? = some b' → b'.live = true → ∀ p g' o', β' l' = some p → p.a = some (g', o') → g' ≠ g)) (hb : BlkOk I β st w l b) : BlkOk I' β' st' w' l b := by
  obtain ⟨p, hp, hk⟩ := hb
  refine ⟨p, hβ l p hp, ?_⟩
  have own : ∀ {g o : Nat} {fr : Nat × Nat}, p.a = some (g, o) → Own I β st l g fr b → Own I' β' st' l g fr b := fun ha ho => ⟨fun hr => ⟨(ho.1 hr).1, (hg p _ _ hp ha).2 hr⟩, fun hr => hI _ (ho.2 hr)⟩
  split at hk
  · obtain ⟨g, o, arr, ty, fr, ha, hh, hc, ho⟩ := hk
    exact ⟨g, o, arr, ty, fr, ha, (hg p g o hp ha).1.trans hh, hc.mono hI hw hβ, own ha ho⟩
  · obtain ⟨g, arr, fr, ha, hh, hc, ho, h1⟩ := hk
    exact ⟨g, arr, fr, ha, (hg p g 0 hp ha).1.trans hh, hc.mono hI hw hβ, own ha ho, h1⟩
  · obtain ⟨h1, hk⟩ := hk
    refine ⟨h1, ?_⟩
    rcases hk with h | ⟨g, arr, fr, ha, hh, hc, ho, h2⟩
    · exact .inl h
    · exact .inr ⟨g, arr, fr, ha, (hg p g 0 hp ha).1.trans hh, IsEs.mono hI hw _ _ _ _ (hg p g 0 hp ha).1 hc, own ha ho, h2⟩
theorem HeapOk.lt (h : HeapOk I β st w) {l : Nat} {p : Plc} (hp : β l = some p) : l < st.length := by
  rcases Nat.lt_or_ge l st.length with h' | h'
  · exact h'
  · rw [h.far l h'] at hp; cases hp
/-- a live block's place -/
def Lives (β : Places) (st : List PBlk) (g : Nat) : Prop := ∃ l b p o, st[l]? = some b ∧ b.live = true ∧ β l = some p ∧ p.a = some (g, o)
theorem Places.set_mono (h : HeapOk I β st w) (p : Plc) : ∀ l q, β l = some q → (β.set st.length p) l = some q := fun l q hq => by
  have := h.lt hq
  unfold Places.set
  rw [if_neg (by omega)]; exact hq
theorem Places.set_self (β : Places) (l : Nat) (p : Plc) : (β.set l p) l = some p := if_pos rfl
theorem HeapOk.add (h : HeapOk I β st w) (hw : ∀ g, Lives β st g ∨ I g → w'.heap[g]? = w.heap[g]?) {b : PBlk} {p : Plc} (hp : ∀ g o, p.a = some (g, o) → ¬ I g ∧ ¬ Lives β st g)
    (hb : BlkOk I (β.set st.length p) (st ++ [b]) w' st.length b) : HeapOk I (β.set st.length p) (st ++ [b]) w' := by
  refine ⟨fun l hl => ?_, fun l b' hl hlive => ?_⟩
  · simp only [List.length_append, List.length_singleton] at hl
    unfold Places.set
    rw [if_neg (by omega), h.far l (by omega)]
  · by_cases hlt : l < st.length
    · rw [List.getElem?_append_left hlt] at hl
      have hb' := h.blk l b' hl hlive
      refine hb'.mono (fun _ h => h) (fun g hg => hw g (.inr hg)) (Places.set_mono h p) fun q g o hq ha => ?_
      obtain ⟨arr, ty, fr, hh, ho⟩ := hb'.place hq ha
      have hL : Lives β st g := ⟨l, b', q, o, hl, hlive, hq, ha⟩
      refine ⟨hw g (.inl hL), fun hr => ⟨(ho.1 hr).2.1, fun l' b'' hne hl' hlive' p' g' o' hp' ha' => ?_⟩⟩
      unfold Places.set at hp'
      split at hp'
      · cases hp'
        intro e
        subst e
        exact (hp _ _ ha').2 hL
      · have := h.lt hp'
        rw [List.getElem?_append_left this] at hl'
        exact (ho.1 hr).2.2 l' b'' hne hl' hlive' p' g' o' hp' ha'
    · have hle : l = st.length := by
        have := (List.getElem?_eq_some_iff.1 hl).1
        simp at this; omega
      subst hle
      rw [List.getElem?_append_right (Nat.le_refl _)] at hl
      simp only [Nat.sub_self, List.getElem?_cons_zero, Option.some.injEq] at hl
      subst hl
      exact hb
theorem HeapOk.lives_lt (h : HeapOk I β st w) {g : Nat} (hg : Lives β st g) : g < w.heap.size := by
  obtain ⟨l, b, p, o, h1, h2, h3, h4⟩ := hg
  obtain ⟨arr, ty, fr, hh, _⟩ := (h.blk l b h1 h2).place h3 h4
  exact lt_of_heap hh
theorem Ext.add (h : HeapOk I β st w) (hos : w'.os = w.os) (htape : w'.tape = w.tape) (hout : w'.output = w.output) (hsz : w.heap.size ≤ w'.heap.size) {b : PBlk} {p : Plc} (hw : ∀ g, g < w.heap.size → ¬ Wr β st g → w'.heap[g]? = w.heap[g]?)
    (hp : ∀ g o, p.a = some (g, o) → g < w.heap.size → Wr β st g) : Ext I β st w I (β.set st.length p) (st ++ [b]) w' :=
  ⟨hos, htape, hout, hsz, hw, fun g hg ⟨l, b', q, o, h1, h2, h3, h4, h5⟩ => by
    unfold Places.set at h4
    split at h4
    · cases h4
      exact hp g o h5 hg
    · have := h.lt h4
      rw [List.getElem?_append_left this] at h1
      exact ⟨l, b', q, o, h1, h2, h3, h4, h5⟩, fun _ h => h, fun _ _ h => .inl h⟩
/-- a block that is let go -/
theorem HeapOk.kill (h : HeapOk I β st w) (l : Nat) {b : PBlk} (hb : b.live = false) : HeapOk I β (st.set l b) w := by
  refine ⟨fun l' hl' => h.far l' (by simpa using hl'), fun l' b' hl' hlive => ?_⟩
  have hne : l' ≠ l := fun e => by
    subst e
    rw [List.getElem?_set_self (by simpa using (List.getElem?_eq_some_iff.1 hl').1)] at hl'
    cases hl'; rw [hb] at hlive; cases hlive
  rw [List.getElem?_set_ne (fun e => hne e.symm)] at hl'
  have hb' := h.blk l' b' hl' hlive
  refine hb'.mono (fun _ h => h) (fun _ _ => rfl) (fun _ _ h => h) fun q g o hq ha => ⟨rfl, fun hr => ?_⟩
  obtain ⟨arr, ty, fr, hh, ho⟩ := hb'.place hq ha
  refine ⟨(ho.1 hr).2.1, fun l2 b2 hne2 hl2 hlive2 => ?_⟩
  have hne' : l2 ≠ l := fun e => by
    subst e
    rw [List.getElem?_set_self (by simpa using (List.getElem?_eq_some_iff.1 hl2).1)] at hl2
    cases hl2; rw [hb] at hlive2; cases hlive2
  rw [List.getElem?_set_ne (fun e => hne' e.symm)] at hl2
  exact (ho.1 hr).2.2 l2 b2 hne2 hl2 hlive2
theorem wr_set {l g : Nat} {b : PBlk} (hb : b.live = false ∨ ∃ b0, st[l]? = some b0 ∧ b0.live = b.live ∧ b0.m = b.m) (h : Wr β (st.set l b) g) : Wr β st g := by
  obtain ⟨l', b', p, o, h1, h2, h3, h4, h5⟩ := h
  by_cases hne : l' = l
  · subst hne
    rw [List.getElem?_set_self (by simpa using (List.getElem?_eq_some_iff.1 h1).1)] at h1
    cases h1
    rcases hb with hb | ⟨b0, e1, e2, e3⟩
    · rw [hb] at h2; cases h2
    · exact ⟨l', b0, p, o, e1, by rw [e2]; exact h2, by rw [e3]; exact h3, h4, h5⟩
  · rw [List.getElem?_set_ne (fun e => hne e.symm)] at h1
    exact ⟨l', b', p, o, h1, h2, h3, h4, h5⟩
theorem Ext.kill {l : Nat} {b : PBlk} (hb : b.live = false) : Ext I β st w I β (st.set l b) w := ⟨rfl, rfl, rfl, Nat.le_refl _, fun _ _ _ => rfl, fun _ _ h => wr_set (.inl hb) h, fun _ h => h, fun _ _ h => .inl h⟩
/-- a block that is written -/
theorem HeapOk.write (h : HeapOk I β st w) {l : Nat} {b b' : PBlk} {p : Plc} {g o : Nat} {arr arr' : Array Value} {ty : TypeId} (hb : st[l]? = some b) (hlive : b.live = true) (hm : b.m = .w) (hp : β l = some p) (ha : p.a = some (g, o)) (hh : w.heap[g]? = some (.cells arr ty (0, 0)))
    (hl' : b'.live = true) (hm' : b'.m = .w) (hblk : ∀ (hI : ∀ x, I x → (w.setRow g arr').heap[x]? = w.heap[x]?), Own I β (st.set l b') l g (0, 0) b' → BlkOk I β (st.set l b') (w.setRow g arr') l b') :
    HeapOk I β (st.set l b') (w.setRow g arr') ∧ Ext I β st w I β (st.set l b') (w.setRow g arr') := by
  have hb0 := h.blk l b hb hlive
  obtain ⟨arr0, ty0, fr0, hh0, ho0⟩ := hb0.place hp ha
  obtain ⟨_, hIg, huniq⟩ := ho0.1 (by rw [hm]; decide)
  have hII : ∀ x, I x → (w.setRow g arr').heap[x]? = w.heap[x]? := fun x hx => setRow_other w g x _ fun e => hIg (e ▸ hx)
  have hll : l < st.length := (List.getElem?_eq_some_iff.1 hb).1
  have huniq' : ∀ l' b'', l' ≠ l → (st.set l b')[l']? = some b'' → b''.live = true → ∀ p g' o', β l' = some p → p.a = some (g', o') → g' ≠ g := fun l' b'' hne hl'' hlive'' p g' o' hp' ha' => by
    rw [List.getElem?_set_ne (fun e => hne e.symm)] at hl''
    exact huniq l' b'' hne hl'' hlive'' p g' o' hp' ha'
  refine ⟨⟨fun l2 hl2 => h.far l2 (by simpa using hl2), fun l2 b2 hl2 hlive2 => ?_⟩, ⟨rfl, rfl, rfl, by simp, fun x hx hn => setRow_other w g x _ fun e => hn (e ▸ ⟨l, b, p, o, hb, hlive, hm, hp, ha⟩), fun x hx hw => wr_set (.inr ⟨b, hb, by rw [hlive, hl'], by rw [hm, hm']⟩) hw, fun _ h => h, fun _ _ h => .inl h⟩⟩
  by_cases hne : l2 = l
  · subst hne
    rw [List.getElem?_set_self hll] at hl2
    cases hl2
    exact hblk hII ⟨fun _ => ⟨rfl, hIg, huniq'⟩, fun hr => by rw [hm'] at hr; cases hr⟩
  · rw [List.getElem?_set_ne (fun e => hne e.symm)] at hl2
    have hb2 := h.blk l2 b2 hl2 hlive2
    refine hb2.mono (fun _ h => h) hII (fun _ _ h => h) fun q g2 o2 hq ha2 => ?_
    obtain ⟨arr2, ty2, fr2, hh2, ho2⟩ := hb2.place hq ha2
    refine ⟨setRow_other w g g2 _ (huniq l2 b2 hne hl2 hlive2 q g2 o2 hq ha2), fun hr => ⟨(ho2.1 hr).2.1, fun l3 b3 hne3 hl3 hlive3 p3 g3 o3 hp3 ha3 => ?_⟩⟩
    by_cases h3 : l3 = l
    · subst h3
      rw [hp] at hp3
      cases hp3
      rw [ha] at ha3
      cases ha3
      exact fun e => huniq l2 b2 hne hl2 hlive2 q g2 o2 hq ha2 e.symm
    · rw [List.getElem?_set_ne (fun e => h3 e.symm)] at hl3
      exact (ho2.1 hr).2.2 l3 b3 hne3 hl3 hlive3 p3 g3 o3 hp3 ha3

/-! ### loads -/
theorem loadCells_ok {g o n : Nat} {cs : List PV} (hl : cs.length = n) (hc : ∀ j c, cs[j]? = some c → ∃ v, w.cell? ⟨g, o + j, none⟩ = some v ∧ c.Is w I β v) :
    ∃ vs : Array Value, IsL w I cs β vs.toList ∧ ∀ w2 : World, w2.heap[g]? = w.heap[g]? → (loadCells ⟨g, o, none⟩ n).run P w2 = .ok vs w2 := by
  have key : ∀ (cs : List PV) (o : Nat), (∀ j c, cs[j]? = some c → ∃ v, w.cell? ⟨g, o + j, none⟩ = some v ∧ c.Is w I β v) → ∃ l : List Value, IsL w I cs β l ∧ ∀ j v, l[j]? = some v → w.cell? ⟨g, o + j, none⟩ = some v := by
    intro cs
    induction cs with
    | nil => intro o _; exact ⟨[], by simp only [IsL], fun j v h => by simp at h⟩
    | cons a cs ih =>
      intro o hc
      obtain ⟨v, hv, hi⟩ := hc 0 a rfl
      obtain ⟨l, h1, h2⟩ := ih (o + 1) fun j x hx => by
        obtain ⟨u, hu, hui⟩ := hc (j + 1) x (by simpa using hx)
        exact ⟨u, by rw [show o + 1 + j = o + (j + 1) by omega]; exact hu, hui⟩
      refine ⟨v :: l, by simp only [IsL]; exact ⟨hi, h1⟩, fun j u hu => ?_⟩
      cases j with
      | zero => simp at hu; subst hu; exact hv
      | succ j => rw [show o + (j + 1) = o + 1 + j by omega]; exact h2 j u (by simpa using hu)
  obtain ⟨l, h1, h2⟩ := key cs o hc
  refine ⟨l.toArray, by simpa using h1, fun w2 hw2 => ?_⟩
  have hll := h1.length
  rw [show n = l.length by omega]
  exact run_loadCells_list w2 _ l fun j v hv => by rw [Ev.addr_add]; exact (World.cell?_of_block (a := ⟨g, o + j, none⟩) hw2).trans (h2 j v hv)
/-- a part of cells that lie at a place is loaded -/
theorem part_load (hO : Ev.CxOk cx) {t : TypeId} {cs : List PV} {off g o : Nat} {q : PV → Prop} (h : part cx t cs off q) (hc : ∀ j c, cs[j]? = some c → ∃ v, w.cell? ⟨g, o + j, none⟩ = some v ∧ c.Is w I β v) :
    ∃ x v, q x ∧ x.Is w I β v ∧ ∀ w2 : World, w2.heap[g]? = w.heap[g]? → (Instr.loadAt t (.pointer (some ⟨g, o + off, none⟩))).run cx.P w2 = .ok v w2 := by
  replace h := need_ok h
  obtain ⟨x, hx, h⟩ := h
  replace h := fcA_ok h
  unfold partO at hx
  split at hx
  · rename_i n ha hn
    split at hx
    · rename_i hle
      have hle' : off + n ≤ cs.length := Nat.le_of_ble_eq_true hle
      cases hx
      obtain ⟨vs, g1, g2⟩ := loadCells_ok (P := cx.P) (w := w) (I := I) (β := β) (g := g) (o := o + off) (cs := (cs.drop off).take n) (n := n) (by simp; omega) (fun j x hx => by
        rw [List.getElem?_take] at hx
        split at hx
        · rw [List.getElem?_drop] at hx
          obtain ⟨v, hv, hi⟩ := hc _ _ hx
          exact ⟨v, by rw [Nat.add_assoc]; exact hv, hi⟩
        · cases hx)
      exact ⟨_, .agg vs, h, by simp only [PV.Is]; exact ⟨vs, rfl, g1⟩, fun w2 hw2 => by simp [Instr.loadAt, Instr.sureAddr, loadVar, Ev.isAgg_run hO ha, Ev.size_run hO hn, g2 w2 hw2]⟩
    · cases hx
  · rename_i ha
    obtain ⟨v, hv, hi⟩ := hc _ _ hx
    refine ⟨x, v, h, hi, fun w2 hw2 => ?_⟩
    have hv2 := (World.cell?_of_block (a := ⟨g, o + off, none⟩) hw2).trans hv
    simp [Instr.loadAt, Instr.sureAddr, loadVar, Ev.isAgg_run hO ha, hv2]
  · cases hx
end

end Go.Proofs.YtnjmfedleimlmaaDoor.Pw

/- Loads, stores, new blocks, as the evaluator says. -/
namespace Go.Proofs.YtnjmfedleimlmaaDoor.Pw
open Go Go.RowKit

section
variable {w w' : World} {I I' : Nat → Prop} {β β' : Places} {cx : Ev.Cx} {G : Gx} {P : Program} {s : PSt} {a : Act} {st st' : List PBlk}

theorem Is.anywhere {x : PV} {v : Value} (h : x.Is w I (fun _ => none) v) : x.Is w I β v := PV.Is.mono (fun _ h => h) (fun _ _ => rfl) x _ β v (fun _ _ _ h => by cases h) h
/-- the cells of a block that is known cell by cell -/
theorem mem_cells (h : HeapOk I β st w) {l : Nat} {b : PBlk} {p : Plc} {g o : Nat} (hb : st[l]? = some b) (hm : b.mem = true) (hp : β l = some p) (ha : p.a = some (g, o)) :
    ∃ arr ty fr, w.heap[g]? = some (.cells arr ty fr) ∧ CellsAt w I β b.cs arr o ∧ Own I β st l g fr b := by
  unfold PBlk.mem at hm
  simp only [Bool.and_eq_true] at hm
  obtain ⟨q, hq, hk⟩ := h.blk l b hb hm.1
  rw [hp] at hq
  cases hq
  have hm2 := hm.2
  split at hk
  · obtain ⟨g', o', arr, ty, fr, ha', hh, hc, ho⟩ := hk
    rw [ha] at ha'; cases ha'; exact ⟨arr, ty, fr, hh, hc, ho⟩
  · obtain ⟨g', arr, fr, ha', hh, hc, ho, _⟩ := hk
    rw [ha] at ha'; cases ha'; exact ⟨arr, _, fr, hh, hc, ho⟩
  · rename_i hk'; rw [hk'] at hm2; cases hm2
theorem CellsAt.load {cs : List PV} {arr : Array Value} {g o : Nat} {ty : TypeId} {fr : Nat × Nat} (h : CellsAt w I β cs arr o) (hh : w.heap[g]? = some (.cells arr ty fr)) : ∀ j c, cs[j]? = some c → ∃ v, w.cell? ⟨g, o + j, none⟩ = some v ∧ c.Is w I β v := fun j c hc => by
  obtain ⟨v, hv, hi, _⟩ := h j c hc
  exact ⟨v, by rw [Ev.cells_of hh]; exact hv, hi⟩
theorem IsAt.load {cs : List PV} {g o : Nat} (h : IsAt w I cs g o) : ∀ j c, cs[j]? = some c → ∃ v, w.cell? ⟨g, o + j, none⟩ = some v ∧ c.Is w I β v := fun j c hc => by
  obtain ⟨v, hv, hi, _⟩ := h.get hc
  exact ⟨v, hv, Is.anywhere hi⟩
theorem load_one (hO : Ev.CxOk cx) {t : TypeId} {g o : Nat} {v : Value} (ha : Ev.isAggT cx t = some false) (hc : w.cell? ⟨g, o, none⟩ = some v) : (Instr.loadAt t (.pointer (some ⟨g, o, none⟩))).run cx.P w = .ok v w := by
  simp [Instr.loadAt, Instr.sureAddr, loadVar, Ev.isAgg_run hO ha, hc]
theorem pload_ok (hO : Ev.CxOk G.cx) (hh : HeapOk I β st w) (hM : ImmOk G I w) {t : TypeId} {x : PV} {u : Value} {q : PV → Prop} (h : pload G st t x q) (hx : x.Is w I β u) :
    ∃ z v g, q z ∧ z.Is w I β v ∧ (I g ∨ ∃ l b p o, x.blk = some l ∧ st[l]? = some b ∧ b.live = true ∧ β l = some p ∧ p.a = some (g, o)) ∧ ∀ w2 : World, w2.heap[g]? = w.heap[g]? → (Instr.loadAt t u).run G.cx.P w2 = .ok v w2 := by
  have idx : ∀ {cs : List PV} {g o off n : Nat} {i : Int}, (∀ j c, cs[j]? = some c → ∃ v, w.cell? ⟨g, o + j, none⟩ = some v ∧ c.Is w I β v) →
      ((∃ m : Nat, i = m ∧ part G.cx t cs (off + m * n) q) ∨ (Ev.isAggT G.cx t = some false ∧ 0 ≤ i ∧ off + i.toNat * n < cs.length ∧ ∀ c, cs[off + i.toNat * n]? = some c → q c)) → ∃ z v, q z ∧ z.Is w I β v ∧ ∀ w2 : World, w2.heap[g]? = w.heap[g]? → (Instr.loadAt t (.pointer (some ⟨g, o + (off + i.toNat * n), none⟩))).run G.cx.P w2 = .ok v w2 := by
    intro cs g o off n i hc h
    rcases h with ⟨m, rfl, h⟩ | ⟨ha, h0, hlt, h⟩
    · exact part_load hO h hc
    · obtain ⟨v, hv, hi⟩ := hc _ _ (List.getElem?_eq_getElem hlt)
      exact ⟨_, v, h _ (List.getElem?_eq_getElem hlt), hi, fun w2 hw2 => load_one hO ha ((World.cell?_of_block (a := ⟨g, o + (off + i.toNat * n), none⟩) hw2).trans hv)⟩
  unfold pload at h
  split at h <;> try simp only [PV.Is] at hx
  · replace h := need_ok h
    obtain ⟨b, hb, h⟩ := h
    replace h := bif_ok h
    obtain ⟨hm, h⟩ := h
    obtain ⟨p, g, o, hp, ha, rfl⟩ := hx
    obtain ⟨arr, ty, fr, hhg, hc, _⟩ := mem_cells hh hb hm hp ha
    obtain ⟨z, v, h1, h2, h3⟩ := part_load hO h (hc.load hhg)
    exact ⟨z, v, g, h1, h2, .inr ⟨_, b, p, o, rfl, hb, by unfold PBlk.mem at hm; simp only [Bool.and_eq_true] at hm; exact hm.1, hp, ha⟩, h3⟩
  · replace h := need_ok h
    obtain ⟨b, hb, h⟩ := h
    replace h := bif_ok h
    obtain ⟨hm, h⟩ := h
    obtain ⟨p, g, o, hp, ha, rfl⟩ := hx
    obtain ⟨arr, ty, fr, hhg, hc, _⟩ := mem_cells hh hb hm hp ha
    obtain ⟨z, v, h1, h2, h3⟩ := idx (hc.load hhg) h
    exact ⟨z, v, g, h1, h2, .inr ⟨_, b, p, o, rfl, hb, by unfold PBlk.mem at hm; simp only [Bool.and_eq_true] at hm; exact hm.1, hp, ha⟩, h3⟩
  · rename_i l i n off
    replace h := need_ok h
    obtain ⟨b, hb, h⟩ := h
    split at h
    · rename_i hk
      replace h := bif_ok h
      obtain ⟨hc, α, l', enc, hcs, hi, h⟩ := h
      simp only [Bool.and_eq_true] at hc
      have hn : b.size = n := Nat.eq_of_beq_eq_true hc.2
      obtain ⟨p, g, o, hp, ha, rfl⟩ := hx
      obtain ⟨_, hlen, hle, _, hor⟩ := whole_dyn hh hb hc.1 hk hp
      rcases hor with ⟨ha', _⟩ | ⟨g', arr, fr, ha', _, hhg, hes, _⟩
      · rw [ha] at ha'; cases ha'
      · rw [ha] at ha'
        cases ha'
        have he : b.cs[i]? = some (enc l'[i]) := by rw [hcs, List.getElem?_map, List.getElem?_eq_getElem hi]; rfl
        have hel := hes.get he
        obtain ⟨z, v, h1, h2, h3⟩ := part_load (β := β) hO (h _ (List.getElem?_eq_getElem hi)) (IsAt.load hel.2)
        rw [hn, Nat.add_assoc] at h3
        exact ⟨z, v, g, h1, h2, .inr ⟨_, b, p, 0, rfl, hb, hc.1, hp, ha⟩, h3⟩
    · exact h.elim
  · obtain ⟨g, o, rfl, hg, hc⟩ := hx
    obtain ⟨z, v, h1, h2, h3⟩ := part_load (β := β) hO h hc.load
    exact ⟨z, v, g, h1, h2, .inl hg, h3⟩
  · subst hx
    replace h := need_ok h
    obtain ⟨cs, hcs, h⟩ := h
    obtain ⟨hg, hc⟩ := hM.tab _ _ (Ev.lkT_mem hcs)
    obtain ⟨z, v, h1, h2, h3⟩ := part_load (β := β) hO h (IsAt.load hc)
    rw [Nat.zero_add] at h3
    exact ⟨z, v, _, h1, h2, .inl hg, h3⟩
  · subst hx
    replace h := need_ok h
    obtain ⟨cs, hcs, h⟩ := h
    obtain ⟨hg, hc⟩ := hM.tab _ _ (Ev.lkT_mem hcs)
    obtain ⟨z, v, h1, h2, h3⟩ := idx (IsAt.load hc) h
    rw [Nat.zero_add] at h3
    exact ⟨z, v, _, h1, h2, .inl hg, h3⟩
  · exact h.elim

/-! ### stores -/
theorem putC_ok {cs new r : List PV} {arr : Array Value} {o off : Nat} {vs : List Value} (h : putC cs new off = some r) (hc : CellsAt w I β cs arr o) (hn : IsL w I new β vs) (h1 : ∀ v ∈ vs, v.oneCell' = true) (hsz : o + off + vs.length ≤ arr.size) :
    CellsAt w I β r (arr.toList.take (o + off) ++ vs ++ arr.toList.drop (o + off + vs.length)).toArray o := by
  unfold putC at h
  split at h
  · rename_i hle
    have hle := Nat.le_of_ble_eq_true hle
    cases h
    intro j x hx
    have hl := hn.length
    simp only [List.getElem?_toArray]
    have h1' : (arr.toList.take (o + off)).length = o + off := by simp; omega
    by_cases hj : j < off
    · rw [List.append_assoc, List.getElem?_append_left (by simp; omega), List.getElem?_take, if_pos hj] at hx
      obtain ⟨v, hv, hi, ho⟩ := hc j x hx
      refine ⟨v, ?_, hi, ho⟩
      rw [List.append_assoc, List.getElem?_append_left (by rw [h1']; omega), List.getElem?_take, if_pos (by omega)]
      simpa using hv
    · by_cases hj2 : j < off + new.length
      · rw [List.getElem?_append_left (by simp; omega), List.getElem?_append_right (by simp; omega)] at hx
        have ht : (cs.take off).length = off := by simp; omega
        rw [ht] at hx
        obtain ⟨v, hv, hi⟩ := hn.get hx
        refine ⟨v, ?_, hi, h1 v (List.mem_of_getElem? hv)⟩
        rw [List.getElem?_append_left (by simp; omega), List.getElem?_append_right (by rw [h1']; omega), h1', show o + j - (o + off) = j - off by omega]
        exact hv
      · rw [List.getElem?_append_right (by simp; omega), List.getElem?_drop] at hx
        have ht : (cs.take off ++ new).length = off + new.length := by simp; omega
        rw [ht, show off + new.length + (j - (off + new.length)) = j by omega] at hx
        obtain ⟨v, hv, hi, ho⟩ := hc j x hx
        refine ⟨v, ?_, hi, ho⟩
        have h2 : (arr.toList.take (o + off) ++ vs).length = o + off + vs.length := by simp; omega
        rw [List.getElem?_append_right (by rw [h2]; omega), h2, List.getElem?_drop, show o + off + vs.length + (o + j - (o + off + vs.length)) = o + j by omega]
        simpa using hv
  · cases h
theorem withCs_k (b : PBlk) (cs : List PV) : (b.withCs cs).k = b.k ∧ (b.withCs cs).ty = b.ty ∧ (b.withCs cs).size = b.size ∧ (b.withCs cs).m = b.m ∧ (b.withCs cs).live = b.live ∧ (b.withCs cs).cs = cs := by
  cases b; exact ⟨rfl, rfl, rfl, rfl, rfl, rfl⟩
theorem can_ok {b : PBlk} (h : b.can = true) : b.live = true ∧ b.m = .w := by
  unfold PBlk.can at h
  simp only [Bool.and_eq_true] at h
  refine ⟨h.1, ?_⟩
  have := h.2
  cases hm : b.m <;> rw [hm] at this <;> first | rfl | cases this
theorem elem_ok {v : PV} {u : Value} (he : v.elem = true) (h : v.Is w I β u) : (∀ ts, v ≠ .tup ts) ∧ ∀ (j : Nat) (c : PV), v.cells[j]? = some c → ∃ y, u.cells.toList[j]? = some y ∧ c.Is w I (fun _ => none) y ∧ y.oneCell' = true := by
  have nr : ∀ {c : PV} {y : Value}, c.noRef = true → c.Is w I β y → c.Is w I (fun _ => none) y ∧ y.oneCell' = true := fun hc hi => by
    refine ⟨?_, flat_one (hi.flat (by rename_i c _; cases c <;> first | rfl | cases hc))⟩
    refine PV.Is.mono (fun _ h => h) (fun _ _ => rfl) _ β _ _ (fun l p hl => ?_) hi
    rename_i c _
    cases c <;> simp_all [PV.uses, PV.noRef]
  have hnt : ∀ ts, v ≠ .tup ts := fun ts e => by subst e; cases he
  refine ⟨hnt, fun j c hc => ?_⟩
  obtain ⟨y, hy, hi⟩ := (h.cellsL hnt).get hc
  refine ⟨y, hy, nr ?_ hi⟩
  cases v with
  | agg cs =>
    simp only [PV.elem, List.all_eq_true] at he
    exact he c (List.mem_of_getElem? hc)
  | _ =>
    simp only [PV.cells] at hc
    cases j with
    | zero => simp at hc; subst hc; exact he
    | succ j => simp at hc

theorem ones_of {x : PV} {y : Value} (hnt : ∀ ts, x ≠ .tup ts) (h : x.Is w I β y) (h1 : ∀ c ∈ x.cells, c.cell1 = true) : ∀ z ∈ y.cells.toList, z.oneCell' = true := by
  intro z hz
  obtain ⟨k, hk, hkz⟩ := List.getElem_of_mem hz
  have hl := (h.cellsL hnt).length
  have hk' : k < x.cells.length := by omega
  obtain ⟨z', hz', hzi⟩ := (h.cellsL hnt).get (List.getElem?_eq_getElem hk')
  rw [List.getElem?_eq_getElem hk, hkz] at hz'
  cases hz'
  exact flat_one (hzi.flat (h1 _ (List.getElem_mem hk')))
end

end Go.Proofs.YtnjmfedleimlmaaDoor.Pw

/- Stores, new blocks, append, as the evaluator says. -/
namespace Go.Proofs.YtnjmfedleimlmaaDoor.Pw
open Go Go.RowKit

structure GOk (G : Gx) : Prop where
  ok : Ev.CxOk G.cx
  by_ : ∀ p ∈ G.bt, ∃ i, G.cx.P.info? p.1 = some i ∧ i.bytes = p.2
/-- what an operation leaves: the temporary's value, and the world -/
def OpPost (G : Gx) (s : PSt) (I : Nat → Prop) (β : Places) (w : World) (a : Act) (q : PV → PSt → Prop) (v : Value) (w' : World) : Prop :=
  ∃ x s' I' β', q x s' ∧ Rel G I' β' s' a w' ∧ x.Is w' I' β' v ∧ Ext I β s.st w I' β' s'.st w' ∧ s'.base = s.base ∧ s'.rl = s.rl ∧ s'.n = s.n ∧ (∀ l, l < s.base → l ∉ s.rl → β' l = β l) ∧ ∀ l b, s.st[l]? = some b → b.m = .p → β' l = β l
section
variable {w w' : World} {I I' : Nat → Prop} {β β' : Places} {cx : Ev.Cx} {G : Gx} {P : Program} {s : PSt} {a : Act} {st st' : List PBlk}

theorem PSt.store_eq (s : PSt) (st : List PBlk) : (s.store st).n = s.n ∧ (s.store st).t = s.t ∧ (s.store st).st = st ∧ (s.store st).base = s.base ∧ (s.store st).rl = s.rl := by
  cases s; exact ⟨rfl, rfl, rfl, rfl, rfl⟩
theorem Rel.grow (hR : Rel G I β s a w) (hh : HeapOk I' β' st' w') (he : Ext I β s.st w I' β' st' w') (hβ : ∀ l p, β l = some p → β' l = some p) (hl : s.st.length ≤ st'.length) (hI : ∀ g, I' g → g < w'.heap.size) : Rel G I' β' (s.store st') a w' := by
  obtain ⟨e1, e2, e3, e4, e5⟩ := PSt.store_eq s st'
  exact ⟨by rw [e1]; exact hR.small, hR.defers, by rw [e1]; exact hR.size, by rw [e4, e3]; exact Nat.le_trans hR.base hl, fun t x ht => by
    rw [e2] at ht
    obtain ⟨v, hv, hi⟩ := hR.get t x ht
    exact ⟨v, hv, PV.Is.mono he.imm (he.keeps hR.heap hR.imm.imm) x β β' v (fun l p _ => hβ l p) hi⟩, by rw [e3]; exact hh, hR.imm.ext hR.heap he hI⟩
theorem OpPost.mk' (hR : Rel G I β s a w) {q : PV → PSt → Prop} {x : PV} {v : Value} (h : q x (s.store st')) (hh : HeapOk I β' st' w') (he : Ext I β s.st w I β' st' w') (hβ : ∀ l p, β l = some p → β' l = some p) (hl : s.st.length ≤ st'.length) (hlow : ∀ l, l < s.st.length → β' l = β l)
    (hx : x.Is w' I β' v) : OpPost G s I β w a q v w' := by
  obtain ⟨e1, e2, e3, e4, e5⟩ := PSt.store_eq s st'
  exact ⟨x, _, I, β', h, hR.grow hh he hβ hl (fun g hg => Nat.lt_of_lt_of_le (hR.imm.imm g hg) he.size), hx, by rw [e3]; exact he, e4, e5, e1, fun l hl' _ => hlow l (Nat.lt_of_lt_of_le hl' hR.base), fun l b hb _ => hlow l (List.getElem?_eq_some_iff.1 hb).1⟩
theorem OpPost.same (hR : Rel G I β s a w) {q : PV → PSt → Prop} {x : PV} {v : Value} (h : q x s) (hx : x.Is w I β v) : OpPost G s I β w a q v w :=
  ⟨x, s, I, β, h, hR, hx, Ext.refl, rfl, rfl, rfl, fun _ _ _ => rfl, fun _ _ _ _ => rfl⟩

/-! ### stores -/
theorem pstore_ok (hG : GOk G) (hR : Rel G I β s a w) {t : TypeId} {x v : PV} {u y : Value} {q : PV → PSt → Prop} (h : pstore G s.st t x v fun st => q (.tup []) (s.store st)) (hx : x.Is w I β u) (hv : v.Is w I β y) :
    ∃ w', (Instr.storeAt t u y).run G.cx.P w = .ok () w' ∧ OpPost G s I β w a q undef w' := by
  have hh := hR.heap
  replace h := need_ok h
  obtain ⟨n, hn, h⟩ := h
  replace h := bif_ok h
  obtain ⟨hc, h⟩ := h
  simp only [Bool.and_eq_true, List.all_eq_true] at hc
  obtain ⟨⟨hc1, hc2⟩, hc3⟩ := hc
  have hvn : v.cells.length = n := Nat.eq_of_beq_eq_true hc1
  have hn0 : 0 < n := Nat.le_of_ble_eq_true hc2
  have hnt : ∀ ts, v ≠ .tup ts := fun ts e => by subst e; exact h.elim
  have hyc := hv.cellsL hnt
  have hyl := hyc.length
  simp only [Array.length_toList] at hyl
  have hone := ones_of hnt hv hc3
  have hrun : ∀ {g o : Nat} {arr : Array Value} {ty : TypeId}, w.heap[g]? = some (.cells arr ty (0, 0)) → o + y.cells.toList.length ≤ arr.size →
      (Instr.storeAt t (.pointer (some ⟨g, o, none⟩)) y).run G.cx.P w = .ok () (w.setRow g (arr.toList.take o ++ y.cells.toList ++ arr.toList.drop (o + y.cells.toList.length)).toArray) := fun {g o arr ty} hhg hsz => by
    have := run_storeCells_at (P := G.cx.P) g o ty y.cells.toList 0 arr w hhg (by simpa using hsz) hone
    simp only [Instr.storeAt, Instr.sureAddr, storeVar, Sem.run_bind, Sem.run_pure, Result.andThen_ok, Ev.size_run hG.ok hn]
    rw [if_neg (by omega)]
    simpa using this
  split at h
  · exact h.elim
  · split at h <;> try simp only [PV.Is] at hx
    · rename_i l off
      replace h := need_ok h
      obtain ⟨b, hb, h⟩ := h
      replace h := bif_ok h
      obtain ⟨hbc, h⟩ := h
      simp only [Bool.and_eq_true] at hbc
      obtain ⟨hmem, hcan⟩ := hbc
      obtain ⟨hlive, hm⟩ := can_ok hcan
      replace h := need_ok h
      obtain ⟨cs, hcs, h⟩ := h
      replace h := setB_ok (forceL_ok h)
      obtain ⟨hlt, h⟩ := h
      obtain ⟨p, g, o, hp, ha, rfl⟩ := hx
      obtain ⟨arr, ty, fr, hhg, hca, hown⟩ := mem_cells hh hb hmem hp ha
      have hfr : fr = (0, 0) := (hown.1 (by rw [hm]; decide)).1
      subst hfr
      have hle : off + v.cells.length ≤ b.cs.length := by
        unfold putC at hcs
        split at hcs
        · rename_i hle; exact Nat.le_of_ble_eq_true hle
        · cases hcs
      have hsz : o + off + y.cells.toList.length ≤ arr.size := by
        obtain ⟨z, hz, _⟩ := hca _ _ (List.getElem?_eq_getElem (show off + n - 1 < b.cs.length by omega))
        have := (Array.getElem?_eq_some_iff.1 hz).1
        simp only [Array.length_toList]
        omega
      obtain ⟨k1, k2, k3, k4, k5, k6⟩ := withCs_k b cs
      have hlc : cs.length = b.cs.length := by
        unfold putC at hcs
        split at hcs
        · cases hcs; simp only [List.length_append, List.length_take, List.length_drop]; omega
        · cases hcs
      have hsa : ((arr.toList.take (o + off) ++ y.cells.toList ++ arr.toList.drop (o + off + y.cells.toList.length)).toArray).size = arr.size := by
        simp only [List.size_toArray, List.length_append, List.length_take, List.length_drop, Array.length_toList]
        simp only [Array.length_toList] at hsz
        omega
      have hput := putC_ok hcs hca hyc hone hsz
      obtain ⟨hH, hE⟩ := hh.write (b' := b.withCs cs) hb hlive hm hp ha hhg (by rw [k5]; exact hlive) (by rw [k4]; exact hm) (arr' := (arr.toList.take (o + off) ++ y.cells.toList ++ arr.toList.drop (o + off + y.cells.toList.length)).toArray) (fun hI hO => by
        have hrow := setRow_heap w g arr (arr.toList.take (o + off) ++ y.cells.toList ++ arr.toList.drop (o + off + y.cells.toList.length)).toArray ty (0, 0) hhg
        obtain ⟨q', hq', hk⟩ := hh.blk l b hb hlive
        rw [hp] at hq'
        cases hq'
        refine ⟨p, hp, ?_⟩
        rw [k1]
        unfold PBlk.mem at hmem
        split at hk
        · rename_i hkk
          refine ⟨g, o, _, ty, (0, 0), ha, hrow, ?_, hO⟩
          rw [k6]; exact hput.mono (fun _ h => h) hI (fun _ _ h => h)
        · rename_i hkk
          obtain ⟨g', arr', fr', ha', hh', _, _, h1, h2, h3, h4, h5⟩ := hk
          rw [ha] at ha'; cases ha'
          rw [hhg] at hh'; cases hh'
          refine ⟨g, _, (0, 0), ha, by rw [k2]; exact hrow, ?_, hO, by rw [k6, k3, hlc]; exact h1, h2, h3, by rw [k3, hsa]; exact h4, by rw [k3]; exact h5⟩
          rw [k6]; exact hput.mono (fun _ h => h) hI (fun _ _ h => h)
        · rename_i hkk
          rw [hkk] at hmem; simp at hmem)
      refine ⟨_, hrun hhg hsz, OpPost.mk' hR h hH hE (fun _ _ h => h) (by simp) (fun _ _ => rfl) ?_⟩
      simp only [PV.Is]; exact ⟨#[], rfl, by simp only [IsL]⟩
    · rename_i l i m off
      replace h := need_ok h
      obtain ⟨b, hb, h⟩ := h
      split at h
      · rename_i hk
        replace h := bif_ok h
        obtain ⟨hbc, hi, h⟩ := h
        simp only [Bool.and_eq_true] at hbc
        obtain ⟨⟨⟨⟨hcan, hbn⟩, hmn⟩, hoff⟩, hel⟩ := hbc
        obtain ⟨hlive, hm⟩ := can_ok hcan
        have hbn := Nat.eq_of_beq_eq_true hbn
        have hmn := Nat.eq_of_beq_eq_true hmn
        have hoff := Nat.eq_of_beq_eq_true hoff
        replace h := setB_ok h
        obtain ⟨hlt, h⟩ := h
        obtain ⟨p, g, o, hp, ha, rfl⟩ := hx
        obtain ⟨hsp, hlen, hle, hmx, hor⟩ := whole_dyn hh hb hlive hk hp
        rcases hor with ⟨ha', _⟩ | ⟨g', arr, fr, ha', _, hhg, hes, hown, has⟩
        · rw [ha] at ha'; cases ha'
        · rw [ha] at ha'
          cases ha'
          have hfr : fr = (0, 0) := (hown.1 (by rw [hm]; decide)).1
          subst hfr
          have hin : i * n + n ≤ p.cap * n := by rw [← Nat.succ_mul]; exact Nat.mul_le_mul_right _ (by omega)
          have hsz : 0 + (i * m + off) + y.cells.toList.length ≤ arr.size := by simp only [Array.length_toList]; rw [has, hbn, hmn, hoff]; omega
          obtain ⟨k1, k2, k3, k4, k5, k6⟩ := withCs_k b (b.cs.set i v)
          obtain ⟨_, hcells⟩ := elem_ok hel hv
          have hsa : ((arr.toList.take (0 + (i * m + off)) ++ y.cells.toList ++ arr.toList.drop (0 + (i * m + off) + y.cells.toList.length)).toArray).size = arr.size := by
            simp only [List.size_toArray, List.length_append, List.length_take, List.length_drop, Array.length_toList]
            simp only [Array.length_toList] at hsz
            omega
          obtain ⟨hH, hE⟩ := hh.write (b' := b.withCs (b.cs.set i v)) hb hlive hm hp ha hhg (by rw [k5]; exact hlive) (by rw [k4]; exact hm) (arr' := (arr.toList.take (0 + (i * m + off)) ++ y.cells.toList ++ arr.toList.drop (0 + (i * m + off) + y.cells.toList.length)).toArray) (fun hI hO => by
            have hrow := setRow_heap w g arr (arr.toList.take (0 + (i * m + off)) ++ y.cells.toList ++ arr.toList.drop (0 + (i * m + off) + y.cells.toList.length)).toArray b.ty (0, 0) hhg
            refine ⟨p, hp, ?_⟩
            rw [k1, hk]
            refine ⟨⟨by rw [k3]; exact hsp, by rw [k6, List.length_set]; exact hlen, hle, hmx⟩, .inr ⟨g, _, (0, 0), ha, by rw [k2]; exact hrow, ?_, hO, by rw [hsa, k3]; exact has⟩⟩
            rw [k6, k3]
            have h1' : (arr.toList.take (0 + (i * m + off))).length = 0 + (i * m + off) := by rw [List.length_take]; simp only [Array.length_toList] at hsz ⊢; omega
            refine IsEs.of fun j e he => ?_
            by_cases hj : j = i
            · subst hj
              rw [List.getElem?_set_self hi] at he
              cases he
              refine ⟨by rw [hvn, hbn], IsAt.of fun j2 c hc2 => ?_⟩
              obtain ⟨z, hz, hzi, hz1⟩ := hcells j2 c hc2
              have hlt2 := (List.getElem?_eq_some_iff.1 hz).1
              refine ⟨z, ?_, PV.Is.mono (fun _ h => h) hI c _ _ z (fun _ _ _ h => h) hzi, hz1⟩
              rw [Ev.cells_of hrow]
              simp only [List.getElem?_toArray]
              rw [List.getElem?_append_left (by rw [List.length_append, h1']; rw [hbn, hmn, hoff]; omega), List.getElem?_append_right (by rw [h1', hbn, hmn, hoff]; omega), h1', show 0 + j * b.size + j2 - (0 + (j * m + off)) = j2 by rw [hbn, hmn, hoff]; omega]
              exact hz
            · rw [List.getElem?_set_ne (fun e => hj e.symm)] at he
              obtain ⟨hel1, hel2⟩ := hes.get he
              refine ⟨hel1, IsAt.of fun j2 c hc2 => ?_⟩
              obtain ⟨z, hz, hzi, hz1⟩ := hel2.get hc2
              refine ⟨z, ?_, PV.Is.mono (fun _ h => h) hI c _ _ z (fun _ _ _ h => h) hzi, hz1⟩
              rw [Ev.cells_of hrow]
              rw [Ev.cells_of hhg] at hz
              simp only [List.getElem?_toArray]
              have hj2 : j2 < n := by have := (List.getElem?_eq_some_iff.1 hc2).1; omega
              rcases Nat.lt_or_ge j i with hji | hji
              · have : j * n + n ≤ i * n := by rw [← Nat.succ_mul]; exact Nat.mul_le_mul_right _ (by omega)
                rw [List.append_assoc, List.getElem?_append_left (by rw [h1', hbn, hmn, hoff]; omega), List.getElem?_take, if_pos (by rw [hbn, hmn, hoff]; omega)]
                simpa using hz
              · have : i * n + n ≤ j * n := by rw [← Nat.succ_mul]; exact Nat.mul_le_mul_right _ (by omega)
                have h2 : (arr.toList.take (0 + (i * m + off)) ++ y.cells.toList).length = 0 + (i * m + off) + y.cells.toList.length := by rw [List.length_append, h1']
                have hyl' : y.cells.toList.length = n := by simp only [Array.length_toList]; omega
                rw [List.getElem?_append_right (by rw [h2, hyl', hbn, hmn, hoff]; omega), h2, List.getElem?_drop, show 0 + (i * m + off) + y.cells.toList.length + (0 + j * b.size + j2 - (0 + (i * m + off) + y.cells.toList.length)) = 0 + j * b.size + j2 by rw [hyl', hbn, hmn, hoff]; omega]
                simpa using hz)
          refine ⟨_, hrun hhg hsz, OpPost.mk' hR h hH hE (fun _ _ h => h) (by simp) (fun _ _ => rfl) ?_⟩
          simp only [PV.Is]; exact ⟨#[], rfl, by simp only [IsL]⟩
      · exact h.elim
    · exact h.elim

/-! ### new blocks -/
theorem CellsAt.new {cs : List PV} {vs : Array Value} (h : IsL w I cs β vs.toList) (h1 : ∀ c ∈ cs, c.cell1 = true) : CellsAt w I β cs vs 0 := fun i c hc => by
  obtain ⟨v, hv, hi⟩ := h.get hc
  exact ⟨v, by simpa using hv, hi, flat_one (hi.flat (h1 c (List.mem_of_getElem? hc)))⟩
theorem alloc_keeps (hh : HeapOk I β st w) (hI : ∀ g, I g → g < w.heap.size) (o : Obj) : ∀ g, Lives β st g ∨ I g → (w.alloc o).heap[g]? = w.heap[g]? := fun g hg => Ev.heap_old w o g (hg.elim hh.lives_lt (hI g))
theorem alloc_new (hh : HeapOk I β st w) (hI : ∀ g, I g → g < w.heap.size) {vs : Array Value} {t : TypeId} {b : PBlk} {p : Plc} (hp : p.a = some (w.heap.size, 0))
    (hb : Own I (β.set st.length p) (st ++ [b]) st.length w.heap.size (0, 0) b → BlkOk I (β.set st.length p) (st ++ [b]) (w.alloc (.cells vs t)) st.length b) (hm : b.m = .w) :
    HeapOk I (β.set st.length p) (st ++ [b]) (w.alloc (.cells vs t)) ∧ Ext I β st w I (β.set st.length p) (st ++ [b]) (w.alloc (.cells vs t)) := by
  have hfresh : ∀ g o, p.a = some (g, o) → ¬ I g ∧ ¬ Lives β st g := fun g o ha => by
    rw [hp] at ha; cases ha
    exact ⟨fun h => by have := hI _ h; omega, fun h => by have := hh.lives_lt h; omega⟩
  refine ⟨hh.add (alloc_keeps hh hI _) hfresh (hb ⟨fun _ => ⟨rfl, (hfresh _ _ hp).1, fun l' b' hne hl' hlive' p' g' o' hp' ha' e => ?_⟩, fun hr => by rw [hm] at hr; cases hr⟩), Ext.add (w' := w.alloc (.cells vs t)) hh rfl rfl rfl (by simp) (fun g hg _ => Ev.heap_old w _ g hg) fun g o ha hlt => by rw [hp] at ha; cases ha; omega⟩
  subst e
  unfold Places.set at hp'
  rw [if_neg hne] at hp'
  have := hh.lt hp'
  rw [List.getElem?_append_left this] at hl'
  exact (hfresh _ _ hp).2 ⟨l', b', p', o', hl', hlive', hp', ha'⟩
theorem pnew_ok (hR : Rel G I β s a w) {t t' : TypeId} {cs : List PV} {vs : Array Value} {q : PV → PSt → Prop} (h : pnew s ⟨.loc, t, 1, .w, true, cs⟩ q) (hc : IsL w I cs β vs.toList) (h1 : ∀ c ∈ cs, c.cell1 = true) : OpPost G s I β w a q (.pointer (some ⟨w.heap.size, 0, none⟩)) (w.alloc (.cells vs t')) := by
  replace h := addB_ok (lenK_ok h)
  rw [Nat.zero_add] at h
  have hset := Places.set_mono hR.heap ⟨some (w.heap.size, 0), 0, 0⟩
  obtain ⟨hH, hE⟩ := alloc_new (vs := vs) (t := t') hR.heap hR.imm.imm (b := ⟨.loc, t, 1, .w, true, cs⟩) (p := ⟨some (w.heap.size, 0), 0, 0⟩) rfl (fun ho =>
    ⟨_, Places.set_self .., w.heap.size, 0, vs, t', (0, 0), rfl, Ev.heap_new w _, (CellsAt.new hc h1).mono (fun _ h => h) (fun g hg => alloc_keeps hR.heap hR.imm.imm _ g (.inr hg)) hset, ho⟩) rfl
  refine OpPost.mk' hR h hH hE hset (by simp) (fun l hl => if_neg (by omega)) ?_
  simp only [PV.Is]; exact ⟨_, w.heap.size, 0, Places.set_self .., rfl, rfl⟩
theorem pnewS_ok (hR : Rel G I β s a w) {t : TypeId} {len n : Nat} {cs : List PV} {vs : Array Value} {q : PV → PSt → Prop} (h : pnewS s ⟨.arr, t, n, .w, true, cs⟩ q) (hc : IsL w I cs β vs.toList) (h1 : ∀ c ∈ cs, c.cell1 = true) (hl : cs.length = len * n) (hn : 0 < n) (hm : len ≤ maxLen) : OpPost G s I β w a q (.slice (some ⟨w.heap.size, 0, none⟩) len len) (w.alloc (.cells vs t)) := by
  replace h := addB_ok (lenK_ok h)
  rw [Nat.zero_add] at h
  have hset := Places.set_mono hR.heap ⟨some (w.heap.size, 0), len, len⟩
  have hvl := hc.length
  simp only [Array.length_toList] at hvl
  obtain ⟨hH, hE⟩ := alloc_new (vs := vs) (t := t) hR.heap hR.imm.imm (b := ⟨.arr, t, n, .w, true, cs⟩) (p := ⟨some (w.heap.size, 0), len, len⟩) rfl (fun ho =>
    ⟨_, Places.set_self .., w.heap.size, vs, (0, 0), rfl, Ev.heap_new w _, (CellsAt.new hc h1).mono (fun _ h => h) (fun g hg => alloc_keeps hR.heap hR.imm.imm _ g (.inr hg)) hset, ho, hl, Nat.le_refl _, hm, by rw [← hvl]; exact hl, hn⟩) rfl
  refine OpPost.mk' hR h hH hE hset (by simp) (fun l hl => if_neg (by omega)) ?_
  simp only [PV.Is]; exact ⟨_, Places.set_self .., rfl⟩
end

end Go.Proofs.YtnjmfedleimlmaaDoor.Pw

/- Append, as the evaluator says. -/
namespace Go.Proofs.YtnjmfedleimlmaaDoor.Pw
open Go Go.RowKit

section
variable {w w' : World} {I I' : Nat → Prop} {β β' : Places} {cx : Ev.Cx} {G : Gx} {P : Program} {s : PSt} {a : Act} {st st' : List PBlk}

/-- elements, one behind the other, as values -/
def RowIs (w : World) (I : Nat → Prop) (es : List PV) (n : Nat) (xs : List Value) : Prop :=
  xs.length = es.length * n ∧ ∀ i e, es[i]? = some e → e.cells.length = n ∧ ∀ j c, e.cells[j]? = some c → ∃ v, xs[i * n + j]? = some v ∧ c.Is w I (fun _ => none) v ∧ v.oneCell' = true
def CellsIs (w : World) (I : Nat → Prop) (β : Places) (cs : List PV) (xs : List Value) : Prop := xs.length = cs.length ∧ ∀ (j : Nat) (c : PV), cs[j]? = some c → ∃ v : Value, xs[j]? = some v ∧ c.Is w I β v ∧ v.oneCell' = true
def SrcIs (w : World) (I : Nat → Prop) (β : Places) (n : Nat) : Src → List Value → Prop
  | .stat cs, xs => CellsIs w I β cs xs
  | .told es, xs => RowIs w I es n xs
theorem RowIs.append {es fs : List PV} {n : Nat} {xs ys : List Value} (h : RowIs w I es n xs) (k : RowIs w I fs n ys) : RowIs w I (es ++ fs) n (xs ++ ys) := by
  refine ⟨by rw [List.length_append, List.length_append, h.1, k.1, Nat.add_mul], fun i e he => ?_⟩
  by_cases hi : i < es.length
  · rw [List.getElem?_append_left hi] at he
    obtain ⟨h1, h2⟩ := h.2 i e he
    refine ⟨h1, fun j c hc => ?_⟩
    obtain ⟨v, hv, h3⟩ := h2 j c hc
    have := (List.getElem?_eq_some_iff.1 hv).1
    exact ⟨v, by rw [List.getElem?_append_left this]; exact hv, h3⟩
  · rw [List.getElem?_append_right (by omega)] at he
    obtain ⟨h1, h2⟩ := k.2 _ e he
    refine ⟨h1, fun j c hc => ?_⟩
    obtain ⟨v, hv, h3⟩ := h2 j c hc
    have e1 : es.length * n ≤ i * n := Nat.mul_le_mul_right _ (by omega)
    refine ⟨v, ?_, h3⟩
    rw [List.getElem?_append_right (by rw [h.1]; omega), h.1, show i * n + j - es.length * n = (i - es.length) * n + j by rw [Nat.sub_mul]; omega]
    exact hv
theorem CellsIs.append {cs ds : List PV} {xs ys : List Value} (h : CellsIs w I β cs xs) (k : CellsIs w I β ds ys) : CellsIs w I β (cs ++ ds) (xs ++ ys) := by
  refine ⟨by rw [List.length_append, List.length_append, h.1, k.1], fun j c hc => ?_⟩
  by_cases hj : j < cs.length
  · rw [List.getElem?_append_left hj] at hc
    rw [List.getElem?_append_left (by rw [h.1]; exact hj)]
    exact h.2 j c hc
  · rw [List.getElem?_append_right (by omega)] at hc
    rw [List.getElem?_append_right (by rw [h.1]; omega), h.1]
    exact k.2 _ c hc
theorem RowIs.mono {es : List PV} {n : Nat} {xs : List Value} (hI : ∀ g, I g → I' g) (hw : ∀ g, I g → w'.heap[g]? = w.heap[g]?) (h : RowIs w I es n xs) : RowIs w' I' es n xs :=
  ⟨h.1, fun i e he => ⟨(h.2 i e he).1, fun j c hc => let ⟨v, h1, h2, h3⟩ := (h.2 i e he).2 j c hc; ⟨v, h1, PV.Is.mono hI hw c _ _ v (fun _ _ _ h => h) h2, h3⟩⟩⟩
theorem CellsIs.mono {cs : List PV} {xs : List Value} (hI : ∀ g, I g → I' g) (hw : ∀ g, I g → w'.heap[g]? = w.heap[g]?) (hb : ∀ l p, β l = some p → β' l = some p) (h : CellsIs w I β cs xs) : CellsIs w' I' β' cs xs :=
  ⟨h.1, fun j c hc => let ⟨v, h1, h2, h3⟩ := h.2 j c hc; ⟨v, h1, PV.Is.mono hI hw c _ _ v (fun l p _ => hb l p) h2, h3⟩⟩
/-- elements that lie somewhere, as values -/
theorem IsEs.row : ∀ {es : List PV} {n g o : Nat}, IsEs w I es n g o → ∃ xs, RowIs w I es n xs ∧ ∀ j v, xs[j]? = some v → w.cell? ⟨g, o + j, none⟩ = some v
  | [], n, g, o, _ => ⟨[], ⟨by simp, fun i e he => by simp at he⟩, fun j v h => by simp at h⟩
  | e :: es, n, g, o, h => by
    rw [IsEs.cons] at h
    obtain ⟨⟨hl, hc⟩, h⟩ := h
    obtain ⟨xs, hx, hy⟩ := IsEs.row h
    have key : ∀ (cs : List PV) (o : Nat), IsAt w I cs g o → ∃ ys : List Value, ys.length = cs.length ∧ (∀ (j : Nat) (c : PV), cs[j]? = some c → ∃ v : Value, ys[j]? = some v ∧ c.Is w I (fun _ => none) v ∧ v.oneCell' = true) ∧ ∀ (j : Nat) (v : Value), ys[j]? = some v → w.cell? ⟨g, o + j, none⟩ = some v := by
      intro cs
      induction cs with
      | nil => intro o _; exact ⟨[], rfl, fun j c h => by simp at h, fun j v h => by simp at h⟩
      | cons c cs ih =>
        intro o h
        simp only [IsAt] at h
        obtain ⟨⟨v, h1, h2⟩, h3⟩ := h
        obtain ⟨ys, g1, g2, g3⟩ := ih (o + 1) h3
        refine ⟨v :: ys, by simp [g1], fun j c' hc' => ?_, fun j u hu => ?_⟩
        · cases j with
          | zero => simp at hc'; subst hc'; exact ⟨v, rfl, h2⟩
          | succ j => simpa using g2 j c' (by simpa using hc')
        · cases j with
          | zero => simp at hu; subst hu; exact h1
          | succ j => rw [show o + (j + 1) = o + 1 + j by omega]; exact g3 j u (by simpa using hu)
    obtain ⟨ys, g1, g2, g3⟩ := key e.cells o hc
    have hyl : ys.length = n := by omega
    refine ⟨ys ++ xs, ?_, fun j v hv => ?_⟩
    · refine ⟨by rw [List.length_append, hx.1, List.length_cons, hyl, Nat.succ_mul]; omega, fun i e' he' => ?_⟩
      cases i with
      | zero =>
        simp at he'; subst he'
        refine ⟨hl, fun j c hj => ?_⟩
        obtain ⟨v, hv, h2⟩ := g2 j c hj
        have := (List.getElem?_eq_some_iff.1 hv).1
        exact ⟨v, by rw [Nat.zero_mul, Nat.zero_add, List.getElem?_append_left this]; exact hv, h2⟩
      | succ i =>
        obtain ⟨h1, h2⟩ := hx.2 i e' (by simpa using he')
        refine ⟨h1, fun j c hj => ?_⟩
        obtain ⟨v, hv, h3⟩ := h2 j c hj
        refine ⟨v, ?_, h3⟩
        rw [Nat.succ_mul, List.getElem?_append_right (by omega), show i * n + n + j - ys.length = i * n + j by omega]
        exact hv
    · by_cases hj : j < ys.length
      · rw [List.getElem?_append_left hj] at hv; exact g3 j v hv
      · rw [List.getElem?_append_right (by omega)] at hv
        have := hy _ v hv
        rw [show o + n + (j - ys.length) = o + j by omega] at this
        exact this
theorem RowIs.at {es : List PV} {n g : Nat} {xs : List Value} (h : RowIs w I es n xs) (hc : ∀ j v, xs[j]? = some v → w'.cell? ⟨g, j, none⟩ = some v) (hI : ∀ g, I g → I' g) (hw : ∀ g, I g → w'.heap[g]? = w.heap[g]?) : IsEs w' I' es n g 0 := IsEs.of fun i e he => by
  obtain ⟨h1, h2⟩ := h.2 i e he
  refine ⟨h1, IsAt.of fun j c hj => ?_⟩
  obtain ⟨v, hv, h3, h4⟩ := h2 j c hj
  exact ⟨v, by rw [Nat.zero_add]; exact hc _ v hv, PV.Is.mono hI hw c _ _ v (fun _ _ _ h => h) h3, h4⟩
theorem RowIs.ones {es : List PV} {n : Nat} {xs : List Value} (h : RowIs w I es n xs) : ∀ v ∈ xs, v.oneCell' = true := by
  intro v hv
  obtain ⟨k, hk, rfl⟩ := List.getElem_of_mem hv
  have hk' : k < es.length * n := by rw [← h.1]; exact hk
  have hn : 0 < n := by
    rcases Nat.eq_zero_or_pos n with h0 | h0
    · rw [h0] at hk'; omega
    · exact h0
  have hi : k / n < es.length := Nat.div_lt_of_lt_mul (by rw [Nat.mul_comm]; exact hk')
  obtain ⟨h1, h2⟩ := h.2 _ _ (List.getElem?_eq_getElem hi)
  have hm : k % n < n := Nat.mod_lt _ hn
  obtain ⟨u, hu, _, h3⟩ := h2 (k % n) _ (List.getElem?_eq_getElem (by omega))
  rw [show k / n * n + k % n = k by rw [Nat.mul_comm]; exact Nat.div_add_mod k n, List.getElem?_eq_getElem hk] at hu
  cases hu; exact h3
theorem CellsIs.ones {cs : List PV} {xs : List Value} (h : CellsIs w I β cs xs) : ∀ v ∈ xs, v.oneCell' = true := by
  intro v hv
  obtain ⟨k, hk, rfl⟩ := List.getElem_of_mem hv
  have hk' : k < cs.length := by rw [← h.1]; exact hk
  obtain ⟨u, hu, _, h3⟩ := h.2 _ _ (List.getElem?_eq_getElem hk')
  rw [List.getElem?_eq_getElem hk] at hu
  cases hu; exact h3
theorem SrcIs.ones {n : Nat} {x : Src} {xs : List Value} (h : SrcIs w I β n x xs) : ∀ v ∈ xs, v.oneCell' = true := by
  cases x with
  | stat cs => exact CellsIs.ones h
  | told es => exact RowIs.ones h
theorem chunk_ok {ag : Bool} {n : Nat} (hn : 0 < n) (hag : ag = true ∨ n = 1) : ∀ (k : Nat) {cs : List PV} {xs : List Value}, cs.length = k * n → CellsIs w I β cs xs → (chunk ag n k cs).all PV.elem = true → (chunk ag n k cs).length = k ∧ RowIs w I (chunk ag n k cs) n xs
  | 0, cs, xs, hl, h, _ => by
    have : xs = [] := List.eq_nil_of_length_eq_zero (by rw [h.1, hl, Nat.zero_mul])
    subst this
    exact ⟨rfl, by simp [chunk], fun i e he => by simp [chunk] at he⟩
  | k + 1, cs, xs, hl, h, hall => by
    simp only [chunk, List.all_cons, Bool.and_eq_true] at hall
    obtain ⟨he, hall⟩ := hall
    have hlk : (cs.drop n).length = k * n := by rw [List.length_drop, hl, Nat.succ_mul]; omega
    have hdrop : CellsIs w I β (cs.drop n) (xs.drop n) := ⟨by rw [List.length_drop, List.length_drop, h.1], fun j c hc => by
      rw [List.getElem?_drop] at hc ⊢; exact h.2 _ c hc⟩
    obtain ⟨ih1, ih2⟩ := chunk_ok hn hag k hlk hdrop hall
    have hcn : n ≤ cs.length := by rw [hl, Nat.succ_mul]; omega
    have nr : ∀ {c : PV} {y : Value}, c.noRef = true → c.Is w I β y → c.Is w I (fun _ => none) y := fun {c y} hc hi => by
      refine PV.Is.mono (fun _ h => h) (fun _ _ => rfl) _ β _ _ (fun l p hl => ?_) hi
      cases c <;> simp_all [PV.uses, PV.noRef]
    refine ⟨by simp [chunk, ih1], by rw [h.1, hl]; simp only [chunk, List.length_cons, ih1], fun i e hi => ?_⟩
    cases i with
    | zero =>
      simp only [chunk, List.getElem?_cons_zero, Option.some.injEq] at hi
      subst hi
      cases ag with
      | true =>
        simp only [if_true, PV.elem, List.all_eq_true] at he
        simp only [if_true, PV.cells]
        refine ⟨by rw [List.length_take]; omega, fun j c hj => ?_⟩
        rw [List.getElem?_take] at hj
        split at hj
        · obtain ⟨v, hv, h2, h3⟩ := h.2 j c hj
          refine ⟨v, by rw [Nat.zero_mul, Nat.zero_add]; exact hv, nr (he c ?_) h2, h3⟩
          refine List.mem_of_getElem? (i := j) ?_
          rw [List.getElem?_take, if_pos ‹_›]; exact hj
        · cases hj
      | false =>
        have hn1 : n = 1 := by simpa using hag
        subst hn1
        cases cs with
        | nil => simp at hcn
        | cons c cs =>
          simp only [Bool.false_eq_true, if_false] at he ⊢
          obtain ⟨v, hv, h2, h3⟩ := h.2 0 c rfl
          have hc1 : c.cells = [c] := by
            cases c <;> first | rfl | (simp only [PV.Is] at h2; obtain ⟨vs, rfl, _⟩ := h2; simp [Value.oneCell'] at h3)
          rw [hc1]
          refine ⟨rfl, fun j c' hj => ?_⟩
          cases j with
          | zero =>
            simp at hj; subst hj
            refine ⟨v, by simpa using hv, nr ?_ h2, h3⟩
            cases c <;> first | exact he | (exfalso; simp only [PV.Is] at h2; obtain ⟨vs, rfl, _⟩ := h2; simp [Value.oneCell'] at h3)
          | succ j => simp at hj
    | succ i =>
      simp only [chunk, List.getElem?_cons_succ] at hi
      obtain ⟨h1, h2⟩ := ih2.2 i e hi
      refine ⟨h1, fun j c hj => ?_⟩
      obtain ⟨v, hv, h3⟩ := h2 j c hj
      refine ⟨v, ?_, h3⟩
      rw [List.getElem?_drop] at hv
      rw [Nat.succ_mul, show i * n + n + j = n + (i * n + j) by omega]
      exact hv

theorem elemsOf_ok {ag : Bool} {n : Nat} (hn : 0 < n) (hag : ag = true ∨ n = 1) {x : Src} {es : List PV} {xs : List Value} {len : Nat} (h : elemsOf ag n x = some es) (hx : SrcIs w I β n x xs) (hl : xs.length = len * n) : es.length = len ∧ RowIs w I es n xs := by
  have hc : ∀ {a b : Nat}, a * n = b * n → a = b := fun h => Nat.eq_of_mul_eq_mul_right hn h
  cases x with
  | told es' =>
    simp only [elemsOf, Option.some.injEq] at h
    subst h
    exact ⟨hc (by rw [← hx.1, hl]), hx⟩
  | stat cs =>
    simp only [elemsOf, lenO_eq, Nat.zero_add] at h
    split at h
    · rename_i hall
      cases h
      have hcl : cs.length = len * n := by rw [← hx.1, hl]
      have hd : cs.length / n = len := by rw [hcl]; exact Nat.mul_div_cancel _ hn
      rw [hd] at hall ⊢
      exact chunk_ok hn hag len hcl hx hall
    · cases h
theorem take_at {arr : Array Value} {g : Nat} {ty : TypeId} {fr : Nat × Nat} (hh : w.heap[g]? = some (.cells arr ty fr)) (o k : Nat) : ∀ (j : Nat) (v : Value), ((arr.toList.drop o).take k)[j]? = some v → w.cell? ⟨g, o + j, none⟩ = some v := fun j v hv => by
  rw [List.getElem?_take] at hv
  split at hv
  · rw [List.getElem?_drop] at hv
    rw [Ev.cells_of hh]; simpa using hv
  · cases hv
theorem srcK_ok (hO : Ev.CxOk cx) (hh : HeapOk I β st w) {n : Nat} (hn : 0 < n) {x : PV} {u : Value} {q : Src → Prop} (h : srcK cx st n x q) (hx : x.Is w I β u) :
    ∃ src ad len c news, q src ∧ u = .slice ad len c ∧ SrcIs w I β n src news ∧ news.length = len * n ∧ (len = 0 ∨ ∃ g o, ad = some ⟨g, o, none⟩) ∧ ∀ g o, ad = some ⟨g, o, none⟩ → ∀ j v, news[j]? = some v → w.cell? ⟨g, o + j, none⟩ = some v := by
  unfold srcK at h
  split at h <;> try simp only [PV.Is] at hx
  · exact ⟨_, none, 0, 0, [], h, hx, ⟨by simp, fun i e he => by simp at he⟩, by simp, .inl rfl, fun _ _ _ j v hv => by simp at hv⟩
  · rename_i m es
    replace h := bif_ok h
    obtain ⟨hm, h⟩ := h
    have hm := Nat.eq_of_beq_eq_true hm
    obtain ⟨ad, cap, rfl, _, _, h4, h5⟩ := hx
    by_cases h0 : es.length = 0
    · have : es = [] := List.eq_nil_of_length_eq_zero h0
      subst this
      exact ⟨_, ad, 0, cap, [], h, rfl, ⟨by simp, fun i e he => by simp at he⟩, by simp, .inl rfl, fun _ _ _ j v hv => by simp at hv⟩
    · obtain ⟨g, o, rfl, hg, _⟩ := h5 h0
      obtain ⟨xs, h6, h7⟩ := (h4 g o rfl).row
      rw [hm] at h6
      exact ⟨_, _, es.length, cap, xs, h, rfl, h6, h6.1, (.inr ⟨_, _, rfl⟩), fun g' o' e => by cases e; exact h7⟩
  · rename_i l off len
    replace h := need_ok h
    obtain ⟨b, hb, h⟩ := h
    replace h := bif_ok h
    obtain ⟨hc, h⟩ := h
    simp only [Bool.and_eq_true] at hc
    have hle := Nat.le_of_ble_eq_true hc.2
    obtain ⟨p, g, o, cap, hp, ha, rfl, _⟩ := hx
    obtain ⟨arr, ty, fr, hhg, hca, _⟩ := mem_cells hh hb hc.1 hp ha
    have hsz : 0 < len * n → o + off + len * n ≤ arr.size := fun h0 => by
      obtain ⟨z, hz, _⟩ := hca _ _ (List.getElem?_eq_getElem (show off + len * n - 1 < b.cs.length by omega))
      have := (Array.getElem?_eq_some_iff.1 hz).1
      omega
    have hnl : ((arr.toList.drop (o + off)).take (len * n)).length = len * n := by
      rw [List.length_take, List.length_drop, Array.length_toList]
      rcases Nat.eq_zero_or_pos (len * n) with h0 | h0
      · omega
      · have := hsz h0; omega
    refine ⟨_, _, len, cap, _, forceL_ok h, rfl, ⟨?_, fun j c hj => ?_⟩, hnl, (.inr ⟨_, _, rfl⟩), fun g' o' e => by cases e; exact take_at hhg _ _⟩
    · rw [hnl, List.length_take, List.length_drop]; omega
    · rw [List.getElem?_take] at hj
      split at hj
      · rename_i hj'
        rw [List.getElem?_drop] at hj
        obtain ⟨v, hv, h1, h2⟩ := hca _ _ hj
        exact ⟨v, by rw [List.getElem?_take, if_pos hj', List.getElem?_drop]; simpa [Nat.add_assoc] using hv, h1, h2⟩
      · cases hj
  · rename_i l
    replace h := need_ok h
    obtain ⟨b, hb, h⟩ := h
    replace h := bif_ok h
    obtain ⟨hc, h⟩ := h
    simp only [Bool.and_eq_true] at hc
    have hbn := Nat.eq_of_beq_eq_true hc.2
    obtain ⟨p, hp, rfl⟩ := hx
    split at h
    · rename_i hk
      obtain ⟨g, arr, fr, ha, hw, hhg, hca, _, hlen, hle, _, has, _⟩ := whole_arr hh hb hc.1 hk hp
      rw [hbn] at hlen has
      have hsz : p.len * n ≤ arr.size := by rw [has]; exact Nat.mul_le_mul_right _ hle
      refine ⟨_, _, p.len, p.cap, (arr.toList.drop 0).take (p.len * n), h, hw, ⟨?_, fun j c hj => ?_⟩, ?_, (.inr ⟨_, _, rfl⟩), fun g' o' e => by cases e; exact take_at hhg _ _⟩
      · rw [List.length_take, List.length_drop, Array.length_toList]; omega
      · obtain ⟨v, hv, h1, h2⟩ := hca _ _ hj
        have hj' : j < p.len * n := by rw [← hlen]; exact (List.getElem?_eq_some_iff.1 hj).1
        exact ⟨v, by rw [List.getElem?_take, if_pos hj', List.getElem?_drop]; simpa using hv, h1, h2⟩
      · rw [List.length_take, List.length_drop, Array.length_toList]; omega
    · rename_i hk
      obtain ⟨_, hlen, hle, _, hor⟩ := whole_dyn hh hb hc.1 hk hp
      rcases hor with ⟨_, hc0, hw⟩ | ⟨g, arr, fr, ha, hw, hhg, hes, _, has⟩
      · have hb0 : b.cs = [] := List.eq_nil_of_length_eq_zero (by omega)
        rw [hb0] at h
        exact ⟨_, none, 0, 0, [], h, hw, ⟨by simp, fun i e he => by simp at he⟩, by simp, .inl rfl, fun _ _ _ j v hv => by simp at hv⟩
      · obtain ⟨xs, h6, h7⟩ := hes.row
        rw [hbn] at h6
        exact ⟨_, _, p.len, p.cap, xs, h, hw, h6, by rw [h6.1, hlen], (.inr ⟨_, _, rfl⟩), fun g' o' e => by cases e; exact h7⟩
    · exact h.elim
  · exact h.elim
/-- a slice that may be appended to: the blocks without it -/
theorem killB_ok {l : Nat} {b : PBlk} {q : List PBlk → Prop} (hb : st[l]? = some b) (h : killB st l q) : ∃ b', b'.live = false ∧ q (st.set l b') := by
  replace h := need_ok h
  obtain ⟨b2, hb2, h⟩ := h
  cases b2
  exact ⟨_, rfl, (setB_ok h).2⟩
theorem destK_ok (hh : HeapOk I β st w) {n : Nat} (hn : 0 < n) {elem : TypeId} {x : PV} {v : Value} {q : Src → List PBlk → Prop} (h : destK st elem n x q) (hx : x.Is w I β v) :
    ∃ dst st' xs len, q dst st' ∧ w.ownsRow 0 elem n v len xs ∧ SrcIs w I β n dst xs ∧ xs.length = len * n ∧ HeapOk I β st' w ∧ st'.length = st.length ∧ Ext I β st w I β st' w ∧ (∀ g, v.ownBlock = some g → Wr β st g ∧ ¬ I g ∧ ¬ Lives β st' g) ∧ (v = .slice none 0 0 ∨ ∃ ad m c, v = .slice (some ad) m c) := by
  unfold destK at h
  split at h <;> try simp only [PV.Is] at hx
  · subst hx
    exact ⟨_, st, [], 0, h, World.ownsRow_nil _ _ _ _, ⟨by simp, fun j c hj => by simp at hj⟩, by simp, hh, rfl, Ext.refl, fun g e => by simp [Value.ownBlock] at e, .inl rfl⟩
  · rename_i l
    replace h := need_ok h
    obtain ⟨b, hb, h⟩ := h
    replace h := bif_ok h
    obtain ⟨hc, h⟩ := h
    simp only [Bool.and_eq_true] at hc
    obtain ⟨hlive, hm⟩ := can_ok hc.1.1
    have hbn := Nat.eq_of_beq_eq_true hc.1.2
    have hty := Nat.eq_of_beq_eq_true hc.2
    obtain ⟨p, hp, rfl⟩ := hx
    have dead : ∀ {g o : Nat} {b' : PBlk}, p.a = some (g, o) → b'.live = false → (Own I β st l g (0, 0) b ∨ ∃ fr, Own I β st l g fr b) → Wr β st g ∧ ¬ I g ∧ ¬ Lives β (st.set l b') g := by
      intro g o b' ha hb' ho
      have ho : ∃ fr, Own I β st l g fr b := ho.elim (fun h => ⟨_, h⟩) id
      obtain ⟨fr, ho⟩ := ho
      refine ⟨⟨l, b, p, o, hb, hlive, hm, hp, ha⟩, (ho.1 (by rw [hm]; decide)).2.1, fun ⟨l2, b2, p2, o2, h1, h2, h3, h4⟩ => ?_⟩
      by_cases hne : l2 = l
      · subst hne
        rw [List.getElem?_set_self (by simpa using (List.getElem?_eq_some_iff.1 h1).1)] at h1
        cases h1; rw [hb'] at h2; cases h2
      · rw [List.getElem?_set_ne (fun e => hne e.symm)] at h1
        exact (ho.1 (by rw [hm]; decide)).2.2 l2 b2 hne h1 h2 p2 g o2 h3 h4 rfl
    split at h
    · rename_i hk
      obtain ⟨b', hb', h⟩ := killB_ok hb h
      obtain ⟨g, arr, fr, ha, hw, hhg, hca, hown, hlen, hle, hmx, has, _⟩ := whole_arr hh hb hlive hk hp
      rw [hbn] at hlen has
      have hfr : fr = (0, 0) := (hown.1 (by rw [hm]; decide)).1
      subst hfr
      have hsz : p.len * n ≤ arr.size := by rw [has]; exact Nat.mul_le_mul_right _ hle
      have hxl : (arr.toList.take (p.len * n)).length = p.len * n := by rw [List.length_take, Array.length_toList]; omega
      refine ⟨_, _, arr.toList.take (p.len * n), p.len, h, ⟨hxl, .inr ⟨g, p.cap, arr, hw, Nat.zero_le _, by rw [← hty]; exact hhg, hle, hmx, has, rfl⟩⟩, ⟨by rw [hxl, hlen], fun j c hj => ?_⟩, hxl, hh.kill l hb', by simp, Ext.kill hb', fun g' e => ?_, .inr ⟨_, _, _, hw⟩⟩
      · obtain ⟨u, hu, h1, h2⟩ := hca _ _ hj
        have hj' : j < p.len * n := by rw [← hlen]; exact (List.getElem?_eq_some_iff.1 hj).1
        exact ⟨u, by rw [List.getElem?_take, if_pos hj']; simpa using hu, h1, h2⟩
      · rw [hw] at e
        simp only [Value.ownBlock, Option.some.injEq] at e
        subst e
        exact dead ha hb' (.inl hown)
    · rename_i hk
      obtain ⟨b', hb', h⟩ := killB_ok hb h
      obtain ⟨_, hlen, hle, hmx, hor⟩ := whole_dyn hh hb hlive hk hp
      rcases hor with ⟨_, hc0, hw⟩ | ⟨g, arr, fr, ha, hw, hhg, hes, hown, has⟩
      · have hb0 : b.cs = [] := List.eq_nil_of_length_eq_zero (by omega)
        rw [hb0] at h
        rw [hw]
        exact ⟨_, _, [], 0, h, World.ownsRow_nil _ _ _ _, ⟨by simp, fun i e he => by simp at he⟩, by simp, hh.kill l hb', by simp, Ext.kill hb', fun g e => by simp [Value.ownBlock] at e, .inl rfl⟩
      · rw [hbn] at hes has
        have hfr : fr = (0, 0) := (hown.1 (by rw [hm]; decide)).1
        subst hfr
        obtain ⟨xs, h6, h7⟩ := hes.row
        have hsz : p.len * n ≤ arr.size := by rw [has]; exact Nat.mul_le_mul_right _ hle
        have hxl : xs.length = p.len * n := by rw [h6.1, hlen]
        refine ⟨_, _, xs, p.len, h, ⟨hxl, .inr ⟨g, p.cap, arr, hw, Nat.zero_le _, by rw [← hty]; exact hhg, hle, hmx, has, ?_⟩⟩, h6, hxl, hh.kill l hb', by simp, Ext.kill hb', fun g' e => ?_, .inr ⟨_, _, _, hw⟩⟩
        · apply List.ext_getElem?
          intro j
          rw [List.getElem?_take]
          split
          · rename_i hj
            have hj2 : j < xs.length := by omega
            have := h7 j _ (List.getElem?_eq_getElem hj2)
            rw [Ev.cells_of hhg, Nat.zero_add] at this
            rw [List.getElem?_eq_getElem hj2]; simpa using this
          · rename_i hj
            rw [List.getElem?_eq_none (by omega)]
        · rw [hw] at e
          simp only [Value.ownBlock, Option.some.injEq] at e
          subst e
          exact dead ha hb' (.inl hown)
    · exact h.elim
  · exact h.elim
/-- nothing is appended -/
theorem run_append_none (t ty e : TypeId) (i : TypeInfo) (ht : P.underlying t = some (.slice e)) (hi : P.info? e = some i) (b : Option Addr) (n cap c : Nat) (hle : n ≤ cap) : (Builtin.append_ #[t, t] ty #[.slice b n cap, .slice none 0 c]).run P w = .ok (.slice b n cap) w := by
  cases b <;> simp [Builtin.append_, run_underlying ht, sizeOf, typeInfo, hi, Builtin.lenOf, Builtin.firstCells, hle, storeCells]
end

end Go.Proofs.YtnjmfedleimlmaaDoor.Pw

/- Append, calls, and every operation, as the evaluator says. -/
namespace Go.Proofs.YtnjmfedleimlmaaDoor.Pw
open Go Go.RowKit

section
variable {w w' : World} {I I' : Nat → Prop} {β β' : Places} {cx : Ev.Cx} {G : Gx} {P : Program} {s : PSt} {a : Act} {st st' : List PBlk}

theorem store_store (s : PSt) (x y : List PBlk) : (s.store x).store y = s.store y := by cases s; rfl
theorem Ext.add2 {st1 : List PBlk} (h : HeapOk I β st1 w) (hsub : ∀ g, Wr β st1 g → Wr β st g) (hos : w'.os = w.os) (htape : w'.tape = w.tape) (hout : w'.output = w.output) (hsz : w.heap.size ≤ w'.heap.size) {b : PBlk} {p : Plc} (hw : ∀ g, g < w.heap.size → ¬ Wr β st g → w'.heap[g]? = w.heap[g]?)
    (hp : ∀ g o, p.a = some (g, o) → g < w.heap.size → Wr β st g) : Ext I β st w I (β.set st1.length p) (st1 ++ [b]) w' :=
  ⟨hos, htape, hout, hsz, hw, fun g hg ⟨l, b', q, o, h1, h2, h3, h4, h5⟩ => by
    unfold Places.set at h4
    split at h4
    · cases h4
      exact hp g o h5 hg
    · have := h.lt h4
      rw [List.getElem?_append_left this] at h1
      exact hsub g ⟨l, b', q, o, h1, h2, h3, h4, h5⟩, fun _ h => h, fun _ _ h => .inl h⟩
/-- what append leaves: the new block is laid into the store -/
theorem append_new (hR : Rel G I β s a w) {st1 : List PBlk} (hk : HeapOk I β st1 w) (hsub : ∀ g, Wr β st1 g → Wr β s.st g) (hlen : st1.length = s.st.length) {v : Value} (hv : ∀ g, v.ownBlock = some g → Wr β s.st g ∧ ¬ I g ∧ ¬ Lives β st1 g)
    (hg : w.grownBy w' v.ownBlock) {b : PBlk} {p : Plc} {q : PV → PSt → Prop} (h : pnewS (s.store st1) b q) (hp : ∀ g o, p.a = some (g, o) → v.ownBlock = some g ∨ g = w.heap.size) (hm : b.m = .w)
    (hb : (∀ g, p.a = some (g, 0) → Own I (β.set st1.length p) (st1 ++ [b]) st1.length g (0, 0) b) → (∀ g, I g → w'.heap[g]? = w.heap[g]?) → BlkOk I (β.set st1.length p) (st1 ++ [b]) w' st1.length b) : OpPost G s I β w a q p.whole w' := by
  have hst : (s.store st1).st = st1 := (PSt.store_eq s st1).2.2.1
  unfold pnewS at h
  rw [hst] at h
  replace h := addB_ok (lenK_ok h)
  rw [Nat.zero_add, store_store] at h
  have hset := Places.set_mono hk p
  have hown : ∀ g, Lives β st1 g ∨ I g → w'.heap[g]? = w.heap[g]? := fun g hgl => by
    refine hg.block g (hgl.elim hk.lives_lt (hR.imm.imm g)) fun e => ?_
    obtain ⟨_, h1, h2⟩ := hv g e.symm
    exact hgl.elim h2 h1
  have hfresh : ∀ g o, p.a = some (g, o) → ¬ I g ∧ ¬ Lives β st1 g := fun g o ha => by
    rcases hp g o ha with e | e
    · exact (hv g e).2
    · subst e
      exact ⟨fun h => by have := hR.imm.imm _ h; omega, fun h => by have := hk.lives_lt h; omega⟩
  have hO : ∀ g, p.a = some (g, 0) → Own I (β.set st1.length p) (st1 ++ [b]) st1.length g (0, 0) b := fun g ha => by
    refine ⟨fun _ => ⟨rfl, (hfresh g 0 ha).1, fun l' b' hne hl' hlive' p' g' o' hp' ha' e => ?_⟩, fun hr => by rw [hm] at hr; cases hr⟩
    subst e
    unfold Places.set at hp'
    rw [if_neg hne] at hp'
    have := hk.lt hp'
    rw [List.getElem?_append_left this] at hl'
    exact (hfresh _ _ ha).2 ⟨l', b', p', o', hl', hlive', hp', ha'⟩
  have hH := hk.add hown hfresh (hb hO fun g hg => hown g (.inr hg))
  have hE : Ext I β s.st w I (β.set st1.length p) (st1 ++ [b]) w' := Ext.add2 hk hsub hg.os hg.tape hg.output hg.size (fun g hlt hn => hg.block g hlt fun e => hn (hv g e.symm).1) fun g o ha hlt => by
    rcases hp g o ha with e | e
    · exact (hv g e).1
    · omega
  refine OpPost.mk' hR h hH hE hset (by simp; omega) (fun l hl => if_neg (by omega)) ?_
  simp only [PV.Is]; exact ⟨_, Places.set_self .., rfl⟩
theorem pappend_ok (hG : GOk G) (hR : Rel G I β s a w) {t ty : TypeId} {d x : PV} {u v : Value} {q : PV → PSt → Prop} (h : pappend G s t d x q) (hd : d.Is w I β v) (hx : x.Is w I β u) :
    ∃ r w', (Builtin.append_ #[t, t] ty #[v, u]).run G.cx.P w = .ok r w' ∧ OpPost G s I β w a q r w' := by
  replace h := need_ok h
  obtain ⟨td, hu, h⟩ := h
  split at h
  · rename_i elem
    replace h := need_ok h
    obtain ⟨n, hn, h⟩ := h
    replace h := need_ok h
    obtain ⟨ag, hag, h⟩ := h
    replace h := need_ok h
    obtain ⟨by_, hby, h⟩ := h
    replace h := zerosO_ok (w := w) (I := I) (β := β) hG.ok h
    obtain ⟨z, i, zv, h, hi, hzv, hzz⟩ := h
    replace h := bif_ok h
    obtain ⟨hc, h⟩ := h
    simp only [Bool.and_eq_true, Bool.or_eq_true] at hc
    have hn0 : 0 < n := Nat.le_of_ble_eq_true hc.1.1
    have hzn : z.length = n := Nat.eq_of_beq_eq_true hc.1.2
    have hagn : ag = true ∨ n = 1 := hc.2.imp id Nat.eq_of_beq_eq_true
    obtain ⟨i1, hi1, hi2⟩ := Ev.size_inf hG.ok hn
    rw [hi] at hi1
    cases hi1
    obtain ⟨i3, hi3, hi4⟩ := hG.by_ _ (Ev.lkT_mem hby)
    simp only at hi3 hi4
    rw [hi] at hi3
    cases hi3
    have hzl := hzz.length
    simp only [Array.length_toList] at hzl
    replace h := srcK_ok hG.ok hR.heap hn0 h hx
    obtain ⟨src, ad, len, c, news, h, rfl, hsrc, hnl, had, hnews⟩ := h
    replace h := destK_ok hR.heap hn0 h hd
    obtain ⟨dst, st1, xs, dlen, h, hown, hdst, hxl, hk, hstl, hext, hv, hvf⟩ := h
    have hsub : ∀ g, Wr β st1 g → Wr β s.st g := fun g hw => by
      have := hext.wr g
      rcases Nat.lt_or_ge g w.heap.size with hlt | hge
      · exact this hlt hw
      · obtain ⟨l, b, p, o, h1, h2, h3, h4, h5⟩ := hw
        have := hk.lives_lt ⟨l, b, p, o, h1, h2, h4, h5⟩
        omega
    have hones := hsrc.ones
    -- the run
    have run : (dlen + len) ≤ maxLen → (dlen + len) * by_ ≤ 140737488355328 → ∃ r w', (Builtin.append_ #[t, t] ty #[v, .slice ad len c]).run G.cx.P w = .ok r w' ∧ w'.ownsRow 0 elem n r (dlen + len) (xs ++ news) ∧ w.grownBy w' v.ownBlock ∧ (r.ownBlock = v.ownBlock ∨ r.ownBlock = some w.heap.size) := by
      intro h1 h2
      cases ad with
      | none =>
        have hl0 : len = 0 := by rcases had with h | ⟨g, o, h⟩ <;> first | exact h | cases h
        subst hl0
        have hn0' : news = [] := List.eq_nil_of_length_eq_zero (by rw [hnl, Nat.zero_mul])
        subst hn0'
        have hvv : ∃ b m c', v = .slice b m c' ∧ m ≤ c' := by
          rcases hown.2 with ⟨rfl, _⟩ | ⟨g, cap, cur, rfl, _, _, hle, _⟩
          · exact ⟨_, _, _, rfl, Nat.le_refl _⟩
          · exact ⟨_, _, _, rfl, hle⟩
        obtain ⟨b, m, c', rfl, hle⟩ := hvv
        refine ⟨_, w, run_append_none t ty elem i (hG.ok.un hu) hi b m c' c hle, ?_, ⟨rfl, rfl, rfl, Nat.le_refl _, fun _ _ _ => rfl⟩, .inl rfl⟩
        rw [List.append_nil]; exact hown
      | some ad =>
        obtain ⟨r, w', hr, h3, h4, _, h5⟩ := run_append_own_at (P := G.cx.P) w 0 t ty elem i zv n by_ (hG.ok.un hu) hi hzv hi2 hi4 (by omega) hn0 v dlen xs hown ad len c news hnl (fun j u hj => by
          rcases had with h0 | ⟨g, o, e⟩
          · rw [h0, Nat.zero_mul] at hnl
            have := List.eq_nil_of_length_eq_zero hnl
            subst this; simp at hj
          · cases e
            rw [Ev.addr_add]; exact hnews g o rfl j u hj) hones h1 h2 (Nat.zero_le _)
        exact ⟨r, w', hr, h3, h4, h5⟩
    -- the end
    have fin_ : ∀ {r : Value} {w' : World} {b : PBlk}, w'.ownsRow 0 elem n r (dlen + len) (xs ++ news) → w.grownBy w' v.ownBlock → (r.ownBlock = v.ownBlock ∨ r.ownBlock = some w.heap.size) → pnewS (s.store st1) b q → b.m = .w →
        (∀ (p : Plc), ((p.a = none ∧ p.len = 0 ∧ p.cap = 0 ∧ dlen + len = 0) ∨ ∃ g cur, p.a = some (g, 0) ∧ p.len = dlen + len ∧ w'.heap[g]? = some (.cells cur elem (0, 0)) ∧ p.len ≤ p.cap ∧ p.cap ≤ maxLen ∧ cur.size = p.cap * n ∧ (∀ (j : Nat) (v : Value), (xs ++ news)[j]? = some v → cur[j]? = some v)) →
          (∀ g, p.a = some (g, 0) → Own I (β.set st1.length p) (st1 ++ [b]) st1.length g (0, 0) b) → (∀ g, I g → w'.heap[g]? = w.heap[g]?) → BlkOk I (β.set st1.length p) (st1 ++ [b]) w' st1.length b) → OpPost G s I β w a q r w' := by
      intro r w' b hown' hg hblk h hm hb
      rcases hown'.2 with ⟨rfl, h0⟩ | ⟨g, cap, cur, rfl, _, hg1, hle, hmx, hcs, htake⟩
      · have := append_new (p := ⟨none, 0, 0⟩) hR hk hsub hstl hv hg h (fun g o e => by cases e) hm (hb ⟨none, 0, 0⟩ (.inl ⟨rfl, rfl, rfl, h0⟩))
        exact this
      · have := append_new (p := ⟨some (g, 0), dlen + len, cap⟩) hR hk hsub hstl hv hg h (fun g' o e => by
          cases e
          simp only [Value.ownBlock] at hblk
          exact hblk.imp (fun e => e.symm) (fun e => by cases e; rfl)) hm (hb ⟨some (g, 0), dlen + len, cap⟩ (.inr ⟨g, cur, rfl, rfl, hg1, hle, hmx, hcs, fun j v hj => by
            rw [← htake, List.getElem?_take] at hj
            split at hj
            · simpa using hj
            · cases hj⟩))
        exact this
    have keep : ∀ {w' : World}, w.grownBy w' v.ownBlock → ∀ g, I g → w'.heap[g]? = w.heap[g]? := fun hg g hI => hg.block g (hR.imm.imm g hI) fun e => (hv g e.symm).2.1 hI
    have hlenE : (xs ++ news).length = (dlen + len) * n := by rw [List.length_append, hxl, hnl, Nat.add_mul]
    have told : (need (elemsOf ag n dst) fun es => need (elemsOf ag n src) fun fs => es.length + fs.length ≤ maxLen ∧ (es.length + fs.length) * by_ ≤ 140737488355328 ∧ pnewS (s.store st1) ⟨.dyn, elem, n, .w, true, es ++ fs⟩ q) → ∃ r w', (Builtin.append_ #[t, t] ty #[v, .slice ad len c]).run G.cx.P w = .ok r w' ∧ OpPost G s I β w a q r w' := by
      intro h
      replace h := need_ok h
      obtain ⟨es, hes, h⟩ := h
      replace h := need_ok h
      obtain ⟨fs, hfs, h⟩ := h
      obtain ⟨he1, he2⟩ := elemsOf_ok hn0 hagn hes hdst hxl
      obtain ⟨hf1, hf2⟩ := elemsOf_ok hn0 hagn hfs hsrc hnl
      obtain ⟨h1, h2, h⟩ := h
      rw [he1, hf1] at h1 h2
      obtain ⟨r, w', hr, hown', hg, hblk⟩ := run h1 h2
      refine ⟨r, w', hr, fin_ hown' hg hblk h rfl fun p hp hO hI => ⟨p, Places.set_self .., ?_⟩⟩
      rcases hp with ⟨ha, hl, hcp, h0⟩ | ⟨g, cur, ha, hl, hg1, hle, hmx, hcs, hcell⟩
      · exact ⟨⟨hn0, by simp only [List.length_append]; omega, by omega, by rw [hcp]; exact Nat.zero_le _⟩, .inl ⟨ha, hcp⟩⟩
      · refine ⟨⟨hn0, by simp only [List.length_append]; omega, hle, hmx⟩, .inr ⟨g, cur, (0, 0), ha, hg1, ?_, hO g ha, hcs⟩⟩
        exact (he2.append hf2).at (fun j v hj => by rw [Ev.cells_of hg1]; exact hcell j v hj) (fun _ h => h) hI
    split at h
    · rename_i cs ds
      rw [lenK_eq, lenK_eq, Nat.zero_add, Nat.zero_add] at h
      replace h := bif_ok h
      obtain ⟨hc2, h⟩ := h
      simp only [Bool.and_eq_true] at hc2
      obtain ⟨⟨⟨hd0, hd1⟩, hd2⟩, hd3⟩ := hc2
      have hd0 : 0 < ds.length := Nat.le_of_ble_eq_true hd0
      have hd2 := Nat.le_of_ble_eq_true hd2
      have hd3 := Nat.le_of_ble_eq_true hd3
      replace h := forceL_ok h
      have hcl : cs.length = dlen * n := by rw [← hdst.1, hxl]
      have hdl : ds.length = len * n := by rw [← hsrc.1, hnl]
      have e1 : dlen ≤ dlen * n := Nat.le_mul_of_pos_right _ hn0
      have e2 : len ≤ len * n := Nat.le_mul_of_pos_right _ hn0
      obtain ⟨r, w', hr, hown', hg, hblk⟩ := run (by omega) (Nat.le_trans (Nat.mul_le_mul_right _ (by omega)) hd2)
      have hlen0 : 0 < len := by
        rcases Nat.eq_zero_or_pos len with h0 | h0
        · rw [h0, Nat.zero_mul] at hdl; omega
        · exact h0
      refine ⟨r, w', hr, fin_ hown' hg hblk h rfl fun p hp hO hI => ⟨p, Places.set_self .., ?_⟩⟩
      rcases hp with ⟨ha, hl, hcp, h0⟩ | ⟨g, cur, ha, hl, hg1, hle, hmx, hcs, hcell⟩
      · omega
      · refine ⟨g, cur, (0, 0), ha, hg1, fun j c hj => ?_, hO g ha, by simp only [List.length_append]; rw [hl, Nat.add_mul]; omega, hle, hmx, hcs, hn0⟩
        obtain ⟨v', h1, h2, h3⟩ := (CellsIs.append hdst hsrc).2 j c hj
        exact ⟨v', by rw [Nat.zero_add]; exact hcell j v' h1, PV.Is.mono (fun _ h => h) hI c β _ v' (fun l p' _ hp' => Places.set_mono hk p l p' hp') h2, h3⟩
    · exact told h
  · exact h.elim

/-! ### calls -/
theorem argsK_ok (hR : Rel G I β s a w) : ∀ {os : List Operand} {q : List PV → Prop}, argsK s os q → ∃ l, q l ∧ IsL w I l β (os.map a.eval)
  | [], q, h => ⟨[], h, by simp only [List.map_nil, IsL]⟩
  | o :: os, q, h => by
    replace h := PSt.ev_ok hR h
    obtain ⟨x, h, hx⟩ := h
    obtain ⟨l, h, hl⟩ := argsK_ok hR h
    exact ⟨_, h, by simp only [List.map_cons, IsL]; exact ⟨hx, hl⟩⟩
theorem TM.clear_get {rl : List Nat} : ∀ {t : TM} {n : Nat} {x : PV}, (t.clear rl).get n = some x → t.get n = some x ∧ x.leads rl = false
  | .nil, n, x, h => by cases h
  | .node v l r, n, x, h => by
    simp only [TM.clear, TM.get] at h ⊢
    cases h0 : Nat.beq n 0 <;> rw [h0] at h
    · cases h1 : Nat.beq (n % 2) 1 <;> rw [h1] at h
      · exact TM.clear_get (t := r) h
      · exact TM.clear_get (t := l) h
    · cases v with
      | none => cases h
      | some y =>
        simp only [cond_true] at h ⊢
        split at h
        · cases h
        · cases h
          rename_i hl
          exact ⟨rfl, by simpa using hl⟩
theorem clearK_ok {rl : List Nat} {t : TM} {q : TM → Prop} (h : clearK rl t q) : ∃ t', q t' ∧ ∀ n x, t'.get n = some x → t.get n = some x ∧ ∀ l ∈ x.uses, l ∉ rl := by
  unfold clearK at h
  split at h
  · exact ⟨t, h, fun n x hx => ⟨hx, fun _ _ hl => by cases hl⟩⟩
  · refine ⟨_, h, fun n x hx => ?_⟩
    obtain ⟨h1, h2⟩ := TM.clear_get hx
    refine ⟨h1, fun l hl hr => ?_⟩
    unfold PV.leads at h2
    rw [List.any_eq_false] at h2
    refine h2 l hl (List.any_eq_true.2 ⟨l, hr, ?_⟩)
    exact Nat.beq_refl l
/-- a call: what the caller has then -/
theorem pcall_ok (hR : Rel G I β s a w) {f : FuncId} {args : List PV} {vals : List Value} {q : PV → PSt → Prop} (h : pcall G s f args q) (ha : IsL w I args β vals) :
    Ev.Enters G.cx.P f ∧ Calls G.cx.P f vals.toArray w fun e w' => ∃ v, e = .returned v ∧ OpPost G s I β w a q v w' := by
  obtain ⟨n, t, st, b, rl0⟩ := s
  obtain ⟨rl, hrl, hs⟩ := h
  unfold Spec at hs
  obtain ⟨he, hs⟩ := hs
  refine ⟨he, (hs I β w vals hR.heap hR.imm ha).mono fun e w' ⟨v, r, S', I', β', he, hk, hr, hH, hM, hE, hlen, hβ⟩ => ⟨v, he, ?_⟩⟩
  obtain ⟨t', hq, ht'⟩ := clearK_ok hk
  refine ⟨r, _, I', β', hq, ⟨hR.small, hR.defers, hR.size, Nat.le_trans hR.base hlen, fun m x hx => ?_, hH, hM⟩, hr, hE, rfl, rfl, rfl, fun l hl hn => ?_, fun l b' hb' hm => hβ l (List.getElem?_eq_some_iff.1 hb').1 fun hr => (hrl l hr).2 b' hb' hm⟩
  · obtain ⟨h1, h2⟩ := ht' m x hx
    obtain ⟨u, hu, hi⟩ := hR.get m x h1
    refine ⟨u, hu, PV.Is.mono hE.imm (hE.keeps hR.heap hR.imm.imm) x β β' u (fun l p hl hp => ?_) hi⟩
    rw [hβ l (hR.heap.lt hp) (h2 l hl)]; exact hp
  · have hl' : l < b := hl
    refine hβ l (Nat.lt_of_lt_of_le hl' hR.base) fun hr => ?_
    rcases (hrl l hr).1 with h | h
    · omega
    · exact hn h

set_option maxHeartbeats 1000000 in
theorem pop_ok (hG : GOk G) (hR : Rel G I β s a w) {o : Oper} {q : PV → PSt → Prop} (h : pop G s o q) : Ev.resE G.cx.P (OpPost G s I β w a q) ((execOp a.eval o).run G.cx.P w) := by
  have pureCase : ∀ {q' : PV → Prop}, ppure G.cx s o.op q' → (∀ v, q' v → q v s) → Ev.resE G.cx.P (OpPost G s I β w a q) ((execOp a.eval o).run G.cx.P w) := by
    intro q' h hq
    obtain ⟨x, r, hx, hi, hr⟩ := ppure_ok hG.ok hR h
    rw [hr w]
    exact OpPost.same hR (hq x hx) hi
  unfold pop at h
  split at h
  · -- load
    rename_i t ad hop
    replace h := PSt.ev_ok hR h
    obtain ⟨x, h, hx⟩ := h
    obtain ⟨z, v, g, h, hz, _, hrun⟩ := pload_ok hG.ok hR.heap hR.imm h hx
    replace hrun := hrun w rfl
    unfold execOp
    rw [hop]
    simp only [Sem.run_bind, hrun, Result.andThen_ok, Sem.run_pure]
    exact OpPost.same hR h hz
  · -- store
    rename_i t ad y hop
    replace h := PSt.ev_ok hR h
    obtain ⟨x, h, hx⟩ := h
    replace h := PSt.ev_ok hR h
    obtain ⟨v, h, hv⟩ := h
    obtain ⟨w', hrun, hp⟩ := pstore_ok hG hR h hx hv
    unfold execOp
    rw [hop]
    simp only [Sem.run_bind, hrun, Result.andThen_ok, Sem.run_pure]
    exact hp
  · -- alloc
    rename_i t hop
    replace h := zerosO_ok (w := w) (I := I) (β := β) hG.ok h
    obtain ⟨z, i, v, h, hi, hzv, hzz⟩ := h
    replace h := bif_ok (forceL_ok h)
    obtain ⟨hall, h⟩ := h
    rw [List.all_eq_true] at hall
    have hrun : (execOp a.eval o).run G.cx.P w = .ok (.value (.pointer (some ⟨w.heap.size, 0, none⟩))) (w.alloc (.cells v.cells t)) := by
      unfold execOp
      rw [hop]
      simp [Instr.alloc, zeroValue, typeInfo, hi, hzv, newVar, newRow]
    rw [hrun]
    exact pnew_ok hR h hzz hall
  · -- box
    rename_i t y hop
    replace h := PSt.ev_ok hR h
    obtain ⟨x, h, hx⟩ := h
    have hrun : (execOp a.eval o).run G.cx.P w = .ok (.value (.pointer (some ⟨w.heap.size, 0, none⟩))) (w.alloc (.cells (a.eval y).cells t)) := by
      unfold execOp
      rw [hop]
      simp [Instr.box, newVar, newRow]
    rw [hrun]
    split at h
    · exact h.elim
    · rename_i hnt
      replace h := bif_ok h
      obtain ⟨hall, h⟩ := h
      rw [List.all_eq_true] at hall
      exact pnew_ok hR (forceL_ok h) (hx.cellsL fun vs e => hnt vs e) hall
  · -- buildSlice
    rename_i t len ps hop
    replace h := need_ok h
    obtain ⟨d, hu, h⟩ := h
    split at h
    · rename_i elem
      replace h := need_ok h
      obtain ⟨n, hn, h⟩ := h
      replace h := zerosO_ok (w := w) (I := I) (β := β) hG.ok h
      obtain ⟨z, i, v, h, hi, hzv, hzz⟩ := h
      replace h := partsK_ok hR h
      obtain ⟨l, h, hl⟩ := h
      replace h := bif_ok h
      obtain ⟨hc, h⟩ := h
      simp only [Bool.and_eq_true] at hc
      have hzl : z.length = n := Nat.eq_of_beq_eq_true hc.1.1
      have hlim : len * n ≤ 16777216 := Nat.le_of_ble_eq_true hc.1.2
      have hn0 : 0 < n := Nat.le_of_ble_eq_true hc.2
      replace h := need_ok h
      obtain ⟨cs, hfill, h⟩ := h
      replace h := bif_ok (forceL_ok h)
      obtain ⟨hc2, h⟩ := h
      simp only [Bool.and_eq_true, List.all_eq_true] at hc2
      have hcl := Nat.eq_of_beq_eq_true hc2.1.2
      have hmx := Nat.le_of_ble_eq_true hc2.2
      have hzs := hzz.length
      simp only [Array.length_toList] at hzs
      have rep : ∀ k, IsL w I ((List.replicate k z).flatten) β ((List.replicate k v.cells.toList).flatten) := fun k => by
        induction k with
        | zero => simp only [List.replicate_zero, List.flatten_nil, IsL]
        | succ k ih => simp only [List.replicate_succ, List.flatten_cons]; exact hzz.append ih
      have hzeros : IsL w I ((List.replicate len z).flatten) β ((Array.range (len * n)).map fun i => v.cells[i % v.cells.size]!).toList := by
        rw [show n = v.cells.size by omega, Ev.zeros_eq len (by omega)]; exact rep len
      obtain ⟨B, hB, hBB⟩ := fillP_ok hfill hzeros hl
      have hrun : (execOp a.eval o).run G.cx.P w = .ok (.value (.slice (some ⟨w.heap.size, 0, none⟩) len len)) (w.alloc (.cells B elem)) := by
        unfold execOp
        rw [hop]
        have hB' : Instr.fill (fun i => some (i * n, n)) ((Array.range (len * n)).map fun i => v.cells[i % v.cells.size]!) (ps.map fun (i, y) => (i, a.eval y)).toList = some B := by
          rw [← hB]; simp
        have hlim' : ¬ (len * n > 2 ^ 24) := by omega
        by_cases h0 : len * n = 0
        · have hE : ∀ g : Nat → Value, (Array.range (len * n)).map g = #[] := fun g => by rw [h0]; simp
          rw [hE] at hB'
          simp only [Instr.buildSlice, Sem.run_bind, run_underlying (hG.ok.un hu), Result.andThen_ok, Ev.size_run hG.ok hn, if_neg hlim', if_pos h0, Sem.run_pure, hE, hB']
          simp [newRow]
        · have hzr : (zeroValue elem).run G.cx.P w = .ok v w := by simp [zeroValue, typeInfo, hi, hzv]
          simp only [Instr.buildSlice, Sem.run_bind, run_underlying (hG.ok.un hu), Result.andThen_ok, Ev.size_run hG.ok hn, if_neg hlim', if_neg h0, Sem.run_pure, hzr, hB']
          simp [newRow]
      rw [hrun]
      exact pnewS_ok hR h hBB hc2.1.1 hcl hn0 hmx
    · exact h.elim
  · -- call
    rename_i y ars argTypes hop
    replace h := PSt.ev_ok hR h
    obtain ⟨x, h, hx⟩ := h
    split at h
    · rename_i f caps
      simp only [PV.Is] at hx
      obtain ⟨cvs, hfv, hcv⟩ := hx
      replace h := argsK_ok hR h
      obtain ⟨l, h, hl⟩ := h
      obtain ⟨hent, hcall⟩ := pcall_ok hR h (hl.append hcv)
      have hrun : (execOp a.eval o).run G.cx.P w = .ok (.enter f (ars.map a.eval ++ cvs.toList).toArray) w := by
        unfold execOp
        rw [hop]
        have e1 : (Array.mk ars).map a.eval ++ cvs = (ars.map a.eval ++ cvs.toList).toArray := by simp
        simp only [resolve, hfv, Deferred.ofValue, Sem.run_bind, Sem.run_pure, Result.andThen_ok, invoke]
        simp only [Array.empty_append]
        rw [e1]
        exact hent _ w
      rw [hrun]
      exact hcall
    · exact h.elim
  · -- append
    rename_i od ox t t' hop
    replace h := bif_ok h
    obtain ⟨ht, h⟩ := h
    have := Nat.eq_of_beq_eq_true ht
    subst this
    replace h := PSt.ev_ok hR h
    obtain ⟨d, h, hd⟩ := h
    replace h := PSt.ev_ok hR h
    obtain ⟨x, h, hx⟩ := h
    obtain ⟨r, w', hr, hp⟩ := pappend_ok (ty := o.type) hG hR h hd hx
    have hrun : (execOp a.eval o).run G.cx.P w = .ok (.value r) w' := by
      unfold execOp
      rw [hop]
      simp [resolve, invoke, builtin, hr]
    rw [hrun]
    exact hp
  · exact pureCase h fun _ h => h
end

end Go.Proofs.YtnjmfedleimlmaaDoor.Pw

/- Slots, guards, lists of operations; regions that draw their order, in general. -/
namespace Go.Proofs.YtnjmfedleimlmaaDoor.Pw
open Go Go.RowKit

section
variable {w w' : World} {I I' : Nat → Prop} {β β' : Places} {cx : Ev.Cx} {G : Gx} {P : Program} {s : PSt} {a : Act} {st st' : List PBlk}

theorem TM.setK_ok {v : Option PV} : ∀ {f : Nat} {t : TM} {n : Nat} {k : TM → Prop}, TM.setK v f t n k → ∃ t', k t' ∧ ∀ m, t'.get m = if m = n then v else t.get m
  | 0, _, _, _, h => h.elim
  | f + 1, t, n, k, h => by
    have arith : ∀ m, Nat.beq n 0 = false → (m = n ↔ Nat.beq m 0 = false ∧ m % 2 = n % 2 ∧ (m - 1) / 2 = (n - 1) / 2) := fun m h0 => by
      have hn : n ≠ 0 := fun e => by subst e; cases h0
      constructor
      · rintro rfl; exact ⟨h0, rfl, rfl⟩
      · rintro ⟨h1, h2, h3⟩
        have hm : m ≠ 0 := fun e => by subst e; cases h1
        omega
    have key : ∀ (u : Option PV) (l r : TM), (bif Nat.beq n 0 then k (.node v l r) else bif Nat.beq (n % 2) 1 then TM.setK v f l ((n - 1) / 2) (fun t => k (.node u t r)) else TM.setK v f r ((n - 1) / 2) (fun t => k (.node u l t))) →
        ∃ t', k t' ∧ ∀ m, t'.get m = if m = n then v else (TM.node u l r).get m := by
      intro u l r h
      cases h0 : Nat.beq n 0 <;> rw [h0] at h
      · cases h1 : Nat.beq (n % 2) 1 <;> rw [h1] at h
        · obtain ⟨t', hk, ht⟩ := TM.setK_ok h
          refine ⟨_, hk, fun m => ?_⟩
          have hp : n % 2 = 0 := by
            have : n % 2 ≠ 1 := fun e => by rw [e] at h1; cases h1
            omega
          simp only [TM.get]
          cases hm0 : Nat.beq m 0
          · cases hm1 : Nat.beq (m % 2) 1
            · have hmp : m % 2 = 0 := by
                have : m % 2 ≠ 1 := fun e => by rw [e] at hm1; cases hm1
                omega
              simp only [cond_false, ht]
              by_cases e : (m - 1) / 2 = (n - 1) / 2
              · rw [if_pos e, if_pos ((arith m h0).2 ⟨hm0, by omega, e⟩)]
              · rw [if_neg e, if_neg fun e' => e ((arith m h0).1 e').2.2]
            · have hmp : m % 2 = 1 := Nat.eq_of_beq_eq_true hm1
              simp only [cond_false, cond_true]
              rw [if_neg fun e' => by rw [e'] at hmp; omega]
          · have := Nat.eq_of_beq_eq_true hm0
            subst this
            simp only [cond_true]
            rw [if_neg fun e => by rw [← e] at h0; cases h0]
        · obtain ⟨t', hk, ht⟩ := TM.setK_ok h
          refine ⟨_, hk, fun m => ?_⟩
          have hp : n % 2 = 1 := Nat.eq_of_beq_eq_true h1
          simp only [TM.get]
          cases hm0 : Nat.beq m 0
          · cases hm1 : Nat.beq (m % 2) 1
            · simp only [cond_false]
              rw [if_neg fun e' => by rw [e'] at hm1; rw [hm1] at h1; cases h1]
            · have hmp : m % 2 = 1 := Nat.eq_of_beq_eq_true hm1
              simp only [cond_false, cond_true, ht]
              by_cases e : (m - 1) / 2 = (n - 1) / 2
              · rw [if_pos e, if_pos ((arith m h0).2 ⟨hm0, by omega, e⟩)]
              · rw [if_neg e, if_neg fun e' => e ((arith m h0).1 e').2.2]
          · have := Nat.eq_of_beq_eq_true hm0
            subst this
            simp only [cond_true]
            rw [if_neg fun e => by rw [← e] at h0; cases h0]
      · have := Nat.eq_of_beq_eq_true h0
        subst this
        refine ⟨_, h, fun m => ?_⟩
        simp only [TM.get]
        cases hm0 : Nat.beq m 0
        · rw [if_neg fun e => by subst e; cases hm0]; rfl
        · rw [if_pos (Nat.eq_of_beq_eq_true hm0)]; rfl
    cases t with
    | nil =>
      obtain ⟨t', hk, ht⟩ := key none .nil .nil h
      refine ⟨t', hk, fun m => ?_⟩
      rw [ht]
      split
      · rfl
      · simp only [TM.get]; cases Nat.beq m 0 <;> cases Nat.beq (m % 2) 1 <;> rfl
    | node u l r => exact key u l r h

/-- the same but for the slots -/
structure SameBut (s s' : PSt) : Prop where
  n : s'.n = s.n
  st : s'.st = s.st
  base : s'.base = s.base
  rl : s'.rl = s.rl
theorem PSt.put_ok {dst : Option Tmp} {x : PV} {k : PSt → Prop} (h : s.put dst x k) : ∃ s', k s' ∧ SameBut s s' ∧ ∀ I β a w v, Rel G I β s a w → x.Is w I β v → Rel G I β s' (a.put dst v) w := by
  obtain ⟨n, t, st, b, rl⟩ := s
  unfold PSt.put at h
  simp only at h
  split at h
  · exact ⟨_, h, ⟨rfl, rfl, rfl, rfl⟩, fun I β a w v hR _ => hR⟩
  · rename_i d
    replace h := bif_ok h
    obtain ⟨hd, h⟩ := h
    have hd : d < n := Nat.le_of_ble_eq_true hd
    replace h := fc_ok h
    obtain ⟨t', hk, ht⟩ := TM.setK_ok h
    refine ⟨_, hk, ⟨rfl, rfl, rfl, rfl⟩, fun I β a w v hR hx => ⟨hR.small, hR.defers, by simpa [Act.put] using hR.size, hR.base, fun m y hy => ?_, hR.heap, hR.imm⟩⟩
    have hsz : d < a.tmps.size := by rw [hR.size]; exact hd
    have hy' : t'.get m = some y := hy
    rw [ht] at hy'
    by_cases e : m = d
    · subst e
      rw [if_pos rfl] at hy'
      cases hy'
      exact ⟨v, by simp [Act.put, hsz], hx⟩
    · rw [if_neg e] at hy'
      obtain ⟨u, hu, hi⟩ := hR.get m y hy'
      exact ⟨u, by simp only [Act.put, Array.getElem?_setIfInBounds_ne (Ne.symm e)]; exact hu, hi⟩
/-- a slot whose value is known better -/
theorem PSt.refine_ok {t : Nat} {x : PV} {v : Value} {k : PSt → Prop} (hR : Rel G I β s a w) (hv : a.tmps[t]? = some v) (hx : x.Is w I β v) (h : s.put (some t) x k) : ∃ s', k s' ∧ SameBut s s' ∧ Rel G I β s' a w := by
  obtain ⟨s', hk, hs, hr⟩ := PSt.put_ok (G := G) h
  refine ⟨s', hk, hs, ?_⟩
  have := hr I β a w v hR hx
  have e : a.put (some t) v = a := by
    unfold Act.put
    simp only
    have : a.tmps.setIfInBounds t v = a.tmps := by
      apply Array.ext_getElem?
      intro i
      rw [Array.getElem?_setIfInBounds]
      split
      · rename_i hi
        subst hi
        have := (Array.getElem?_eq_some_iff.1 hv).1
        rw [if_pos this, hv]
      · rfl
    rw [this]
  rw [e] at this
  exact this
theorem Is.undef : (PV.tup []).Is w I β Go.undef := by simp only [PV.Is]; exact ⟨#[], rfl, by simp only [IsL]⟩
theorem pguard_ok {ops : Array Oper} {o : Oper} {run skip : PSt → Prop} (hR : Rel G I β s a w) (h : pguard ops.toList s o run skip) :
    (Region.wanted o (yielded ops a.tmps) = true ∧ ∃ s', run s' ∧ SameBut s s' ∧ Rel G I β s' a w) ∨ (Region.wanted o (yielded ops a.tmps) = false ∧ ∃ s', skip s' ∧ SameBut s s' ∧ Rel G I β s' a w) := by
  have same : SameBut s s := ⟨rfl, rfl, rfl, rfl⟩
  unfold pguard at h
  cases hg : o.guard with
  | none =>
    rw [hg] at h
    exact .inl ⟨by simp [Region.wanted, hg], s, h, same, hR⟩
  | some jw =>
    obtain ⟨j, want⟩ := jw
    rw [hg] at h
    simp only at h
    replace h := need_ok h
    obtain ⟨t, ht, h⟩ := h
    replace h := need_ok h
    obtain ⟨x, hx, h⟩ := h
    obtain ⟨v, hv, hi⟩ := hR.get t x hx
    have ht' : (ops[j]?).bind (·.dst) = some t := by simpa using ht
    have hy : ∀ b, v = .bool b → Region.wanted o (yielded ops a.tmps) = (b == want) := fun b hb => by
      subst hb
      have : yielded ops a.tmps j = some b := by unfold yielded; rw [Option.bind_eq_some_iff.2 ⟨t, ht', hv⟩]
      simp [Region.wanted, hg, this]
    split at h <;> try simp only [PV.Is] at hi
    · cases want
      · exact .inr ⟨by rw [hy _ hi]; rfl, s, h, same, hR⟩
      · exact .inl ⟨by rw [hy _ hi]; rfl, s, h, same, hR⟩
    · cases want
      · exact .inl ⟨by rw [hy _ hi]; rfl, s, h, same, hR⟩
      · exact .inr ⟨by rw [hy _ hi]; rfl, s, h, same, hR⟩
    · rename_i p
      by_cases hp : p
      · obtain ⟨s', hk, hs, hr⟩ := PSt.refine_ok hR hv (x := .tt) (by rw [hi, pb_true hp]; exact Is.tt) (h.1 hp)
        cases want
        · exact .inr ⟨by rw [hy _ hi, pb_true hp]; rfl, s', hk, hs, hr⟩
        · exact .inl ⟨by rw [hy _ hi, pb_true hp]; rfl, s', hk, hs, hr⟩
      · obtain ⟨s', hk, hs, hr⟩ := PSt.refine_ok hR hv (x := .ff) (by rw [hi, pb_false hp]; exact Is.ff) (h.2 hp)
        cases want
        · exact .inl ⟨by rw [hy _ hi, pb_false hp]; rfl, s', hk, hs, hr⟩
        · exact .inr ⟨by rw [hy _ hi, pb_false hp]; rfl, s', hk, hs, hr⟩
    · obtain ⟨vs, rfl, _⟩ := hi
      refine .inr ⟨?_, s, h, same, hR⟩
      have : yielded ops a.tmps j = none := by unfold yielded; rw [Option.bind_eq_some_iff.2 ⟨t, ht', hv⟩]
      simp [Region.wanted, hg, this]
    · exact h.elim

/-- from a state to another -/
structure Goes (I : Nat → Prop) (β : Places) (s : PSt) (w : World) (I' : Nat → Prop) (β' : Places) (s' : PSt) (w' : World) : Prop where
  ext : Ext I β s.st w I' β' s'.st w'
  base : s'.base = s.base
  rl : s'.rl = s.rl
  n : s'.n = s.n
  low : ∀ l, l < s.base → l ∉ s.rl → β' l = β l
theorem Goes.same {s' : PSt} (h : SameBut s s') : Goes I β s w I β s' w := ⟨by rw [h.st]; exact Ext.refl, h.base, h.rl, h.n, fun _ _ _ => rfl⟩
theorem Goes.trans {I'' : Nat → Prop} {β'' : Places} {s' s'' : PSt} {w'' : World} (h : Goes I β s w I' β' s' w') (k : Goes I' β' s' w' I'' β'' s'' w'') : Goes I β s w I'' β'' s'' w'' :=
  ⟨h.ext.trans k.ext, k.base.trans h.base, k.rl.trans h.rl, k.n.trans h.n, fun l hl hr => (k.low l (by rw [h.base]; exact hl) (by rw [h.rl]; exact hr)).trans (h.low l hl hr)⟩

theorem pops_ok (hG : GOk G) {ops : Array Oper} {Q : X → PSt → Prop} {Q' : Exit → Act → World → Prop} : ∀ (l : List Oper) {s : PSt} {a : Act} {I : Nat → Prop} {β : Places} {w : World}, pops G ops.toList Q l s → Rel G I β s a w →
    (∀ x s' I' β' a' w', Q x s' → Rel G I' β' s' a' w' → Goes I β s w I' β' s' w' → Q' (X.e x) a' w') → wpList G.cx.P ops Q' l a w
  | [], s, a, I, β, w, h, hR, hQ => hQ .nml s I β a w h hR (Goes.same ⟨rfl, rfl, rfl, rfl⟩)
  | o :: l, s, a, I, β, w, h, hR, hQ => by
    unfold wpList
    rcases pguard_ok hR h with ⟨hw, s1, h1, hs1, hR1⟩ | ⟨hw, s1, h1, hs1, hR1⟩
    · rw [hw, if_pos rfl]
      refine .inl (Ev.resE_wp (pop_ok hG hR1 h1) fun v w' hp => ?_)
      obtain ⟨x, s2, I2, β2, h2, hR2, hx, hE, e1, e2, e3, hlow, _⟩ := hp
      obtain ⟨s3, h3, hs3, hr3⟩ := PSt.put_ok (G := G) h2
      have g1 : Goes I β s w I2 β2 s2 w' := (Goes.same hs1).trans ⟨hE, e1, e2, e3, hlow⟩
      exact pops_ok hG l h3 (hr3 _ _ _ _ v hR2 hx) fun x s' I' β' a' w'' hq hR' hg => hQ x s' I' β' a' w'' hq hR' ((g1.trans (Goes.same hs3)).trans hg)
    · rw [hw, if_neg (by simp)]
      obtain ⟨s3, h3, hs3, hr3⟩ := PSt.put_ok (G := G) h1
      exact pops_ok hG l h3 (hr3 _ _ _ _ _ hR1 Is.undef) fun x s' I' β' a' w'' hq hR' hg => hQ x s' I' β' a' w'' hq hR' (((Goes.same hs1).trans (Goes.same hs3)).trans hg)
end

/-! ### regions that draw their order -/
def loadOp : Op → Bool
  | .load .. => true
  | _ => false
/-- takes effect, or makes something -/
def eff (op : Op) : Bool := !(Ev.pureOp op || loadOp op)
structure PinY where
  k : Nat
  D : List Nat
  Y : World → Prop
section
variable {P : Program} {ops : Array Oper} {Q : Exit → Act → World → Prop}
/-- in every world that meets S the operation leaves v, and nothing is changed -/
def Yields (P : Program) (ops : Array Oper) (S : World → Prop) (o : Oper) (v : Value) (a : Act) : Prop :=
  (Region.wanted o (yielded ops a.tmps) = true ∧ ∀ w, S w → (execOp a.eval o).run P w = .ok (.value v) w) ∨ (Region.wanted o (yielded ops a.tmps) = false ∧ v = undef)
theorem Yields.mono {S S' : World → Prop} {o : Oper} {v : Value} {a : Act} (hS : ∀ w, S' w → S w) (h : Yields P ops S o v a) : Yields P ops S' o v a := h.imp (fun ⟨h1, h2⟩ => ⟨h1, fun w hw => h2 w (hS w hw)⟩) id
theorem Yields.of_same {S : World → Prop} {o : Oper} {v : Value} {a a' : Act} (hy : Yields P ops S o v a) (he : execOp a'.eval o = execOp a.eval o) (hw : Region.wanted o (yielded ops a'.tmps) = Region.wanted o (yielded ops a.tmps)) : Yields P ops S o v a' := by
  unfold Yields at *; rw [he, hw]; exact hy
def unpin (i : Nat) (pins : List PinY) : List PinY := pins.filter fun p => !p.D.any (Nat.beq i)
/-- whatever order is picked from here on -/
def AnyP (P : Program) (ops : Array Oper) (Q : Exit → Act → World → Prop) : Nat → Array Bool → Act → (World → Prop) → List PinY → Prop
  | 0, l, a, S, _ => Region.ready .any ops l = [] ∧ ∀ w, S w → Q .normal a w
  | f + 1, l, a, S, pins => (Region.ready .any ops l = [] → ∀ w, S w → Q .normal a w) ∧ ∀ i ∈ Region.ready .any ops l, ∀ o, ops[i]? = some o →
      (eff o.op = false → ∃ v, Yields P ops S o v a ∧ AnyP P ops Q f (l.setIfInBounds i true) (a.put o.dst v) S (unpin i pins)) ∧
      (eff o.op = true → ∀ w, S w → Ev.Does P ops o a w fun v w' => ∃ S' : World → Prop, (∀ p ∈ unpin i pins, ∀ w, S' w → p.Y w) ∧ S' w' ∧ AnyP P ops Q f (l.setIfInBounds i true) (a.put o.dst v) S' (unpin i pins))
theorem AnyP.sound : ∀ (f : Nat) (l : Array Bool) (a : Act) (S : World → Prop) (pins : List PinY) (w : World), AnyP P ops Q f l a S pins → S w → wpAny P .any ops Q f l a w
  | 0, l, a, S, _, w, h, hw => ⟨h.1, h.2 w hw⟩
  | f + 1, l, a, S, pins, w, h, hw => by
    refine ⟨fun h0 => h.1 h0 w hw, fun i hi => ?_⟩
    obtain ⟨o, ho⟩ := Ev.ready_op hi
    obtain ⟨h0, h1⟩ := h.2 i hi o ho
    unfold wpOp
    rw [ho]
    simp only
    by_cases hl : eff o.op = false
    · obtain ⟨v, hy, hn⟩ := h0 hl
      rcases hy with ⟨hwant, hy⟩ | ⟨hwant, rfl⟩
      · rw [if_pos hwant]
        refine .inl (Ev.resE_wp (K := fun u w' => u = v ∧ w' = w) (by rw [hy w hw]; exact ⟨rfl, rfl⟩) fun u w' ⟨hu, hb⟩ => ?_)
        subst hu; subst hb
        exact AnyP.sound f _ _ S _ w' hn hw
      · rw [if_neg (by rw [hwant]; simp)]
        exact AnyP.sound f _ _ S _ w hn hw
    · rcases h1 (by simpa using hl) w hw with ⟨hwant, hd⟩ | ⟨hwant, S', _, hS', hn⟩
      · rw [if_pos hwant]
        refine .inl (Ev.resE_wp hd fun u w' ⟨S', _, hS', hn⟩ => ?_)
        exact AnyP.sound f _ _ S' _ w' hn hS'
      · rw [if_neg (by rw [hwant]; simp)]
        exact AnyP.sound f _ _ S' _ w hn hS'
theorem does_mono {o : Oper} {a : Act} {w : World} {K K' : Value → World → Prop} (hK : ∀ v w, K v w → K' v w) (h : Ev.Does P ops o a w K) : Ev.Does P ops o a w K' := Ev.Does.mono hK h
theorem unpin_sub {i : Nat} {pins pins' : List PinY} (h : ∀ p ∈ pins', p ∈ pins) : ∀ p ∈ unpin i pins', p ∈ unpin i pins := fun p hp => by
  unfold unpin at *
  rw [List.mem_filter] at *
  exact ⟨h p hp.1, hp.2⟩
theorem AnyP.sub : ∀ (f : Nat) (l : Array Bool) (a : Act) (S : World → Prop) (pins pins' : List PinY), (∀ p ∈ pins', p ∈ pins) → AnyP P ops Q f l a S pins → AnyP P ops Q f l a S pins'
  | 0, _, _, _, _, _, _, h => h
  | f + 1, l, a, S, pins, pins', hs, h => by
    refine ⟨h.1, fun i hi o ho => ?_⟩
    obtain ⟨h0, h1⟩ := h.2 i hi o ho
    refine ⟨fun hl => ?_, fun hl w hw => does_mono (fun v w' ⟨S', h2, h3, h4⟩ => ⟨S', fun p hp => h2 p (unpin_sub hs p hp), h3, AnyP.sub f _ _ _ _ _ (unpin_sub hs) h4⟩) (h1 hl w hw)⟩
    obtain ⟨v, hy, hn⟩ := h0 hl
    exact ⟨v, hy, AnyP.sub f _ _ _ _ _ (unpin_sub hs) hn⟩
/-- an operation that changes nothing may be taken first -/
theorem AnyP.first {i : Nat} {oi : Oper} {v : Value} {D : List Nat} {Y : World → Prop} (hi : ops[i]? = some oi) (hli : eff oi.op = false) (hsel : Region.noSelect ops = true) :
    ∀ (f : Nat) (l : Array Bool) (a : Act) (S : World → Prop) (pins : List PinY),
      (∀ j oj, ops[j]? = some oj → j ≠ i → l.getD j true = false → (∀ e ∈ oj.after, Region.binds .any e = true → e.on ≠ i) → oi.apart ops oj = true) →
      (∀ j ∈ D, l.getD j false = false ∧ ∃ oj, ops[j]? = some oj ∧ ∃ e ∈ oj.after, Region.binds .any e = true ∧ (e.on = i ∨ e.on ∈ D)) →
      Yields P ops Y oi v a → (∀ w, S w → Y w) → i ∈ Region.ready .any ops l → AnyP P ops Q f (l.setIfInBounds i true) (a.put oi.dst v) S (⟨i, D, Y⟩ :: pins) → AnyP P ops Q (f + 1) l a S pins := by
  intro f
  induction f with
  | zero =>
    intro l a S pins _ _ hY hSY hr H
    refine ⟨fun h0 => (by rw [h0] at hr; cases hr), fun j hj o ho => ?_⟩
    by_cases hji : j = i
    · subst hji
      rw [hi] at ho; cases ho
      exact ⟨fun _ => ⟨v, hY.mono hSY, H⟩, fun h => by rw [hli] at h; cases h⟩
    · have := ready_mono hj hji
      rw [H.1] at this
      cases this
  | succ f ih =>
    intro l a S pins hfree hD hY hSY hr H
    refine ⟨fun h0 => (by rw [h0] at hr; cases hr), fun j hj oj hoj => ?_⟩
    by_cases hji : j = i
    · subst hji
      rw [hi] at hoj; cases hoj
      refine ⟨fun _ => ⟨v, hY.mono hSY, ?_⟩, fun h => by rw [hli] at h; cases h⟩
      refine AnyP.sub _ _ _ _ _ _ (fun p hp => ?_) H
      unfold unpin at hp
      exact List.mem_cons_of_mem _ (List.mem_filter.1 hp).1
    · obtain ⟨hjun, oj', hoj', hall⟩ := mem_ready.1 hj
      rw [hoj] at hoj'; cases hoj'
      have hiun := (mem_ready.1 hr).1
      have ilist : l.getD i false = false := by
        have hlt : i < l.size := by
          rcases Nat.lt_or_ge i l.size with h' | h'
          · exact h'
          · simp [Array.getElem?_eq_none h'] at hiun
        simp [hlt] at hiun ⊢; exact hiun
      have hnot : ∀ e ∈ oj.after, Region.binds .any e = true → e.on ≠ i := fun e he hb heq => by
        have h1 := hall e he hb
        rw [heq, ilist] at h1; cases h1
      have hjD : D.any (Nat.beq j) = false := by
        rw [List.any_eq_false]
        intro x hx e
        have := Nat.eq_of_beq_eq_true e
        subst this
        obtain ⟨_, oj2, ho2, ed, he, hb, h3⟩ := hD j hx
        rw [hoj] at ho2; cases ho2
        rcases h3 with h3 | h3
        · exact hnot ed he hb h3
        · have h4 := hall ed he hb
          rw [(hD _ h3).1] at h4; cases h4
      have hjD' : j ∉ D := fun hm => by
        rw [List.any_eq_false] at hjD
        exact hjD j hm (Nat.beq_refl j)
      have hun : unpin j (⟨i, D, Y⟩ :: pins) = ⟨i, D, Y⟩ :: unpin j pins := by
        unfold unpin
        rw [List.filter_cons, if_pos (by simp only [hjD]; rfl)]
      have hap := hfree j oj hoj hji hjun hnot
      obtain ⟨a1, a2, a3⟩ := Oper.apart_spec hap
      have hsi := fun cs b => Region.noSelect_spec hsel i oi cs b hi
      have hsj := fun cs b => Region.noSelect_spec hsel j oj cs b hoj
      have ej : execOp (a.put oi.dst v).eval oj = execOp a.eval oj := execOp_put oj hsj a oi.dst v a1
      have wj : Region.wanted oj (yielded ops (a.put oi.dst v).tmps) = Region.wanted oj (yielded ops a.tmps) := wanted_put oj a oi.dst v a1
      have ei : ∀ u, execOp (a.put oj.dst u).eval oi = execOp a.eval oi := fun u => execOp_put oi hsi a oj.dst u a3
      have wi : ∀ u, Region.wanted oi (yielded ops (a.put oj.dst u).tmps) = Region.wanted oi (yielded ops a.tmps) := fun u => wanted_put oi a oj.dst u a3
      have hfree' : ∀ k ok, ops[k]? = some ok → k ≠ i → (l.setIfInBounds j true).getD k true = false → (∀ e ∈ ok.after, Region.binds .any e = true → e.on ≠ i) → oi.apart ops ok = true := fun k ok hk hki hun hno => by
        refine hfree k ok hk hki ?_ hno
        by_cases hjk : j = k
        · subst hjk; exact hjun
        · rw [getD_set_ne true hjk] at hun; exact hun
      have hD' : ∀ k ∈ D, (l.setIfInBounds j true).getD k false = false ∧ ∃ oj, ops[k]? = some oj ∧ ∃ e ∈ oj.after, Region.binds .any e = true ∧ (e.on = i ∨ e.on ∈ D) := fun k hk => by
        refine ⟨?_, (hD k hk).2⟩
        rw [getD_set_ne false (fun e => hjD' (by rw [e]; exact hk))]
        exact (hD k hk).1
      obtain ⟨h0, h1⟩ := H.2 j (ready_mono hj hji) oj hoj
      rw [hun] at h0 h1
      refine ⟨fun hl => ?_, fun hl w hw => ?_⟩
      · obtain ⟨u, hu, hn⟩ := h0 hl
        refine ⟨u, hu.of_same ej.symm wj.symm, ?_⟩
        refine ih (l.setIfInBounds j true) (a.put oj.dst u) S (unpin j pins) hfree' hD' (hY.of_same (ei u) (wi u)) hSY (ready_mono hr (Ne.symm hji)) ?_
        rw [Array.setIfInBounds_comm _ _ hji, ← Act.put_comm a v u a2]
        exact hn
      · have hd := h1 hl w hw
        unfold Ev.Does at hd ⊢
        rw [ej, wj] at hd
        have step : ∀ u w', (∃ S' : World → Prop, (∀ p ∈ ⟨i, D, Y⟩ :: unpin j pins, ∀ w, S' w → p.Y w) ∧ S' w' ∧ AnyP P ops Q f ((l.setIfInBounds i true).setIfInBounds j true) ((a.put oi.dst v).put oj.dst u) S' (⟨i, D, Y⟩ :: unpin j pins)) →
            ∃ S' : World → Prop, (∀ p ∈ unpin j pins, ∀ w, S' w → p.Y w) ∧ S' w' ∧ AnyP P ops Q (f + 1) (l.setIfInBounds j true) (a.put oj.dst u) S' (unpin j pins) := by
          rintro u w' ⟨S', hS', hw', hn⟩
          refine ⟨S', fun p hp => hS' p (List.mem_cons_of_mem _ hp), hw', ih (l.setIfInBounds j true) (a.put oj.dst u) S' (unpin j pins) hfree' hD' (hY.of_same (ei u) (wi u)) (hS' _ List.mem_cons_self) (ready_mono hr (Ne.symm hji)) ?_⟩
          rw [Array.setIfInBounds_comm _ _ hji, ← Act.put_comm a v u a2]
          exact hn
        rcases hd with ⟨hw1, hd⟩ | ⟨hw1, hd⟩
        · exact .inl ⟨hw1, Ev.resE_mono step hd⟩
        · exact .inr ⟨hw1, step _ _ hd⟩
end

end Go.Proofs.YtnjmfedleimlmaaDoor.Pw

/- Regions that draw their order, as the evaluator says. -/
namespace Go.Proofs.YtnjmfedleimlmaaDoor.Pw
open Go Go.RowKit

/-- a load that was carried out ahead of its turn: which operations wait for it, of which block -/
structure Pin where
  D : List Nat
  l : Nat
def inL (i : Nat) (l : List Nat) : Bool := l.any (Nat.beq i)
def depsGo (listed : Array Bool) (i : Nat) : List Oper → Nat → List Nat → List Nat
  | [], _, acc => acc
  | o :: r, j, acc => bif !(listed.getD j true) && o.after.toList.any (fun e => Region.binds .any e && (Nat.beq e.on i || inL e.on acc)) then depsGo listed i r (j + 1) (j :: acc) else depsGo listed i r (j + 1) acc
def okD (ops : List Oper) (listed : Array Bool) (i : Nat) (D : List Nat) : Bool :=
  D.all fun j => !(listed.getD j false) && (match ops[j]? with
    | some o => o.after.toList.any fun e => Region.binds .any e && (Nat.beq e.on i || inL e.on D)
    | none => false)
def pinned (i : Nat) : List Pin → List Nat
  | [] => []
  | p :: r => bif inL i p.D then pinned i r else p.l :: pinned i r
def unpinP (i : Nat) (pins : List Pin) : List Pin := pins.filter fun p => !inL i p.D
def Md.isW : Md → Bool
  | .w => true
  | _ => false
def pinM (b : Bool) (m : Md) : Md := match b, m with
  | true, .w => .p
  | _, m => m
def unpinM (b : Bool) (m : Md) : Md := match b, m with
  | true, .p => .w
  | _, m => m
def mapM (f : Bool → Md → Md) (us : List Nat) : Nat → List PBlk → List PBlk
  | _, [] => []
  | j, ⟨k, ty, n, m, live, cs⟩ :: st => ⟨k, ty, n, f (inL j us) m, live, cs⟩ :: mapM f us (j + 1) st
def frB : List PBlk → (List PBlk → Prop) → Prop
  | [], q => q []
  | ⟨k, ty, n, m, live, cs⟩ :: st, q => match m with
    | .w => frB st fun st => q (⟨k, ty, n, .w, live, cs⟩ :: st)
    | .p => frB st fun st => q (⟨k, ty, n, .p, live, cs⟩ :: st)
    | .r => frB st fun st => q (⟨k, ty, n, .r, live, cs⟩ :: st)
def wsOf (st : List PBlk) (ls : List Nat) : List Nat := ls.filter fun j => match st[j]? with
  | some b => b.live && b.m.isW
  | none => false
def okP (st : List PBlk) (ls : List Nat) : Bool := ls.all fun j => match st[j]? with
  | some b => b.live
  | none => false
def prun1 (G : Gx) (ops : List Oper) (s : PSt) (i : Nat) (o : Oper) (pins : List Pin) (K : PSt → Prop) : Prop :=
  pguard ops s o (fun s => match pinned i pins with
    | [] => pop G s o fun v s2 => s2.put o.dst v K
    | ls => frB (mapM pinM (wsOf s.st ls) 0 s.st) fun st => pop G (s.store st) o fun v s2 => bif okP s2.st ls then frB (mapM unpinM (wsOf s.st ls) 0 s2.st) fun st2 => (s2.store st2).put o.dst v K else False)
    (fun s => s.put o.dst (.tup []) K)
def pureTake (ops : Array Oper) (listed : Array Bool) (i : Nat) : Bool := match ops[i]? with
  | some o => Ev.pureOp o.op && Region.free .any ops listed i
  | none => false
def loadTake (ops : Array Oper) (listed : Array Bool) (i : Nat) : Bool := match ops[i]? with
  | some o => loadOp o.op && Region.free .any ops listed i
  | none => false
def addPin (D : List Nat) (x : PV) (pins : List Pin) : List Pin := match x.blk with
  | some l => ⟨D, l⟩ :: pins
  | none => pins
def pdr (G : Gx) (ops : Array Oper) : Nat → Array Bool → PSt → List Pin → (PSt → Prop) → Prop
  | 0, listed, s, _, K => bif (Region.ready .any ops listed).isEmpty then K s else False
  | fuel + 1, listed, s, pins, K => match Region.ready .any ops listed with
    | [] => K s
    | i0 :: more => match Ev.firstOf (pureTake ops listed) (i0 :: more) with
      | some i => need ops[i]? fun o => pguard ops.toList s o (fun s => ppure G.cx s o.op fun v => s.put o.dst v fun s => pdr G ops fuel (listed.setIfInBounds i true) s pins K)
          (fun s => s.put o.dst (.tup []) fun s => pdr G ops fuel (listed.setIfInBounds i true) s pins K)
      | none => match Ev.firstOf (loadTake ops listed) (i0 :: more) with
        | some i => need ops[i]? fun o => bif okD ops.toList listed i (depsGo listed i ops.toList 0 []) then pguard ops.toList s o (fun s => match o.op with
            | .load t ad => s.ev ad fun x => pload G s.st t x fun v => s.put o.dst v fun s => pdr G ops fuel (listed.setIfInBounds i true) s (addPin (depsGo listed i ops.toList 0 []) x pins) K
            | _ => False)
            (fun s => s.put o.dst (.tup []) fun s => pdr G ops fuel (listed.setIfInBounds i true) s pins K) else False
        | none => need ops[i0]? fun o => bif eff o.op then prun1 G ops.toList s i0 o pins fun s1 => pdr G ops fuel (listed.setIfInBounds i0 true) s1 (unpinP i0 pins) fun sf => K sf ∧ ∀ j ∈ more, need ops[j]? fun oj =>
            bif eff oj.op then prun1 G ops.toList s j oj pins fun s2 => pdr G ops fuel (listed.setIfInBounds j true) s2 (unpinP j pins) fun sf2 => sf2 = sf else False else False

section
variable {w w' : World} {I I' : Nat → Prop} {β β' : Places} {G : Gx} {s : PSt} {a : Act} {st st' : List PBlk} {ops : Array Oper}

theorem frB_ok : ∀ {st : List PBlk} {q : List PBlk → Prop}, frB st q → q st
  | [], _, h => h
  | ⟨k, ty, n, m, live, cs⟩ :: st, q, h => by
    unfold frB at h
    cases m <;> exact frB_ok (st := st) h
theorem mapM_get (f : Bool → Md → Md) (us : List Nat) : ∀ (st : List PBlk) (j l : Nat), (mapM f us j st)[l]? = (st[l]?).map fun b => { b with m := f (inL (j + l) us) b.m }
  | [], j, l => by simp [mapM]
  | ⟨k, ty, n, m, live, cs⟩ :: st, j, 0 => by simp [mapM]
  | ⟨k, ty, n, m, live, cs⟩ :: st, j, l + 1 => by
    simp only [mapM, List.getElem?_cons_succ]
    rw [mapM_get f us st (j + 1) l, show j + 1 + l = j + (l + 1) by omega]
theorem mapM_len (f : Bool → Md → Md) (us : List Nat) : ∀ (st : List PBlk) (j : Nat), (mapM f us j st).length = st.length
  | [], _ => rfl
  | ⟨_, _, _, _, _, _⟩ :: st, j => by simp [mapM, mapM_len f us st]
theorem pinM_r {b : Bool} {m : Md} : pinM b m = .r ↔ m = .r := by cases b <;> cases m <;> simp [pinM]
theorem pinM_w {b : Bool} {m : Md} (h : pinM b m = .w) : m = .w := by cases b <;> cases m <;> simp_all [pinM]
theorem unpinM_r {b : Bool} {m : Md} : unpinM b m = .r ↔ m = .r := by cases b <;> cases m <;> simp [unpinM]
/-- other modes, but the same of those that are never written -/
theorem HeapOk.modes (h : HeapOk I β st w) {f : Bool → Md → Md} {us : List Nat} (hf : ∀ b m, f b m = .r ↔ m = .r) : HeapOk I β (mapM f us 0 st) w := by
  refine ⟨fun l hl => h.far l (by rw [mapM_len] at hl; exact hl), fun l b' hl hlive => ?_⟩
  rw [mapM_get, Option.map_eq_some_iff] at hl
  obtain ⟨b, hb, rfl⟩ := hl
  have hb0 := h.blk l b hb hlive
  obtain ⟨p, hp, hk⟩ := hb0
  have own : ∀ {g : Nat} {fr : Nat × Nat}, Own I β st l g fr b → Own I β (mapM f us 0 st) l g fr { b with m := f (inL (0 + l) us) b.m } := fun ho => by
    refine ⟨fun hr => ?_, fun hr => ho.2 ((hf _ _).1 hr)⟩
    obtain ⟨h1, h2, h3⟩ := ho.1 fun e => hr ((hf _ _).2 e)
    refine ⟨h1, h2, fun l' b' hne hl' hlive' => ?_⟩
    rw [mapM_get, Option.map_eq_some_iff] at hl'
    obtain ⟨b2, hb2, rfl⟩ := hl'
    exact h3 l' b2 hne hb2 hlive'
  refine ⟨p, hp, ?_⟩
  simp only
  split at hk
  · rename_i hkk
    obtain ⟨g, o, arr, ty, fr, h1, h2, h3, ho⟩ := hk
    rw [hkk]
    exact ⟨g, o, arr, ty, fr, h1, h2, h3, own ho⟩
  · rename_i hkk
    obtain ⟨g, arr, fr, h1, h2, h3, ho, h4⟩ := hk
    rw [hkk]
    exact ⟨g, arr, fr, h1, h2, h3, own ho, h4⟩
  · rename_i hkk
    obtain ⟨h1, hk⟩ := hk
    rw [hkk]
    refine ⟨h1, ?_⟩
    rcases hk with h | ⟨g, arr, fr, h2, h3, h4, ho, h5⟩
    · exact .inl h
    · exact .inr ⟨g, arr, fr, h2, h3, h4, own ho, h5⟩
theorem inL_iff {i : Nat} {l : List Nat} : inL i l = true ↔ i ∈ l := by
  unfold inL
  rw [List.any_eq_true]
  exact ⟨fun ⟨x, hx, e⟩ => by rw [Nat.eq_of_beq_eq_true e]; exact hx, fun h => ⟨i, h, Nat.beq_refl i⟩⟩

/-- loads that were carried out ahead of their turn: their blocks are as they were -/
def PinsOk (pins : List Pin) (ys : List PinY) (I : Nat → Prop) (β : Places) (st : List PBlk) (w : World) : Prop :=
  ∀ y ∈ ys, (∀ w2, y.Y w2) ∨ ∃ g, (∀ w2, y.Y w2 ↔ w2.heap[g]? = w.heap[g]?) ∧ g < w.heap.size ∧ (I g ∨ ∃ p ∈ pins, p.D = y.D ∧ ∃ b pl o, st[p.l]? = some b ∧ b.live = true ∧ β p.l = some pl ∧ pl.a = some (g, o))
theorem pinned_mem {i : Nat} {p : Pin} : ∀ {pins : List Pin}, p ∈ pins → inL i p.D = false → p.l ∈ pinned i pins
  | q :: pins, h, hd => by
    unfold pinned
    rcases List.mem_cons.1 h with rfl | h
    · rw [hd]; exact List.mem_cons_self
    · cases inL i q.D
      · exact List.mem_cons_of_mem _ (pinned_mem h hd)
      · exact pinned_mem h hd
theorem unpinP_mem {i : Nat} {p : Pin} {pins : List Pin} (h : p ∈ pins) (hd : inL i p.D = false) : p ∈ unpinP i pins := by
  unfold unpinP; rw [List.mem_filter]; exact ⟨h, by simp [hd]⟩
theorem unpin_mem {i : Nat} {y : PinY} {ys : List PinY} (h : y ∈ unpin i ys) : y ∈ ys ∧ inL i y.D = false := by
  unfold unpin at h; rw [List.mem_filter] at h; exact ⟨h.1, by simpa [inL] using h.2⟩
/-- nothing happened to memory -/
theorem PinsOk.unpin {i : Nat} {pins : List Pin} {ys : List PinY} (h : PinsOk pins ys I β st w) : PinsOk (unpinP i pins) (unpin i ys) I β st w := fun y hy => by
  obtain ⟨hy, hd⟩ := unpin_mem hy
  rcases h y hy with h | ⟨g, h1, h2, h3⟩
  · exact .inl h
  · exact .inr ⟨g, h1, h2, h3.imp id fun ⟨p, hp, he, h4⟩ => ⟨p, unpinP_mem hp (by rw [he]; exact hd), he, h4⟩⟩

theorem prun1_ok (hG : GOk G) {i : Nat} {o : Oper} {pins : List Pin} {ys : List PinY} {K : PSt → Prop} (h : prun1 G ops.toList s i o pins K) (hR : Rel G I β s a w) (hp : PinsOk pins ys I β s.st w) :
    Ev.Does G.cx.P ops o a w fun v w' => ∃ s' I' β', K s' ∧ Rel G I' β' s' (a.put o.dst v) w' ∧ Goes I β s w I' β' s' w' ∧ (∀ y ∈ unpin i ys, y.Y w') ∧ PinsOk (unpinP i pins) (unpin i ys) I' β' s'.st w' := by
  unfold prun1 at h
  rcases pguard_ok hR h with ⟨hw, s1, h1, hs1, hR1⟩ | ⟨hw, s1, h1, hs1, hR1⟩
  · refine .inl ⟨hw, ?_⟩
    -- what a pinned block keeps
    split at h1
    · rename_i hls
      refine Ev.resE_mono ?_ (pop_ok hG hR1 h1)
      rintro v w' ⟨x, s2, I2, β2, h2, hR2, hx, hE, e1, e2, e3, hlow, _⟩
      obtain ⟨s3, h3, hs3, hr3⟩ := PSt.put_ok (G := G) h2
      have hgo : Goes I β s w I2 β2 s3 w' := ((Goes.same hs1).trans ⟨hE, e1, e2, e3, hlow⟩).trans (Goes.same hs3)
      have hkeep : ∀ y ∈ unpin i ys, y.Y w' ∧ ((∀ w2, y.Y w2) ∨ ∃ g, (∀ w2, y.Y w2 ↔ w2.heap[g]? = w'.heap[g]?) ∧ g < w'.heap.size ∧ I2 g) := fun y hy => by
        obtain ⟨hy, hd⟩ := unpin_mem hy
        rcases hp y hy with h | ⟨g, h1, h2, h3⟩
        · exact ⟨h _, .inl h⟩
        · rcases h3 with h3 | ⟨p, hpm, he, _⟩
          · have hs := hgo.ext.keeps hR.heap hR.imm.imm g h3
            exact ⟨(h1 w').2 hs, .inr ⟨g, fun w2 => by rw [h1, hs], Nat.lt_of_lt_of_le h2 hgo.ext.size, hgo.ext.imm g h3⟩⟩
          · have := pinned_mem (i := i) hpm (by rw [he]; exact hd)
            rw [hls] at this
            cases this
      exact ⟨s3, I2, β2, h3, hr3 _ _ _ _ v hR2 hx, hgo, fun y hy => (hkeep y hy).1, fun y hy => (hkeep y hy).2.imp id fun ⟨g, a1, a2, a3⟩ => ⟨g, a1, a2, .inl a3⟩⟩
    · rename_i ls hls
      replace h1 := frB_ok h1
      have hmd := hR1.heap.modes (f := pinM) (us := wsOf s1.st (pinned i pins)) (fun b m => pinM_r)
      have hEp : Ext I β s1.st w I β (mapM pinM (wsOf s1.st (pinned i pins)) 0 s1.st) w := ⟨rfl, rfl, rfl, Nat.le_refl _, fun _ _ _ => rfl, fun g hg ⟨l, b', p, o', g1, g2, g3, g4, g5⟩ => by
        rw [mapM_get, Option.map_eq_some_iff] at g1
        obtain ⟨b, hb, rfl⟩ := g1
        refine ⟨l, b, p, o', hb, g2, ?_, g4, g5⟩
        simp only at g3
        exact pinM_w g3, fun _ h => h, fun _ _ h => .inl h⟩
      have hRp := hR1.grow hmd hEp (fun _ _ h => h) (by rw [mapM_len]; exact Nat.le_refl _) hR1.imm.imm
      refine Ev.resE_mono ?_ (pop_ok hG hRp h1)
      rintro v w' ⟨x, s2, I2, β2, h2, hR2, hx, hE, e1, e2, e3, hlow, hpn⟩
      obtain ⟨c1, c2, c3, c4, c5⟩ := PSt.store_eq s1 (mapM pinM (wsOf s1.st (pinned i pins)) 0 s1.st)
      rw [c3] at hE hpn
      rw [c4] at e1 hlow
      rw [c5] at e2 hlow
      rw [c1] at e3
      replace h2 := bif_ok h2
      obtain ⟨hokp, h2⟩ := h2
      replace h2 := frB_ok h2
      have hmu := hR2.heap.modes (f := unpinM) (us := wsOf s1.st (pinned i pins)) (fun b m => unpinM_r)
      -- the blocks that were pinned
      have hus : ∀ l ∈ wsOf s1.st (pinned i pins), ∃ b, s1.st[l]? = some b ∧ b.m = .w ∧ b.live = true := fun l hl => by
        unfold wsOf at hl
        rw [List.mem_filter] at hl
        have := hl.2
        cases hb : s1.st[l]? with
        | none => rw [hb] at this; cases this
        | some b =>
          rw [hb] at this
          simp only [Bool.and_eq_true] at this
          refine ⟨b, rfl, ?_, this.1⟩
          have := this.2
          cases hm : b.m <;> simp only [hm, Md.isW] at this <;> first | rfl | cases this
      have hfix : ∀ l b, s1.st[l]? = some b → b.m = .w → l ∈ wsOf s1.st (pinned i pins) → β2 l = β l := fun l b hb hm hl => by
        refine hpn l { b with m := .p } ?_ rfl
        rw [mapM_get, hb, Nat.zero_add, inL_iff.2 hl, Option.map_some, hm]; rfl
      have hE2 : Ext I β s1.st w I2 β2 (mapM unpinM (wsOf s1.st (pinned i pins)) 0 s2.st) w' := by
        have hE1 := hEp.trans hE
        refine ⟨hE1.os, hE1.tape, hE1.output, hE1.size, hE1.block, fun g hg ⟨l, b', p, o', g1, g2, g3, g4, g5⟩ => ?_, hE1.imm, hE1.new⟩
        rw [mapM_get, Option.map_eq_some_iff] at g1
        obtain ⟨b, hb, rfl⟩ := g1
        simp only [Nat.zero_add] at g3
        cases hin : inL l (wsOf s1.st (pinned i pins)) with
        | false =>
          rw [hin] at g3
          refine hE1.wr g hg ⟨l, b, p, o', hb, g2, ?_, g4, g5⟩
          cases hm : b.m <;> rw [hm] at g3 <;> first | rfl | cases g3
        | true =>
          have hl := inL_iff.1 hin
          obtain ⟨b0, hb0, hm0, hlive0⟩ := hus l hl
          exact ⟨l, b0, p, o', hb0, hlive0, hm0, by rw [← hfix l b0 hb0 hm0 hl]; exact g4, g5⟩
      have hkeep : ∀ y ∈ unpin i ys, y.Y w' ∧ ((∀ w2, y.Y w2) ∨ ∃ g, (∀ w2, y.Y w2 ↔ w2.heap[g]? = w'.heap[g]?) ∧ g < w'.heap.size ∧ (I2 g ∨ ∃ p ∈ unpinP i pins, p.D = y.D ∧ ∃ b pl o, (mapM unpinM (wsOf s1.st (pinned i pins)) 0 s2.st)[p.l]? = some b ∧ b.live = true ∧ β2 p.l = some pl ∧ pl.a = some (g, o))) := fun y hy => by
        obtain ⟨hy, hd⟩ := unpin_mem hy
        rcases hp y hy with h | ⟨g, g1, g2, g3⟩
        · exact ⟨h _, .inl h⟩
        · have byI : I g → y.Y w' ∧ ((∀ w2, y.Y w2) ∨ ∃ g, (∀ w2, y.Y w2 ↔ w2.heap[g]? = w'.heap[g]?) ∧ g < w'.heap.size ∧ (I2 g ∨ ∃ p ∈ unpinP i pins, p.D = y.D ∧ ∃ b pl o, (mapM unpinM (wsOf s1.st (pinned i pins)) 0 s2.st)[p.l]? = some b ∧ b.live = true ∧ β2 p.l = some pl ∧ pl.a = some (g, o))) := fun hI => by
            have hs := hE2.keeps hR1.heap hR1.imm.imm g hI
            exact ⟨(g1 w').2 hs, .inr ⟨g, fun w2 => by rw [g1, hs], Nat.lt_of_lt_of_le g2 hE2.size, .inl (hE2.imm g hI)⟩⟩
          rcases g3 with g3 | ⟨p, hpm, he, b, pl, o', hb, hlive, hpl, hpa⟩
          · exact byI g3
          · rw [← hs1.st] at hb
            have hb0 := hR1.heap.blk _ b hb hlive
            obtain ⟨arr, ty, fr, hh, ho⟩ := hb0.place hpl hpa
            by_cases hmr : b.m = .r
            · exact byI (ho.2 hmr)
            · have hlm := pinned_mem (i := i) hpm (by rw [he]; exact hd)
              -- it is pinned now
              have hpin : ∃ b', (mapM pinM (wsOf s1.st (pinned i pins)) 0 s1.st)[p.l]? = some b' ∧ b'.m = .p ∧ b'.live = true := by
                refine ⟨{ b with m := pinM (inL (0 + p.l) (wsOf s1.st (pinned i pins))) b.m }, by rw [mapM_get, hb]; rfl, ?_, hlive⟩
                simp only [Nat.zero_add]
                cases hm : b.m with
                | r => exact absurd hm hmr
                | p => cases inL p.l (wsOf s1.st (pinned i pins)) <;> rfl
                | w =>
                  have : p.l ∈ wsOf s1.st (pinned i pins) := by unfold wsOf; rw [List.mem_filter, hb]; exact ⟨hlm, by simp only [hm, hlive]; rfl⟩
                  rw [inL_iff.2 this]; rfl
              obtain ⟨b', hb', hm', hlive'⟩ := hpin
              have hb'0 := hmd.blk _ b' hb' hlive'
              obtain ⟨_, _, fr', _, ho'⟩ := hb'0.place hpl hpa
              have hnw : ¬ Wr β (mapM pinM (wsOf s1.st (pinned i pins)) 0 s1.st) g := fun ⟨l2, b2, p2, o2, k1, k2, k3, k4, k5⟩ => by
                by_cases hne : l2 = p.l
                · subst hne
                  rw [hb'] at k1; cases k1; rw [hm'] at k3; cases k3
                · exact (ho'.1 (by rw [hm']; decide)).2.2 l2 b2 hne k1 k2 p2 g o2 k4 k5 rfl
              have hs : w'.heap[g]? = w.heap[g]? := hE.block g g2 hnw
              have hβ2 : β2 p.l = some pl := (hpn _ b' hb' hm').trans hpl
              have hlv : ∃ b2, s2.st[p.l]? = some b2 ∧ b2.live = true := by
                unfold okP at hokp
                rw [List.all_eq_true] at hokp
                have := hokp _ hlm
                cases hb2 : s2.st[p.l]? with
                | none => rw [hb2] at this; cases this
                | some b2 => rw [hb2] at this; exact ⟨b2, rfl, this⟩
              obtain ⟨b2, hb2, hlive2⟩ := hlv
              refine ⟨(g1 w').2 hs, .inr ⟨g, fun w2 => by rw [g1, hs], Nat.lt_of_lt_of_le g2 hE2.size, .inr ⟨p, unpinP_mem hpm (by rw [he]; exact hd), he, { b2 with m := unpinM (inL (0 + p.l) (wsOf s1.st (pinned i pins))) b2.m }, pl, o', by rw [mapM_get, hb2]; rfl, hlive2, hβ2, hpa⟩⟩⟩
      have hEu : Ext I2 β2 s2.st w' I2 β2 (mapM unpinM (wsOf s1.st (pinned i pins)) 0 s2.st) w' → True := fun _ => trivial
      clear hEu
      have hR3 : Rel G I2 β2 (s2.store (mapM unpinM (wsOf s1.st (pinned i pins)) 0 s2.st)) a w' := by
        obtain ⟨d1, d2, d3, d4, d5⟩ := PSt.store_eq s2 (mapM unpinM (wsOf s1.st (pinned i pins)) 0 s2.st)
        exact ⟨by rw [d1]; exact hR2.small, hR2.defers, by rw [d1]; exact hR2.size, by rw [d4, d3, mapM_len]; exact hR2.base, by rw [d2]; exact hR2.get, by rw [d3]; exact hmu, hR2.imm⟩
      obtain ⟨s3, h3, hs3, hr3⟩ := PSt.put_ok (G := G) h2
      obtain ⟨d1, d2, d3, d4, d5⟩ := PSt.store_eq s2 (mapM unpinM (wsOf s1.st (pinned i pins)) 0 s2.st)
      refine ⟨s3, I2, β2, h3, hr3 _ _ _ _ v hR3 hx, (Goes.same hs1).trans ⟨by rw [hs3.st, d3]; exact hE2, by rw [hs3.base, d4]; exact e1, by rw [hs3.rl, d5]; exact e2, by rw [hs3.n, d1]; exact e3, hlow⟩, fun y hy => (hkeep y hy).1, fun y hy => ?_⟩
      rw [hs3.st, d3]
      exact (hkeep y hy).2
  · obtain ⟨s3, h3, hs3, hr3⟩ := PSt.put_ok (G := G) h1
    refine .inr ⟨hw, s3, I, β, h3, hr3 _ _ _ _ _ hR1 Is.undef, (Goes.same hs1).trans (Goes.same hs3), fun y hy => ?_, ?_⟩
    · obtain ⟨hy, _⟩ := unpin_mem hy
      rcases hp y hy with h | ⟨g, h1, _⟩
      · exact h w
      · exact (h1 w).2 rfl
    · rw [hs3.st, hs1.st]; exact hp.unpin

theorem AnyP.addTrue {P : Program} {Q : Exit → Act → World → Prop} {i : Nat} : ∀ (f : Nat) (l : Array Bool) (a : Act) (S : World → Prop) (pins : List PinY), AnyP P ops Q f l a S pins → AnyP P ops Q f l a S (⟨i, [], fun _ => True⟩ :: pins)
  | 0, _, _, _, _, h => h
  | f + 1, l, a, S, pins, h => by
    have hun : ∀ j, unpin j (⟨i, [], fun _ => True⟩ :: pins) = ⟨i, [], fun _ => True⟩ :: unpin j pins := fun j => by
      unfold unpin; rw [List.filter_cons, if_pos (by simp)]
    refine ⟨h.1, fun j hj o ho => ?_⟩
    obtain ⟨h0, h1⟩ := h.2 j hj o ho
    rw [hun]
    refine ⟨fun hl => ?_, fun hl w hw => does_mono (fun v w' ⟨S', h2, h3, h4⟩ => ⟨S', fun p hp => ?_, h3, AnyP.addTrue f _ _ _ _ h4⟩) (h1 hl w hw)⟩
    · obtain ⟨v, hy, hn⟩ := h0 hl
      exact ⟨v, hy, AnyP.addTrue f _ _ _ _ hn⟩
    · rcases List.mem_cons.1 hp with rfl | hp
      · exact fun _ _ => trivial
      · exact h2 p hp
theorem resE_exists {P : Program} {K : Value → World → Prop} {r : Result Next} (h : Ev.resE P K r) : ∃ v w, K v w := by
  cases r with
  | ok n w =>
    cases n <;> simp only [Ev.resE] at h
    case value u => exact ⟨_, _, h⟩
    case skip => exact ⟨_, _, h⟩
    case enter f args =>
      obtain ⟨e, w', fr, ⟨u, _, hu⟩, _⟩ := h []
      exact ⟨_, _, hu⟩
  | halt x w => exact h.elim
theorem does_exists {P : Program} {o : Oper} {K : Value → World → Prop} (h : Ev.Does P ops o a w K) : ∃ v w', K v w' := by
  rcases h with ⟨_, h⟩ | ⟨_, h⟩
  · exact resE_exists h
  · exact ⟨_, _, h⟩
theorem AnyP.ends {P : Program} {Q : Exit → Act → World → Prop} : ∀ (f : Nat) (l : Array Bool) (a : Act) (S : World → Prop) (pins : List PinY) (w : World), AnyP P ops Q f l a S pins → S w → ∃ a' w', Q .normal a' w'
  | 0, l, a, S, _, w, h, hw => ⟨a, w, h.2 w hw⟩
  | f + 1, l, a, S, pins, w, h, hw => by
    cases hr : Region.ready .any ops l with
    | nil => exact ⟨a, w, h.1 hr w hw⟩
    | cons i r =>
      have hi : i ∈ Region.ready .any ops l := by rw [hr]; exact List.mem_cons_self
      obtain ⟨o, ho⟩ := Ev.ready_op hi
      obtain ⟨h0, h1⟩ := h.2 i hi o ho
      cases he : eff o.op with
      | false =>
        obtain ⟨v, _, hn⟩ := h0 he
        exact AnyP.ends f _ _ S _ w hn hw
      | true =>
        obtain ⟨v, w', S', _, hS', hn⟩ := does_exists (h1 he w hw)
        exact AnyP.ends f _ _ S' _ w' hn hS'
theorem okD_ok {listed : Array Bool} {i : Nat} {D : List Nat} (h : okD ops.toList listed i D = true) : ∀ j ∈ D, listed.getD j false = false ∧ ∃ oj, ops[j]? = some oj ∧ ∃ e ∈ oj.after, Region.binds .any e = true ∧ (e.on = i ∨ e.on ∈ D) := by
  intro j hj
  unfold okD at h
  rw [List.all_eq_true] at h
  have := h j hj
  simp only [Bool.and_eq_true, Bool.not_eq_true'] at this
  refine ⟨this.1, ?_⟩
  have h2 := this.2
  cases ho : ops.toList[j]? with
  | none => rw [ho] at h2; cases h2
  | some oj =>
    rw [ho] at h2
    simp only [List.any_eq_true, Bool.and_eq_true, Bool.or_eq_true] at h2
    obtain ⟨e, he, hb, h3⟩ := h2
    exact ⟨oj, by simpa using ho, e, by simpa using he, hb, h3.imp Nat.eq_of_beq_eq_true inL_iff.1⟩

theorem pdr_ok (hG : GOk G) (hsel : Region.noSelect ops = true) : ∀ (fuel : Nat) (Q : Exit → Act → World → Prop) (l : Array Bool) (s : PSt) (a : Act) (I : Nat → Prop) (β : Places) (w : World) (pins : List Pin) (ys : List PinY) (K : PSt → Prop),
    pdr G ops fuel l s pins K → Rel G I β s a w → PinsOk pins ys I β s.st w → (∀ s' I' β' a' w', K s' → Rel G I' β' s' a' w' → Goes I β s w I' β' s' w' → Q .normal a' w') → AnyP G.cx.P ops Q fuel l a (fun w2 => w2 = w) ys := by
  intro fuel
  induction fuel with
  | zero =>
    intro Q l s a I β w pins ys K h hR _ hQ
    unfold pdr at h
    obtain ⟨hr, h⟩ := bif_ok h
    exact ⟨by simpa using hr, fun w2 hw => by subst hw; exact hQ s I β a w2 h hR (Goes.same ⟨rfl, rfl, rfl, rfl⟩)⟩
  | succ fuel ih =>
    intro Q l s a I β w pins ys K h hR hp hQ
    unfold pdr at h
    split at h
    · rename_i hr
      exact ⟨fun _ w2 hw => by subst hw; exact hQ s I β a w2 h hR (Goes.same ⟨rfl, rfl, rfl, rfl⟩), fun i hi => by rw [hr] at hi; cases hi⟩
    · rename_i i0 more hrdy
      -- one that is taken ahead, and does nothing
      have skipped : ∀ {i : Nat} {o : Oper} {s1 : PSt}, ops[i]? = some o → eff o.op = false → Region.free .any ops l i = true → i ∈ Region.ready .any ops l → Region.wanted o (yielded ops a.tmps) = false → SameBut s s1 → Rel G I β s1 a w →
          (s1.put o.dst (.tup []) fun s => pdr G ops fuel (l.setIfInBounds i true) s pins K) → AnyP G.cx.P ops Q (fuel + 1) l a (fun w2 => w2 = w) ys := by
        intro i o s1 ho he hfree hmem hwant hs1 hR1 h1
        obtain ⟨s3, h3, hs3, hr3⟩ := PSt.put_ok (G := G) h1
        refine AnyP.first (v := undef) (D := []) (Y := fun _ => True) ho he hsel fuel l a _ ys (Region.free_spec ho hfree) (fun j hj => by cases hj) (.inr ⟨hwant, rfl⟩) (fun _ _ => trivial) hmem (AnyP.addTrue _ _ _ _ _ ?_)
        exact ih Q _ s3 _ I β w pins ys K h3 (hr3 _ _ _ _ _ hR1 Is.undef) (by rw [hs3.st, hs1.st]; exact hp) (fun s' I' β' a' w' hk hR' hg => hQ s' I' β' a' w' hk hR' (((Goes.same hs1).trans (Goes.same hs3)).trans hg))
      split at h
      · -- one that looks at no memory
        rename_i i hfirst
        obtain ⟨hmem, htake⟩ := Ev.firstOf_some hfirst
        rw [← hrdy] at hmem
        replace h := need_ok h
        obtain ⟨o, ho, h⟩ := h
        unfold pureTake at htake
        rw [ho] at htake
        simp only [Bool.and_eq_true] at htake
        have he : eff o.op = false := by unfold eff; rw [htake.1]; rfl
        rcases pguard_ok hR h with ⟨hwant, s1, h1, hs1, hR1⟩ | ⟨hwant, s1, h1, hs1, hR1⟩
        · obtain ⟨x, r, h1, hx, hrun⟩ := ppure_ok hG.ok hR1 h1
          obtain ⟨s3, h3, hs3, hr3⟩ := PSt.put_ok (G := G) h1
          refine AnyP.first (v := r) (D := []) (Y := fun _ => True) ho he hsel fuel l a _ ys (Region.free_spec ho htake.2) (fun j hj => by cases hj) (.inl ⟨hwant, fun w2 _ => hrun w2⟩) (fun _ _ => trivial) hmem (AnyP.addTrue _ _ _ _ _ ?_)
          exact ih Q _ s3 _ I β w pins ys K h3 (hr3 _ _ _ _ _ hR1 hx) (by rw [hs3.st, hs1.st]; exact hp) (fun s' I' β' a' w' hk hR' hg => hQ s' I' β' a' w' hk hR' (((Goes.same hs1).trans (Goes.same hs3)).trans hg))
        · exact skipped ho he htake.2 hmem hwant hs1 hR1 h1
      · split at h
        · -- a load
          rename_i i hfirst
          obtain ⟨hmem, htake⟩ := Ev.firstOf_some hfirst
          rw [← hrdy] at hmem
          replace h := need_ok h
          obtain ⟨o, ho, h⟩ := h
          replace h := bif_ok h
          obtain ⟨hD, h⟩ := h
          unfold loadTake at htake
          rw [ho] at htake
          simp only [Bool.and_eq_true] at htake
          have he : eff o.op = false := by unfold eff; rw [htake.1, Bool.or_true]; rfl
          rcases pguard_ok hR h with ⟨hwant, s1, h1, hs1, hR1⟩ | ⟨hwant, s1, h1, hs1, hR1⟩
          · split at h1
            · rename_i t ad hop
              replace h1 := PSt.ev_ok hR1 h1
              obtain ⟨x, h1, hx⟩ := h1
              obtain ⟨z, v, g, h1, hz, hg, hrun⟩ := pload_ok hG.ok hR1.heap hR1.imm h1 hx
              obtain ⟨s3, h3, hs3, hr3⟩ := PSt.put_ok (G := G) h1
              have hrun' : ∀ w2 : World, w2.heap[g]? = w.heap[g]? → (execOp a.eval o).run G.cx.P w2 = .ok (.value v) w2 := fun w2 hw2 => by
                unfold execOp
                rw [hop]
                simp only [Sem.run_bind, hrun w2 hw2, Result.andThen_ok, Sem.run_pure]
              have hgl : g < w.heap.size := by
                rcases hg with hg | ⟨l', b, p, o', _, hb, hlive, hpl, hpa⟩
                · exact hR.imm.imm g hg
                · exact hR1.heap.lives_lt ⟨l', b, p, o', hb, hlive, hpl, hpa⟩
              refine AnyP.first (v := v) (D := depsGo l i ops.toList 0 []) (Y := fun w2 => w2.heap[g]? = w.heap[g]?) ho he hsel fuel l a _ ys (Region.free_spec ho htake.2) (okD_ok hD) (.inl ⟨hwant, hrun'⟩) (fun w2 hw2 => by rw [hw2]) hmem ?_
              refine ih Q _ s3 _ I β w (addPin (depsGo l i ops.toList 0 []) x pins) _ K h3 (hr3 _ _ _ _ _ hR1 hz) ?_ (fun s' I' β' a' w' hk hR' hg => hQ s' I' β' a' w' hk hR' (((Goes.same hs1).trans (Goes.same hs3)).trans hg))
              rw [hs3.st, hs1.st]
              intro y hy
              rcases List.mem_cons.1 hy with rfl | hy
              · refine .inr ⟨g, fun _ => Iff.rfl, hgl, ?_⟩
                rcases hg with hg | ⟨l', b, p, o', hblk, hb, hlive, hpl, hpa⟩
                · exact .inl hg
                · refine .inr ⟨⟨depsGo l i ops.toList 0 [], l'⟩, by unfold addPin; rw [hblk]; exact List.mem_cons_self, rfl, b, p, o', by rw [← hs1.st]; exact hb, hlive, hpl, hpa⟩
              · rcases hp y hy with h | ⟨g', k1, k2, k3⟩
                · exact .inl h
                · refine .inr ⟨g', k1, k2, k3.imp id fun ⟨p, hpm, k4⟩ => ⟨p, ?_, k4⟩⟩
                  unfold addPin
                  split
                  · exact List.mem_cons_of_mem _ hpm
                  · exact hpm
            · exact h1.elim
          · exact skipped ho he htake.2 hmem hwant hs1 hR1 h1
        · -- operations that take effect
          replace h := need_ok h
          obtain ⟨o, ho, h⟩ := h
          replace h := bif_ok h
          obtain ⟨he, h⟩ := h
          have hne : Region.ready .any ops l ≠ [] := by rw [hrdy]; simp
          -- one of them, then the rest
          have go : ∀ {j : Nat} {oj : Oper} {K' : PSt → Prop}, ops[j]? = some oj → eff oj.op = true → (prun1 G ops.toList s j oj pins fun s1 => pdr G ops fuel (l.setIfInBounds j true) s1 (unpinP j pins) K') → (∀ sf, K' sf → K sf) →
              (eff oj.op = false → ∃ v, Yields G.cx.P ops (fun w2 => w2 = w) oj v a ∧ AnyP G.cx.P ops Q fuel (l.setIfInBounds j true) (a.put oj.dst v) (fun w2 => w2 = w) (unpin j ys)) ∧
              (eff oj.op = true → ∀ w2, w2 = w → Ev.Does G.cx.P ops oj a w2 fun v w' => ∃ S' : World → Prop, (∀ p ∈ unpin j ys, ∀ w, S' w → p.Y w) ∧ S' w' ∧ AnyP G.cx.P ops Q fuel (l.setIfInBounds j true) (a.put oj.dst v) S' (unpin j ys)) := by
            intro j oj K' hoj hej h' hK
            refine ⟨(fun e => by rw [hej] at e; cases e), fun _ w2 hw2 => ?_⟩
            subst hw2
            refine does_mono ?_ (prun1_ok hG h' hR hp)
            rintro v w' ⟨s', I', β', hk, hR', hg, hY, hp'⟩
            refine ⟨fun w2 => w2 = w', fun p hp w2 hw2 => by rw [hw2]; exact hY p hp, rfl, ?_⟩
            exact ih Q _ s' _ I' β' w' _ _ K' hk hR' hp' fun s2 I2 β2 a2 w3 hk2 hR2 hg2 => hQ s2 I2 β2 a2 w3 (hK s2 hk2) hR2 (hg.trans hg2)
          -- what the first order comes to
          obtain ⟨sf, hKf, hothers⟩ : ∃ sf, K sf ∧ ∀ j ∈ more, need ops[j]? fun oj => bif eff oj.op then prun1 G ops.toList s j oj pins fun s2 => pdr G ops fuel (l.setIfInBounds j true) s2 (unpinP j pins) fun sf2 => sf2 = sf else False := by
            obtain ⟨v, w', s', I', β', hk, hR', hg, hY, hp'⟩ := does_exists (prun1_ok hG h hR hp)
            have hA := ih (fun _ _ _ => ∃ sf, K sf ∧ ∀ j ∈ more, need ops[j]? fun oj => bif eff oj.op then prun1 G ops.toList s j oj pins fun s2 => pdr G ops fuel (l.setIfInBounds j true) s2 (unpinP j pins) fun sf2 => sf2 = sf else False) _ s' (a.put o.dst v) I' β' w' _ _ _ hk hR' hp' fun s2 I2 β2 a2 w3 hk2 _ _ => ⟨s2, hk2⟩
            obtain ⟨_, _, h3⟩ := AnyP.ends _ _ _ _ _ w' hA rfl
            exact h3
          refine ⟨fun e => absurd e hne, fun j hj oj hoj => ?_⟩
          rw [hrdy] at hj
          rcases List.mem_cons.1 hj with rfl | hj
          · rw [ho] at hoj
            cases hoj
            exact go ho he h fun _ hk => hk.1
          · have h2 := hothers j hj
            replace h2 := need_ok h2
            obtain ⟨oj', hoj', h2⟩ := h2
            rw [hoj] at hoj'
            cases hoj'
            replace h2 := bif_ok h2
            exact go hoj h2.1 h2.2 fun sf2 e => by rw [e]; exact hKf
end

end Go.Proofs.YtnjmfedleimlmaaDoor.Pw

/- Regions that draw their order, by a plan that is given. -/
namespace Go.Proofs.YtnjmfedleimlmaaDoor.Pw
open Go Go.RowKit

mutual
/-- in which order a region's operations are carried out: what looks at no memory; loads; what takes effect, and what else could come first -/
inductive Plan where
  | done
  | pure (i : Nat) (r : Plan)
  | load (i : Nat) (D : List Nat) (r : Plan)
  | eff (i : Nat) (r : Plan) (more : Plans)
inductive Plans where
  | nil
  | cons (j : Nat) (r : Plan) (more : Plans)
end
def natsB : List Nat → List Nat → Bool
  | [], [] => true
  | a :: l, b :: m => Nat.beq a b && natsB l m
  | _, _ => false
theorem natsB_ok : ∀ {l m : List Nat}, natsB l m = true → l = m
  | [], [], _ => rfl
  | a :: l, b :: m, h => by
    simp only [natsB, Bool.and_eq_true] at h
    rw [Nat.eq_of_beq_eq_true h.1, natsB_ok h.2]
  | [], _ :: _, h => by cases h
  | _ :: _, [], h => by cases h
def effAt (ops : Array Oper) (i : Nat) : Bool := match ops[i]? with
  | some o => eff o.op
  | none => false
def plansB (chk : Nat → Plan → Bool) : List Nat → Plans → Bool
  | [], .nil => true
  | j :: l, .cons k r ms => Nat.beq j k && chk j r && plansB chk l ms
  | _, _ => false
/-- is a plan the region's? -/
def planB (ops : Array Oper) : Nat → Array Bool → Plan → Bool
  | _, listed, .done => (Region.ready .any ops listed).isEmpty
  | 0, _, _ => false
  | fuel + 1, listed, .pure i r => (match Ev.firstOf (pureTake ops listed) (Region.ready .any ops listed) with
    | some k => Nat.beq k i && planB ops fuel (listed.setIfInBounds i true) r
    | none => false)
  | fuel + 1, listed, .load i D r => (match Ev.firstOf (loadTake ops listed) (Region.ready .any ops listed) with
    | some k => Nat.beq k i && natsB D (depsGo listed i ops.toList 0 []) && okD ops.toList listed i D && planB ops fuel (listed.setIfInBounds i true) r
    | none => false)
  | fuel + 1, listed, .eff i r ms => (match Region.ready .any ops listed with
    | i0 :: more => Nat.beq i0 i && effAt ops i && more.all (effAt ops) && planB ops fuel (listed.setIfInBounds i true) r && plansB (fun j r => planB ops fuel (listed.setIfInBounds j true) r) more ms
    | [] => false)
def mkPlans (mk : Nat → Option Plan) : List Nat → Option Plans
  | [] => some .nil
  | j :: l => match mk j, mkPlans mk l with
    | some r, some ms => some (.cons j r ms)
    | _, _ => none
/-- a region's plan -/
def mkPlan (ops : Array Oper) : Nat → Array Bool → Option Plan
  | fuel, listed => match Region.ready .any ops listed with
    | [] => some .done
    | i0 :: more => match fuel with
      | 0 => none
      | fuel + 1 => match Ev.firstOf (pureTake ops listed) (i0 :: more) with
        | some i => (mkPlan ops fuel (listed.setIfInBounds i true)).map (.pure i)
        | none => match Ev.firstOf (loadTake ops listed) (i0 :: more) with
          | some i => (mkPlan ops fuel (listed.setIfInBounds i true)).map (.load i (depsGo listed i ops.toList 0 []))
          | none => match mkPlan ops fuel (listed.setIfInBounds i0 true), mkPlans (fun j => mkPlan ops fuel (listed.setIfInBounds j true)) more with
            | some r, some ms => some (.eff i0 r ms)
            | _, _ => none
mutual
def runPlan (G : Gx) (ops : List Oper) : Plan → PSt → List Pin → (PSt → Prop) → Prop
  | .done, s, _, K => K s
  | .pure i r, s, pins, K => need ops[i]? fun o => pguard ops s o (fun s => ppure G.cx s o.op fun v => s.put o.dst v fun s => runPlan G ops r s pins K) (fun s => s.put o.dst (.tup []) fun s => runPlan G ops r s pins K)
  | .load i D r, s, pins, K => need ops[i]? fun o => pguard ops s o (fun s => match o.op with
      | .load t ad => s.ev ad fun x => pload G s.st t x fun v => s.put o.dst v fun s => runPlan G ops r s (addPin D x pins) K
      | _ => False) (fun s => s.put o.dst (.tup []) fun s => runPlan G ops r s pins K)
  | .eff i r ms, s, pins, K => need ops[i]? fun o => match ms with
    | .nil => prun1 G ops s i o pins fun s1 => runPlan G ops r s1 (unpinP i pins) K
    | .cons j r' ms' => prun1 G ops s i o pins fun s1 => runPlan G ops r s1 (unpinP i pins) fun sf => K sf ∧ (need ops[j]? fun o => prun1 G ops s j o pins fun s2 => runPlan G ops r' s2 (unpinP j pins) fun sf2 => sf2 = sf) ∧ runPlans G ops ms' s pins sf
def runPlans (G : Gx) (ops : List Oper) : Plans → PSt → List Pin → PSt → Prop
  | .nil, _, _, _ => True
  | .cons j r ms, s, pins, sf => (need ops[j]? fun o => prun1 G ops s j o pins fun s2 => runPlan G ops r s2 (unpinP j pins) fun sf2 => sf2 = sf) ∧ runPlans G ops ms s pins sf
end

section
variable {w w' : World} {I I' : Nat → Prop} {β β' : Places} {G : Gx} {s : PSt} {a : Act} {st st' : List PBlk} {ops : Array Oper}

theorem plansB_mem {chk : Nat → Plan → Bool} : ∀ {l : List Nat} {ms : Plans}, plansB chk l ms = true → ∀ {pins : List Pin} {sf : PSt}, runPlans G ops.toList ms s pins sf → ∀ j ∈ l, ∃ r, chk j r = true ∧ need ops.toList[j]? fun o => prun1 G ops.toList s j o pins fun s2 => runPlan G ops.toList r s2 (unpinP j pins) fun sf2 => sf2 = sf
  | [], _, _, _, _, _, _, hj => by cases hj
  | i :: l, .nil, h, _, _, _, _, _ => by cases h
  | i :: l, .cons k r ms, h, pins, sf, hr, j, hj => by
    simp only [plansB, Bool.and_eq_true] at h
    obtain ⟨⟨h1, h2⟩, h3⟩ := h
    obtain rfl := Nat.eq_of_beq_eq_true h1
    unfold runPlans at hr
    rcases List.mem_cons.1 hj with rfl | hj
    · exact ⟨r, h2, hr.1⟩
    · exact plansB_mem h3 hr.2 j hj
theorem effAt_ok {i : Nat} {o : Oper} (ho : ops[i]? = some o) (h : effAt ops i = true) : eff o.op = true := by unfold effAt at h; rw [ho] at h; exact h

theorem runPlan_ok (hG : GOk G) (hsel : Region.noSelect ops = true) : ∀ (fuel : Nat) (p : Plan) (Q : Exit → Act → World → Prop) (l : Array Bool) (s : PSt) (a : Act) (I : Nat → Prop) (β : Places) (w : World) (pins : List Pin) (ys : List PinY) (K : PSt → Prop),
    planB ops fuel l p = true → runPlan G ops.toList p s pins K → Rel G I β s a w → PinsOk pins ys I β s.st w → (∀ s' I' β' a' w', K s' → Rel G I' β' s' a' w' → Goes I β s w I' β' s' w' → Q .normal a' w') → AnyP G.cx.P ops Q fuel l a (fun w2 => w2 = w) ys := by
  intro fuel
  have fin : ∀ (fuel : Nat) (Q : Exit → Act → World → Prop) (l : Array Bool) (s : PSt) (a : Act) (I : Nat → Prop) (β : Places) (w : World) (ys : List PinY) (K : PSt → Prop), (Region.ready .any ops l).isEmpty = true → K s → Rel G I β s a w → (∀ s' I' β' a' w', K s' → Rel G I' β' s' a' w' → Goes I β s w I' β' s' w' → Q .normal a' w') → AnyP G.cx.P ops Q fuel l a (fun w2 => w2 = w) ys := by
    intro fuel Q l s a I β w ys K hr h hR hQ
    have hr' : Region.ready .any ops l = [] := by simpa using hr
    cases fuel with
    | zero => exact ⟨hr', fun w2 hw => by subst hw; exact hQ s I β a w2 h hR (Goes.same ⟨rfl, rfl, rfl, rfl⟩)⟩
    | succ fuel => exact ⟨fun _ w2 hw => by subst hw; exact hQ s I β a w2 h hR (Goes.same ⟨rfl, rfl, rfl, rfl⟩), fun i hi => by rw [hr'] at hi; cases hi⟩
  induction fuel with
  | zero =>
    intro p Q l s a I β w pins ys K hp h hR _ hQ
    cases p with
    | done => exact fin 0 Q l s a I β w ys K (by simpa only [planB] using hp) (by simpa only [runPlan] using h) hR hQ
    | pure => simp [planB] at hp
    | load => simp [planB] at hp
    | eff => simp [planB] at hp
  | succ fuel ih =>
    intro p Q l s a I β w pins ys K hp h hR hpo hQ
    cases p with
    | done => exact fin (fuel + 1) Q l s a I β w ys K (by simpa only [planB] using hp) (by simpa only [runPlan] using h) hR hQ
    | pure i r =>
      simp only [planB] at hp
      split at hp
      · rename_i k hfirst
        simp only [Bool.and_eq_true] at hp
        obtain ⟨hk, hp⟩ := hp
        obtain rfl := Nat.eq_of_beq_eq_true hk
        obtain ⟨hmem, htake⟩ := Ev.firstOf_some hfirst
        unfold runPlan at h
        replace h := need_ok h
        obtain ⟨o, ho, h⟩ := h
        rw [Array.getElem?_toList] at ho
        unfold pureTake at htake
        rw [ho] at htake
        simp only [Bool.and_eq_true] at htake
        have he : eff o.op = false := by unfold eff; rw [htake.1]; rfl
        rcases pguard_ok hR h with ⟨hwant, s1, h1, hs1, hR1⟩ | ⟨hwant, s1, h1, hs1, hR1⟩
        · obtain ⟨x, v, h1, hx, hrun⟩ := ppure_ok hG.ok hR1 h1
          obtain ⟨s3, h3, hs3, hr3⟩ := PSt.put_ok (G := G) h1
          refine AnyP.first (v := v) (D := []) (Y := fun _ => True) ho he hsel fuel l a _ ys (Region.free_spec ho htake.2) (fun j hj => by cases hj) (.inl ⟨hwant, fun w2 _ => hrun w2⟩) (fun _ _ => trivial) hmem (AnyP.addTrue _ _ _ _ _ ?_)
          exact ih r Q _ s3 _ I β w pins ys K hp h3 (hr3 _ _ _ _ _ hR1 hx) (by rw [hs3.st, hs1.st]; exact hpo) (fun s' I' β' a' w' hk hR' hg => hQ s' I' β' a' w' hk hR' (((Goes.same hs1).trans (Goes.same hs3)).trans hg))
        · obtain ⟨s3, h3, hs3, hr3⟩ := PSt.put_ok (G := G) h1
          refine AnyP.first (v := undef) (D := []) (Y := fun _ => True) ho he hsel fuel l a _ ys (Region.free_spec ho htake.2) (fun j hj => by cases hj) (.inr ⟨hwant, rfl⟩) (fun _ _ => trivial) hmem (AnyP.addTrue _ _ _ _ _ ?_)
          exact ih r Q _ s3 _ I β w pins ys K hp h3 (hr3 _ _ _ _ _ hR1 Is.undef) (by rw [hs3.st, hs1.st]; exact hpo) (fun s' I' β' a' w' hk hR' hg => hQ s' I' β' a' w' hk hR' (((Goes.same hs1).trans (Goes.same hs3)).trans hg))
      · cases hp
    | load i D r =>
      simp only [planB] at hp
      split at hp
      · rename_i k hfirst
        simp only [Bool.and_eq_true] at hp
        obtain ⟨⟨⟨hk, hDe⟩, hD⟩, hp⟩ := hp
        obtain rfl := Nat.eq_of_beq_eq_true hk
        obtain ⟨hmem, htake⟩ := Ev.firstOf_some hfirst
        unfold runPlan at h
        replace h := need_ok h
        obtain ⟨o, ho, h⟩ := h
        rw [Array.getElem?_toList] at ho
        unfold loadTake at htake
        rw [ho] at htake
        simp only [Bool.and_eq_true] at htake
        have he : eff o.op = false := by unfold eff; rw [htake.1, Bool.or_true]; rfl
        rcases pguard_ok hR h with ⟨hwant, s1, h1, hs1, hR1⟩ | ⟨hwant, s1, h1, hs1, hR1⟩
        · split at h1
          · rename_i t ad hop
            replace h1 := PSt.ev_ok hR1 h1
            obtain ⟨x, h1, hx⟩ := h1
            obtain ⟨z, v, g, h1, hz, hg, hrun⟩ := pload_ok hG.ok hR1.heap hR1.imm h1 hx
            obtain ⟨s3, h3, hs3, hr3⟩ := PSt.put_ok (G := G) h1
            have hrun' : ∀ w2 : World, w2.heap[g]? = w.heap[g]? → (execOp a.eval o).run G.cx.P w2 = .ok (.value v) w2 := fun w2 hw2 => by
              unfold execOp
              rw [hop]
              simp only [Sem.run_bind, hrun w2 hw2, Result.andThen_ok, Sem.run_pure]
            have hgl : g < w.heap.size := by
              rcases hg with hg | ⟨l', b, p, o', _, hb, hlive, hpl, hpa⟩
              · exact hR.imm.imm g hg
              · exact hR1.heap.lives_lt ⟨l', b, p, o', hb, hlive, hpl, hpa⟩
            refine AnyP.first (v := v) (D := D) (Y := fun w2 => w2.heap[g]? = w.heap[g]?) ho he hsel fuel l a _ ys (Region.free_spec ho htake.2) (okD_ok hD) (.inl ⟨hwant, hrun'⟩) (fun w2 hw2 => by rw [hw2]) hmem ?_
            refine ih r Q _ s3 _ I β w (addPin D x pins) _ K hp h3 (hr3 _ _ _ _ _ hR1 hz) ?_ (fun s' I' β' a' w' hk hR' hg => hQ s' I' β' a' w' hk hR' (((Goes.same hs1).trans (Goes.same hs3)).trans hg))
            rw [hs3.st, hs1.st]
            intro y hy
            rcases List.mem_cons.1 hy with rfl | hy
            · refine .inr ⟨g, fun _ => Iff.rfl, hgl, ?_⟩
              rcases hg with hg | ⟨l', b, p, o', hblk, hb, hlive, hpl, hpa⟩
              · exact .inl hg
              · refine .inr ⟨⟨D, l'⟩, by unfold addPin; rw [hblk]; exact List.mem_cons_self, rfl, b, p, o', by rw [← hs1.st]; exact hb, hlive, hpl, hpa⟩
            · rcases hpo y hy with h | ⟨g', k1, k2, k3⟩
              · exact .inl h
              · refine .inr ⟨g', k1, k2, k3.imp id fun ⟨p, hpm, k4⟩ => ⟨p, ?_, k4⟩⟩
                unfold addPin
                split
                · exact List.mem_cons_of_mem _ hpm
                · exact hpm
          · exact h1.elim
        · obtain ⟨s3, h3, hs3, hr3⟩ := PSt.put_ok (G := G) h1
          refine AnyP.first (v := undef) (D := []) (Y := fun _ => True) ho he hsel fuel l a _ ys (Region.free_spec ho htake.2) (fun j hj => by cases hj) (.inr ⟨hwant, rfl⟩) (fun _ _ => trivial) hmem (AnyP.addTrue _ _ _ _ _ ?_)
          exact ih r Q _ s3 _ I β w pins ys K hp h3 (hr3 _ _ _ _ _ hR1 Is.undef) (by rw [hs3.st, hs1.st]; exact hpo) (fun s' I' β' a' w' hk hR' hg => hQ s' I' β' a' w' hk hR' (((Goes.same hs1).trans (Goes.same hs3)).trans hg))
      · cases hp
    | eff i r ms =>
      simp only [planB] at hp
      split at hp
      · rename_i i0 more hrdy
        simp only [Bool.and_eq_true] at hp
        obtain ⟨⟨⟨⟨hk, hei⟩, hem⟩, hpr⟩, hpm⟩ := hp
        obtain rfl := Nat.eq_of_beq_eq_true hk
        rw [List.all_eq_true] at hem
        unfold runPlan at h
        replace h := need_ok h
        obtain ⟨o, ho, h⟩ := h
        rw [Array.getElem?_toList] at ho
        have he := effAt_ok ho hei
        have hne : Region.ready .any ops l ≠ [] := by rw [hrdy]; simp
        -- one of them, then the rest
        have go : ∀ {j : Nat} {oj : Oper} {rj : Plan} {K' : PSt → Prop}, planB ops fuel (l.setIfInBounds j true) rj = true → ops[j]? = some oj → eff oj.op = true → (prun1 G ops.toList s j oj pins fun s1 => runPlan G ops.toList rj s1 (unpinP j pins) K') → (∀ sf, K' sf → K sf) →
            (eff oj.op = false → ∃ v, Yields G.cx.P ops (fun w2 => w2 = w) oj v a ∧ AnyP G.cx.P ops Q fuel (l.setIfInBounds j true) (a.put oj.dst v) (fun w2 => w2 = w) (unpin j ys)) ∧
            (eff oj.op = true → ∀ w2, w2 = w → Ev.Does G.cx.P ops oj a w2 fun v w' => ∃ S' : World → Prop, (∀ p ∈ unpin j ys, ∀ w, S' w → p.Y w) ∧ S' w' ∧ AnyP G.cx.P ops Q fuel (l.setIfInBounds j true) (a.put oj.dst v) S' (unpin j ys)) := by
          intro j oj rj K' hpj hoj hej h' hK
          refine ⟨(fun e => by rw [hej] at e; cases e), fun _ w2 hw2 => ?_⟩
          subst hw2
          refine does_mono ?_ (prun1_ok hG h' hR hpo)
          rintro v w' ⟨s', I', β', hk, hR', hg, hY, hp'⟩
          refine ⟨fun w2 => w2 = w', fun p hp w2 hw2 => by rw [hw2]; exact hY p hp, rfl, ?_⟩
          exact ih rj Q _ s' _ I' β' w' _ _ K' hpj hk hR' hp' fun s2 I2 β2 a2 w3 hk2 hR2 hg2 => hQ s2 I2 β2 a2 w3 (hK s2 hk2) hR2 (hg.trans hg2)
        cases ms with
        | nil =>
          cases more with
          | cons => simp [plansB] at hpm
          | nil =>
            refine ⟨fun e => absurd e hne, fun j hj oj hoj => ?_⟩
            rw [hrdy, List.mem_singleton] at hj
            subst hj
            rw [ho] at hoj
            cases hoj
            exact go hpr ho he h fun _ hk => hk
        | cons j0 r0 ms0 =>
          have hall : ∀ sf, ((need ops.toList[j0]? fun o => prun1 G ops.toList s j0 o pins fun s2 => runPlan G ops.toList r0 s2 (unpinP j0 pins) fun sf2 => sf2 = sf) ∧ runPlans G ops.toList ms0 s pins sf) → runPlans G ops.toList (.cons j0 r0 ms0) s pins sf := fun sf h => by unfold runPlans; exact h
          -- what the first order comes to
          obtain ⟨sf, hKf, hothers⟩ : ∃ sf, K sf ∧ runPlans G ops.toList (.cons j0 r0 ms0) s pins sf := by
            obtain ⟨v, w', s', I', β', hk, hR', hg, hY, hp'⟩ := does_exists (prun1_ok hG h hR hpo)
            have hA := ih r (fun _ _ _ => ∃ sf, K sf ∧ runPlans G ops.toList (.cons j0 r0 ms0) s pins sf) _ s' (a.put o.dst v) I' β' w' _ _ _ hpr hk hR' hp' fun s2 I2 β2 a2 w3 hk2 _ _ => ⟨s2, hk2.1, hall _ hk2.2⟩
            obtain ⟨_, _, h3⟩ := AnyP.ends _ _ _ _ _ w' hA rfl
            exact h3
          refine ⟨fun e => absurd e hne, fun j hj oj hoj => ?_⟩
          rw [hrdy] at hj
          rcases List.mem_cons.1 hj with rfl | hj
          · rw [ho] at hoj
            cases hoj
            exact go hpr ho he h fun _ hk => hk.1
          · obtain ⟨rj, hrj, h2⟩ := plansB_mem hpm hothers j hj
            replace h2 := need_ok h2
            obtain ⟨oj', hoj', h2⟩ := h2
            rw [Array.getElem?_toList, hoj] at hoj'
            cases hoj'
            exact go hrj hoj (effAt_ok hoj (hem j hj)) h2 fun sf2 e => by rw [e]; exact hKf
      · cases hp
end

end Go.Proofs.YtnjmfedleimlmaaDoor.Pw

/- Code, and calls from their arguments, as the evaluator says; loops. -/
namespace Go.Proofs.YtnjmfedleimlmaaDoor.Pw
open Go Go.RowKit

/-! ### code -/
def seqK (k : PSt → Prop) (Q : X → PSt → Prop) (x : X) (s : PSt) : Prop := match x with
  | .nml => k s
  | x => Q x s
def blockK (id : Nat) (Q : X → PSt → Prop) (x : X) (s : PSt) : Prop := match x with
  | .exit j => bif Nat.beq j id then Q .nml s else Q (.exit j) s
  | x => Q x s
def condK (s : PSt) (c : Operand) (t e : PSt → Prop) : Prop := s.ev c fun x => match x with
  | .tt => t s
  | .ff => e s
  | .bool p => (match c with
    | .tmp i => (p → s.put (some i) .tt t) ∧ (¬ p → s.put (some i) .ff e)
    | _ => (p → t s) ∧ (¬ p → e s))
  | _ => False
/-- the plans are those of the code's regions -/
def planAll (R : List (Nat × Plan)) : Code → Bool
  | .region id ops true => (match Ev.lkT id R with
    | some p => Region.noSelect ops && planB ops ops.size (Array.replicate ops.size false) p
    | none => true)
  | .seq a b => planAll R a && planAll R b
  | .cond _ a b => planAll R a && planAll R b
  | .block _ c => planAll R c
  | .scope c => planAll R c
  | .loop c => planAll R c
  | _ => true
def pw (G : Gx) (R : List (Nat × Plan)) : Nat → Code → (X → PSt → Prop) → PSt → Prop
  | 0, _, _, _ => False
  | n + 1, c, Q, s => match c with
    | .skip | .label _ => Q .nml s
    | .ret => Q .ret s
    | .exit id => Q (.exit id) s
    | .seq a b => pw G R n a (seqK (pw G R n b Q) Q) s
    | .cond c a b => condK s c (pw G R n a Q) (pw G R n b Q)
    | .block id c => pw G R n c (blockK id Q) s
    | .scope c => pw G R n c Q s
    | .loop c => SW G (.loop c) Q s
    | .region id ops draw => (match draw with
      | true => need (Ev.lkT id R) fun p => runPlan G ops.toList p s [] (Q .nml)
      | false => pops G ops.toList Q ops.toList s)
    | _ => False

section
variable {w w' : World} {I I' : Nat → Prop} {β β' : Places} {G : Gx} {s : PSt} {a : Act} {st st' : List PBlk}

theorem Post.of {Q : X → PSt → Prop} {x : X} {s' : PSt} {w0 : World} (hq : Q x s') {a' : Act} (hR : Rel G I' β' s' a' w') (hg : Goes I β s w0 I' β' s' w') : Post G s I β w0 Q (X.e x) a' w' :=
  ⟨x, s', I', β', rfl, hq, hR, hg.ext, hg.base, hg.rl, hg.n, hg.low⟩
theorem Post.goes {Q : X → PSt → Prop} {e : Exit} {a' : Act} (h : Post G s I β w Q e a' w') : ∃ x s' I' β', e = X.e x ∧ Q x s' ∧ Rel G I' β' s' a' w' ∧ Goes I β s w I' β' s' w' :=
  let ⟨x, s', I', β', he, hq, hR, h1, h2, h3, h4, h5⟩ := h; ⟨x, s', I', β', he, hq, hR, h1, h2, h3, h4, h5⟩
theorem SW.intro {c : Code} {Q : X → PSt → Prop} (h : ∀ I β a w, Rel G I β s a w → c.wp G.cx.P (Post G s I β w Q) a w) : SW G c Q s := by unfold SW; exact h
theorem SW.run {c : Code} {Q : X → PSt → Prop} (h : SW G c Q s) (hR : Rel G I β s a w) : c.wp G.cx.P (Post G s I β w Q) a w := by unfold SW at h; exact h I β a w hR
/-- from where one is already -/
theorem SW.from {c : Code} {Q : X → PSt → Prop} {s0 : PSt} {I0 : Nat → Prop} {β0 : Places} {w0 : World} (h : SW G c Q s) (hR : Rel G I β s a w) (hg : Goes I0 β0 s0 w0 I β s w) : c.wp G.cx.P (Post G s0 I0 β0 w0 Q) a w :=
  wp_mono (h.run hR) fun e a' w' hp => by
    obtain ⟨x, s', I', β', rfl, hq, hR', hg'⟩ := hp.goes
    exact Post.of hq hR' (hg.trans hg')
theorem Ext.ofHeap (hh : w'.heap = w.heap) (h1 : w'.os = w.os) (h2 : w'.tape = w.tape) (h3 : w'.output = w.output) : Ext I β st w I β st w' :=
  ⟨h1, h2, h3, by rw [hh]; exact Nat.le_refl _, fun g _ _ => by rw [hh], fun _ _ h => h, fun _ h => h, fun _ _ h => .inl h⟩
theorem HeapOk.ofHeap (h : HeapOk I β st w) (hh : w'.heap = w.heap) : HeapOk I β st w' :=
  ⟨h.far, fun l b hl hlive => (h.blk l b hl hlive).mono (fun _ h => h) (fun _ _ => by rw [hh]) (fun _ _ h => h) fun p g o hp ha => ⟨by rw [hh], fun hr => by
    obtain ⟨_, _, fr, _, ho⟩ := (h.blk l b hl hlive).place hp ha
    exact ⟨(ho.1 hr).2.1, (ho.1 hr).2.2⟩⟩⟩
theorem store_self (s : PSt) : s.store s.st = s := by cases s; rfl
theorem Rel.ofHeap (hR : Rel G I β s a w) (hh : w'.heap = w.heap) (h1 : w'.os = w.os) (h2 : w'.tape = w.tape) (h3 : w'.output = w.output) : Rel G I β s a w' := by
  have := hR.grow (hR.heap.ofHeap hh) (Ext.ofHeap hh h1 h2 h3) (fun _ _ h => h) (Nat.le_refl _) (fun g hg => by rw [hh]; exact hR.imm.imm g hg)
  rwa [store_self] at this

theorem condK_ok {c : Operand} {t e : PSt → Prop} (hR : Rel G I β s a w) (h : condK s c t e) : ∃ b s', a.eval c = .bool b ∧ (if b then t s' else e s') ∧ SameBut s s' ∧ Rel G I β s' a w := by
  have same : SameBut s s := ⟨rfl, rfl, rfl, rfl⟩
  unfold condK at h
  cases c with
  | tmp i =>
    replace h := need_ok h
    obtain ⟨x, hx, h⟩ := h
    obtain ⟨v, hv, hi⟩ := hR.get i x hx
    have he : a.eval (.tmp i) = v := by simp only [Act.eval, Array.getD_eq_getD_getElem?, hv, Option.getD_some]
    rw [he]
    split at h <;> try simp only [PV.Is] at hi
    · exact ⟨true, s, hi, h, same, hR⟩
    · exact ⟨false, s, hi, h, same, hR⟩
    · rename_i p
      by_cases hp : p
      · obtain ⟨s', hk, hs, hr⟩ := PSt.refine_ok hR hv (x := .tt) (by rw [hi, pb_true hp]; exact Is.tt) (h.1 hp)
        exact ⟨true, s', by rw [hi, pb_true hp], hk, hs, hr⟩
      · obtain ⟨s', hk, hs, hr⟩ := PSt.refine_ok hR hv (x := .ff) (by rw [hi, pb_false hp]; exact Is.ff) (h.2 hp)
        exact ⟨false, s', by rw [hi, pb_false hp], hk, hs, hr⟩
    · exact h.elim
  | _ =>
    replace h := PSt.ev_ok hR h
    obtain ⟨x, h, hx⟩ := h
    split at h <;> try simp only [PV.Is] at hx
    · exact ⟨true, s, hx, h, same, hR⟩
    · exact ⟨false, s, hx, h, same, hR⟩
    · rename_i p
      by_cases hp : p
      · exact ⟨true, s, by rw [hx, pb_true hp], h.1 hp, same, hR⟩
      · exact ⟨false, s, by rw [hx, pb_false hp], h.2 hp, same, hR⟩
    · exact h.elim

theorem pw_ok (hG : GOk G) {R : List (Nat × Plan)} : ∀ (n : Nat) (c : Code) (Q : X → PSt → Prop) (s : PSt), planAll R c = true → pw G R n c Q s → SW G c Q s
  | 0, _, _, _, _, h => h.elim
  | n + 1, c, Q, s, hc, h => by
    cases c with
    | skip => exact SW.intro fun I β a w hR => wp_skip (Post.of (x := .nml) h hR (Goes.same ⟨rfl, rfl, rfl, rfl⟩))
    | label l => exact SW.intro fun I β a w hR => wp_label (Post.of (x := .nml) h hR (Goes.same ⟨rfl, rfl, rfl, rfl⟩))
    | ret => exact SW.intro fun I β a w hR => wp_ret (Post.of (x := .ret) h hR (Goes.same ⟨rfl, rfl, rfl, rfl⟩))
    | exit id => exact SW.intro fun I β a w hR => wp_exit (Post.of (x := .exit id) h hR (Goes.same ⟨rfl, rfl, rfl, rfl⟩))
    | seq x y =>
      simp only [planAll, Bool.and_eq_true] at hc
      have h1 := pw_ok hG n x _ s hc.1 h
      refine SW.intro fun I β a w hR => wp_seq (wp_mono (h1.run hR) fun e a' w' hp => ?_)
      obtain ⟨x', s', I', β', rfl, hq, hR', hg⟩ := hp.goes
      cases x' with
      | nml => exact (pw_ok hG n y Q s' hc.2 hq).from hR' hg
      | exit id => exact Post.of (Q := Q) (x := .exit id) hq hR' hg
      | ret => exact Post.of (Q := Q) (x := .ret) hq hR' hg
    | cond c x y =>
      simp only [planAll, Bool.and_eq_true] at hc
      refine SW.intro fun I β a w hR => ?_
      obtain ⟨b, s', he, hk, hs, hR'⟩ := condK_ok hR h
      refine wp_cond he ?_
      cases b with
      | true => exact (pw_ok hG n x Q s' hc.1 hk).from hR' (Goes.same hs)
      | false => exact (pw_ok hG n y Q s' hc.2 hk).from hR' (Goes.same hs)
    | block id c =>
      have h1 := pw_ok hG n c _ s hc h
      refine SW.intro fun I β a w hR => wp_block (wp_mono (h1.run hR) fun e a' w' hp => ?_)
      obtain ⟨x', s', I', β', rfl, hq, hR', hg⟩ := hp.goes
      cases x' with
      | nml => exact Post.of (Q := Q) (x := .nml) hq hR' hg
      | exit j =>
        show Exit.inBlock id _ (.exit j) a' w'
        simp only [Exit.inBlock]
        by_cases hj : j = id
        · subst hj
          rw [if_pos rfl]
          have hq' : Q .nml s' := by simpa [blockK, Nat.beq_refl] using hq
          exact Post.of (x := .nml) hq' hR' hg
        · have hb' : Nat.beq j id = false := by rw [Bool.eq_false_iff]; exact fun e => hj (Nat.eq_of_beq_eq_true e)
          rw [if_neg hj]
          have hq' : Q (.exit j) s' := by simpa [blockK, hb'] using hq
          exact Post.of (x := .exit j) hq' hR' hg
      | ret => exact Post.of (Q := Q) (x := .ret) hq hR' hg
    | scope c =>
      have h1 := pw_ok hG n c _ s hc h
      refine SW.intro fun I β a w hR => wp_scope_straight (wp_mono (h1.run hR) fun e a' w' hp => ?_)
      obtain ⟨x', s', I', β', rfl, hq, hR', hg⟩ := hp.goes
      cases x' with
      | nml => exact Post.of (Q := Q) (x := .nml) hq hR' hg
      | exit j => exact Post.of (Q := Q) (x := .exit j) hq hR' hg
      | ret => exact Post.of (Q := Q) (x := .ret) hq hR' hg
    | loop c => exact h
    | region id ops draw =>
      refine SW.intro fun I β a w hR => ?_
      cases draw with
      | true =>
        obtain ⟨p, hp, h⟩ := need_ok h
        unfold planAll at hc
        rw [hp] at hc
        simp only [Bool.and_eq_true] at hc
        have hR' : Rel G I β s a { w with drawn := w.drawn + 1 } := hR.ofHeap rfl rfl rfl rfl
        have hd : Goes I β s w I β s { w with drawn := w.drawn + 1 } := ⟨Ext.ofHeap rfl rfl rfl rfl, rfl, rfl, rfl, fun _ _ _ => rfl⟩
        have hA := runPlan_ok hG hc.1 ops.size p (Post G s I β w Q) _ s a I β _ [] [] _ hc.2 h hR' (fun y hy => by cases hy) fun s' I' β' a' w' hk hR2 hg => Post.of (Q := Q) (x := .nml) hk hR2 (hd.trans hg)
        exact wp_region_any hG.ok.mix (AnyP.sound _ _ _ _ _ _ hA rfl)
      | false => exact wp_region_list (pops_ok hG _ h hR fun x s' I' β' a' w' hq hR' hg => Post.of hq hR' hg)
    | _ => exact h.elim

/-! ### loops -/
def backK (k : PSt → Prop) (Q : X → PSt → Prop) (x : X) (s : PSt) : Prop := match x with
  | .nml => k s
  | x => Q x s
/-- a loop of no more than n rounds -/
def rnd (G : Gx) (R : List (Nat × Plan)) (N : Nat) (c : Code) (Q : X → PSt → Prop) : Nat → PSt → Prop
  | 0, _ => False
  | n + 1, s => pw G R N c (backK (rnd G R N c Q n) Q) s
theorem SW.rounds (hG : GOk G) (R : List (Nat × Plan)) {N : Nat} {c : Code} {Q : X → PSt → Prop} (hc : planAll R c = true) (n : Nat) (h : rnd G R N c Q n s) : SW G (.loop c) Q s := by
  have key : ∀ (n : Nat) (s0 s : PSt) (I0 I : Nat → Prop) (β0 β : Places) (w0 w : World) (a : Act), rnd G R N c Q n s → Rel G I β s a w → Goes I0 β0 s0 w0 I β s w → Code.rounds G.cx.P c (Post G s0 I0 β0 w0 Q) n a w := by
    intro n
    induction n with
    | zero => intro s0 s I0 I β0 β w0 w a h _ _; exact h.elim
    | succ n ih =>
      intro s0 s I0 I β0 β w0 w a h hR hg
      rw [rounds_succ]
      refine wp_mono ((pw_ok hG N c _ s hc h).run hR) fun e a' w' hp => ?_
      obtain ⟨x', s', I', β', rfl, hq, hR', hg'⟩ := hp.goes
      cases x' with
      | nml => exact ih s0 s' I0 I' β0 β' w0 w' a' hq hR' (hg.trans hg')
      | exit id => exact Post.of (Q := Q) (x := .exit id) hq hR' (hg.trans hg')
      | ret => exact Post.of (Q := Q) (x := .ret) hq hR' (hg.trans hg')
  exact SW.intro fun I β a w hR => wp_loop_rounds n (key n s s I I β β w w a h hR (Goes.same ⟨rfl, rfl, rfl, rfl⟩))
/-- a state says no more than another one -/
def Sub (G : Gx) (s s' : PSt) : Prop := ∀ I β a w, Rel G I β s a w → ∃ I' β', Rel G I' β' s' a w ∧ Goes I β s w I' β' s' w
theorem Sub.refl : Sub G s s := fun I β _ _ hR => ⟨I, β, hR, Goes.same ⟨rfl, rfl, rfl, rfl⟩⟩
/-- a loop by what holds at its head: the states inv, of which each round leads to one whose measure is less -/
theorem SW.inv (hG : GOk G) {R : List (Nat × Plan)} {α : Type} (inv : α → PSt) (μ : α → Nat) {N : Nat} {c : Code} {Q : X → PSt → Prop} (hc : planAll R c = true) (x0 : α) (h0 : Sub G s (inv x0)) (K : α → PSt → Prop) (hK : ∀ x s', K x s' → ∃ y, μ y < μ x ∧ Sub G s' (inv y))
    (h : ∀ x, pw G R N c (backK (K x) Q) (inv x)) : SW G (.loop c) Q s := by
  refine SW.intro fun I0 β0 a w hR => ?_
  obtain ⟨I, β, hR1, hg1⟩ := h0 I0 β0 a w hR
  let J : Nat → Act → World → Prop := fun m a w' => ∃ x I β, μ x = m ∧ Rel G I β (inv x) a w' ∧ Goes I0 β0 s w I β (inv x) w'
  have key : ∀ (m : Nat) (a : Act) (w' : World), J m a w' → ∀ (b : Frame) (k : List Item) (cs : List Frame), ∃ e a' w'', Post G s I0 β0 w Q e a' w'' ∧ Arrives G.cx.P (lone (b.at a (.code c :: .inLoop c :: k)) cs w') b k cs e a' w'' := by
    intro m
    induction m using Nat.strongRecOn with
    | _ m ih =>
      rintro a w' ⟨x, I, β, hx, hR, hg⟩ b k cs
      obtain ⟨e, a₁, w₁, hp, harr⟩ := (pw_ok hG N c _ _ hc (h x)).run hR b (.inLoop c :: k) cs
      obtain ⟨x', s', I', β', rfl, hq, hR', hg'⟩ := hp.goes
      cases x' with
      | nml =>
        obtain ⟨y, hy, hs⟩ := hK x s' hq
        obtain ⟨I2, β2, hR2, hg2⟩ := hs I' β' a₁ w₁ hR'
        obtain ⟨e₂, a₂, w₂, hq₂, harr₂⟩ := ih (μ y) (by omega) a₁ w₁ ⟨y, I2, β2, rfl, hR2, (hg.trans hg').trans hg2⟩ b k cs
        exact ⟨e₂, a₂, w₂, hq₂, .of_steps (Steps.trans harr (.one step_inLoop)) harr₂⟩
      | exit id => exact ⟨_, a₁, w₁, Post.of (Q := Q) (x := .exit id) hq hR' (hg.trans hg'), .pass (x := .inLoop c) rfl (fun _ _ => .inl (by simp [X.e])) harr⟩
      | ret => exact ⟨_, a₁, w₁, Post.of (Q := Q) (x := .ret) hq hR' (hg.trans hg'), .pass (x := .inLoop c) rfl (fun _ _ => .inl (by simp [X.e])) harr⟩
  intro b k cs
  obtain ⟨e, a', w', hq, harr⟩ := key (μ x0) a w ⟨x0, I, β, rfl, hR1, hg1⟩ b k cs
  exact ⟨e, a', w', hq, .of_steps (.one step_loop) harr⟩
end

end Go.Proofs.YtnjmfedleimlmaaDoor.Pw

/- When a state says no more than another one; a loop's head. -/
namespace Go.Proofs.YtnjmfedleimlmaaDoor.Pw
open Go Go.RowKit

/-- what a value says is said by another one -/
def le1 (x y : PV) : Prop := match x, y with
  | .lit k a, .lit l b => if decide (k = l) then a = b else False
  | .lit k a, .int l b => if decide (k = l) then a = b else False
  | .int k a, .lit l b => if decide (k = l) then a = b else False
  | .int k a, .int l b => if decide (k = l) then a = b else False
  | .tt, .tt => True | .ff, .ff => True
  | .tt, .bool p => p | .ff, .bool p => ¬ p
  | .bool p, .tt => p | .bool p, .ff => ¬ p
  | .bool p, .bool q => p ↔ q
  | .val v, .val u => v = u
  | .nil, .nil => True
  | .nil, .sl _ es => es = []
  | .sl n es, .sl m fs => if Nat.beq n m then es = fs else False
  | .wref l, .wref m => if Nat.beq l m then True else False
  | .ref l o n, .ref l' o' n' => if Nat.beq l l' && Nat.beq o o' && Nat.beq n n' then True else False
  | .ptr l o, .ptr l' o' => if Nat.beq l l' && Nat.beq o o' then True else False
  | .pti l o i n, .pti l' o' i' n' => if Nat.beq l l' && Nat.beq o o' && Nat.beq n n' then i = i' else False
  | .dpt l i n o, .dpt l' i' n' o' => if Nat.beq l l' && Nat.beq o o' && Nat.beq n n' then i = i' else False
  | .ep cs o, .ep ds o' => if Nat.beq o o' then cs = ds else False
  | .gp g o, .gp g' o' => if Nat.beq g g' && Nat.beq o o' then True else False
  | .gpi g o i n, .gpi g' o' i' n' => if Nat.beq g g' && Nat.beq o o' && Nat.beq n n' then i = i' else False
  | _, _ => False
def leL (r : PV → PV → Prop) : List PV → List PV → Prop
  | [], [] => True
  | x :: xs, y :: ys => r x y ∧ leL r xs ys
  | _, _ => False
def leA (x y : PV) : Prop := match x, y with
  | .agg cs, .agg ds => leL le1 cs ds
  | .clo f cs, .clo g ds => if Nat.beq f g then leL le1 cs ds else False
  | x, y => le1 x y
def leK (x y : PV) : Prop := match x, y with
  | .tup cs, .tup ds => leL leA cs ds
  | x, y => leA x y
def PLe (x y : PV) : Prop := ∀ w I β v, x.Is w I β v → y.Is w I β v
theorem PLe.refl (x : PV) : PLe x x := fun _ _ _ _ h => h
section
variable {w w' : World} {I I' : Nat → Prop} {β β' : Places} {G : Gx} {s : PSt} {a : Act} {st st' : List PBlk}
theorem if_ok {c p : Prop} [Decidable c] (h : if c then p else False) : c ∧ p := by
  split at h
  · exact ⟨‹_›, h⟩
  · exact h.elim
theorem le1_ok {x y : PV} (h : le1 x y) : PLe x y := by
  intro w I β v hx
  unfold le1 at h
  split at h <;> first | exact h.elim | (simp only [PV.Is] at hx ⊢)
  · obtain ⟨hk, h⟩ := if_ok h; rw [hx, of_decide_eq_true hk, h]
  · obtain ⟨hk, h⟩ := if_ok h; rw [hx, of_decide_eq_true hk, h]
  · obtain ⟨hk, h⟩ := if_ok h; rw [hx, of_decide_eq_true hk, h]
  · obtain ⟨hk, h⟩ := if_ok h; rw [hx, of_decide_eq_true hk, h]
  · exact hx
  · exact hx
  · rw [hx, pb_true h]
  · rw [hx, pb_false h]
  · rw [hx, pb_true h]
  · rw [hx, pb_false h]
  · rw [hx, show pb _ = pb _ from congrArg pb (propext h)]
  · rw [← h]; exact hx
  · exact hx
  · subst h; exact ⟨none, 0, hx, Nat.le_refl _, Nat.zero_le _, (fun _ _ e => by cases e), fun hn => absurd rfl hn⟩
  · obtain ⟨hb, h⟩ := if_ok h; rw [← h, ← Nat.eq_of_beq_eq_true hb]; exact hx
  · obtain ⟨hb, h⟩ := if_ok h; rw [← Nat.eq_of_beq_eq_true hb]; exact hx
  · obtain ⟨hb, h⟩ := if_ok h
    simp only [Bool.and_eq_true] at hb
    rw [← Nat.eq_of_beq_eq_true hb.1.1, ← Nat.eq_of_beq_eq_true hb.1.2, ← Nat.eq_of_beq_eq_true hb.2]; exact hx
  · obtain ⟨hb, h⟩ := if_ok h
    simp only [Bool.and_eq_true] at hb
    rw [← Nat.eq_of_beq_eq_true hb.1, ← Nat.eq_of_beq_eq_true hb.2]; exact hx
  · obtain ⟨hb, h⟩ := if_ok h
    simp only [Bool.and_eq_true] at hb
    rw [← Nat.eq_of_beq_eq_true hb.1.1, ← Nat.eq_of_beq_eq_true hb.1.2, ← Nat.eq_of_beq_eq_true hb.2, ← h]; exact hx
  · obtain ⟨hb, h⟩ := if_ok h
    simp only [Bool.and_eq_true] at hb
    rw [← Nat.eq_of_beq_eq_true hb.1.1, ← Nat.eq_of_beq_eq_true hb.1.2, ← Nat.eq_of_beq_eq_true hb.2, ← h]; exact hx
  · obtain ⟨hb, h⟩ := if_ok h; rw [← Nat.eq_of_beq_eq_true hb, ← h]; exact hx
  · obtain ⟨hb, h⟩ := if_ok h
    simp only [Bool.and_eq_true] at hb
    rw [← Nat.eq_of_beq_eq_true hb.1, ← Nat.eq_of_beq_eq_true hb.2]; exact hx
  · obtain ⟨hb, h⟩ := if_ok h
    simp only [Bool.and_eq_true] at hb
    rw [← Nat.eq_of_beq_eq_true hb.1.1, ← Nat.eq_of_beq_eq_true hb.1.2, ← Nat.eq_of_beq_eq_true hb.2, ← h]; exact hx
theorem leL_ok {r : PV → PV → Prop} (hr : ∀ x y, r x y → PLe x y) : ∀ {xs ys : List PV} {vs : List Value}, leL r xs ys → IsL w I xs β vs → IsL w I ys β vs
  | [], [], _, _, h => h
  | x :: xs, y :: ys, v :: vs, h, hx => by
    simp only [IsL] at hx ⊢
    exact ⟨hr x y h.1 w I β v hx.1, leL_ok hr h.2 hx.2⟩
  | x :: xs, y :: ys, [], h, hx => by simp only [IsL] at hx
  | [], _ :: _, _, h, _ => h.elim
  | _ :: _, [], _, h, _ => h.elim
theorem leA_ok {x y : PV} (h : leA x y) : PLe x y := by
  unfold leA at h
  split at h
  · intro w I β v hx
    simp only [PV.Is] at hx ⊢
    obtain ⟨vs, rfl, hx⟩ := hx
    exact ⟨vs, rfl, leL_ok (fun _ _ => le1_ok) h hx⟩
  · intro w I β v hx
    split at h
    · rename_i hb
      simp only [PV.Is] at hx ⊢
      obtain ⟨vs, rfl, hx⟩ := hx
      exact ⟨vs, by rw [Nat.eq_of_beq_eq_true hb], leL_ok (fun _ _ => le1_ok) h hx⟩
    · exact h.elim
  · exact le1_ok h
theorem leK_ok {x y : PV} (h : leK x y) : PLe x y := by
  unfold leK at h
  split at h
  · intro w I β v hx
    simp only [PV.Is] at hx ⊢
    obtain ⟨vs, rfl, hx⟩ := hx
    exact ⟨vs, rfl, leL_ok (fun _ _ => leA_ok) h hx⟩
  · exact leA_ok h

/-! ### blocks under other numbers -/
/-- from the numbers of the new state to those of the old one; none: nothing lies there yet -/
abbrev Ren := List (Option Nat)
def PV.ren1 (π : Ren) (x : PV) : Option PV := match x with
  | .wref l => (match π[l]? with
    | some (some m) => some (.wref m)
    | some none => some .nil
    | none => none)
  | .ref l o n => (match π[l]? with
    | some (some m) => some (.ref m o n)
    | _ => none)
  | .ptr l o => (match π[l]? with
    | some (some m) => some (.ptr m o)
    | _ => none)
  | .pti l o i n => (match π[l]? with
    | some (some m) => some (.pti m o i n)
    | _ => none)
  | .dpt l i n o => (match π[l]? with
    | some (some m) => some (.dpt m i n o)
    | _ => none)
  | .agg _ | .tup _ | .clo .. => none
  | x => some x
def renL (π : Ren) : List PV → Option (List PV)
  | [] => some []
  | c :: cs => (match c.ren1 π, renL π cs with
    | some x, some l => some (x :: l)
    | _, _ => none)
def PV.ren (π : Ren) (x : PV) : Option PV := match x with
  | .agg cs => (renL π cs).map .agg
  | .clo f cs => (renL π cs).map (.clo f)
  | .tup _ => none
  | x => x.ren1 π
def renB (β : Places) (π : Ren) : Places := fun l => match π[l]? with
  | some (some m) => β m
  | some none => some ⟨none, 0, 0⟩
  | none => none
theorem renB_some {π : Ren} {l m : Nat} (h : π[l]? = some (some m)) : renB β π l = β m := by unfold renB; rw [h]
theorem renB_none {π : Ren} {l : Nat} (h : π[l]? = some none) : renB β π l = some ⟨none, 0, 0⟩ := by unfold renB; rw [h]
theorem ren1_ok {π : Ren} {x y : PV} {v : Value} (h : x.ren1 π = some y) (hy : y.Is w I β v) : x.Is w I (renB β π) v := by
  unfold PV.ren1 at h
  split at h
  · split at h
    · rename_i m hm
      cases h
      simp only [PV.Is] at hy ⊢
      rw [renB_some hm]; exact hy
    · rename_i hm
      cases h
      simp only [PV.Is] at hy ⊢
      exact ⟨_, renB_none hm, hy⟩
    · cases h
  · split at h
    · rename_i m hm
      cases h
      simp only [PV.Is] at hy ⊢
      rw [renB_some hm]; exact hy
    · cases h
  · split at h
    · rename_i m hm
      cases h
      simp only [PV.Is] at hy ⊢
      rw [renB_some hm]; exact hy
    · cases h
  · split at h
    · rename_i m hm
      cases h
      simp only [PV.Is] at hy ⊢
      rw [renB_some hm]; exact hy
    · cases h
  · split at h
    · rename_i m hm
      cases h
      simp only [PV.Is] at hy ⊢
      rw [renB_some hm]; exact hy
    · cases h
  · cases h
  · cases h
  · cases h
  · cases h
    refine PV.Is.mono (fun _ h => h) (fun _ _ => rfl) x β _ v (fun l p hl => ?_) hy
    cases x <;> first | (simp_all [PV.uses]; done) | (rename_i a1 a2 a3 a4 a5 a6 a7 a8; first | exact (a4 _ _ _ _ rfl).elim | exact (a5 _ _ _ _ rfl).elim)
theorem renL_ok {π : Ren} : ∀ {xs ys : List PV} {vs : List Value}, renL π xs = some ys → IsL w I ys β vs → IsL w I xs (renB β π) vs
  | [], ys, vs, h, hy => by
    simp only [renL, Option.some.injEq] at h
    subst h
    cases vs with
    | nil => simp only [IsL]
    | cons v vs => simp only [IsL] at hy
  | x :: xs, ys, vs, h, hy => by
    simp only [renL] at h
    split at h
    · rename_i y l h1 h2
      cases h
      cases vs with
      | nil => simp only [IsL] at hy
      | cons v vs =>
        simp only [IsL] at hy ⊢
        exact ⟨ren1_ok h1 hy.1, renL_ok h2 hy.2⟩
    · cases h
theorem ren_ok {π : Ren} {x y : PV} {v : Value} (h : x.ren π = some y) (hy : y.Is w I β v) : x.Is w I (renB β π) v := by
  unfold PV.ren at h
  split at h
  · rw [Option.map_eq_some_iff] at h
    obtain ⟨l, hl, rfl⟩ := h
    simp only [PV.Is] at hy ⊢
    obtain ⟨vs, rfl, hy⟩ := hy
    exact ⟨vs, rfl, renL_ok hl hy⟩
  · rw [Option.map_eq_some_iff] at h
    obtain ⟨l, hl, rfl⟩ := h
    simp only [PV.Is] at hy ⊢
    obtain ⟨vs, rfl, hy⟩ := hy
    exact ⟨vs, rfl, renL_ok hl hy⟩
  · cases h
  · exact ren1_ok h hy

def TM.leK (π : Ren) : TM → TM → Prop
  | _, .nil => True
  | .nil, .node v l r => (match v with
    | none => True
    | some _ => False) ∧ TM.leK π .nil l ∧ TM.leK π .nil r
  | .node v l r, .node v' l' r' => (match v' with
    | none => True
    | some y => need v fun x => need (y.ren π) fun y => Pw.leK x y) ∧ TM.leK π l l' ∧ TM.leK π r r'
def Md.beq : Md → Md → Bool
  | .w, .w => true | .p, .p => true | .r, .r => true
  | _, _ => false
def BK.beq : BK → BK → Bool
  | .loc, .loc => true | .arr, .arr => true | .dyn, .dyn => true
  | _, _ => false
def blkK (cx : Ev.Cx) (π : Ren) (b b' : PBlk) : Prop := bif Nat.beq b.ty b'.ty && Nat.beq b.size b'.size && Md.beq b.m b'.m && b.live then (match b.k, b'.k with
  | .loc, .loc => need (renL π b'.cs) fun cs => leL le1 b.cs cs
  | .arr, .arr => need (renL π b'.cs) fun cs => leL le1 b.cs cs
  | .dyn, .dyn => b.cs = b'.cs
  | .arr, .dyn => need (Ev.isAggT cx b.ty) fun ag => bif ag || Nat.beq b.size 1 then b.szK fun n => need (elemsOf ag n (.stat b.cs)) fun es => es = b'.cs else False
  | _, _ => False) else False
def stK (cx : Ev.Cx) (π : Ren) (st : List PBlk) : List PBlk → Ren → Prop
  | [], [] => True
  | b' :: r, some m :: π' => (match b'.live with
    | true => need st[m]? fun b => blkK cx π b b'
    | false => True) ∧ stK cx π st r π'
  | b' :: r, none :: π' => (match b'.k, b'.cs with
    | .dyn, [] => bif Nat.blt 0 b'.size then True else False
    | _, _ => False) ∧ stK cx π st r π'
  | _, _ => False
def nodupR : Ren → Bool
  | [] => true
  | none :: π => nodupR π
  | some m :: π => !(π.any fun x => match x with
    | some k => Nat.beq m k
    | none => false) && nodupR π
def baseK (rl : List Nat) : Nat → Nat → Ren → Bool
  | 0, _, _ => true
  | n + 1, l, some m :: π => (Nat.beq l m || inL l rl) && baseK rl n (l + 1) π
  | n + 1, l, none :: π => inL l rl && baseK rl n (l + 1) π
  | _ + 1, _, [] => false
def subK (cx : Ev.Cx) (π : Ren) (s s' : PSt) : Prop :=
  s'.n = s.n ∧ s'.base = s.base ∧ s'.rl = s.rl ∧ (bif nodupR π && baseK s.rl s.base 0 π then True else False) ∧ stK cx π s.st s'.st π ∧ TM.leK π s.t s'.t

theorem TM.leK_ok {π : Ren} : ∀ {t t' : TM} {n : Nat} {y : PV}, TM.leK π t t' → t'.get n = some y → ∃ x z, t.get n = some x ∧ y.ren π = some z ∧ Pw.leK x z
  | _, .nil, n, y, _, hy => by cases hy
  | .nil, .node v l r, n, y, h, hy => by
    exfalso
    have key : ∀ (t' : TM), TM.leK π .nil t' → ∀ n y, t'.get n = some y → False := by
      intro t'
      induction t' with
      | nil => intro _ n y hy; cases hy
      | node v l r ihl ihr =>
        intro h n y hy
        obtain ⟨h1, h2, h3⟩ := h
        cases v with
        | some _ => exact h1.elim
        | none =>
          simp only [TM.get] at hy
          cases h0 : Nat.beq n 0 <;> rw [h0] at hy
          · cases h1 : Nat.beq (n % 2) 1 <;> rw [h1] at hy
            · exact ihr h3 _ _ hy
            · exact ihl h2 _ _ hy
          · cases hy
    exact key _ h n y hy
  | .node v l r, .node v' l' r', n, y, h, hy => by
    obtain ⟨h1, h2, h3⟩ := h
    simp only [TM.get] at hy ⊢
    cases h0 : Nat.beq n 0 <;> rw [h0] at hy
    · cases hp : Nat.beq (n % 2) 1 <;> rw [hp] at hy
      · exact TM.leK_ok h3 hy
      · exact TM.leK_ok h2 hy
    · cases v' with
      | none => cases hy
      | some y' =>
        cases hy
        obtain ⟨x, hx, h1⟩ := need_ok h1
        obtain ⟨z, hz, h1⟩ := need_ok h1
        exact ⟨x, z, hx, hz, h1⟩
theorem Md.beq_ok {m n : Md} (h : Md.beq m n = true) : m = n := by cases m <;> cases n <;> first | rfl | cases h
/-- blocks of the new state and those of the old one -/
theorem stK_ok {cx : Ev.Cx} {π0 : Ren} {st : List PBlk} : ∀ {st' : List PBlk} {π : Ren}, stK cx π0 st st' π → π.length = st'.length ∧ ∀ (l : Nat) (b' : PBlk), st'[l]? = some b' → b'.live = true → (∃ (m : Nat) (b : PBlk), π[l]? = some (some m) ∧ st[m]? = some b ∧ blkK cx π0 b b') ∨ (π[l]? = some none ∧ b'.k = .dyn ∧ b'.cs = [] ∧ 0 < b'.size)
  | [], [], _ => ⟨rfl, fun l b' hl => by simp at hl⟩
  | b0 :: r, some m :: π, h => by
    obtain ⟨h1, h2⟩ := h
    obtain ⟨ih1, ih2⟩ := stK_ok h2
    refine ⟨by simp [ih1], fun l b' hl hlive => ?_⟩
    cases l with
    | zero =>
      simp at hl; subst hl
      rw [hlive] at h1
      obtain ⟨b, hb, h1⟩ := need_ok h1
      exact .inl ⟨m, b, rfl, hb, h1⟩
    | succ l => simpa using ih2 l b' (by simpa using hl) hlive
  | b0 :: r, none :: π, h => by
    obtain ⟨h1, h2⟩ := h
    obtain ⟨ih1, ih2⟩ := stK_ok h2
    refine ⟨by simp [ih1], fun l b' hl hlive => ?_⟩
    cases l with
    | zero =>
      simp at hl; subst hl
      split at h1
      · rename_i hk hc
        obtain ⟨hb, _⟩ := bif_ok h1
        exact .inr ⟨rfl, hk, hc, Nat.le_of_ble_eq_true hb⟩
      · exact h1.elim
    | succ l => simpa using ih2 l b' (by simpa using hl) hlive
  | [], _ :: _, h => h.elim
  | _ :: _, [], h => h.elim
theorem nodupR_ok : ∀ {π : Ren}, nodupR π = true → ∀ (l l' m : Nat), π[l]? = some (some m) → π[l']? = some (some m) → l = l'
  | [], _, l, _, _, h, _ => by simp at h
  | none :: π, hn, l, l', m, h, h' => by
    cases l with
    | zero => simp at h
    | succ l => cases l' with
      | zero => simp at h'
      | succ l' => rw [nodupR_ok (π := π) hn l l' m (by simpa using h) (by simpa using h')]
  | some k :: π, hn, l, l', m, h, h' => by
    simp only [nodupR, Bool.and_eq_true, Bool.not_eq_true', List.any_eq_false] at hn
    have no : ∀ l, π[l]? = some (some k) → False := fun l hl => by
      have := hn.1 _ (List.mem_of_getElem? hl)
      simp at this
    cases l with
    | zero =>
      simp at h; subst h
      cases l' with
      | zero => rfl
      | succ l' => exact (no l' (by simpa using h')).elim
    | succ l =>
      cases l' with
      | zero => simp at h'; subst h'; exact (no l (by simpa using h)).elim
      | succ l' => rw [nodupR_ok (π := π) hn.2 l l' m (by simpa using h) (by simpa using h')]
theorem baseK_len {rl : List Nat} : ∀ {n l : Nat} {π : Ren}, baseK rl n l π = true → n ≤ π.length
  | 0, _, _, _ => Nat.zero_le _
  | n + 1, l, some m :: π, h => by
    simp only [baseK, Bool.and_eq_true] at h
    simpa using baseK_len h.2
  | n + 1, l, none :: π, h => by
    simp only [baseK, Bool.and_eq_true] at h
    simpa using baseK_len h.2
  | _ + 1, _, [], h => by cases h
theorem baseK_ok {rl : List Nat} : ∀ {n l : Nat} {π : Ren}, baseK rl n l π = true → ∀ i, i < n → (π[i]? = some (some (l + i)) ∨ (l + i) ∈ rl)
  | 0, _, _, _, i, hi => by omega
  | n + 1, l, some m :: π, h, i, hi => by
    simp only [baseK, Bool.and_eq_true, Bool.or_eq_true] at h
    cases i with
    | zero => exact h.1.imp (fun e => by rw [← Nat.eq_of_beq_eq_true e]; rfl) inL_iff.1
    | succ i =>
      have := baseK_ok h.2 i (by omega)
      rw [show l + 1 + i = l + (i + 1) by omega] at this
      simpa using this
  | n + 1, l, none :: π, h, i, hi => by
    simp only [baseK, Bool.and_eq_true] at h
    cases i with
    | zero => exact .inr (inL_iff.1 h.1)
    | succ i =>
      have := baseK_ok h.2 i (by omega)
      rw [show l + 1 + i = l + (i + 1) by omega] at this
      simpa using this
  | _ + 1, _, [], h, _, _ => by cases h
end

end Go.Proofs.YtnjmfedleimlmaaDoor.Pw

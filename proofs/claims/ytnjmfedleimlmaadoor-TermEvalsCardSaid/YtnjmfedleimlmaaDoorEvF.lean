/- Known memory: what states stand for in a world; loads, stores and new blocks are carried out as the evaluator says. -/
import Derived.Test.YtnjmfedleimlmaaDoorEvE
import Derived.Below
import Derived.Laws.Rows
import Derived.WalkKit
import Derived.OpenShut
namespace Go.Proofs.YtnjmfedleimlmaaDoor.Ev
open Go Go.RowKit

/-- what is known of a world beside the state: it hangs on some blocks alone -/
structure Jx where
  J : World → Prop
  G : List Nat
  closed : ∀ w w', J w → (∀ b, b ∈ G → w'.heap[b]? = w.heap[b]?) → J w'
  inb : ∀ w, J w → ∀ b, b ∈ G → b < w.heap.size
def Jx.none : Jx := ⟨fun _ => True, [], fun _ _ _ _ => trivial, fun _ _ _ h => by cases h⟩

/-- the blocks that stood at the start are as they were, but for some -/
structure Fr (W : World) (wr : List Nat) (w : World) : Prop where
  os : w.os = W.os
  tape : w.tape = W.tape
  output : w.output = W.output
  size : W.heap.size ≤ w.heap.size
  block : ∀ b, b < W.heap.size → b ∉ wr → w.heap[b]? = W.heap[b]?
theorem Fr.refl (W : World) (wr : List Nat) : Fr W wr W := ⟨rfl, rfl, rfl, Nat.le_refl _, fun _ _ _ => rfl⟩
theorem Fr.below {W w w' : World} {wr : List Nat} (h : Fr W wr w) (hb : Below w.heap.size w w') : Fr W wr w' :=
  ⟨hb.os.trans h.os, hb.tape.trans h.tape, hb.output.trans h.output, Nat.le_trans h.size hb.size, fun b hb' hn => (hb.block b (Nat.lt_of_lt_of_le hb' h.size)).trans (h.block b hb' hn)⟩
theorem Fr.to_below {W w : World} (h : Fr W [] w) : Below W.heap.size W w := ⟨h.os, h.tape, h.output, h.size, fun b hb => h.block b hb (by simp)⟩

section
variable {P : Program} {cx : Cx} {jx : Jx} {ρ : Env} {W : World} {wr : List Nat} {β β' : Pl} {heap : List Blk} {w w' : World}

def BlkOk (ρ : Env) (jx : Jx) (W : World) (wr : List Nat) (β : Pl) (w : World) (l : Nat) (b : Blk) : Prop :=
  ∃ (p : Nat × Nat) (arr : Array Value) (ty : TypeId) (fr : Nat × Nat), β[l]? = some p ∧ w.heap[p.1]? = some (.cells arr ty fr) ∧ CellsOk ρ β b.cells (fun i => arr[p.2 + i]?) ∧
    (b.rw = true → fr = (0, 0) ∧ (∀ l' q, l' ≠ l → β[l']? = some q → q.1 ≠ p.1) ∧ (W.heap.size ≤ p.1 ∨ p.1 ∈ wr) ∧ p.1 ∉ jx.G)
def HeapOk (ρ : Env) (jx : Jx) (W : World) (wr : List Nat) (β : Pl) (heap : List Blk) (w : World) : Prop :=
  β.length = heap.length ∧ ∀ l b, heap[l]? = some b → BlkOk ρ jx W wr β w l b

theorem lt_of_heap {o : Obj} {b : Nat} (h : w.heap[b]? = some o) : b < w.heap.size := (Array.getElem?_eq_some_iff.1 h).1
theorem CellsOk.mono {l : List AT} {g : Nat → Option Value} (hb : β <+: β') (h : CellsOk ρ β l g) : CellsOk ρ β' l g := fun j x hx => let ⟨v, hv, hi⟩ := h j x hx; ⟨v, hv, hi.mono hb⟩
theorem HeapOk.below (h : HeapOk ρ jx W wr β heap w) (hb : Below w.heap.size w w') : HeapOk ρ jx W wr β heap w' :=
  ⟨h.1, fun l b hl => let ⟨p, arr, ty, fr, h1, h2, h3⟩ := h.2 l b hl; ⟨p, arr, ty, fr, h1, (hb.block _ (lt_of_heap h2)).trans h2, h3⟩⟩
theorem Jx.below (hj : jx.J w) (hb : Below w.heap.size w w') : jx.J w' := jx.closed w w' hj fun b hg => hb.block b (jx.inb w hj b hg)

theorem heap_old (w : World) (o : Obj) (i : Nat) (h : i < w.heap.size) : (w.alloc o).heap[i]? = w.heap[i]? := by
  show (w.heap.push o)[i]? = _
  rw [Array.getElem?_push_lt h, Array.getElem?_eq_getElem h]
theorem heap_new (w : World) (o : Obj) : (w.alloc o).heap[w.heap.size]? = some o := by
  show (w.heap.push o)[w.heap.size]? = _
  simp
/-- a new block -/
theorem HeapOk.alloc (h : HeapOk ρ jx W wr β heap w) (hf : Fr W wr w) (hj : jx.J w) {cs : List AT} {vs : Array Value} {ty ty' : TypeId} (hc : All2 (AT.Is ρ β) cs vs.toList) :
    HeapOk ρ jx W wr (β ++ [(w.heap.size, 0)]) (heap ++ [⟨ty', cs, true⟩]) (w.alloc (.cells vs ty)) := by
  have hpre : β <+: β ++ [(w.heap.size, 0)] := List.prefix_append _ _
  have hplt : ∀ (l : Nat) (p : Nat × Nat), β[l]? = some p → p.1 < w.heap.size := fun l p hp => by
    have hl : l < heap.length := by rw [← h.1]; exact (List.getElem?_eq_some_iff.1 hp).1
    obtain ⟨q, arr, _, _, hq, hh, _⟩ := h.2 l _ (List.getElem?_eq_getElem hl)
    rw [hp] at hq
    cases hq
    exact lt_of_heap hh
  refine ⟨by simp [h.1], fun l b hl => ?_⟩
  by_cases hlt : l < heap.length
  · rw [List.getElem?_append_left hlt] at hl
    obtain ⟨p, arr, t, fr, h1, h2, h3, h4⟩ := h.2 l b hl
    refine ⟨p, arr, t, fr, Pl.mono_get hpre h1, (heap_old w _ _ (lt_of_heap h2)).trans h2, h3.mono hpre, fun hrw => ?_⟩
    obtain ⟨g1, g2, g3, g4⟩ := h4 hrw
    refine ⟨g1, fun l' q hne hq => ?_, g3, g4⟩
    by_cases hl' : l' < β.length
    · rw [List.getElem?_append_left hl'] at hq
      exact g2 l' q hne hq
    · rw [List.getElem?_append_right (by omega)] at hq
      have : q = (w.heap.size, 0) := by
        cases hk : l' - β.length with
        | zero => rw [hk] at hq; simpa using hq.symm
        | succ k => rw [hk] at hq; simp at hq
      rw [this]
      have := hplt l p h1
      simp only; omega
  · have hle : l = heap.length := by
      have := (List.getElem?_eq_some_iff.1 hl).1
      simp at this; omega
    subst hle
    rw [List.getElem?_append_right (Nat.le_refl _)] at hl
    simp only [Nat.sub_self, List.getElem?_cons_zero, Option.some.injEq] at hl
    subst hl
    refine ⟨(w.heap.size, 0), vs, ty, (0, 0), by rw [← h.1]; simp, heap_new w _, ?_, fun _ => ⟨rfl, fun l' q hne hq => ?_, .inl hf.size, fun hg => ?_⟩⟩
    · intro j x hx
      obtain ⟨v, hv, hi⟩ := hc.get hx
      exact ⟨v, by simpa using hv, hi.mono hpre⟩
    · rw [← h.1] at hne
      have hl' : l' < β.length := by
        have := (List.getElem?_eq_some_iff.1 hq).1
        simp at this; omega
      rw [List.getElem?_append_left hl'] at hq
      have := hplt l' q hq
      simp only; omega
    · have := jx.inb w hj _ hg; omega

/-- a block that is written -/
theorem HeapOk.setRow (h : HeapOk ρ jx W wr β heap w) {l : Nat} {b : Blk} {p : Nat × Nat} {arr arr' : Array Value} {ty : TypeId} {cs : List AT} (hl : heap[l]? = some b) (hp : β[l]? = some p)
    (hh : w.heap[p.1]? = some (.cells arr ty (0, 0))) (hrw : b.rw = true) (hc : CellsOk ρ β cs (fun i => arr'[p.2 + i]?)) : HeapOk ρ jx W wr β (heap.set l { b with cells := cs }) (w.setRow p.1 arr') := by
  refine ⟨by simp [h.1], fun l' b' hl' => ?_⟩
  obtain ⟨q, a1, t1, f1, h1, h2, h3, h4⟩ := h.2 l b hl
  rw [hp] at h1
  cases h1
  obtain ⟨g1, g2, g3, g4⟩ := h4 hrw
  by_cases hne : l' = l
  · subst hne
    rw [List.getElem?_set_self (List.getElem?_eq_some_iff.1 hl).1] at hl'
    cases hl'
    exact ⟨p, arr', ty, (0, 0), hp, setRow_heap w _ _ _ _ _ hh, hc, fun _ => ⟨rfl, g2, g3, g4⟩⟩
  · rw [List.getElem?_set_ne (fun e => hne e.symm)] at hl'
    obtain ⟨q, a2, t2, f2, k1, k2, k3, k4⟩ := h.2 l' b' hl'
    exact ⟨q, a2, t2, f2, k1, (setRow_other w _ _ _ (g2 l' q hne k1)).trans k2, k3, k4⟩
theorem Fr.setRow (hf : Fr W wr w) {g : Nat} {arr : Array Value} (hg : W.heap.size ≤ g ∨ g ∈ wr) : Fr W wr (w.setRow g arr) :=
  ⟨hf.os, hf.tape, hf.output, by simpa using hf.size, fun b hb hn => by
    rw [setRow_other w g b _ (fun e => (by subst e; exact hg.elim (fun h => by omega) hn))]; exact hf.block b hb hn⟩
theorem Jx.setRow (hj : jx.J w) {g : Nat} {arr : Array Value} (hg : g ∉ jx.G) : jx.J (w.setRow g arr) :=
  jx.closed w _ hj fun b hb => setRow_other w g b _ fun e => hg (e ▸ hb)

/-! ### loads -/
theorem flat_one {v : Value} (h : flat v = true) : v.oneCell' = true := by cases v <;> simp_all [flat, Value.oneCell']
theorem cells_of {arr : Array Value} {ty : TypeId} {fr : Nat × Nat} {b : Nat} (h : w.heap[b]? = some (.cells arr ty fr)) (o : Nat) : w.cell? ⟨b, o, none⟩ = arr[o]? := cell_of_row w b o arr ty fr h

/-- cells that are read, one behind the other -/
theorem loadCells_ok {b o n : Nat} {arr : Array Value} {ty : TypeId} {fr : Nat × Nat} (hh : w.heap[b]? = some (.cells arr ty fr)) {cs : List AT} (hl : cs.length = n) (hc : CellsOk ρ β cs (fun j => arr[o + j]?)) :
    ∃ vs : Array Value, All2 (AT.Is ρ β) cs vs.toList ∧ (loadCells ⟨b, o, none⟩ n).run P w = .ok vs w := by
  have key : ∀ (cs : List AT) (o : Nat), CellsOk ρ β cs (fun j => arr[o + j]?) → ∃ l : List Value, All2 (AT.Is ρ β) cs l ∧ ∀ j v, l[j]? = some v → arr[o + j]? = some v := by
    intro cs
    induction cs with
    | nil => intro o _; exact ⟨[], trivial, fun j v h => by simp at h⟩
    | cons a cs ih =>
      intro o hc
      obtain ⟨v, hv, hi⟩ := hc 0 a rfl
      have ht : CellsOk ρ β cs (fun j => arr[o + 1 + j]?) := fun j x hx => by
        obtain ⟨u, hu, hui⟩ := hc (j + 1) x (by simpa using hx)
        exact ⟨u, by show arr[o + 1 + j]? = some u; rw [show o + 1 + j = o + (j + 1) by omega]; exact hu, hui⟩
      obtain ⟨l, h1, h2⟩ := ih (o + 1) ht
      refine ⟨v :: l, ⟨hi, h1⟩, fun j u hu => ?_⟩
      cases j with
      | zero => simp at hu; subst hu; exact hv
      | succ j => rw [show o + (j + 1) = o + 1 + j by omega]; exact h2 j u (by simpa using hu)
  obtain ⟨l, h1, h2⟩ := key cs o hc
  refine ⟨l.toArray, by simpa using h1, ?_⟩
  have hll := h1.length
  rw [show n = l.length by omega]
  exact run_loadCells_list w _ l fun j v hv => by rw [addr_add, cells_of hh]; exact h2 j v hv

theorem evLoad_ok (hO : CxOk cx) {s : St} {t : TypeId} {x : AV} {r : A1} {u : Value} (hh : HeapOk ρ jx W wr β s.heap w) (hp : pcOk ρ s.pc) (hx : x.Is ρ β u) (h : evLoad cx s t x = some r) :
    ∃ v, r.Is ρ β v ∧ (Instr.loadAt t u).run cx.P w = .ok v w := by
  unfold evLoad at h
  split at h
  · rename_i l off
    obtain ⟨p, hpl, rfl⟩ := hx
    rw [Option.bind_eq_some_iff] at h
    obtain ⟨b, hb, h⟩ := h
    obtain ⟨q, arr, ty, fr, h1, h2, h3, _⟩ := hh.2 l b hb
    rw [hpl] at h1
    cases h1
    unfold part1 at h
    split at h
    · rename_i n ha hn
      split at h
      · rename_i hle
        have hle' : off + n ≤ b.cells.length := Nat.le_of_ble_eq_true hle
        cases h
        obtain ⟨vs, g1, g2⟩ := loadCells_ok (P := cx.P) (o := p.2 + off) h2 (cs := (b.cells.drop off).take n) (n := n) (by simp; omega) (fun j x hx => by
          rw [List.getElem?_take] at hx
          split at hx
          · rw [List.getElem?_drop] at hx
            obtain ⟨v, hv, hi⟩ := h3 _ _ hx
            exact ⟨v, by show arr[p.2 + off + j]? = some v; rw [Nat.add_assoc]; exact hv, hi⟩
          · cases hx)
        exact ⟨.agg vs, ⟨vs, rfl, g1⟩, by simp [Instr.loadAt, Instr.sureAddr, loadVar, isAgg_run hO ha, size_run hO hn, g2]⟩
      · cases h
    · rename_i m ha
      rw [Option.map_eq_some_iff] at h
      obtain ⟨a, hget, rfl⟩ := h
      obtain ⟨v, hv, hi⟩ := h3 _ _ hget
      have hcell : w.cell? ⟨p.1, p.2 + off, none⟩ = some v := by rw [cells_of h2]; exact hv
      exact ⟨v, hi, by simp [Instr.loadAt, Instr.sureAddr, loadVar, isAgg_run hO ha, hcell]⟩
    · cases h
  · rename_i l off i size
    obtain ⟨p, hpl, rfl⟩ := hx
    rw [Option.bind_eq_some_iff] at h
    obtain ⟨b, hb, h⟩ := h
    obtain ⟨q, arr, ty, fr, h1, h2, h3, _⟩ := hh.2 l b hb
    rw [hpl] at h1
    cases h1
    have hidx : ∀ {r : Int × Int}, rng s.pc i = some r → 0 ≤ r.1 → (i.den ρ).toNat ≤ r.2.toNat := fun hr h0 => by have := rng_sound hp hr; omega
    split at h
    · rename_i _ rg ha hr
      split at h
      · rename_i hc
        simp only [Bool.and_eq_true, decide_eq_true_eq] at hc
        rw [Option.map_eq_some_iff] at h
        obtain ⟨a, hsel, rfl⟩ := h
        have hle := hidx hr hc.1
        have hlen : (every size (rg.2.toNat + 1) (b.cells.drop off)).length = rg.2.toNat + 1 := every_len _ _ _ fun j hj => by
          have : j * size ≤ rg.2.toNat * size := Nat.mul_le_mul_right _ (by omega)
          simp; omega
        obtain ⟨v, hv, hi⟩ := selA_is hp hsel ((h3.drop off).every size _) (by omega)
        have hcell : w.cell? ⟨p.1, p.2 + (off + (i.den ρ).toNat * size), none⟩ = some v := by rw [cells_of h2]; exact hv
        exact ⟨v, hi, by simp [Instr.loadAt, Instr.sureAddr, loadVar, isAgg_run hO ha, hcell]⟩
      · cases h
    · rename_i m rg ha hn hr
      split at h
      · rename_i hc
        simp only [Bool.and_eq_true, decide_eq_true_eq] at hc
        have hms : m ≤ size := Nat.le_of_ble_eq_true hc.2
        rw [Option.map_eq_some_iff] at h
        obtain ⟨as, hall, rfl⟩ := h
        have hle := hidx hr hc.1.1
        have hall2 := All2.allSome (R := fun (x : AT) (j : Nat) => j < m → ∃ v, arr[p.2 + (off + j + (i.den ρ).toNat * size)]? = some v ∧ x.Is ρ β v) (g := id) (fun j a ha hj => by
          have hlen : (every size (rg.2.toNat + 1) (b.cells.drop (off + j))).length = rg.2.toNat + 1 := every_len _ _ _ fun k hk => by
            have : k * size ≤ rg.2.toNat * size := Nat.mul_le_mul_right _ (by omega)
            simp only [List.length_drop, id] at *; omega
          obtain ⟨v, hv, hi⟩ := selA_is hp ha ((h3.drop (off + j)).every size _) (by omega)
          exact ⟨v, hv, hi⟩) _ hall
        simp only [List.map_id_fun, id] at hall2
        have hasl := hall2.length
        simp only [List.length_range] at hasl
        obtain ⟨vs, g1, g2⟩ := loadCells_ok (P := cx.P) (o := p.2 + (off + (i.den ρ).toNat * size)) h2 (cs := as) (n := m) hasl (fun j x hx => by
          obtain ⟨k, hk, hR⟩ := hall2.get hx
          have hjm : j < m := by have := (List.getElem?_eq_some_iff.1 hx).1; omega
          rw [List.getElem?_range hjm] at hk
          cases hk
          obtain ⟨v, hv, hi⟩ := hR hjm
          exact ⟨v, by show arr[p.2 + (off + (i.den ρ).toNat * size) + j]? = some v; rw [show p.2 + (off + (i.den ρ).toNat * size) + j = p.2 + (off + j + (i.den ρ).toNat * size) by omega]; exact hv, hi⟩)
        exact ⟨.agg vs, ⟨vs, rfl, g1⟩, by simp [Instr.loadAt, Instr.sureAddr, loadVar, isAgg_run hO ha, size_run hO hn, g2]⟩
      · cases h
    · cases h
  · cases h

/-! ### stores -/
theorem putAt_ok {cells new : List AT} {arr : Array Value} {o off : Nat} {vs : List Value} (hc : CellsOk ρ β cells (fun j => arr[o + j]?)) (hn : All2 (AT.Is ρ β) new vs) (hle : off + new.length ≤ cells.length) (hsz : o + off + vs.length ≤ arr.size) :
    CellsOk ρ β (putAt off new cells) (fun j => (arr.toList.take (o + off) ++ vs ++ arr.toList.drop (o + off + vs.length)).toArray[o + j]?) := by
  intro j x hx
  have hl := hn.length
  unfold putAt at hx
  simp only [List.getElem?_toArray]
  have h1 : (arr.toList.take (o + off)).length = o + off := by simp; omega
  by_cases hj : j < off
  · rw [List.append_assoc, List.getElem?_append_left (by simp; omega), List.getElem?_take, if_pos hj] at hx
    obtain ⟨v, hv, hi⟩ := hc j x hx
    refine ⟨v, ?_, hi⟩
    rw [List.append_assoc, List.getElem?_append_left (by rw [h1]; omega), List.getElem?_take, if_pos (by omega)]
    simpa using hv
  · by_cases hj2 : j < off + new.length
    · rw [List.getElem?_append_left (by simp; omega), List.getElem?_append_right (by simp; omega)] at hx
      have ht : (cells.take off).length = off := by simp; omega
      rw [ht] at hx
      obtain ⟨v, hv, hi⟩ := hn.get hx
      refine ⟨v, ?_, hi⟩
      rw [List.getElem?_append_left (by simp; omega), List.getElem?_append_right (by rw [h1]; omega), h1, show o + j - (o + off) = j - off by omega]
      exact hv
    · rw [List.getElem?_append_right (by simp; omega), List.getElem?_drop] at hx
      have ht : (cells.take off ++ new).length = off + new.length := by simp; omega
      rw [ht, show off + new.length + (j - (off + new.length)) = j by omega] at hx
      obtain ⟨v, hv, hi⟩ := hc j x hx
      refine ⟨v, ?_, hi⟩
      have h2 : (arr.toList.take (o + off) ++ vs).length = o + off + vs.length := by simp; omega
      rw [List.getElem?_append_right (by rw [h2]; omega), h2, List.getElem?_drop, show o + off + vs.length + (o + j - (o + off + vs.length)) = o + j by omega]
      simpa using hv

theorem zipM_get {pc : PC} (hp : pcOk ρ pc) {c : E} : ∀ {l r h : List AT}, zipM pc c l r = some h → ∀ {nv : List Value} {g : Nat → Option Value}, All2 (AT.Is ρ β) l nv → CellsOk ρ β r g →
    h.length = r.length ∧ l.length ≤ r.length ∧ CellsOk ρ β h (fun j => if c.den ρ ≠ 0 ∧ j < l.length then nv[j]? else g j)
  | [], r, h, hz, nv, g, _, hg => by
    simp only [zipM, Option.some.injEq] at hz
    subst hz
    exact ⟨rfl, by simp, fun j x hx => by simpa using hg j x hx⟩
  | a :: l, [], h, hz, _, _, _, _ => by simp [zipM] at hz
  | a :: l, b :: r, h, hz, [], g, hn, _ => hn.elim
  | a :: l, b :: r, h, hz, n :: nv, g, hn, hg => by
    simp only [zipM, Option.bind_eq_some_iff, Option.map_eq_some_iff] at hz
    obtain ⟨x, hx, h', hz', rfl⟩ := hz
    obtain ⟨i1, i2, i3⟩ := zipM_get hp hz' hn.2 hg.tail
    refine ⟨by simp [i1], by simp; omega, fun j y hy => ?_⟩
    cases j with
    | zero =>
      simp only [List.getElem?_cons_zero, Option.some.injEq] at hy
      subst hy
      obtain ⟨v, hv, hi⟩ := hg 0 b rfl
      have hm := mrg_is hp hx hn.1 hi
      by_cases hc : c.den ρ = 0
      · rw [if_pos hc] at hm; exact ⟨v, by simp [hc, hv], hm⟩
      · rw [if_neg hc] at hm; exact ⟨n, by simp [hc], hm⟩
    | succ j =>
      obtain ⟨v, hv, hi⟩ := i3 j y (by simpa using hy)
      exact ⟨v, by simpa using hv, hi⟩

theorem putEach_ok {pc : PC} (hp : pcOk ρ pc) {i : E} {size : Nat} {new : List AT} {nv : List Value} (hn : All2 (AT.Is ρ β) new nv) (hns : new.length ≤ size) (hi0 : 0 ≤ i.den ρ) :
    ∀ (k m : Nat) {r c : List AT} {g : Nat → Option Value}, putEach pc i size new m k r = some c → CellsOk ρ β r g → k * size ≤ r.length → (i.den ρ).toNat < m + k →
      CellsOk ρ β c (fun j => if (i.den ρ).toNat * size ≤ m * size + j ∧ m * size + j < (i.den ρ).toNat * size + new.length then nv[m * size + j - (i.den ρ).toNat * size]? else g j)
  | 0, m, r, c, g, h, hg, _, hlt => by
    simp only [putEach, Option.some.injEq] at h
    subst h
    intro j x hx
    have h1 : (i.den ρ).toNat * size + size ≤ m * size := by
      have : ((i.den ρ).toNat + 1) * size ≤ m * size := Nat.mul_le_mul_right _ (by omega)
      rwa [Nat.succ_mul] at this
    obtain ⟨v, hv, hi⟩ := hg j x hx
    exact ⟨v, by dsimp only; rw [if_neg (by omega)]; exact hv, hi⟩
  | k + 1, m, r, c, g, h, hg, hlen, hlt => by
    simp only [putEach, Option.bind_eq_some_iff, Option.map_eq_some_iff] at h
    obtain ⟨hd, hz, tl, ht, rfl⟩ := h
    have hks : (k + 1) * size = k * size + size := Nat.succ_mul _ _
    rw [hks] at hlen
    obtain ⟨z1, z2, z3⟩ := zipM_get hp hz hn (g := g) (fun j x hx => by
      rw [List.getElem?_take] at hx
      split at hx
      · exact hg j x hx
      · cases hx)
    have hsz : hd.length = size := by rw [z1]; simp; omega
    have hden : ((fin pc (.eq i (.lit m))).den ρ ≠ 0) ↔ (i.den ρ).toNat = m := by
      rw [fin_den hp]
      show truth (decide (i.den ρ = (m : Int))) ≠ 0 ↔ _
      rw [truth_ne, decide_eq_true_iff]
      constructor
      · intro h; omega
      · intro h; omega
    intro j x hx
    by_cases hj : j < size
    · rw [List.getElem?_append_left (by omega)] at hx
      obtain ⟨v, hv, hvi⟩ := z3 j x hx
      refine ⟨v, ?_, hvi⟩
      dsimp only at hv ⊢
      by_cases hD : (i.den ρ).toNat = m
      · simp only [hden, hD, true_and] at hv
        rw [hD]
        by_cases hjn : j < new.length
        · rw [if_pos hjn] at hv; rw [if_pos (by omega), show m * size + j - m * size = j by omega]; exact hv
        · rw [if_neg hjn] at hv; rw [if_neg (by omega)]; exact hv
      · simp only [hden, hD, false_and, if_false] at hv
        rw [if_neg ?_]; exact hv
        intro hcon
        rcases Nat.lt_or_gt_of_ne hD with hlt' | hgt'
        · have : ((i.den ρ).toNat + 1) * size ≤ m * size := Nat.mul_le_mul_right _ (by omega)
          rw [Nat.succ_mul] at this; omega
        · have : (m + 1) * size ≤ (i.den ρ).toNat * size := Nat.mul_le_mul_right _ (by omega)
          rw [Nat.succ_mul] at this; omega
    · rw [List.getElem?_append_right (by omega), hsz] at hx
      obtain ⟨v, hv, hvi⟩ := putEach_ok hp hn hns hi0 k (m + 1) ht (hg.drop size) (by simp; omega) (by omega) (j - size) x hx
      refine ⟨v, ?_, hvi⟩
      dsimp only at hv ⊢
      have e1 : (m + 1) * size + (j - size) = m * size + j := by rw [Nat.succ_mul]; omega
      have e2 : size + (j - size) = j := by omega
      simp only [e1, e2] at hv
      exact hv

theorem evStore_ok (hO : CxOk cx) {s : St} {t : TypeId} {x v : AV} {h' : List Blk} {u y : Value} (hh : HeapOk ρ jx W wr β s.heap w) (hf : Fr W wr w) (hj : jx.J w) (hp : pcOk ρ s.pc) (hx : x.Is ρ β u) (hv : v.Is ρ β y) (h : evStore cx s t x v = some h') :
    ∃ w', HeapOk ρ jx W wr β h' w' ∧ Fr W wr w' ∧ jx.J w' ∧ (Instr.storeAt t u y).run cx.P w = .ok () w' := by
  unfold evStore at h
  split at h
  · rename_i n v1 hn hv1
    have hy : v1.Is ρ β y := by
      cases v with
      | v q => simp only [asV, Option.some.injEq] at hv1; subst hv1; exact hv
      | t l => simp [asV] at hv1
    have hyc := hy.cells
    have hyl := hyc.length
    simp only [Array.length_toList] at hyl
    have hone : ∀ z ∈ y.cells.toList, z.oneCell' = true := by
      intro z hz
      obtain ⟨k, hk, hkz⟩ := List.getElem_of_mem hz
      have hk' : k < v1.cells.length := by simp at hk; omega
      obtain ⟨z', hz', hzi⟩ := hyc.get (List.getElem?_eq_getElem hk')
      rw [List.getElem?_eq_getElem hk, hkz] at hz'
      cases hz'
      exact flat_one hzi.flat
    split at h
    · rename_i hsz
      simp only [Bool.and_eq_true] at hsz
      have hsz' : v1.cells.length = n := Nat.eq_of_beq_eq_true hsz.1
      have hn0 : 0 < n := Nat.le_of_ble_eq_true hsz.2
      split at h
      · rename_i l off
        obtain ⟨p, hpl, rfl⟩ := hx
        rw [Option.bind_eq_some_iff] at h
        obtain ⟨b, hb, h⟩ := h
        split at h
        · rename_i hc
          simp only [Bool.and_eq_true] at hc
          have hle : off + n ≤ b.cells.length := Nat.le_of_ble_eq_true hc.2
          cases h
          obtain ⟨q, arr, ty, fr, h1, h2, h3, h4⟩ := hh.2 l b hb
          rw [hpl] at h1
          cases h1
          obtain ⟨g1, g2, g3, g4⟩ := h4 hc.1
          subst g1
          have harr : p.2 + off + y.cells.toList.length ≤ arr.size := by
            have hlast : off + n - 1 < b.cells.length := by omega
            obtain ⟨z, hz, _⟩ := h3 _ _ (List.getElem?_eq_getElem hlast)
            have := (Array.getElem?_eq_some_iff.1 hz).1
            simp only [Array.length_toList]
            omega
          refine ⟨_, hh.setRow hb hpl h2 hc.1 (putAt_ok h3 hyc (by omega) harr), hf.setRow g3, Jx.setRow hj g4, ?_⟩
          have := run_storeCells_at (P := cx.P) p.1 (p.2 + off) ty y.cells.toList 0 arr w h2 (by simpa using harr) hone
          simp only [Instr.storeAt, Instr.sureAddr, storeVar, Sem.run_bind, Sem.run_pure, Result.andThen_ok, size_run hO hn]
          rw [if_neg (by omega)]
          simpa using this
        · cases h
      · rename_i l off i size
        obtain ⟨p, hpl, rfl⟩ := hx
        rw [Option.bind_eq_some_iff] at h
        obtain ⟨b, hb, h⟩ := h
        split at h
        · rename_i rg hr
          have hrg := rng_sound hp hr
          split at h
          · rename_i hc
            simp only [Bool.and_eq_true, decide_eq_true_eq] at hc
            obtain ⟨⟨⟨hrw, h0⟩, hns⟩, hle⟩ := hc
            have hns' : n ≤ size := Nat.le_of_ble_eq_true hns
            rw [Option.map_eq_some_iff] at h
            obtain ⟨c, hput, rfl⟩ := h
            obtain ⟨q, arr, ty, fr, h1, h2, h3, h4⟩ := hh.2 l b hb
            rw [hpl] at h1
            cases h1
            obtain ⟨g1, g2, g3, g4⟩ := h4 hrw
            subst g1
            have hD : (i.den ρ).toNat ≤ rg.2.toNat := by omega
            have hDs : (i.den ρ).toNat * size ≤ rg.2.toNat * size := Nat.mul_le_mul_right _ hD
            have harr : p.2 + (off + (i.den ρ).toNat * size) + y.cells.toList.length ≤ arr.size := by
              have hlast : off + (i.den ρ).toNat * size + n - 1 < b.cells.length := by omega
              obtain ⟨z, hz, _⟩ := h3 _ _ (List.getElem?_eq_getElem hlast)
              have := (Array.getElem?_eq_some_iff.1 hz).1
              simp only [Array.length_toList]
              omega
            have hE := putEach_ok hp hyc (by omega) (by omega) (rg.2.toNat + 1) 0 hput (h3.drop off) (by rw [Nat.succ_mul]; simp; omega) (by omega)
            refine ⟨_, hh.setRow hb hpl h2 hrw (arr' := (arr.toList.take (p.2 + (off + (i.den ρ).toNat * size)) ++ y.cells.toList ++ arr.toList.drop (p.2 + (off + (i.den ρ).toNat * size) + y.cells.toList.length)).toArray) ?_, hf.setRow g3, Jx.setRow hj g4, ?_⟩
            · have key : ∀ k, (arr.toList.take (p.2 + (off + (i.den ρ).toNat * size)) ++ y.cells.toList ++ arr.toList.drop (p.2 + (off + (i.den ρ).toNat * size) + y.cells.toList.length)).toArray[p.2 + k]? =
                  if off + (i.den ρ).toNat * size ≤ k ∧ k < off + (i.den ρ).toNat * size + n then y.cells.toList[k - (off + (i.den ρ).toNat * size)]? else arr[p.2 + k]? := by
                intro k
                simp only [List.getElem?_toArray]
                have h1 : (arr.toList.take (p.2 + (off + (i.den ρ).toNat * size))).length = p.2 + (off + (i.den ρ).toNat * size) := by simp; omega
                have h2 : (arr.toList.take (p.2 + (off + (i.den ρ).toNat * size)) ++ y.cells.toList).length = p.2 + (off + (i.den ρ).toNat * size) + y.cells.toList.length := by rw [List.length_append, h1]
                have hyn : y.cells.toList.length = n := by simp only [Array.length_toList]; omega
                by_cases hk1 : k < off + (i.den ρ).toNat * size
                · rw [if_neg (by omega), List.append_assoc, List.getElem?_append_left (by rw [h1]; omega), List.getElem?_take, if_pos (by omega)]; simp
                · by_cases hk2 : k < off + (i.den ρ).toNat * size + n
                  · rw [if_pos ⟨by omega, hk2⟩, List.getElem?_append_left (by rw [h2, hyn]; omega), List.getElem?_append_right (by rw [h1]; omega), h1]
                    congr 1; omega
                  · rw [if_neg (by omega), List.getElem?_append_right (by rw [h2, hyn]; omega), h2, hyn, List.getElem?_drop, show p.2 + (off + (i.den ρ).toNat * size) + n + (p.2 + k - (p.2 + (off + (i.den ρ).toNat * size) + n)) = p.2 + k by omega]; simp
              intro j x hx
              by_cases hjo : j < off
              · rw [List.getElem?_append_left (by simp; omega), List.getElem?_take, if_pos hjo] at hx
                obtain ⟨v, hv, hi⟩ := h3 j x hx
                exact ⟨v, by dsimp only; rw [key, if_neg (by omega)]; exact hv, hi⟩
              · have htl : (b.cells.take off).length = off := by simp; omega
                rw [List.getElem?_append_right (by omega), htl] at hx
                obtain ⟨v, hv, hi⟩ := hE (j - off) x hx
                refine ⟨v, ?_, hi⟩
                dsimp only at hv ⊢
                rw [key, ← hv]
                simp only [Nat.zero_mul, Nat.zero_add]
                by_cases hin : (i.den ρ).toNat * size ≤ j - off ∧ j - off < (i.den ρ).toNat * size + v1.cells.length
                · rw [if_pos hin, if_pos (by omega)]; congr 1; omega
                · rw [if_neg hin, if_neg (by omega), show off + (j - off) = j by omega]
            · have := run_storeCells_at (P := cx.P) p.1 (p.2 + (off + (i.den ρ).toNat * size)) ty y.cells.toList 0 arr w h2 (by simpa using harr) hone
              simp only [Instr.storeAt, Instr.sureAddr, storeVar, Sem.run_bind, Sem.run_pure, Result.andThen_ok, size_run hO hn]
              rw [if_neg (by omega)]
              simpa using this
          · cases h
        · cases h
      · cases h
    · cases h
  · cases h

end
end Go.Proofs.YtnjmfedleimlmaaDoor.Ev

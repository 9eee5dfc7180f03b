/- The document's Right: the walk. -/
import Derived.Test.YtfnjlkmhnhojpaaDoorJcTermD
import Derived.LoopTactic
import Derived.Lib.Hide
import Derived.Deep.QuietTactic
import Derived.BigQuiet
namespace Go.Proofs.YtfnjlkmhnhojpaaDoor
open Go Go.RowKit

def needsN (op : Int) : Int := if op < 1 ∨ 17 < op then -1 else if op < 3 then 0 else if op < 5 then 1 else 2
/-- a node that may be -/
def goodN (x : Int × Int × Int) : Bool := decide (1 ≤ x.1 ∧ x.1 ≤ 17 ∧ needsN x.1 = x.2.2 ∧ (2 < x.1 → x.2.1 = 0) ∧ (x.1 = 2 → x.2.1 ≤ 255))
/-- nodes in a block -/
def NAt (w : World) (g : Nat) (l : List (Int × Int × Int)) : Prop :=
  ∀ i x, l[i]? = some x → w.cell? ⟨g, i * 3, none⟩ = some (.int .i64 x.1) ∧ w.cell? ⟨g, i * 3 + 1, none⟩ = some (.int .u32 x.2.1) ∧ w.cell? ⟨g, i * 3 + 2, none⟩ = some (.int .i64 x.2.2)
theorem ncells_at : ∀ (l : List (Int × Int × Int)) (i : Nat) (x : Int × Int × Int), l[i]? = some x → (ncells l)[i * 3]? = some (.int .i64 x.1) ∧ (ncells l)[i * 3 + 1]? = some (.int .u32 x.2.1) ∧ (ncells l)[i * 3 + 2]? = some (.int .i64 x.2.2)
  | [], i, x, h => by simp at h
  | y :: l, 0, x, h => by simp at h; subst h; exact ⟨rfl, rfl, rfl⟩
  | y :: l, i + 1, x, h => by
    have := ncells_at l i x (by simpa using h)
    have e : ∀ j, (ncells (y :: l))[j + 3]? = (ncells l)[j]? := fun j => by
      show ([Value.int .i64 y.1, .int .u32 y.2.1, .int .i64 y.2.2] ++ ncells l)[j + 3]? = _
      rw [List.getElem?_append_right (by simp)]; simp
    rw [show (i + 1) * 3 = i * 3 + 3 by omega, show i * 3 + 3 + 1 = (i * 3 + 1) + 3 by omega, show i * 3 + 3 + 2 = (i * 3 + 2) + 3 by omega, e, e, e]
    exact this
theorem NAt.of_row {w : World} {base g cap n : Nat} {e : TypeId} {l : List (Int × Int × Int)} (h : w.ownsRow base e 3 (.slice (some ⟨g, 0, none⟩) n cap) n (ncells l)) (hn : l.length = n) : NAt w g l := fun i x hx => by
  have hi : i < n := by rw [← hn]; exact (List.getElem?_eq_some_iff.1 hx).1
  obtain ⟨h1, h2, h3⟩ := ncells_at l i x hx
  exact ⟨(h.cellAt _ (by omega)).trans h1, (h.cellAt _ (by omega)).trans h2, (h.cellAt _ (by omega)).trans h3⟩
theorem NAt.below {w w' : World} {g : Nat} {l : List (Int × Int × Int)} (h : NAt w g l) (hb : Below w.heap.size w w') (hg : g < w.heap.size) : NAt w' g l := fun i x hx => by
  obtain ⟨h1, h2, h3⟩ := h i x hx
  exact ⟨(hb.cell (p := ⟨g, _, none⟩) hg).trans h1, (hb.cell (p := ⟨g, _, none⟩) hg).trans h2, (hb.cell (p := ⟨g, _, none⟩) hg).trans h3⟩

theorem below_drewN (B : Nat) (w : World) (n : Nat) : Below B w (w.drewN n) := ⟨rfl, rfl, rfl, Nat.le_refl _, fun _ _ => rfl⟩
theorem all_bad {l : List (Int × Int × Int)} {k : Nat} {x : Int × Int × Int} (hx : l[k]? = some x) (h : goodN x = false) : l.all goodN = false := by
  rw [List.all_eq_false]
  exact ⟨x, List.mem_of_getElem? hx, by rw [h]; exact Bool.false_ne_true⟩
theorem all_take {l : List (Int × Int × Int)} {k : Nat} {x : Int × Int × Int} (hx : l[k]? = some x) (hk : (l.take k).all goodN = true) (h : goodN x = true) : (l.take (k + 1)).all goodN = true := by
  rw [List.take_add_one, hx, List.all_append, hk]
  simp [h]

theorem row_cap {w : World} {base g n cap size : Nat} {e : TypeId} {xs : List Value} (h : w.ownsRow base e size (.slice (some ⟨g, 0, none⟩) n cap) n xs) : n ≤ cap ∧ g < w.heap.size := by
  refine ⟨?_, (h.lt g rfl).2⟩
  rcases h.2 with ⟨h, _⟩ | ⟨g', cap', cur, hv, _, _, hn, _⟩
  · cases h
  · cases hv; exact hn

end Go.Proofs.YtfnjlkmhnhojpaaDoor

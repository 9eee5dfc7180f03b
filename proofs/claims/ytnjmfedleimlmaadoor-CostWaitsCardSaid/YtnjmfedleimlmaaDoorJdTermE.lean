/- The document's Right: the walk. -/
import Derived.Test.YtnjmfedleimlmaaDoorJdTermD
import Derived.LoopTactic
import Derived.Lib.Hide
import Derived.Deep.QuietTactic
import Derived.BigQuiet
namespace Go.Proofs.YtnjmfedleimlmaaDoor
open Go Go.RowKit

def needsN (op : Int) : Int := if op < 1 ∨ 17 < op then -1 else if op < 3 then 0 else if op < 5 then 1 else 2
theorem needs_any (op : Int) (w : World) : Calls Tryd.prog 67 #[.int .i64 op] w fun e w' => e = .returned (.int .i64 (needsN op)) ∧ w' = w := by
  go_enter Tryd.func67, Tryd.ntmps67
  go_wp2
  all_goals (go_ret; exact ⟨congrArg Ending.returned (congrArg (Value.int IntKind.i64) (by unfold needsN; (repeat' split) <;> omega)), rfl⟩)
/-- a node that may be -/
def goodN (x : Int × Int × Int) : Bool := decide (1 ≤ x.1 ∧ x.1 ≤ 17 ∧ needsN x.1 = x.2.2 ∧ (2 < x.1 → x.2.1 = 0) ∧ (x.1 = 2 → x.2.1 ≤ 255))
/-- nodes in a block -/
def NAt (w : World) (g : Nat) (l : List (Int × Int × Int)) : Prop :=
  ∀ i x, l[i]? = some x → w.cell? ⟨g, i * 3, none⟩ = some (.int .i64 x.1) ∧ w.cell? ⟨g, i * 3 + 1, none⟩ = some (.int .u32 x.2.1) ∧ w.cell? ⟨g, i * 3 + 2, none⟩ = some (.int .i64 x.2.2)
theorem ncells_at : ∀ (l : List (Int × Int × Int)) (i : Nat) (x : Int × Int × Int), l[i]? = some x → (ncells l)[i * 3]? = some (.int .i64 x.1) ∧ (ncells l)[i * 3 + 1]? = some (.int .u32 x.2.1) ∧ (ncells l)[i * 3 + 2]? = some (.int .i64 x.2.2)
  | [], i, x, h => by simp at h
  | y :: l, 0, x, h => by simp at h; subst h; exact ⟨rfl, rfl, rfl⟩
  | y :: l, i + 1, x, h => by
    have := ncells_at l i x (by simpa using h)
    have e : ∀ j, (ncells (y :: l))[j + 3]? = (ncells l)[j]? := fun j => by
      show ([Value.int .i64 y.1, .int .u32 y.2.1, .int .i64 y.2.2] ++ ncells l)[j + 3]? = _
      rw [List.getElem?_append_right (by simp)]; simp
    rw [show (i + 1) * 3 = i * 3 + 3 by omega, show i * 3 + 3 + 1 = (i * 3 + 1) + 3 by omega, show i * 3 + 3 + 2 = (i * 3 + 2) + 3 by omega, e, e, e]
    exact this
theorem NAt.of_row {w : World} {base g cap n : Nat} {e : TypeId} {l : List (Int × Int × Int)} (h : w.ownsRow base e 3 (.slice (some ⟨g, 0, none⟩) n cap) n (ncells l)) (hn : l.length = n) : NAt w g l := fun i x hx => by
  have hi : i < n := by rw [← hn]; exact (List.getElem?_eq_some_iff.1 hx).1
  obtain ⟨h1, h2, h3⟩ := ncells_at l i x hx
  exact ⟨(h.cellAt _ (by omega)).trans h1, (h.cellAt _ (by omega)).trans h2, (h.cellAt _ (by omega)).trans h3⟩
theorem NAt.below {w w' : World} {g : Nat} {l : List (Int × Int × Int)} (h : NAt w g l) (hb : Below w.heap.size w w') (hg : g < w.heap.size) : NAt w' g l := fun i x hx => by
  obtain ⟨h1, h2, h3⟩ := h i x hx
  exact ⟨(hb.cell (p := ⟨g, _, none⟩) hg).trans h1, (hb.cell (p := ⟨g, _, none⟩) hg).trans h2, (hb.cell (p := ⟨g, _, none⟩) hg).trans h3⟩

theorem below_drewN (B : Nat) (w : World) (n : Nat) : Below B w (w.drewN n) := ⟨rfl, rfl, rfl, Nat.le_refl _, fun _ _ => rfl⟩
theorem all_bad {l : List (Int × Int × Int)} {k : Nat} {x : Int × Int × Int} (hx : l[k]? = some x) (h : goodN x = false) : l.all goodN = false := by
  rw [List.all_eq_false]
  exact ⟨x, List.mem_of_getElem? hx, by rw [h]; exact Bool.false_ne_true⟩
theorem all_take {l : List (Int × Int × Int)} {k : Nat} {x : Int × Int × Int} (hx : l[k]? = some x) (hk : (l.take k).all goodN = true) (h : goodN x = true) : (l.take (k + 1)).all goodN = true := by
  rw [List.take_add_one, hx, List.all_append, hk]
  simp [h]

set_option maxHeartbeats 4000000 in
set_option maxRecDepth 100000 in
theorem refright_any (l : List (Int × Int × Int)) (g cap : Nat) (w : World) (hl : l.length ≤ 3000) (hc : l.length ≤ cap) (hg : g < w.heap.size) (hN : NAt w g l) :
    Calls Tryd.prog 41 #[.slice (some ⟨g, 0, none⟩) l.length cap] w fun e w' => e = .returned (.bool (l.all goodN)) ∧ Below w.heap.size w w' := by
  go_enter Tryd.func41, Tryd.ntmps41
  go_wp2
  go_loopw [3] (fun i wr => ∃ k : Nat, i = .int .i64 k ∧ k ≤ l.length ∧ (l.take k).all goodN = true ∧ Hid (Below w.heap.size w wr)) (fun i _ => l.length - (intOf i).toNat)
  case atStart => exact ⟨0, rfl, by omega, rfl, Below.refl _ _⟩
  case round =>
    obtain ⟨k, rfl, hk, hall, hB⟩ := hrel
    have hNr := hN.below hB.out hg
    by_cases hlt : k < l.length
    · obtain ⟨x, hx⟩ : ∃ x, l[k]? = some x := ⟨l[k], List.getElem?_eq_getElem hlt⟩
      obtain ⟨hc1, hc2, hc3⟩ := hNr k x hx
      obtain ⟨o, n, q⟩ := x
      dsimp only at hc1 hc2 hc3
      have hnn : needsN o < 0 ↔ ¬ (1 ≤ o ∧ o ≤ 17) := by unfold needsN; (repeat' split) <;> omega
      by_cases h1 : 1 ≤ o ∧ o ≤ 17
      · have hd1 : decide (needsN o < 0) = false := decide_eq_false (by omega)
        by_cases h2 : needsN o = q
        · have hd2 : (needsN o != q) = false := by simpa using h2
          by_cases h3 : 2 < o
          · have hd3 : decide (2 < o) = true := decide_eq_true h3
            have hd5 : (o == 2) = false := by simpa using (show ¬ o = 2 by omega)
            by_cases h4 : n = 0
            · have hd4 : (n != 0) = false := by simpa using h4
              have HG := Lib.hid (show goodN (o, n, q) = true by unfold goodN; exact decide_eq_true (by dsimp only; omega))
              clear h2 h4
              have hall := Lib.hid hall
              go_wp2
              go_quiet ((go_at_call 67; exact Calls.quiet_of_same (needs_any _ _)))
              go_wp2
              go_roundw
              case rel => exact ⟨k + 1, by go_num, by omega, all_take hx hall HG.out, hB.out.trans (below_drewN _ _ _)⟩
              case measure => simp [intOf]; omega
            · have hd4 : (n != 0) = true := by simpa using h4
              have HB := Lib.hid (show goodN (o, n, q) = false by unfold goodN; exact decide_eq_false (by dsimp only; omega))
              clear h2 h4
              clear hall hNr
              go_wp2
              go_quiet ((go_at_call 67; exact Calls.quiet_of_same (needs_any _ _)))
              go_wp2
              go_ret
              exact ⟨congrArg Ending.returned (congrArg Value.bool (all_bad hx HB.out).symm), hB.out.trans (below_drewN _ _ _)⟩
          · have hd3 : decide (2 < o) = false := decide_eq_false h3
            by_cases h5 : o = 2
            · have hd5 : (o == 2) = true := by simpa using h5
              by_cases h6 : 255 < n
              · have hd6 : decide (255 < n) = true := decide_eq_true h6
                have HB := Lib.hid (show goodN (o, n, q) = false by unfold goodN; exact decide_eq_false (by dsimp only; omega))
                clear h2 h5 h6
                clear hall hNr
                go_wp2
                go_quiet ((go_at_call 67; exact Calls.quiet_of_same (needs_any _ _)))
                go_wp2
                go_ret
                exact ⟨congrArg Ending.returned (congrArg Value.bool (all_bad hx HB.out).symm), hB.out.trans (below_drewN _ _ _)⟩
              · have hd6 : decide (255 < n) = false := decide_eq_false h6
                have HG := Lib.hid (show goodN (o, n, q) = true by unfold goodN; exact decide_eq_true (by dsimp only; omega))
                clear h2 h5 h6
                have hall := Lib.hid hall
                go_wp2
                go_quiet ((go_at_call 67; exact Calls.quiet_of_same (needs_any _ _)))
                go_wp2
                go_roundw
                case rel => exact ⟨k + 1, by go_num, by omega, all_take hx hall HG.out, hB.out.trans (below_drewN _ _ _)⟩
                case measure => simp [intOf]; omega
            · have hd5 : (o == 2) = false := by simpa using h5
              have HG := Lib.hid (show goodN (o, n, q) = true by unfold goodN; exact decide_eq_true (by dsimp only; omega))
              clear h2 h5
              have hall := Lib.hid hall
              go_wp2
              go_quiet ((go_at_call 67; exact Calls.quiet_of_same (needs_any _ _)))
              go_wp2
              go_roundw
              case rel => exact ⟨k + 1, by go_num, by omega, all_take hx hall HG.out, hB.out.trans (below_drewN _ _ _)⟩
              case measure => simp [intOf]; omega
        · have hd2 : (needsN o != q) = true := by simpa using h2
          have HB := Lib.hid (show goodN (o, n, q) = false by unfold goodN; exact decide_eq_false (by dsimp only; omega))
          clear h2
          clear hall hNr
          go_wp2
          go_quiet ((go_at_call 67; exact Calls.quiet_of_same (needs_any _ _)))
          go_wp2
          go_ret
          exact ⟨congrArg Ending.returned (congrArg Value.bool (all_bad hx HB.out).symm), hB.out.trans (below_drewN _ _ _)⟩
      · have hd1 : decide (needsN o < 0) = true := decide_eq_true (by omega)
        have HB := Lib.hid (show goodN (o, n, q) = false by unfold goodN; exact decide_eq_false (by dsimp only; omega))
        clear hall hNr
        go_wp2
        go_quiet ((go_at_call 67; exact Calls.quiet_of_same (needs_any _ _)))
        go_wp2
        go_ret
        exact ⟨congrArg Ending.returned (congrArg Value.bool (all_bad hx HB.out).symm), hB.out.trans (below_drewN _ _ _)⟩
    · have hkl : k = l.length := by omega
      subst hkl
      have hall' : l.all goodN = true := by rwa [List.take_of_length_le (Nat.le_refl _)] at hall
      have HH := Lib.hid hall'
      clear hall hall' hNr
      go_wp2
      go_ret
      exact ⟨congrArg Ending.returned (congrArg Value.bool (by rw [HH.out]; simp; omega)), hB.out⟩

theorem refright_at (l : List (Int × Int × Int)) (n g cap : Nat) (w : World) (hn : l.length = n) (hl : n ≤ 3000) (hc : n ≤ cap) (hg : g < w.heap.size) (hN : NAt w g l) :
    Calls Tryd.prog 41 #[.slice (some ⟨g, 0, none⟩) n cap] w fun e w' => e = .returned (.bool (l.all goodN)) ∧ Below w.heap.size w w' := by
  subst hn
  exact refright_any l g cap w hl hc hg hN
theorem row_cap {w : World} {base g n cap size : Nat} {e : TypeId} {xs : List Value} (h : w.ownsRow base e size (.slice (some ⟨g, 0, none⟩) n cap) n xs) : n ≤ cap ∧ g < w.heap.size := by
  refine ⟨?_, (h.lt g rfl).2⟩
  rcases h.2 with ⟨h, _⟩ | ⟨g', cap', cur, hv, _, _, hn, _⟩
  · cases h
  · cases hv; exact hn

end Go.Proofs.YtnjmfedleimlmaaDoor

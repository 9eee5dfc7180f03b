/- The walks of chapter 5's laws on fetches and divisions. -/
import Derived.Test.YthpkejlmelednaaDoorClkA
namespace Go.Proofs.YthpkejlmelednaaDoor
open Go.RowKit

namespace Rm
theorem missN_t (line l : Int) : missN true line l = if line = l then 0 else 1 := by simp [missN]
theorem missN_f (line l : Int) : missN false line l = 1 := by simp [missN]
/-- does a line differ from the one that the buffer has? -/
def miss1 (l q : Int) : Int := if q = l then 0 else 1
theorem miss1_y {l q : Int} (h : q = l) : miss1 l q = 0 := by simp [miss1, h]
theorem miss1_n {l q : Int} (h : ¬ q = l) : miss1 l q = 1 := by simp [miss1, h]
theorem missN_1 (line q : Int) : missN true line q = miss1 line q := by
  by_cases h : line = q
  · simp [missN, miss1, h]
  · simp [missN, miss1, h, Ne.symm h]
theorem missN_0 (line q : Int) (h : 0 ≤ q) : missN false line q = miss1 (-1) q := by
  have h2 : ¬ q = -1 := by omega
  simp [missN, miss1, h2]
theorem divN_bd (a b : Int) (ha : 0 ≤ a) (ha1 : a ≤ 4294967295) (hb : 0 ≤ b) (hb1 : b ≤ 4294967295) : 2 ≤ divN a b ∧ divN a b ≤ 10 := by
  have h1 := bitLen_le32 a.toNat (by omega)
  have h2 := bitLen_le32 b.toNat (by omega)
  unfold divN
  split
  · omega
  · rename_i h
    have hp : 0 < Lib.bitLen b.toNat := by
      have hb' : b.toNat ≠ 0 := by omega
      have := Lib.bitLen_half b.toNat hb' (by omega)
      omega
    omega
theorem bitLen_mono_aux : ∀ f x y : Nat, x ≤ y → Lib.bitLenAux f x ≤ Lib.bitLenAux f y
  | 0, _, _, _ => Nat.le_refl _
  | f + 1, x, y, h => by
    simp only [Lib.bitLenAux]
    by_cases hx : x = 0
    · rw [if_pos hx]; omega
    · rw [if_neg hx, if_neg (by omega)]
      have := bitLen_mono_aux f (x / 2) (y / 2) (by omega)
      omega
theorem bitLen_mono (x y : Nat) (h : x ≤ y) : Lib.bitLen x ≤ Lib.bitLen y := bitLen_mono_aux 64 x y h
theorem divN_mono (a c b : Int) (h0 : 0 ≤ a) (h : a ≤ c) : divN a b ≤ divN c b := by
  have := bitLen_mono a.toNat c.toNat (by omega)
  unfold divN
  (repeat' split) <;> omega
theorem divN_anti (a b c : Int) (h0 : 0 < b) (h : b ≤ c) : divN a c ≤ divN a b := by
  have := bitLen_mono b.toNat c.toNat (by omega)
  unfold divN
  (repeat' split) <;> omega
end Rm

theorem anchor05_any (w : World) : Calls Tryd.prog 13 #[] w fun e w' => e = .returned (.bool true) ∧ Below w.heap.size w w' := by
  have e1 : Rm.missN false 0 0 = 1 := by decide
  have e2 : Rm.missN true 0 1 = 1 := by decide
  have e3 : Rm.divN 100 7 = 4 := by decide
  go_enter Tryd.func13, Tryd.ntmps13
  go_wp2_with fail
  refine (fetch_four false 0 14 _ (by omega) (by omega)).mono ?_
  rintro e w1 ⟨rfl, hb1⟩
  go_wp2_with (go_at_call 18; refine (div_any _ _ _ (by omega) (by omega) (by omega) (by omega)).mono ?_; rintro e w' ⟨rfl, rfl⟩)
  go_ret
  exact ⟨rfl, hb1.alloc hb1.size _⟩

end Go.Proofs.YthpkejlmelednaaDoor

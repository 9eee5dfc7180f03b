/- The walks of chapter 5's laws on fetches and divisions. -/
import Derived.Test.YtcpalglmnondmaaClkA
namespace Go.Proofs.Ytcpalglmnondmaa
open Go.RowKit

namespace Rm
theorem missN_t (line l : Int) : missN true line l = if line = l then 0 else 1 := by simp [missN]
theorem missN_f (line l : Int) : missN false line l = 1 := by simp [missN]
/-- does a line differ from the one that the buffer has? -/
def miss1 (l q : Int) : Int := if q = l then 0 else 1
theorem miss1_y {l q : Int} (h : q = l) : miss1 l q = 0 := by simp [miss1, h]
theorem miss1_n {l q : Int} (h : ¬ q = l) : miss1 l q = 1 := by simp [miss1, h]
theorem missN_1 (line q : Int) : missN true line q = miss1 line q := by
  by_cases h : line = q
  · simp [missN, miss1, h]
  · simp [missN, miss1, h, Ne.symm h]
theorem missN_0 (line q : Int) (h : 0 ≤ q) : missN false line q = miss1 (-1) q := by
  have h2 : ¬ q = -1 := by omega
  simp [missN, miss1, h2]
theorem divN_bd (a b : Int) (ha : 0 ≤ a) (ha1 : a ≤ 4294967295) (hb : 0 ≤ b) (hb1 : b ≤ 4294967295) : 2 ≤ divN a b ∧ divN a b ≤ 10 := by
  have h1 := bitLen_le32 a.toNat (by omega)
  have h2 := bitLen_le32 b.toNat (by omega)
  unfold divN
  split
  · omega
  · rename_i h
    have hp : 0 < Lib.bitLen b.toNat := by
      have hb' : b.toNat ≠ 0 := by omega
      have := Lib.bitLen_half b.toNat hb' (by omega)
      omega
    omega
theorem bitLen_mono_aux : ∀ f x y : Nat, x ≤ y → Lib.bitLenAux f x ≤ Lib.bitLenAux f y
  | 0, _, _, _ => Nat.le_refl _
  | f + 1, x, y, h => by
    simp only [Lib.bitLenAux]
    by_cases hx : x = 0
    · rw [if_pos hx]; omega
    · rw [if_neg hx, if_neg (by omega)]
      have := bitLen_mono_aux f (x / 2) (y / 2) (by omega)
      omega
theorem bitLen_mono (x y : Nat) (h : x ≤ y) : Lib.bitLen x ≤ Lib.bitLen y := bitLen_mono_aux 64 x y h
theorem divN_mono (a c b : Int) (h0 : 0 ≤ a) (h : a ≤ c) : divN a b ≤ divN c b := by
  have := bitLen_mono a.toNat c.toNat (by omega)
  unfold divN
  (repeat' split) <;> omega
theorem divN_anti (a b c : Int) (h0 : 0 < b) (h : b ≤ c) : divN a c ≤ divN a b := by
  have := bitLen_mono b.toNat c.toNat (by omega)
  unfold divN
  (repeat' split) <;> omega
end Rm

theorem anchor05_any (w : World) : Calls Try.prog 14 #[] w fun e w' => e = .returned (.bool true) ∧ Below w.heap.size w w' := by
  have e1 : Rm.missN false 0 0 = 1 := by decide
  have e2 : Rm.missN true 0 1 = 1 := by decide
  have e3 : Rm.divN 100 7 = 4 := by decide
  go_enter Try.func14, Try.ntmps14
  go_wp2_with fail
  refine (fetch_four false 0 14 _ (by omega) (by omega)).mono ?_
  rintro e w1 ⟨rfl, hb1⟩
  go_wp2_with (go_at_call 19; refine (div_any _ _ _ (by omega) (by omega) (by omega) (by omega)).mono ?_; rintro e w' ⟨rfl, rfl⟩)
  go_ret
  exact ⟨rfl, hb1.alloc hb1.size _⟩

theorem ClockDivs_walk (a0 : Int) (b0 : 0 ≤ a0 ∧ a0 ≤ 4294967295) (a1 : Int) (b1 : 0 ≤ a1 ∧ a1 ≤ 4294967295) (a2 : Int) (b2 : 0 ≤ a2 ∧ a2 ≤ 4294967295) (W : World) :
    Calls Try.prog 5 #[.int .u32 a0, .int .u32 a1, .int .u32 a2] W fun e w' => e = .returned (.bool true) ∧ Below W.heap.size W w' := by
  have hd := Rm.divN_bd a0 a1 b0.1 b0.2 b1.1 b1.2
  have hm := Rm.divN_mono (min a0 a2) (max a0 a2) a1 (by omega) (by omega)
  have hl : 0 < min a1 a2 → Rm.divN a0 (max a1 a2) ≤ Rm.divN a0 (min a1 a2) := fun h => Rm.divN_anti a0 (min a1 a2) (max a1 a2) h (by omega)
  go_enter Try.func5, Try.ntmps5
  go_wp2_with fail
  refine (anchor05_any _).mono ?_
  rintro e w1 ⟨rfl, hb1⟩
  go_wp2_with fail
  refine (div_any a0 a1 _ b0.1 b0.2 b1.1 b1.2).mono ?_
  rintro e w' ⟨rfl, rfl⟩
  go_wp2_with fail
  refine (div_any (max a0 a2) a1 _ (by omega) (by omega) b1.1 b1.2).mono ?_
  rintro e w' ⟨rfl, rfl⟩
  go_wp2_with fail
  refine (div_any (min a0 a2) a1 _ (by omega) (by omega) b1.1 b1.2).mono ?_
  rintro e w' ⟨rfl, rfl⟩
  by_cases hz : min a1 a2 = 0
  · have bz : (min a1 a2 == 0) = true := by simpa using hz
    clear hl hz
    go_wp2_with fail
    go_ret
    exact ⟨rfl, hb1⟩
  · have bz : (min a1 a2 == 0) = false := by simpa using hz
    have hl2 := hl (by omega)
    clear hl hz
    go_wp2_with fail
    refine (div_any a0 (max a1 a2) _ b0.1 b0.2 (by omega) (by omega)).mono ?_
    rintro e w' ⟨rfl, rfl⟩
    go_wp2_with fail
    refine (div_any a0 (min a1 a2) _ b0.1 b0.2 (by omega) (by omega)).mono ?_
    rintro e w' ⟨rfl, rfl⟩
    go_wp2_with fail
    go_ret
    exact ⟨rfl, hb1⟩

/-- the document's misses of one half -/
theorem misses_one (l a : Int) (b : Nat) (w : World) (ha0 : 0 ≤ a) (ha1 : a ≤ 4294967295) (hc : w.cell? ⟨b, 0, none⟩ = some (.int .u32 a)) :
    Calls Try.prog 16 #[.int .i64 l, .slice (some ⟨b, 0, none⟩) 1 1] w fun e w' => e = .returned (.tuple #[.int .i64 (Rm.miss1 l (a / 16)), .int .i64 (a / 16)]) ∧ w = w' := by
  by_cases h : a / 16 = l
  · have b1 : (a / 16 != l) = false := by rw [bne_eq_false_iff_eq]; omega
    have HF := Lib.hid (Rm.miss1_y h)
    clear h
    go_enter Try.func16, Try.ntmps16
    go_wp2
    refine wp_loop_rounds 2 ?_
    iterate 2 (rw [rounds_succ]; go_wp2)
    go_ret2
    exact ⟨ret_2 HF.out.symm rfl, rfl⟩
  · have b1 : (a / 16 != l) = true := by rw [bne_iff_ne]; omega
    have HF := Lib.hid (Rm.miss1_n h)
    clear h
    go_enter Try.func16, Try.ntmps16
    go_wp2
    refine wp_loop_rounds 2 ?_
    iterate 2 (rw [rounds_succ]; go_wp2)
    go_ret2
    exact ⟨ret_2 HF.out.symm rfl, rfl⟩

theorem misses_two (l a c : Int) (b : Nat) (w : World) (ha0 : 0 ≤ a) (ha1 : a ≤ 4294967295) (hd0 : 0 ≤ c) (hd1 : c ≤ 4294967295) (hc : w.cell? ⟨b, 0, none⟩ = some (.int .u32 a)) (hc2 : w.cell? ⟨b, 1, none⟩ = some (.int .u32 c)) :
    Calls Try.prog 16 #[.int .i64 l, .slice (some ⟨b, 0, none⟩) 2 2] w fun e w' => e = .returned (.tuple #[.int .i64 (Rm.miss1 l (a / 16) + Rm.miss1 (a / 16) (c / 16)), .int .i64 (c / 16)]) ∧ w = w' := by
  by_cases h : a / 16 = l
  all_goals by_cases h2 : c / 16 = a / 16
  · have b1 : (a / 16 != l) = false := by rw [bne_eq_false_iff_eq]; omega
    have b2 : (c / 16 != a / 16) = false := by rw [bne_eq_false_iff_eq]; omega
    have HF := Lib.hid (show Rm.miss1 l (a / 16) + Rm.miss1 (a / 16) (c / 16) = 0 by rw [Rm.miss1_y h, Rm.miss1_y h2]; rfl)
    clear h h2
    go_enter Try.func16, Try.ntmps16
    go_wp2
    refine wp_loop_rounds 3 ?_
    iterate 3 (rw [rounds_succ]; go_wp2)
    go_ret2
    exact ⟨ret_2 HF.out.symm rfl, rfl⟩
  · have b1 : (a / 16 != l) = false := by rw [bne_eq_false_iff_eq]; omega
    have b2 : (c / 16 != a / 16) = true := by rw [bne_iff_ne]; omega
    have HF := Lib.hid (show Rm.miss1 l (a / 16) + Rm.miss1 (a / 16) (c / 16) = 1 by rw [Rm.miss1_y h, Rm.miss1_n h2]; rfl)
    clear h h2
    go_enter Try.func16, Try.ntmps16
    go_wp2
    refine wp_loop_rounds 3 ?_
    iterate 3 (rw [rounds_succ]; go_wp2)
    go_ret2
    exact ⟨ret_2 HF.out.symm rfl, rfl⟩
  · have b1 : (a / 16 != l) = true := by rw [bne_iff_ne]; omega
    have b2 : (c / 16 != a / 16) = false := by rw [bne_eq_false_iff_eq]; omega
    have HF := Lib.hid (show Rm.miss1 l (a / 16) + Rm.miss1 (a / 16) (c / 16) = 1 by rw [Rm.miss1_n h, Rm.miss1_y h2]; rfl)
    clear h h2
    go_enter Try.func16, Try.ntmps16
    go_wp2
    refine wp_loop_rounds 3 ?_
    iterate 3 (rw [rounds_succ]; go_wp2)
    go_ret2
    exact ⟨ret_2 HF.out.symm rfl, rfl⟩
  · have b1 : (a / 16 != l) = true := by rw [bne_iff_ne]; omega
    have b2 : (c / 16 != a / 16) = true := by rw [bne_iff_ne]; omega
    have HF := Lib.hid (show Rm.miss1 l (a / 16) + Rm.miss1 (a / 16) (c / 16) = 2 by rw [Rm.miss1_n h, Rm.miss1_n h2]; rfl)
    clear h h2
    go_enter Try.func16, Try.ntmps16
    go_wp2
    refine wp_loop_rounds 3 ?_
    iterate 3 (rw [rounds_succ]; go_wp2)
    go_ret2
    exact ⟨ret_2 HF.out.symm rfl, rfl⟩

theorem halves_four (a : Int) (w : World) :
    Calls Try.prog 17 #[.int .u32 a, .int .i64 4] w fun e w' => e = .returned (.slice (some ⟨w.heap.size, 0, none⟩) 2 2) ∧ w' = w.alloc (.cells #[.int .u32 a, .int .u32 ((a + 2) % 4294967296)] 22) := by
  go_enter Try.func17, Try.ntmps17
  go_wp2
  go_ret
  exact ⟨rfl, rfl⟩

theorem halves_two (a : Int) (w : World) :
    Calls Try.prog 17 #[.int .u32 a, .int .i64 2] w fun e w' => e = .returned (.slice (some ⟨w.heap.size, 0, none⟩) 1 1) ∧ w' = w.alloc (.cells #[.int .u32 a] 22) := by
  go_enter Try.func17, Try.ntmps17
  go_wp2
  go_ret
  exact ⟨rfl, rfl⟩

end Go.Proofs.Ytcpalglmnondmaa

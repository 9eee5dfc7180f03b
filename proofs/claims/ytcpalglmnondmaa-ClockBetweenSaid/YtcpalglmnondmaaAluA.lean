/- Walks of the words' functions without a loop: a sum of 32 bits with a carry, its flags, the document's sum, a shift by one bit, a word's length, products, pairs. -/
import Derived.Test.YtcpalglmnondmaaChecked
import Derived.Test.YtcpalglmnondmaaNums
import Derived.Test.YtcpalglmnondmaaLen32
import Derived.WalkKit
import Derived.WalkSpells
import Derived.Lib.Strings
import Derived.Lib.Slices
import Derived.Lib.Small
import Derived.Lib.Walk
import Derived.Lib.BitFns
import Derived.Lib.Hide
namespace Go.Proofs.Ytcpalglmnondmaa
open Go.RowKit

theorem ret_i {k : IntKind} {a b : Int} (h : a = b) : Ending.returned (.int k a) = .returned (.int k b) := by rw [h]
theorem ret_2 {k l : IntKind} {a b c d : Int} (h : a = b) (g : c = d) : Ending.returned (.tuple #[.int k a, .int l c]) = .returned (.tuple #[.int k b, .int l d]) := by rw [h, g]
theorem ret_3 {k l m : IntKind} {a b c d p q : Int} (h : a = b) (g : c = d) (f : p = q) : Ending.returned (.tuple #[.int k a, .int l c, .int m p]) = .returned (.tuple #[.int k b, .int l d, .int m q]) := by rw [h, g, f]
theorem ret_b {a b : Bool} (h : a = b) : Ending.returned (.bool a) = .returned (.bool b) := by rw [h]

theorem add32_any (x y c : Int) (w : World) (hx0 : 0 ≤ x) (hx1 : x ≤ 4294967295) (hy0 : 0 ≤ y) (hy1 : y ≤ 4294967295) (hc0 : 0 ≤ c) (hc1 : c ≤ 1) :
    Calls Try.prog 33 #[.int .u32 x, .int .u32 y, .int .u32 c] w fun e w' => e = .returned (.tuple #[.int .u32 ((x + y + c) % 4294967296), .int .u32 ((x + y + c) / 4294967296)]) ∧ w = w' := by
  go_enter Try.func33, Try.ntmps33
  go_wp2
  go_ret2
  exact ⟨ret_2 (by omega) (by omega), rfl⟩

theorem signed_any (x : Int) (w : World) (hx0 : 0 ≤ x) (hx1 : x ≤ 4294967295) :
    Calls Try.prog 34 #[.int .u32 x] w fun e w' => e = .returned (.int .i64 (Rm.sgn x)) ∧ w = w' := by
  by_cases h : x ≥ 2147483648
  all_goals
    go_enter Try.func34, Try.ntmps34
    go_wp2
    go_ret
    exact ⟨ret_i (by unfold Rm.sgn; split <;> omega), rfl⟩

theorem add_any (x y c : Int) (w : World) (hx0 : 0 ≤ x) (hx1 : x ≤ 4294967295) (hy0 : 0 ≤ y) (hy1 : y ≤ 4294967295) (hc0 : 0 ≤ c) :
    Calls Try.prog 21 #[.int .u32 x, .int .u32 y, .int .u32 c] w fun e w' => e = .returned (.tuple #[.int .u32 (Rm.addS x y c), .int .u32 (Rm.addC x y c), .int .u32 (Rm.addV x y c)]) ∧ w = w' := by
  have hv := Lib.hid (Rm.addV_is x y c hc0 hx0 hx1 hy0 hy1)
  have hs : 0 ≤ (x + y + min c 1) % 4294967296 ∧ (x + y + min c 1) % 4294967296 ≤ 4294967295 := by omega
  go_enter Try.func21, Try.ntmps21
  go_wp2_with fail
  refine (add32_any _ _ _ _ hx0 hx1 hy0 hy1 (by omega) (by omega)).mono ?_
  rintro e w' ⟨rfl, rfl⟩
  go_wp2
  go_ret3
  exact ⟨ret_3 rfl rfl hv.out, rfl⟩

theorem refadd_any (x y c : Int) (w : World) (hx0 : 0 ≤ x) (hx1 : x ≤ 4294967295) (hy0 : 0 ≤ y) (hy1 : y ≤ 4294967295) (hc0 : 0 ≤ c) :
    Calls Try.prog 22 #[.int .u32 x, .int .u32 y, .int .u32 c] w fun e w' => e = .returned (.tuple #[.int .u32 (Rm.addS x y c), .int .u32 (Rm.addC x y c), .int .u32 (Rm.addV x y c)]) ∧ w = w' := by
  have h1 := Rm.sgn_bd x hx0 hx1
  have h2 := Rm.sgn_bd y hy0 hy1
  by_cases hc : c = 0
  · subst hc
    have em : min (0 : Int) 1 = 0 := by omega
    have Em := Lib.hid em
    clear em
    have hs : 0 ≤ (x + y) % 4294967296 ∧ (x + y) % 4294967296 ≤ 4294967295 := by omega
    have h3 := Rm.sgn_bd ((x + y) % 4294967296) hs.1 hs.2
    go_enter Try.func22, Try.ntmps22
    go_wp2_with (go_at_call 34; refine (signed_any _ _ (by omega) (by omega)).mono ?_; rintro e w' ⟨rfl, rfl⟩)
    all_goals
      go_ret3
      refine ⟨?_, rfl⟩
      simp only [bne_iff_ne, bne_eq_false_iff_eq, ne_eq] at *
      refine ret_3 ?_ ?_ ?_ <;> simp only [Rm.addS, Rm.addC, Rm.addV, Rm.one01, Em.out, Int.add_zero] <;> (try split) <;> omega
  · have hc1 : ¬ c < 1 := by omega
    have hs : 0 ≤ (x + y + 1) % 4294967296 ∧ (x + y + 1) % 4294967296 ≤ 4294967295 := by omega
    have h3 := Rm.sgn_bd ((x + y + 1) % 4294967296) hs.1 hs.2
    have em : min c 1 = 1 := by omega
    have Em := Lib.hid em
    clear em
    go_enter Try.func22, Try.ntmps22
    go_wp2_with (go_at_call 34; refine (signed_any _ _ (by omega) (by omega)).mono ?_; rintro e w' ⟨rfl, rfl⟩)
    all_goals
      go_ret3
      refine ⟨?_, rfl⟩
      simp only [bne_iff_ne, bne_eq_false_iff_eq, ne_eq] at *
      refine ret_3 ?_ ?_ ?_ <;> simp only [Rm.addS, Rm.addC, Rm.addV, Rm.one01, Em.out] <;> (try split) <;> omega

theorem pair_any (lo hi : Int) (w : World) (hx0 : 0 ≤ lo) (hx1 : lo ≤ 4294967295) (hy0 : 0 ≤ hi) (hy1 : hi ≤ 4294967295) :
    Calls Try.prog 25 #[.int .u32 lo, .int .u32 hi] w fun e w' => e = .returned (.int .u64 (hi * 4294967296 + lo)) ∧ w = w' := by
  go_enter Try.func25, Try.ntmps25
  go_wp2
  go_ret
  exact ⟨ret_i (Rm.pair_or hi lo hx0 hx1 hy0 hy1), rfl⟩

theorem mul32_any (x y : Int) (w : World) (hx0 : 0 ≤ x) (hx1 : x ≤ 4294967295) (hy0 : 0 ≤ y) (hy1 : y ≤ 4294967295) :
    Calls Try.prog 38 #[.int .u32 x, .int .u32 y] w fun e w' => e = .returned (.tuple #[.int .u32 (x * y / 4294967296), .int .u32 (x * y % 4294967296)]) ∧ w = w' := by
  have hp := prod_bound x y hx0 hx1 hy0 hy1
  go_enter Try.func38, Try.ntmps38
  go_wp2
  go_ret2
  exact ⟨ret_2 (by omega) (by omega), rfl⟩

theorem wide_any (x y : Int) (w : World) (hx0 : 0 ≤ x) (hx1 : x ≤ 4294967295) (hy0 : 0 ≤ y) (hy1 : y ≤ 4294967295) :
    Calls Try.prog 28 #[.int .u32 x, .int .u32 y] w fun e w' => e = .returned (.tuple #[.int .u32 (x * y % 4294967296), .int .u32 (x * y / 4294967296)]) ∧ w = w' := by
  go_enter Try.func28, Try.ntmps28
  go_wp2_with (go_at_call 38; refine (mul32_any _ _ _ hx0 hx1 hy0 hy1).mono ?_; rintro e w' ⟨rfl, rfl⟩)
  go_ret2
  exact ⟨rfl, rfl⟩

theorem bit_any (x n : Int) (w : World) (hx0 : 0 ≤ x) (hx1 : x ≤ 4294967295) :
    Calls Try.prog 27 #[.int .u32 x, .int .i64 n] w fun e w' => e = .returned (.int .u32 ((Rm.bitN x.toNat n : Nat) : Int)) ∧ w = w' := by
  by_cases h : n < 0
  · have hb := Lib.hid (Rm.bitN_out x.toNat n (.inl h))
    go_enter Try.func27, Try.ntmps27
    go_wp2
    go_ret
    exact ⟨ret_i (by rw [hb.out]; rfl), rfl⟩
  · by_cases h2 : 31 < n
    · have hb := Lib.hid (Rm.bitN_out x.toNat n (.inr h2))
      go_enter Try.func27, Try.ntmps27
      go_wp2
      go_ret
      exact ⟨ret_i (by rw [hb.out]; rfl), rfl⟩
    · go_enter Try.func27, Try.ntmps27
      go_wp2
      go_ret
      refine ⟨ret_i ?_, rfl⟩
      have hs := Rm.shr_bd x n.toNat hx0 hx1
      exact (Rm.and1 _ hs.1 hs.2).trans (Rm.bitN_in x n (by omega) (by omega) hx0).symm

theorem len_any (x : Int) (w : World) (h0 : 0 ≤ x) (h1 : x ≤ 4294967295) :
    Calls Try.prog 29 #[.int .u32 x] w fun e w' => e = .returned (.int .i64 (Lib.bitLen x.toNat)) ∧ w = w' := by
  go_enter Try.func29, Try.ntmps29
  go_wp2_with (go_at_call 39; refine (len32_any _ _ h0 h1).mono ?_; rintro e w' ⟨rfl, rfl⟩)
  go_ret
  exact ⟨rfl, rfl⟩

end Go.Proofs.Ytcpalglmnondmaa

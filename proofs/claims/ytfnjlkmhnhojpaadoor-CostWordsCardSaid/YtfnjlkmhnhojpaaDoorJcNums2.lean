/- More of words as numbers: turned there and back, shifted out and back; halves of signed words. No program in sight. -/
import Derived.Test.YtfnjlkmhnhojpaaDoorJcNums
import Derived.RowKit
import Derived.Lib.ItoaNum
namespace Go.Proofs.YtfnjlkmhnhojpaaDoor.Rm
open Go.RowKit

theorem turn_back (x n : Nat) (hx : x < 4294967296) (hn : n ≤ 32) : itW 3 (32 - n) (itW 3 n x) = x := by
  have h3 : (3 : Int) = 0 ∨ (3 : Int) = 1 ∨ (3 : Int) = 2 ∨ (3 : Int) = 3 := by omega
  have hy := itW_lt 3 n x hx
  refine word_ext _ _ (itW_lt 3 _ _ hy) hx ?_
  intro i hi
  rw [bit_it 3 h3 _ hy _ _ (by omega) (by omega), bit_it 3 h3 x hx n _ (by simp [srcN]; omega) (by simp [srcN]; omega)]
  congr 1
  simp [srcN]
  omega

theorem out_back (x n : Nat) (hx : x < 4294967296) (i : Int) (h0 : 0 ≤ i) (h1 : i ≤ 31) : bitN (itW 1 n (itW 0 n x)) i = if i < 32 - (n : Int) then bitN x i else 0 := by
  have hy := itW_lt 0 n x hx
  rw [bit_it 1 (by omega) _ hy n i h0 h1]
  have e : srcN 1 i n = i + n := by simp [srcN]
  rw [e]
  split
  · rw [bit_it 0 (by omega) x hx n _ (by omega) (by omega)]
    congr 1
    simp [srcN]
  · exact bitN_out _ _ (by omega)

theorem half_neg (c m : Int) (h : c = 2 * m) : c.tdiv 2 = m := by subst h; exact Int.mul_tdiv_cancel_left m (by omega)

theorem oneW2 (y : Nat) : oneW 2 y = y / 2 + y / 2147483648 * 2147483648 := by simp [oneW]
theorem sgn_mod (y : Nat) (hy : y < 4294967296) : sgn (y : Int) % 4294967296 = (y : Int) := by unfold sgn; split <;> omega
theorem sgn_wrap (x : Int) (h0 : 0 ≤ x) (h1 : x ≤ 4294967295) : wrap32 x = sgn x := by unfold sgn wrap32; split <;> omega
theorem side_step (y : Nat) (hy : y < 4294967296) : ∃ m : Int, sgn (y : Int) - (y : Int) % 2 = 2 * m ∧ -2147483648 ≤ sgn (y : Int) - (y : Int) % 2 ∧ sgn (y : Int) - (y : Int) % 2 ≤ 2147483647 ∧ -2147483648 ≤ m ∧ m ≤ 2147483647 ∧ m = sgn ((oneW 2 y : Nat) : Int) := by
  rw [oneW2]
  unfold sgn
  refine ⟨((if (y : Int) ≥ 2147483648 then (y : Int) - 4294967296 else (y : Int)) - (y : Int) % 2) / 2, ?_⟩
  by_cases h : (y : Int) ≥ 2147483648
  · have e : y / 2147483648 = 1 := by omega
    rw [if_pos h, e, if_pos (by omega)]
    omega
  · have e : y / 2147483648 = 0 := by omega
    rw [if_neg h, e, if_neg (by omega)]
    omega

end Go.Proofs.YtfnjlkmhnhojpaaDoor.Rm

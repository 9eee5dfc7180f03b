/- Words of 32 bits as natural numbers: a shift by one bit, by many, single bits, sums with a carry. No program in sight. -/
import Derived.Laws.BitsAllLaws
import Derived.Laws.MathBits
import Derived.Lib.BitFns
namespace Go.Proofs.YtjcacjeoddnmhaaDoor.Rm

/-- a word that is shifted by one bit: 0 up, 1 down, 2 down with the sign, else turned down -/
def oneW (k : Int) (x : Nat) : Nat :=
  if k = 0 then x * 2 % 4294967296 else if k = 1 then x / 2 else if k = 2 then x / 2 + x / 2147483648 * 2147483648 else x / 2 + x % 2 * 2147483648
/-- what goes out -/
def oneC (k : Int) (x : Nat) : Nat := if k = 0 then x / 2147483648 else x % 2
def itW (k : Int) : Nat → Nat → Nat
  | 0, x => x
  | n + 1, x => oneW k (itW k n x)
def itC (k : Int) : Nat → Nat → Nat → Nat
  | 0, _, c => c
  | n + 1, x, _ => oneC k (itW k n x)
theorem oneW_lt (k : Int) (x : Nat) (h : x < 4294967296) : oneW k x < 4294967296 := by
  unfold oneW; repeat' split
  all_goals omega
theorem itW_lt (k : Int) (n x : Nat) (h : x < 4294967296) : itW k n x < 4294967296 := by
  induction n with
  | zero => exact h
  | succ n ih => exact oneW_lt k _ ih
/-! sums -/
theorem and1 (x : Int) (h0 : 0 ≤ x) (h1 : x ≤ 4294967295) : bits .and .u32 x 1 = x % 2 := by
  rw [u32_and x 1 h0 (by omega) (by omega) (by omega)]
  have e : x.toNat &&& (1 : Int).toNat = x.toNat % 2 := nat_mask1 _
  rw [e]; omega
theorem or_top (a b : Int) (h0 : 0 ≤ a) (h1 : a ≤ 2147483647) (h2 : 0 ≤ b) (h3 : b ≤ 1) : bits .or .u32 a (b * 2147483648) = a + b * 2147483648 := by
  rw [u32_or _ _ h0 (by omega) (by omega) (by omega), Nat.or_comm]
  have e : (b * 2147483648).toNat = b.toNat * 2 ^ 31 := by omega
  rw [e, nat_join 31 _ _ (by omega) (by omega)]
  omega
end Go.Proofs.YtjcacjeoddnmhaaDoor.Rm

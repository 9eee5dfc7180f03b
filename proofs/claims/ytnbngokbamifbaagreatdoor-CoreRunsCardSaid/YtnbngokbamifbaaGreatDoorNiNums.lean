/- Words of 32 bits as natural numbers: a shift by one bit, by many, single bits, sums with a carry. No program in sight. -/
import Derived.Laws.BitsAllLaws
import Derived.Laws.MathBits
import Derived.Lib.BitFns
namespace Go.Proofs.YtnbngokbamifbaaGreatDoor.Rm

/-- a word that is shifted by one bit: 0 up, 1 down, 2 down with the sign, else turned down -/
def oneW (k : Int) (x : Nat) : Nat :=
  if k = 0 then x * 2 % 4294967296 else if k = 1 then x / 2 else if k = 2 then x / 2 + x / 2147483648 * 2147483648 else x / 2 + x % 2 * 2147483648
/-- what goes out -/
def oneC (k : Int) (x : Nat) : Nat := if k = 0 then x / 2147483648 else x % 2
def itW (k : Int) : Nat → Nat → Nat
  | 0, x => x
  | n + 1, x => oneW k (itW k n x)
def itC (k : Int) : Nat → Nat → Nat → Nat
  | 0, _, c => c
  | n + 1, x, _ => oneC k (itW k n x)
theorem oneW_lt (k : Int) (x : Nat) (h : x < 4294967296) : oneW k x < 4294967296 := by
  unfold oneW; repeat' split
  all_goals omega
theorem oneC_lt (k : Int) (x : Nat) (h : x < 4294967296) : oneC k x < 2 := by
  unfold oneC; split <;> omega
theorem itW_lt (k : Int) (n x : Nat) (h : x < 4294967296) : itW k n x < 4294967296 := by
  induction n with
  | zero => exact h
  | succ n ih => exact oneW_lt k _ ih
theorem itC_lt (k : Int) (n x c : Nat) (h : x < 4294967296) (hc : c < 2) : itC k n x c < 2 := by
  cases n with
  | zero => exact hc
  | succ n => exact oneC_lt k _ (itW_lt k n x h)
/-! sums -/
def sgn (x : Int) : Int := if x ≥ 2147483648 then x - 4294967296 else x
def one01 (c : Int) : Int := min c 1
def addS (x y c : Int) : Int := (x + y + one01 c) % 4294967296
def addC (x y c : Int) : Int := (x + y + one01 c) / 4294967296
def addV (x y c : Int) : Int := if sgn x + sgn y + one01 c = sgn (addS x y c) then 0 else 1

theorem top_xor (a b : Nat) (ha : a < 4294967296) (hb : b < 4294967296) : (a ^^^ b) / 2147483648 = (a / 2147483648 + b / 2147483648) % 2 := by
  have h1 : (a ^^^ b) / 2 ^ 31 = (a / 2 ^ 31) ^^^ (b / 2 ^ 31) := Nat.xor_div_two_pow
  have h2 : a / 2147483648 < 2 := by omega
  have h3 : b / 2147483648 < 2 := by omega
  have h1' : (a ^^^ b) / 2147483648 = (a / 2147483648) ^^^ (b / 2147483648) := h1
  rw [h1']
  generalize a / 2147483648 = p at *
  generalize b / 2147483648 = q at *
  have hp : p = 0 ∨ p = 1 := by omega
  have hq : q = 0 ∨ q = 1 := by omega
  rcases hp with rfl | rfl <;> rcases hq with rfl | rfl <;> rfl
theorem top_and (a b : Nat) (ha : a < 4294967296) (hb : b < 4294967296) : (a &&& b) / 2147483648 = (a / 2147483648) * (b / 2147483648) := by
  have h1 : (a &&& b) / 2 ^ 31 = (a / 2 ^ 31) &&& (b / 2 ^ 31) := Nat.and_div_two_pow
  have h2 : a / 2147483648 < 2 := by omega
  have h3 : b / 2147483648 < 2 := by omega
  have h1' : (a &&& b) / 2147483648 = (a / 2147483648) &&& (b / 2147483648) := h1
  rw [h1']
  generalize a / 2147483648 = p at *
  generalize b / 2147483648 = q at *
  have hp : p = 0 ∨ p = 1 := by omega
  have hq : q = 0 ∨ q = 1 := by omega
  rcases hp with rfl | rfl <;> rcases hq with rfl | rfl <;> rfl

theorem over_is (x y s : Int) (hx0 : 0 ≤ x) (hx : x ≤ 4294967295) (hy0 : 0 ≤ y) (hy : y ≤ 4294967295) (hs0 : 0 ≤ s) (hs : s ≤ 4294967295) :
    bits .and .u32 (bits .xor .u32 x s) (bits .xor .u32 y s) / 2147483648 = ((x / 2147483648 + s / 2147483648) % 2) * ((y / 2147483648 + s / 2147483648) % 2) := by
  rw [u32_xor x s hx0 (by omega) hs0 (by omega), u32_xor y s hy0 (by omega) hs0 (by omega)]
  have l1 : x.toNat ^^^ s.toNat < 4294967296 := Nat.xor_lt_two_pow (n := 32) (by omega) (by omega)
  have l2 : y.toNat ^^^ s.toNat < 4294967296 := Nat.xor_lt_two_pow (n := 32) (by omega) (by omega)
  rw [u32_and_nat _ _ l1 l2]
  have h := top_and _ _ l1 l2
  rw [top_xor _ _ (by omega) (by omega), top_xor _ _ (by omega) (by omega)] at h
  have e : (((x.toNat ^^^ s.toNat) &&& (y.toNat ^^^ s.toNat) : Nat) : Int) / 2147483648 = ((((x.toNat ^^^ s.toNat) &&& (y.toNat ^^^ s.toNat)) / 2147483648 : Nat) : Int) := by omega
  rw [e, h]
  have ex : ((x.toNat / 2147483648 : Nat) : Int) = x / 2147483648 := by omega
  have ey : ((y.toNat / 2147483648 : Nat) : Int) = y / 2147483648 := by omega
  have es : ((s.toNat / 2147483648 : Nat) : Int) = s / 2147483648 := by omega
  rw [Int.natCast_mul, Int.natCast_emod, Int.natCast_emod, Int.natCast_add, Int.natCast_add, ex, ey, es]
  rfl

theorem addV_is (x y c : Int) (hc0 : 0 ≤ c) (hx0 : 0 ≤ x) (hx : x ≤ 4294967295) (hy0 : 0 ≤ y) (hy : y ≤ 4294967295) :
    bits .and .u32 (bits .xor .u32 x (addS x y c)) (bits .xor .u32 y (addS x y c)) / 2147483648 = addV x y c := by
  rw [over_is x y _ hx0 hx hy0 hy (by unfold addS; omega) (by unfold addS; omega)]
  have hc : one01 c = 0 ∨ one01 c = 1 := by unfold one01; omega
  unfold addV addS
  generalize one01 c = o at *
  have hs : (x + y + o) % 4294967296 / 2147483648 = 0 ∨ (x + y + o) % 4294967296 / 2147483648 = 1 := by omega
  have hx' : x / 2147483648 = 0 ∨ x / 2147483648 = 1 := by omega
  have hy' : y / 2147483648 = 0 ∨ y / 2147483648 = 1 := by omega
  rcases hs with hs | hs <;> rcases hx' with h1 | h1 <;> rcases hy' with h2 | h2 <;> rw [hs, h1, h2] <;> simp [sgn] <;> (repeat' split) <;> omega

theorem addS_bd (x y c : Int) : 0 ≤ addS x y c ∧ addS x y c ≤ 4294967295 := by unfold addS; omega
theorem addC_bd (x y c : Int) (hc0 : 0 ≤ c) (hx0 : 0 ≤ x) (hx : x ≤ 4294967295) (hy0 : 0 ≤ y) (hy : y ≤ 4294967295) : 0 ≤ addC x y c ∧ addC x y c ≤ 1 := by unfold addC one01; omega
theorem addV_bd (x y c : Int) : 0 ≤ addV x y c ∧ addV x y c ≤ 1 := by unfold addV; split <;> omega
theorem and1 (x : Int) (h0 : 0 ≤ x) (h1 : x ≤ 4294967295) : bits .and .u32 x 1 = x % 2 := by
  rw [u32_and x 1 h0 (by omega) (by omega) (by omega)]
  have e : x.toNat &&& (1 : Int).toNat = x.toNat % 2 := nat_mask1 _
  rw [e]; omega
theorem or_top (a b : Int) (h0 : 0 ≤ a) (h1 : a ≤ 2147483647) (h2 : 0 ≤ b) (h3 : b ≤ 1) : bits .or .u32 a (b * 2147483648) = a + b * 2147483648 := by
  rw [u32_or _ _ h0 (by omega) (by omega) (by omega), Nat.or_comm]
  have e : (b * 2147483648).toNat = b.toNat * 2 ^ 31 := by omega
  rw [e, nat_join 31 _ _ (by omega) (by omega)]
  omega
theorem bitLen_le32 (x : Nat) (h : x ≤ 4294967295) : Lib.bitLen x ≤ 32 := Lib.bitLen_le x 32 (by omega) (by omega)
theorem nat_not32 (y : Nat) (h : y < 4294967296) : 4294967295 ^^^ y = 4294967295 - y := by
  have e := congrArg BitVec.toNat (BitVec.allOnes_xor (x := BitVec.ofNat 32 y))
  rw [BitVec.toNat_xor, BitVec.toNat_not, BitVec.toNat_allOnes, BitVec.toNat_ofNat, Nat.mod_eq_of_lt (by omega)] at e
  exact e
theorem not32 (y : Int) (h0 : 0 ≤ y) (h1 : y ≤ 4294967295) : bits .xor .u32 IntKind.u32.max y = 4294967295 - y := by
  have e : IntKind.u32.max = 4294967295 := by decide
  rw [e, u32_xor _ _ (by omega) (by omega) h0 (by omega)]
  have e2 : (4294967295 : Int).toNat ^^^ y.toNat = 4294967295 - y.toNat := nat_not32 _ (by omega)
  rw [e2]; omega
end Go.Proofs.YtnbngokbamifbaaGreatDoor.Rm

/- Words of 32 bits as natural numbers: a shift by one bit, by many, single bits, sums with a carry. No program in sight. -/
import Derived.Laws.BitsAllLaws
import Derived.Laws.MathBits
import Derived.Lib.BitFns
namespace Go.Proofs.YtnbngokbamifbaaGreatDoor.Rm

/-- a word that is shifted by one bit: 0 up, 1 down, 2 down with the sign, else turned down -/
def oneW (k : Int) (x : Nat) : Nat :=
  if k = 0 then x * 2 % 4294967296 else if k = 1 then x / 2 else if k = 2 then x / 2 + x / 2147483648 * 2147483648 else x / 2 + x % 2 * 2147483648
/-- what goes out -/
def oneC (k : Int) (x : Nat) : Nat := if k = 0 then x / 2147483648 else x % 2
def itW (k : Int) : Nat → Nat → Nat
  | 0, x => x
  | n + 1, x => oneW k (itW k n x)
def itC (k : Int) : Nat → Nat → Nat → Nat
  | 0, _, c => c
  | n + 1, x, _ => oneC k (itW k n x)
/-- a bit of a word, 0 where there is none -/
def bitN (x : Nat) (n : Int) : Nat := if n < 0 ∨ 31 < n then 0 else x / 2 ^ n.toNat % 2
/-- which bit comes to a place -/
def srcN (k i n : Int) : Int := if k = 0 then i - n else if k = 3 then (i + n) % 32 else if 31 < i + n ∧ k = 2 then 31 else i + n

theorem oneW_lt (k : Int) (x : Nat) (h : x < 4294967296) : oneW k x < 4294967296 := by
  unfold oneW; repeat' split
  all_goals omega
theorem itW_lt (k : Int) (n x : Nat) (h : x < 4294967296) : itW k n x < 4294967296 := by
  induction n with
  | zero => exact h
  | succ n ih => exact oneW_lt k _ ih
theorem bitN_lt (x : Nat) (n : Int) : bitN x n < 2 := by
  unfold bitN; split <;> omega

theorem places (i : Int) (h0 : 0 ≤ i) (h1 : i ≤ 31) : i = 0 ∨ i = 1 ∨ i = 2 ∨ i = 3 ∨ i = 4 ∨ i = 5 ∨ i = 6 ∨ i = 7 ∨ i = 8 ∨ i = 9 ∨ i = 10 ∨ i = 11 ∨ i = 12 ∨ i = 13 ∨ i = 14 ∨ i = 15 ∨ i = 16 ∨ i = 17 ∨ i = 18 ∨ i = 19 ∨ i = 20 ∨ i = 21 ∨ i = 22 ∨ i = 23 ∨ i = 24 ∨ i = 25 ∨ i = 26 ∨ i = 27 ∨ i = 28 ∨ i = 29 ∨ i = 30 ∨ i = 31 := by omega

theorem bit_up (x : Nat) (i : Int) (h0 : 0 ≤ i) (h1 : i ≤ 31) : bitN (x * 2 % 4294967296) i = bitN x (i - 1) := by
  rcases places i h0 h1 with h | h | h | h | h | h | h | h | h | h | h | h | h | h | h | h | h | h | h | h | h | h | h | h | h | h | h | h | h | h | h | h <;> subst h <;> simp [bitN] <;> omega
theorem bit_down (x : Nat) (hx : x < 4294967296) (i : Int) (h0 : 0 ≤ i) (h1 : i ≤ 31) : bitN (x / 2) i = bitN x (i + 1) := by
  rcases places i h0 h1 with h | h | h | h | h | h | h | h | h | h | h | h | h | h | h | h | h | h | h | h | h | h | h | h | h | h | h | h | h | h | h | h <;> subst h <;> simp [bitN] <;> omega
theorem bit_side (x : Nat) (hx : x < 4294967296) (i : Int) (h0 : 0 ≤ i) (h1 : i ≤ 31) : bitN (x / 2 + x / 2147483648 * 2147483648) i = bitN x (if 31 < i + 1 then 31 else i + 1) := by
  rcases places i h0 h1 with h | h | h | h | h | h | h | h | h | h | h | h | h | h | h | h | h | h | h | h | h | h | h | h | h | h | h | h | h | h | h | h <;> subst h <;> simp [bitN] <;> omega
theorem bit_turn (x : Nat) (hx : x < 4294967296) (i : Int) (h0 : 0 ≤ i) (h1 : i ≤ 31) : bitN (x / 2 + x % 2 * 2147483648) i = bitN x ((i + 1) % 32) := by
  have hp : x % 2 = 0 ∨ x % 2 = 1 := by omega
  rcases hp with hp | hp <;> rw [hp] <;>
  rcases places i h0 h1 with h | h | h | h | h | h | h | h | h | h | h | h | h | h | h | h | h | h | h | h | h | h | h | h | h | h | h | h | h | h | h | h <;> subst h <;> simp [bitN] <;> omega

theorem bit_one (k : Int) (hk : k = 0 ∨ k = 1 ∨ k = 2 ∨ k = 3) (x : Nat) (hx : x < 4294967296) (i : Int) (h0 : 0 ≤ i) (h1 : i ≤ 31) : bitN (oneW k x) i = bitN x (srcN k i 1) := by
  rcases hk with rfl | rfl | rfl | rfl
  · simpa [oneW, srcN] using bit_up x i h0 h1
  · simpa [oneW, srcN] using bit_down x hx i h0 h1
  · simpa [oneW, srcN] using bit_side x hx i h0 h1
  · simpa [oneW, srcN] using bit_turn x hx i h0 h1

theorem bitN_out (x : Nat) (i : Int) (h : i < 0 ∨ 31 < i) : bitN x i = 0 := by simp [bitN, h]

theorem bit_it (k : Int) (hk : k = 0 ∨ k = 1 ∨ k = 2 ∨ k = 3) (x : Nat) (hx : x < 4294967296) (n : Nat) : ∀ (i : Int), 0 ≤ i → i ≤ 31 → bitN (itW k n x) i = bitN x (srcN k i n) := by
  induction n with
  | zero =>
    intro i h0 h1
    have e : srcN k i (0 : Nat) = i := by rcases hk with rfl | rfl | rfl | rfl <;> simp [srcN] <;> omega
    rw [e]; rfl
  | succ n ih =>
    intro i h0 h1
    show bitN (oneW k (itW k n x)) i = _
    rw [bit_one k hk _ (itW_lt k n x hx) i h0 h1]
    by_cases hj : 0 ≤ srcN k i 1 ∧ srcN k i 1 ≤ 31
    · rw [ih _ hj.1 hj.2]
      congr 1
      rcases hk with rfl | rfl | rfl | rfl <;> simp only [srcN] at hj ⊢ <;> simp at hj ⊢ <;> repeat' split
      all_goals omega
    · rw [bitN_out _ _ (by omega), bitN_out]
      rcases hk with rfl | rfl | rfl | rfl <;> simp only [srcN] at hj ⊢ <;> simp at hj ⊢ <;> (repeat' split at hj) <;> (repeat' split)
      all_goals omega

theorem carry_it (k : Int) (hk : k = 0 ∨ k = 1 ∨ k = 2 ∨ k = 3) (x : Nat) (hx : x < 4294967296) (n c : Nat) :
    itC k (n + 1) x c = if k = 0 then bitN x (32 - (n + 1 : Nat)) else bitN x (srcN k 0 n) := by
  show oneC k (itW k n x) = _
  have hl := itW_lt k n x hx
  by_cases h : k = 0
  · have hb := bit_it k hk x hx n 31 (by omega) (by omega)
    have e : srcN k 31 n = 32 - (n + 1 : Nat) := by simp [srcN, h]; omega
    rw [e] at hb
    rw [if_pos h, ← hb]
    simp [oneC, h, bitN] at hl ⊢
    subst h
    omega
  · have hb := bit_it k hk x hx n 0 (by omega) (by omega)
    rw [if_neg h, ← hb]
    simp [oneC, h, bitN]

/-- the document's way from the highest bit down -/
theorem down_step (y : Nat) (i : Nat) (h : i ≤ 31) : y / 2 ^ (i + 1) * 2 + bitN y i = y / 2 ^ i := by
  simp only [bitN]
  rw [if_neg (by omega)]
  have e : y / 2 ^ (i + 1) = y / 2 ^ i / 2 := by rw [Nat.pow_succ, Nat.div_div_eq_div_mul]
  rw [e]
  simp only [Int.toNat_natCast]
  omega

/-! sums -/
theorem and1 (x : Int) (h0 : 0 ≤ x) (h1 : x ≤ 4294967295) : bits .and .u32 x 1 = x % 2 := by
  rw [u32_and x 1 h0 (by omega) (by omega) (by omega)]
  have e : x.toNat &&& (1 : Int).toNat = x.toNat % 2 := nat_mask1 _
  rw [e]; omega
theorem or_top (a b : Int) (h0 : 0 ≤ a) (h1 : a ≤ 2147483647) (h2 : 0 ≤ b) (h3 : b ≤ 1) : bits .or .u32 a (b * 2147483648) = a + b * 2147483648 := by
  rw [u32_or _ _ h0 (by omega) (by omega) (by omega), Nat.or_comm]
  have e : (b * 2147483648).toNat = b.toNat * 2 ^ 31 := by omega
  rw [e, nat_join 31 _ _ (by omega) (by omega)]
  omega
theorem bitLen_le32 (x : Nat) (h : x ≤ 4294967295) : Lib.bitLen x ≤ 32 := Lib.bitLen_le x 32 (by omega) (by omega)
end Go.Proofs.YtnbngokbamifbaaGreatDoor.Rm

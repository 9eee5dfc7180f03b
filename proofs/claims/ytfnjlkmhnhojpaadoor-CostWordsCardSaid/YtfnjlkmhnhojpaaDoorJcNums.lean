/- Words of 32 bits as natural numbers: a shift by one bit, by many, single bits, sums with a carry. No program in sight. -/
import Derived.Laws.BitsAllLaws
import Derived.Laws.MathBits
import Derived.Lib.BitFns
namespace Go.Proofs.YtfnjlkmhnhojpaaDoor.Rm

/-- a word that is shifted by one bit: 0 up, 1 down, 2 down with the sign, else turned down -/
def oneW (k : Int) (x : Nat) : Nat :=
  if k = 0 then x * 2 % 4294967296 else if k = 1 then x / 2 else if k = 2 then x / 2 + x / 2147483648 * 2147483648 else x / 2 + x % 2 * 2147483648
/-- what goes out -/
def oneC (k : Int) (x : Nat) : Nat := if k = 0 then x / 2147483648 else x % 2
def itW (k : Int) : Nat → Nat → Nat
  | 0, x => x
  | n + 1, x => oneW k (itW k n x)
def itC (k : Int) : Nat → Nat → Nat → Nat
  | 0, _, c => c
  | n + 1, x, _ => oneC k (itW k n x)
/-- a bit of a word, 0 where there is none -/
def bitN (x : Nat) (n : Int) : Nat := if n < 0 ∨ 31 < n then 0 else x / 2 ^ n.toNat % 2
/-- which bit comes to a place -/
def srcN (k i n : Int) : Int := if k = 0 then i - n else if k = 3 then (i + n) % 32 else if 31 < i + n ∧ k = 2 then 31 else i + n

theorem oneW_lt (k : Int) (x : Nat) (h : x < 4294967296) : oneW k x < 4294967296 := by
  unfold oneW; repeat' split
  all_goals omega
theorem oneC_lt (k : Int) (x : Nat) (h : x < 4294967296) : oneC k x < 2 := by
  unfold oneC; split <;> omega
theorem itW_lt (k : Int) (n x : Nat) (h : x < 4294967296) : itW k n x < 4294967296 := by
  induction n with
  | zero => exact h
  | succ n ih => exact oneW_lt k _ ih
theorem itC_lt (k : Int) (n x c : Nat) (h : x < 4294967296) (hc : c < 2) : itC k n x c < 2 := by
  cases n with
  | zero => exact hc
  | succ n => exact oneC_lt k _ (itW_lt k n x h)
theorem bitN_lt (x : Nat) (n : Int) : bitN x n < 2 := by
  unfold bitN; split <;> omega

theorem places (i : Int) (h0 : 0 ≤ i) (h1 : i ≤ 31) : i = 0 ∨ i = 1 ∨ i = 2 ∨ i = 3 ∨ i = 4 ∨ i = 5 ∨ i = 6 ∨ i = 7 ∨ i = 8 ∨ i = 9 ∨ i = 10 ∨ i = 11 ∨ i = 12 ∨ i = 13 ∨ i = 14 ∨ i = 15 ∨ i = 16 ∨ i = 17 ∨ i = 18 ∨ i = 19 ∨ i = 20 ∨ i = 21 ∨ i = 22 ∨ i = 23 ∨ i = 24 ∨ i = 25 ∨ i = 26 ∨ i = 27 ∨ i = 28 ∨ i = 29 ∨ i = 30 ∨ i = 31 := by omega

theorem bit_up (x : Nat) (i : Int) (h0 : 0 ≤ i) (h1 : i ≤ 31) : bitN (x * 2 % 4294967296) i = bitN x (i - 1) := by
  rcases places i h0 h1 with h | h | h | h | h | h | h | h | h | h | h | h | h | h | h | h | h | h | h | h | h | h | h | h | h | h | h | h | h | h | h | h <;> subst h <;> simp [bitN] <;> omega
theorem bit_down (x : Nat) (hx : x < 4294967296) (i : Int) (h0 : 0 ≤ i) (h1 : i ≤ 31) : bitN (x / 2) i = bitN x (i + 1) := by
  rcases places i h0 h1 with h | h | h | h | h | h | h | h | h | h | h | h | h | h | h | h | h | h | h | h | h | h | h | h | h | h | h | h | h | h | h | h <;> subst h <;> simp [bitN] <;> omega
theorem bit_side (x : Nat) (hx : x < 4294967296) (i : Int) (h0 : 0 ≤ i) (h1 : i ≤ 31) : bitN (x / 2 + x / 2147483648 * 2147483648) i = bitN x (if 31 < i + 1 then 31 else i + 1) := by
  rcases places i h0 h1 with h | h | h | h | h | h | h | h | h | h | h | h | h | h | h | h | h | h | h | h | h | h | h | h | h | h | h | h | h | h | h | h <;> subst h <;> simp [bitN] <;> omega
theorem bit_turn (x : Nat) (hx : x < 4294967296) (i : Int) (h0 : 0 ≤ i) (h1 : i ≤ 31) : bitN (x / 2 + x % 2 * 2147483648) i = bitN x ((i + 1) % 32) := by
  have hp : x % 2 = 0 ∨ x % 2 = 1 := by omega
  rcases hp with hp | hp <;> rw [hp] <;>
  rcases places i h0 h1 with h | h | h | h | h | h | h | h | h | h | h | h | h | h | h | h | h | h | h | h | h | h | h | h | h | h | h | h | h | h | h | h <;> subst h <;> simp [bitN] <;> omega

theorem bit_one (k : Int) (hk : k = 0 ∨ k = 1 ∨ k = 2 ∨ k = 3) (x : Nat) (hx : x < 4294967296) (i : Int) (h0 : 0 ≤ i) (h1 : i ≤ 31) : bitN (oneW k x) i = bitN x (srcN k i 1) := by
  rcases hk with rfl | rfl | rfl | rfl
  · simpa [oneW, srcN] using bit_up x i h0 h1
  · simpa [oneW, srcN] using bit_down x hx i h0 h1
  · simpa [oneW, srcN] using bit_side x hx i h0 h1
  · simpa [oneW, srcN] using bit_turn x hx i h0 h1

theorem bitN_out (x : Nat) (i : Int) (h : i < 0 ∨ 31 < i) : bitN x i = 0 := by simp [bitN, h]

theorem bit_it (k : Int) (hk : k = 0 ∨ k = 1 ∨ k = 2 ∨ k = 3) (x : Nat) (hx : x < 4294967296) (n : Nat) : ∀ (i : Int), 0 ≤ i → i ≤ 31 → bitN (itW k n x) i = bitN x (srcN k i n) := by
  induction n with
  | zero =>
    intro i h0 h1
    have e : srcN k i (0 : Nat) = i := by rcases hk with rfl | rfl | rfl | rfl <;> simp [srcN] <;> omega
    rw [e]; rfl
  | succ n ih =>
    intro i h0 h1
    show bitN (oneW k (itW k n x)) i = _
    rw [bit_one k hk _ (itW_lt k n x hx) i h0 h1]
    by_cases hj : 0 ≤ srcN k i 1 ∧ srcN k i 1 ≤ 31
    · rw [ih _ hj.1 hj.2]
      congr 1
      rcases hk with rfl | rfl | rfl | rfl <;> simp only [srcN] at hj ⊢ <;> simp at hj ⊢ <;> repeat' split
      all_goals omega
    · rw [bitN_out _ _ (by omega), bitN_out]
      rcases hk with rfl | rfl | rfl | rfl <;> simp only [srcN] at hj ⊢ <;> simp at hj ⊢ <;> (repeat' split at hj) <;> (repeat' split)
      all_goals omega

theorem carry_it (k : Int) (hk : k = 0 ∨ k = 1 ∨ k = 2 ∨ k = 3) (x : Nat) (hx : x < 4294967296) (n c : Nat) :
    itC k (n + 1) x c = if k = 0 then bitN x (32 - (n + 1 : Nat)) else bitN x (srcN k 0 n) := by
  show oneC k (itW k n x) = _
  have hl := itW_lt k n x hx
  by_cases h : k = 0
  · have hb := bit_it k hk x hx n 31 (by omega) (by omega)
    have e : srcN k 31 n = 32 - (n + 1 : Nat) := by simp [srcN, h]; omega
    rw [e] at hb
    rw [if_pos h, ← hb]
    simp [oneC, h, bitN] at hl ⊢
    subst h
    omega
  · have hb := bit_it k hk x hx n 0 (by omega) (by omega)
    rw [if_neg h, ← hb]
    simp [oneC, h, bitN]

theorem bitN_test (x : Nat) (i : Nat) (h : i < 32) : bitN x i = (x.testBit i).toNat := by
  rw [Nat.testBit_eq_decide_div_mod_eq]
  simp only [bitN]
  rw [if_neg (by omega)]
  have : x / 2 ^ i % 2 = 0 ∨ x / 2 ^ i % 2 = 1 := by omega
  rcases this with h | h <;> simp [h]

theorem word_ext (x y : Nat) (hx : x < 4294967296) (hy : y < 4294967296) (h : ∀ i : Nat, i < 32 → bitN x i = bitN y i) : x = y := by
  apply Nat.eq_of_testBit_eq
  intro i
  by_cases hi : i < 32
  · have := h i hi
    rw [bitN_test x i hi, bitN_test y i hi] at this
    revert this
    cases x.testBit i <;> cases y.testBit i <;> simp
  · have hp : (4294967296 : Nat) ≤ 2 ^ i := by
      have : 2 ^ 32 ≤ 2 ^ i := Nat.pow_le_pow_right (by omega) (by omega)
      omega
    rw [Nat.testBit_lt_two_pow (by omega), Nat.testBit_lt_two_pow (by omega)]

/-- the document's way from the highest bit down -/
theorem down_step (y : Nat) (i : Nat) (h : i ≤ 31) : y / 2 ^ (i + 1) * 2 + bitN y i = y / 2 ^ i := by
  simp only [bitN]
  rw [if_neg (by omega)]
  have e : y / 2 ^ (i + 1) = y / 2 ^ i / 2 := by rw [Nat.pow_succ, Nat.div_div_eq_div_mul]
  rw [e]
  simp only [Int.toNat_natCast]
  omega

/-! sums -/
def sgn (x : Int) : Int := if x ≥ 2147483648 then x - 4294967296 else x
def one01 (c : Int) : Int := min c 1
def addS (x y c : Int) : Int := (x + y + one01 c) % 4294967296
def addC (x y c : Int) : Int := (x + y + one01 c) / 4294967296
def addV (x y c : Int) : Int := if sgn x + sgn y + one01 c = sgn (addS x y c) then 0 else 1

theorem top_xor (a b : Nat) (ha : a < 4294967296) (hb : b < 4294967296) : (a ^^^ b) / 2147483648 = (a / 2147483648 + b / 2147483648) % 2 := by
  have h1 : (a ^^^ b) / 2 ^ 31 = (a / 2 ^ 31) ^^^ (b / 2 ^ 31) := Nat.xor_div_two_pow
  have h2 : a / 2147483648 < 2 := by omega
  have h3 : b / 2147483648 < 2 := by omega
  have h1' : (a ^^^ b) / 2147483648 = (a / 2147483648) ^^^ (b / 2147483648) := h1
  rw [h1']
  generalize a / 2147483648 = p at *
  generalize b / 2147483648 = q at *
  have hp : p = 0 ∨ p = 1 := by omega
  have hq : q = 0 ∨ q = 1 := by omega
  rcases hp with rfl | rfl <;> rcases hq with rfl | rfl <;> rfl
theorem top_and (a b : Nat) (ha : a < 4294967296) (hb : b < 4294967296) : (a &&& b) / 2147483648 = (a / 2147483648) * (b / 2147483648) := by
  have h1 : (a &&& b) / 2 ^ 31 = (a / 2 ^ 31) &&& (b / 2 ^ 31) := Nat.and_div_two_pow
  have h2 : a / 2147483648 < 2 := by omega
  have h3 : b / 2147483648 < 2 := by omega
  have h1' : (a &&& b) / 2147483648 = (a / 2147483648) &&& (b / 2147483648) := h1
  rw [h1']
  generalize a / 2147483648 = p at *
  generalize b / 2147483648 = q at *
  have hp : p = 0 ∨ p = 1 := by omega
  have hq : q = 0 ∨ q = 1 := by omega
  rcases hp with rfl | rfl <;> rcases hq with rfl | rfl <;> rfl

theorem over_is (x y s : Int) (hx0 : 0 ≤ x) (hx : x ≤ 4294967295) (hy0 : 0 ≤ y) (hy : y ≤ 4294967295) (hs0 : 0 ≤ s) (hs : s ≤ 4294967295) :
    bits .and .u32 (bits .xor .u32 x s) (bits .xor .u32 y s) / 2147483648 = ((x / 2147483648 + s / 2147483648) % 2) * ((y / 2147483648 + s / 2147483648) % 2) := by
  rw [u32_xor x s hx0 (by omega) hs0 (by omega), u32_xor y s hy0 (by omega) hs0 (by omega)]
  have l1 : x.toNat ^^^ s.toNat < 4294967296 := Nat.xor_lt_two_pow (n := 32) (by omega) (by omega)
  have l2 : y.toNat ^^^ s.toNat < 4294967296 := Nat.xor_lt_two_pow (n := 32) (by omega) (by omega)
  rw [u32_and_nat _ _ l1 l2]
  have h := top_and _ _ l1 l2
  rw [top_xor _ _ (by omega) (by omega), top_xor _ _ (by omega) (by omega)] at h
  have e : (((x.toNat ^^^ s.toNat) &&& (y.toNat ^^^ s.toNat) : Nat) : Int) / 2147483648 = ((((x.toNat ^^^ s.toNat) &&& (y.toNat ^^^ s.toNat)) / 2147483648 : Nat) : Int) := by omega
  rw [e, h]
  have ex : ((x.toNat / 2147483648 : Nat) : Int) = x / 2147483648 := by omega
  have ey : ((y.toNat / 2147483648 : Nat) : Int) = y / 2147483648 := by omega
  have es : ((s.toNat / 2147483648 : Nat) : Int) = s / 2147483648 := by omega
  rw [Int.natCast_mul, Int.natCast_emod, Int.natCast_emod, Int.natCast_add, Int.natCast_add, ex, ey, es]
  rfl

theorem addV_is (x y c : Int) (hc0 : 0 ≤ c) (hx0 : 0 ≤ x) (hx : x ≤ 4294967295) (hy0 : 0 ≤ y) (hy : y ≤ 4294967295) :
    bits .and .u32 (bits .xor .u32 x (addS x y c)) (bits .xor .u32 y (addS x y c)) / 2147483648 = addV x y c := by
  rw [over_is x y _ hx0 hx hy0 hy (by unfold addS; omega) (by unfold addS; omega)]
  have hc : one01 c = 0 ∨ one01 c = 1 := by unfold one01; omega
  unfold addV addS
  generalize one01 c = o at *
  have hs : (x + y + o) % 4294967296 / 2147483648 = 0 ∨ (x + y + o) % 4294967296 / 2147483648 = 1 := by omega
  have hx' : x / 2147483648 = 0 ∨ x / 2147483648 = 1 := by omega
  have hy' : y / 2147483648 = 0 ∨ y / 2147483648 = 1 := by omega
  rcases hs with hs | hs <;> rcases hx' with h1 | h1 <;> rcases hy' with h2 | h2 <;> rw [hs, h1, h2] <;> simp [sgn] <;> (repeat' split) <;> omega

theorem one01_if (c : Int) (h0 : 0 ≤ c) : (if c = 0 then 0 else 1) = one01 c := by unfold one01; split <;> omega
theorem sgn_bd (x : Int) (hx0 : 0 ≤ x) (hx : x ≤ 4294967295) : -2147483648 ≤ sgn x ∧ sgn x ≤ 2147483647 := by unfold sgn; split <;> omega
theorem addS_bd (x y c : Int) : 0 ≤ addS x y c ∧ addS x y c ≤ 4294967295 := by unfold addS; omega
theorem addC_bd (x y c : Int) (hc0 : 0 ≤ c) (hx0 : 0 ≤ x) (hx : x ≤ 4294967295) (hy0 : 0 ≤ y) (hy : y ≤ 4294967295) : 0 ≤ addC x y c ∧ addC x y c ≤ 1 := by unfold addC one01; omega
theorem addV_bd (x y c : Int) : 0 ≤ addV x y c ∧ addV x y c ≤ 1 := by unfold addV; split <;> omega
theorem pair_or (hi lo : Int) (h0 : 0 ≤ lo) (h1 : lo ≤ 4294967295) (h2 : 0 ≤ hi) (h3 : hi ≤ 4294967295) : bits .or .u64 (hi * 4294967296) lo = hi * 4294967296 + lo := by
  rw [u64_or _ _ (by omega) (by omega) h0 (by omega)]
  have e : (hi * 4294967296).toNat = hi.toNat * 2 ^ 32 := by omega
  rw [e, nat_join 32 _ _ (by omega) (by omega)]
  omega
theorem bitN_in (x n : Int) (h0 : 0 ≤ n) (h1 : n ≤ 31) (hx : 0 ≤ x) : ((bitN x.toNat n : Nat) : Int) = x / 2 ^ n.toNat % 2 := by
  unfold bitN
  rw [if_neg (by omega)]
  have e : x = (x.toNat : Int) := by omega
  rw [Int.natCast_emod, Int.natCast_ediv, ← e, Int.natCast_pow]
  rfl
theorem and1 (x : Int) (h0 : 0 ≤ x) (h1 : x ≤ 4294967295) : bits .and .u32 x 1 = x % 2 := by
  rw [u32_and x 1 h0 (by omega) (by omega) (by omega)]
  have e : x.toNat &&& (1 : Int).toNat = x.toNat % 2 := nat_mask1 _
  rw [e]; omega
theorem shr_bd (x : Int) (n : Nat) (h0 : 0 ≤ x) (h1 : x ≤ 4294967295) : 0 ≤ x / 2 ^ n ∧ x / 2 ^ n ≤ 4294967295 := by
  have hp : (0 : Int) < 2 ^ n := Int.pow_pos (by omega)
  exact ⟨Int.ediv_nonneg h0 (by omega), Int.le_trans (Int.ediv_le_self _ h0) h1⟩
theorem or_top (a b : Int) (h0 : 0 ≤ a) (h1 : a ≤ 2147483647) (h2 : 0 ≤ b) (h3 : b ≤ 1) : bits .or .u32 a (b * 2147483648) = a + b * 2147483648 := by
  rw [u32_or _ _ h0 (by omega) (by omega) (by omega), Nat.or_comm]
  have e : (b * 2147483648).toNat = b.toNat * 2 ^ 31 := by omega
  rw [e, nat_join 31 _ _ (by omega) (by omega)]
  omega
theorem bitLen_le32 (x : Nat) (h : x ≤ 4294967295) : Lib.bitLen x ≤ 32 := Lib.bitLen_le x 32 (by omega) (by omega)
theorem bitLen_half (y : Nat) (h : 0 < y) (hy : y ≤ 4294967295) : Lib.bitLen y = Lib.bitLen (y / 2) + 1 := by
  rw [Lib.bitLen_half y (by omega) (by omega), Nat.add_comm]
theorem nat_not32 (y : Nat) (h : y < 4294967296) : 4294967295 ^^^ y = 4294967295 - y := by
  have e := congrArg BitVec.toNat (BitVec.allOnes_xor (x := BitVec.ofNat 32 y))
  rw [BitVec.toNat_xor, BitVec.toNat_not, BitVec.toNat_allOnes, BitVec.toNat_ofNat, Nat.mod_eq_of_lt (by omega)] at e
  exact e
theorem not32 (y : Int) (h0 : 0 ≤ y) (h1 : y ≤ 4294967295) : bits .xor .u32 IntKind.u32.max y = 4294967295 - y := by
  have e : IntKind.u32.max = 4294967295 := by decide
  rw [e, u32_xor _ _ (by omega) (by omega) h0 (by omega)]
  have e2 : (4294967295 : Int).toNat ^^^ y.toNat = 4294967295 - y.toNat := nat_not32 _ (by omega)
  rw [e2]; omega
end Go.Proofs.YtfnjlkmhnhojpaaDoor.Rm

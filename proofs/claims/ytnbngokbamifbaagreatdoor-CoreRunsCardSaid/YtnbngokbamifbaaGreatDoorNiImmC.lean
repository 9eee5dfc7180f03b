/- The walk of the tries of a repeated byte: eight ways in which one is found, and none. -/
import Derived.Test.YtnbngokbamifbaaGreatDoorNiImmA
namespace Go.Proofs.YtnbngokbamifbaaGreatDoor
open Go.RowKit

end Go.Proofs.YtnbngokbamifbaaGreatDoor

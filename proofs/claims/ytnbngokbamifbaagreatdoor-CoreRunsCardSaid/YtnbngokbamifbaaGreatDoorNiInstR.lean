/- The functions that InstRight and InstFields call again and again, as terms. -/
import Derived.Test.YtnbngokbamifbaaGreatDoorNiInstO
import Derived.Test.YtnbngokbamifbaaGreatDoorNiImmA
namespace Go.Proofs.YtnbngokbamifbaaGreatDoor.Ev
open Go Go.RowKit

/-! ### a wide register -/
/-! ### words -/
end Go.Proofs.YtnbngokbamifbaaGreatDoor.Ev

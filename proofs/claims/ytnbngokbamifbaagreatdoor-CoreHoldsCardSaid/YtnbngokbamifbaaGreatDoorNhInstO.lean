/- Tables and instructions as the evaluator sees them. -/
import Derived.Test.YtnbngokbamifbaaGreatDoorNh5
import Derived.Test.YtnbngokbamifbaaGreatDoorNhNumsF
namespace Go.Proofs.YtnbngokbamifbaaGreatDoor.Ev
open Go Go.RowKit

end Go.Proofs.YtnbngokbamifbaaGreatDoor.Ev

/- Tables and instructions as the evaluator sees them. -/
import Derived.Test.YtnbngokbamifbaaGreatDoorNi5
import Derived.Test.YtnbngokbamifbaaGreatDoorNiNumsF
namespace Go.Proofs.YtnbngokbamifbaaGreatDoor.Ev
open Go Go.RowKit

end Go.Proofs.YtnbngokbamifbaaGreatDoor.Ev

/- Right against the document's, part 2 of 5. -/
import Derived.Test.YtnbngokbamifbaaGreatDoorNiInstS
namespace Go.Proofs.YtnbngokbamifbaaGreatDoor.Ev
open Go Go.RowKit

end Go.Proofs.YtnbngokbamifbaaGreatDoor.Ev

/- Right, and the document's Right, set against each other, form by form. -/
import Derived.Test.YtnbngokbamifbaaGreatDoorNiInstR
import Derived.Test.YtnbngokbamifbaaGreatDoorNi5
namespace Go.Proofs.YtnbngokbamifbaaGreatDoor.Ev
open Go Go.RowKit

end Go.Proofs.YtnbngokbamifbaaGreatDoor.Ev

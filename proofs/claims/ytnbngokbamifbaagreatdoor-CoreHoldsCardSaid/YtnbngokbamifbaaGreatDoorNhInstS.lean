/- Right, and the document's Right, set against each other, form by form. -/
import Derived.Test.YtnbngokbamifbaaGreatDoorNhInstR
import Derived.Test.YtnbngokbamifbaaGreatDoorNh5
namespace Go.Proofs.YtnbngokbamifbaaGreatDoor.Ev
open Go Go.RowKit

end Go.Proofs.YtnbngokbamifbaaGreatDoor.Ev

/- Right and the document's Right yield the same of any instruction. -/
import Derived.Test.YtnbngokbamifbaaGreatDoorNiInstS1
import Derived.Test.YtnbngokbamifbaaGreatDoorNiInstS2
import Derived.Test.YtnbngokbamifbaaGreatDoorNiInstS3
import Derived.Test.YtnbngokbamifbaaGreatDoorNiInstS4
import Derived.Test.YtnbngokbamifbaaGreatDoorNiInstS5
namespace Go.Proofs.YtnbngokbamifbaaGreatDoor.Ev
open Go Go.RowKit

end Go.Proofs.YtnbngokbamifbaaGreatDoor.Ev

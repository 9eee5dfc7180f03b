/- Right and the document's Right yield the same of any instruction. -/
import Derived.Test.YtnbngokbamifbaaGreatDoorNhInstS1
import Derived.Test.YtnbngokbamifbaaGreatDoorNhInstS2
import Derived.Test.YtnbngokbamifbaaGreatDoorNhInstS3
import Derived.Test.YtnbngokbamifbaaGreatDoorNhInstS4
import Derived.Test.YtnbngokbamifbaaGreatDoorNhInstS5
namespace Go.Proofs.YtnbngokbamifbaaGreatDoor.Ev
open Go Go.RowKit

end Go.Proofs.YtnbngokbamifbaaGreatDoor.Ev

/- What this claim is proved with: no condition. -/
import Derived.Test.YtnbngokbamifbaaGreatDoorNrImmB
import Derived.Test.YtnbngokbamifbaaGreatDoorNrImmC
set_option linter.unusedVariables false
set_option linter.unusedSimpArgs false
namespace Go.Proofs.YtnbngokbamifbaaGreatDoor
open Go.RowKit
namespace Rm
end Rm
end Go.Proofs.YtnbngokbamifbaaGreatDoor

/- What this claim is proved with: no condition. -/
import Derived.Test.YtnbhdacpogplgaaGreatDoorPvImmB
import Derived.Test.YtnbhdacpogplgaaGreatDoorPvImmC
set_option linter.unusedVariables false
set_option linter.unusedSimpArgs false
namespace Go.Proofs.YtnbhdacpogplgaaGreatDoor
open Go.RowKit
namespace Rm
end Rm
end Go.Proofs.YtnbhdacpogplgaaGreatDoor

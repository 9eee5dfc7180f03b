/- What this claim is proved with: no condition. -/
import Derived.Test.YtbnoodjnpooocaaGreatDoorNwImmB
import Derived.Test.YtbnoodjnpooocaaGreatDoorNwImmC
set_option linter.unusedVariables false
set_option linter.unusedSimpArgs false
namespace Go.Proofs.YtbnoodjnpooocaaGreatDoor
open Go.RowKit
namespace Rm
end Rm
end Go.Proofs.YtbnoodjnpooocaaGreatDoor

/- What this claim is proved with: no condition. -/
import Derived.Test.YtbnoodjnpooocaaGreatDoorNw21
set_option linter.unusedVariables false
set_option linter.unusedSimpArgs false
namespace Go.Proofs.YtbnoodjnpooocaaGreatDoor.Pw
open Go Go.RowKit
end Go.Proofs.YtbnoodjnpooocaaGreatDoor.Pw

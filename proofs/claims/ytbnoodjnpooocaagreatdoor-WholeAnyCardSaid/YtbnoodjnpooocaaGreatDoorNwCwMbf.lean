/- What this claim is proved with: no condition. -/
import Derived.Test.YtbnoodjnpooocaaGreatDoorNwCwMa
set_option linter.unusedVariables false
set_option linter.unusedSimpArgs false
namespace Go.Proofs.YtbnoodjnpooocaaGreatDoor.Pw
open Go
set_option maxRecDepth 1000000
theorem GF:al gT 98 [MM,YV,YW] (.tup [cmL,kI 0]):=al.run nW 100 (by kernel_rfl) (by kernel_rfl) (by kernel_rfl)
end Go.Proofs.YtbnoodjnpooocaaGreatDoor.Pw

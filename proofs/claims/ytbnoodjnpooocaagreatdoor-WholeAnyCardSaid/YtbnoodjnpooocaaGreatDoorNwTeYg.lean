/- What this claim is proved with: no condition. -/
import Derived.Test.YtbnoodjnpooocaaGreatDoorNwTeYf
set_option linter.unusedVariables false
set_option linter.unusedSimpArgs false
namespace Go.Proofs.YtbnoodjnpooocaaGreatDoor.gh
open Go
theorem f3:(Rows.wholeAnyRow.recurses == P0.recurses 3)=true:=by kernel_rfl
theorem f4:(Rows.wholeAnyRow.named == P0.varsNamed 3)=true:=by kernel_rfl
end Go.Proofs.YtbnoodjnpooocaaGreatDoor.gh

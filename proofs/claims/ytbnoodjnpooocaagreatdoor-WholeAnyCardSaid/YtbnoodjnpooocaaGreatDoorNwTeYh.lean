/- What this claim is proved with: no condition. -/
import Derived.Test.YtbnoodjnpooocaaGreatDoorNwTeYg
set_option linter.unusedVariables false
set_option linter.unusedSimpArgs false
namespace Go.Proofs.YtbnoodjnpooocaaGreatDoor.gh
open Go
theorem Mv:P0.funcs.any Func.goes=false:=by kernel_rfl
theorem closed:joinedFacts P0 3 Tryz.f3 Rows.wholeAnySpec Rows.wholeAnyRow=true:=by
 unfold joinedFacts
 rw[f1,f2,f3,f4]
 kernel_rfl
end Go.Proofs.YtbnoodjnpooocaaGreatDoor.gh

/- What this claim is proved with: no condition. -/
import Derived.Test.YtbnoodjnpooocaaGreatDoorCards
import Derived.Test.YtbnoodjnpooocaaGreatDoorTie
import Derived.WalkKit
import Derived.Stop.Joined
import Derived.SevenTiedAt
import Derived.JoinedOf
set_option linter.unusedVariables false
set_option linter.unusedSimpArgs false
namespace Go.Proofs.YtbnoodjnpooocaaGreatDoor.gh
open Go
noncomputable def P0:Program:=Tryz.pinned.checked.prog
theorem f1:(Rows.wholeAnyRow.inPlace == P0.inPlace 3)=true:=by kernel_rfl
theorem f2:(Rows.wholeAnyRow.unfollowed == P0.unfollowed 3)=true:=by kernel_rfl
end Go.Proofs.YtbnoodjnpooocaaGreatDoor.gh

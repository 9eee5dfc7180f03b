/- What this claim is proved with: no condition. -/
import Derived.Test.YtlgkljpgagfndaaGreatDoorNv20
set_option linter.unusedVariables false
set_option linter.unusedSimpArgs false
namespace Go.Proofs.YtlgkljpgagfndaaGreatDoor.Pw
open Go Go.RowKit
end Go.Proofs.YtlgkljpgagfndaaGreatDoor.Pw

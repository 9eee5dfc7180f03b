/- What the evaluator says of InstSizes at the first shapes. -/
import Derived.Test.YtcaenimpfbfobaaDoorInstT
namespace Go.Proofs.YtcaenimpfbfobaaDoor.Ev
open Go Go.RowKit

theorem sizes1 : sizesRest (pcOf [(.var 0, 1, 9)]) (.var 0) = true := by kernel_rfl

end Go.Proofs.YtcaenimpfbfobaaDoor.Ev

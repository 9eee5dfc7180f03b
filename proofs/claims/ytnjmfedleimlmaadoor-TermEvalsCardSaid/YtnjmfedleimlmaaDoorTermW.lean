/- The walk of TermEvals, as its frame wants it. -/
import Derived.Test.YtnjmfedleimlmaaDoorTermV
import Derived.Test.YtnjmfedleimlmaaDoorTermL2
namespace Go.Proofs.YtnjmfedleimlmaaDoor
open Go Go.RowKit

theorem TermEvals_in (W0 : World) (x0 : termLaid.In) (y0 : termLaid.InOk x0) (z0 : NodesAt W0 x0.2.1 x0.1 W0.heap.size) (x1 : termLaid.InW) (y1 : WordsOk x1.1) (z1 : WordsAt W0 x1.2.1 x1.1) :
    Calls Tryd.prog 8 #[.slice x0.2.1 x0.1.length x0.2.2, .slice x1.2.1 x1.1.length x1.2.2] W0 fun e w' => e = .returned (.bool true) ∧ Below W0.heap.size W0 w' :=
  TermEvals_walk x0.1 x0.2.1 x0.2.2 x1.1 x1.2.1 x1.2.2 W0 y0.1 (fun y hy => (y0.2 y hy).2) z0 y1 z1

end Go.Proofs.YtnjmfedleimlmaaDoor

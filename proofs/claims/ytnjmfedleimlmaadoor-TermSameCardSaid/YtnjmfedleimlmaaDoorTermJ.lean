/- The walk of TermSame, as its frame wants it. -/
import Derived.Test.YtnjmfedleimlmaaDoorTermI
import Derived.Test.YtnjmfedleimlmaaDoorTermL
namespace Go.Proofs.YtnjmfedleimlmaaDoor
open Go Go.RowKit

theorem TermSame_in (x0 : termLaid.In) (y0 : termLaid.InOk x0) (W0 : World) (z0 : NodesAt W0 x0.2.1 x0.1 W0.heap.size) (x1 : termLaid.In) (y1 : termLaid.InOk x1) (z1 : NodesAt W0 x1.2.1 x1.1 W0.heap.size) :
    Calls Tryd.prog 6 #[.slice x0.2.1 x0.1.length x0.2.2, .slice x1.2.1 x1.1.length x1.2.2] W0 fun e w' => e = .returned (.bool true) ∧ Below W0.heap.size W0 w' :=
  TermSame_walk x0.1 x1.1 x0.2.1 x1.2.1 x0.2.2 x1.2.2 W0 y0.1 y1.1 z0 z1

end Go.Proofs.YtnjmfedleimlmaaDoor

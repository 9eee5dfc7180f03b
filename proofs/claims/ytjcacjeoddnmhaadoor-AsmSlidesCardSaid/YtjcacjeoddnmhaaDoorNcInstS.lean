/- Right, and the document's Right, set against each other, form by form. -/
import Derived.Test.YtjcacjeoddnmhaaDoorNcInstR
import Derived.Test.YtjcacjeoddnmhaaDoorNc3
namespace Go.Proofs.YtjcacjeoddnmhaaDoor.Ev
open Go Go.RowKit

def rightA (b : Int × Int) : AV := .v (.g (.int .i64 (bif decide (b.1 = b.2) then .lit b.1 else .var 0) :: (List.range 10).map fun i => .int .i64 (.var (i + 1))))
end Go.Proofs.YtjcacjeoddnmhaaDoor.Ev

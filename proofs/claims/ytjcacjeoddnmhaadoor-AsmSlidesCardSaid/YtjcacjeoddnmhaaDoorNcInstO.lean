/- Tables and instructions as the evaluator sees them. -/
import Derived.Test.YtjcacjeoddnmhaaDoorNc3
import Derived.Test.YtjcacjeoddnmhaaDoorNcNumsF
namespace Go.Proofs.YtjcacjeoddnmhaaDoor.Ev
open Go Go.RowKit

end Go.Proofs.YtjcacjeoddnmhaaDoor.Ev

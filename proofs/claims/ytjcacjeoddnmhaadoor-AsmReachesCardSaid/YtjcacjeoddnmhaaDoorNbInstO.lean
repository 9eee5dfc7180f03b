/- Tables and instructions as the evaluator sees them. -/
import Derived.Test.YtjcacjeoddnmhaaDoorNb1
import Derived.Test.YtjcacjeoddnmhaaDoorNbNumsF
namespace Go.Proofs.YtjcacjeoddnmhaaDoor.Ev
open Go Go.RowKit

end Go.Proofs.YtjcacjeoddnmhaaDoor.Ev

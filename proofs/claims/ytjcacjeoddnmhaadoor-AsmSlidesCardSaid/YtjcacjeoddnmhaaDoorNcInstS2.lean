/- Right against the document's, part 2 of 5. -/
import Derived.Test.YtjcacjeoddnmhaaDoorNcInstS
namespace Go.Proofs.YtjcacjeoddnmhaaDoor.Ev
open Go Go.RowKit

end Go.Proofs.YtjcacjeoddnmhaaDoor.Ev

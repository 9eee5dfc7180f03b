/- The walk of the tries of a repeated byte: eight ways in which one is found, and none. -/
import Derived.Test.YtjcacjeoddnmhaaDoorNcImmA
namespace Go.Proofs.YtjcacjeoddnmhaaDoor
open Go.RowKit

end Go.Proofs.YtjcacjeoddnmhaaDoor

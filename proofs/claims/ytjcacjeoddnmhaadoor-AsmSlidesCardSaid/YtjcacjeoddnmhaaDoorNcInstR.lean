/- The functions that InstRight and InstFields call again and again, as terms. -/
import Derived.Test.YtjcacjeoddnmhaaDoorNcInstO
import Derived.Test.YtjcacjeoddnmhaaDoorNcImmA
namespace Go.Proofs.YtjcacjeoddnmhaaDoor.Ev
open Go Go.RowKit

/-! ### a wide register -/
/-! ### words -/
end Go.Proofs.YtjcacjeoddnmhaaDoor.Ev

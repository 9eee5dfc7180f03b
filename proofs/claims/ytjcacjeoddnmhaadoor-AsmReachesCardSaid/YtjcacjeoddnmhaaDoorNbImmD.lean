/- Walks of a word's number, and of chapter 2's laws but the one that goes through all numbers. -/
import Derived.Test.YtjcacjeoddnmhaaDoorNbImmB
import Derived.Test.YtjcacjeoddnmhaaDoorNbImmC
namespace Go.Proofs.YtjcacjeoddnmhaaDoor
open Go.RowKit

namespace Rm
end Rm

end Go.Proofs.YtjcacjeoddnmhaaDoor

/- Walks of a word's number, and of chapter 2's laws but the one that goes through all numbers. -/
import Derived.Test.YtjcacjeoddnmhaaDoorNcImmB
import Derived.Test.YtjcacjeoddnmhaaDoorNcImmC
namespace Go.Proofs.YtjcacjeoddnmhaaDoor
open Go.RowKit

namespace Rm
end Rm

end Go.Proofs.YtjcacjeoddnmhaaDoor

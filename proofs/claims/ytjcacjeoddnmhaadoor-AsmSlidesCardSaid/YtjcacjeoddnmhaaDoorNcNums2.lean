/- More of words as numbers: turned there and back, shifted out and back; halves of signed words. No program in sight. -/
import Derived.Test.YtjcacjeoddnmhaaDoorNcNums
import Derived.RowKit
import Derived.Lib.ItoaNum
namespace Go.Proofs.YtjcacjeoddnmhaaDoor.Rm
open Go.RowKit

end Go.Proofs.YtjcacjeoddnmhaaDoor.Rm

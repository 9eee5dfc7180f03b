/- The forms of instructions as numbers: their shapes, their bits. No program in sight. -/
import Derived.Test.YtjcacjeoddnmhaaDoorNbNums
namespace Go.Proofs.YtjcacjeoddnmhaaDoor.Rm

end Go.Proofs.YtjcacjeoddnmhaaDoor.Rm

/- The forms of instructions as numbers: their shapes, their bits. No program in sight. -/
import Derived.Test.YtjcacjeoddnmhaaDoorNcNums
namespace Go.Proofs.YtjcacjeoddnmhaaDoor.Rm

end Go.Proofs.YtjcacjeoddnmhaaDoor.Rm

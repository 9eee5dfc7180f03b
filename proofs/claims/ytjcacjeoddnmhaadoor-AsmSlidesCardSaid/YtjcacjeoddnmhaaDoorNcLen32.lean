/- The length of a word of 32 bits: the library's own text is walked (by the kit's template of that contract). -/
import Derived.Test.YtjcacjeoddnmhaaDoorChecked
import Derived.Lib.Strings
import Derived.Lib.Slices
import Derived.Lib.Small
import Derived.Lib.Walk
import Derived.Lib.BitFns
namespace Go.Proofs.YtjcacjeoddnmhaaDoor

end Go.Proofs.YtjcacjeoddnmhaaDoor

/- The anchor of chapter 11. -/
import Derived.Test.YtnjmfedleimlmaaJs2
namespace Go.Proofs.Ytnjmfedleimlmaa
open Go Go.RowKit

end Go.Proofs.Ytnjmfedleimlmaa

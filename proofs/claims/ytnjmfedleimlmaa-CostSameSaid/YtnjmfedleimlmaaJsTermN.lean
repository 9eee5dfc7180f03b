/- How many nodes a term has: the walk of Count. -/
import Derived.Test.YtnjmfedleimlmaaJsTermD
namespace Go.Proofs.Ytnjmfedleimlmaa
open Go Go.RowKit

def CountPost (w : World) (n : Nat) (e : Ending) (w' : World) : Prop := e = .returned (.int .i64 n) ∧ Below w.heap.size w w'

end Go.Proofs.Ytnjmfedleimlmaa

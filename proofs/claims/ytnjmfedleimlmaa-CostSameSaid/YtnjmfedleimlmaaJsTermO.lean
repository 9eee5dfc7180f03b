/- May a term be: the walks of shaped, of the library's ContainsFunc at terms, and of Right. -/
import Derived.Test.YtnjmfedleimlmaaJsTermE
import Derived.Test.YtnjmfedleimlmaaJsTermN
namespace Go.Proofs.Ytnjmfedleimlmaa
open Go Go.RowKit

def needsT (op : Int) : Int := if op ≤ 2 then 0 else if op ≤ 4 then 1 else 2
namespace T
def root (t : T) : Bool := goodN (t.op, t.num, t.kids)
def shaped : T → Bool
  | .leaf o n => goodN (o, n, 0) | .one o n a => goodN (o, n, 1) && a.shaped | .two o n a b => goodN (o, n, 2) && (a.shaped && b.shaped)
def kidsOk : T → Bool
  | .leaf .. => true | .one _ _ a => a.shaped | .two _ _ a b => a.shaped && b.shaped
theorem shaped_eq (t : T) : t.shaped = (t.root && t.kidsOk) := by cases t <;> simp [shaped, root, kidsOk, op, num, kids]
theorem shaped_nodes : ∀ t : T, t.nodes.all goodN = t.shaped
  | .leaf .. => by simp [nodes, shaped]
  | .one _ _ a => by simp [nodes, shaped, shaped_nodes a]
  | .two _ _ a b => by simp [nodes, shaped, shaped_nodes a, shaped_nodes b]
end T
def BoolPost (w : World) (b : Bool) (e : Ending) (w' : World) : Prop := e = .returned (.bool b) ∧ Below w.heap.size w w'

def idx1 (a : Bool) : Int := if a then -1 else 0
def idx2 (a b : Bool) : Int := if a then (if b then -1 else 1) else 0
def IntPost (w : World) (n : Int) (e : Ending) (w' : World) : Prop := e = .returned (.int .i64 n) ∧ Below w.heap.size w w'

end Go.Proofs.Ytnjmfedleimlmaa

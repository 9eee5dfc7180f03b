/- A term's nodes as a list: the walk of flat. -/
import Derived.Test.YtfnjlkmhnhojpaaDoorJcTermC
namespace Go.Proofs.YtfnjlkmhnhojpaaDoor
open Go Go.RowKit

namespace T
/-- the nodes, each ahead of its terms': operator, number, how many terms -/
def nodes : T → List (Int × Int × Int)
  | .leaf o n => [(o, n, 0)] | .one o n a => (o, n, 1) :: a.nodes | .two o n a b => (o, n, 2) :: (a.nodes ++ b.nodes)
theorem nodes_length : ∀ t : T, t.nodes.length = t.size
  | .leaf .. => rfl
  | .one _ _ a => by simp [nodes, size, a.nodes_length]; omega
  | .two _ _ a b => by simp [nodes, size, a.nodes_length, b.nodes_length]; omega
theorem size_pos (t : T) : 1 ≤ t.size := by cases t <;> simp [size] <;> omega
end T
/-- a node's cells -/
def ncells (l : List (Int × Int × Int)) : List Value := l.flatMap fun x => [.int .i64 x.1, .int .u32 x.2.1, .int .i64 x.2.2]
theorem ncells_length (l : List (Int × Int × Int)) : (ncells l).length = l.length * 3 := by
  induction l with
  | nil => rfl
  | cons x l ih => simp only [ncells, List.flatMap_cons, List.length_append, List.length_cons, List.length_nil] at *; omega
theorem ncells_one (l : List (Int × Int × Int)) : ∀ u ∈ ncells l, u.oneCell' = true := by
  intro u hu
  obtain ⟨x, _, hx⟩ := List.mem_flatMap.1 hu
  simp only [List.mem_cons, List.not_mem_nil, or_false] at hx
  rcases hx with rfl | rfl | rfl <;> rfl
theorem ncells_append (l m : List (Int × Int × Int)) : ncells (l ++ m) = ncells l ++ ncells m := List.flatMap_append
theorem _root_.Go.RowKit.Below.grownBy {w w' : World} (h : Below w.heap.size w w') : w.grownBy w' none := ⟨h.os, h.tape, h.output, h.size, fun k hk _ => h.block k hk⟩

end Go.Proofs.YtfnjlkmhnhojpaaDoor

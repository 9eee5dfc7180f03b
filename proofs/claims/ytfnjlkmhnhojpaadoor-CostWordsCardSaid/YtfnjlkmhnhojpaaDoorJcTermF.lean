/- A right term of nodes: the walk of of. -/
import Derived.Test.YtfnjlkmhnhojpaaDoorJcTermE
namespace Go.Proofs.YtfnjlkmhnhojpaaDoor
open Go Go.RowKit

/-- the term that nodes give -/
def ofT (l : List (Int × Int)) : T := (builtT 41 l 0).1
theorem ofT_size (l : List (Int × Int)) (h : l.length ≤ 60) : (ofT l).size ≤ 121 := by
  have := builtT_le 41 l 0 (by omega)
  unfold ofT; omega
/-- may it be? -/
def ofB (l : List (Int × Int)) : Bool := (ofT l).nodes.all goodN

def OfPost (w : World) (l : List (Int × Int)) (e : Ending) (w' : World) : Prop :=
  ∃ s bl, e = .returned (.tuple #[.agg #[.int .i64 (ofT l).op, .int .u32 (ofT l).num, s], .bool (ofB l)]) ∧ (ofT l).IsS w' s bl ∧ (∀ b ∈ bl, w.heap.size ≤ b ∧ b < w'.heap.size) ∧ Below w.heap.size w w'

/-- the term that of yields, and whether it may be -/
def ofX (l : List (Int × Int)) : T := if l.length ≤ 60 then ofT l else .leaf 0 0
def ofOk (l : List (Int × Int)) : Bool := decide (l.length ≤ 60) && ofB l
theorem ofX_size (l : List (Int × Int)) : (ofX l).size ≤ 121 := by
  unfold ofX
  split
  · exact ofT_size l (by assumption)
  · simp [T.size]
def OfAny (w : World) (l : List (Int × Int)) (e : Ending) (w' : World) : Prop :=
  ∃ p c bl, e = .returned (.tuple #[.agg #[.int .i64 (ofX l).op, .int .u32 (ofX l).num, .slice p (ofX l).kids c], .bool (ofOk l)]) ∧ (ofX l).IsS w' (.slice p (ofX l).kids c) bl ∧ (∀ b ∈ bl, w.heap.size ≤ b ∧ b < w'.heap.size) ∧ Below w.heap.size w w'

end Go.Proofs.YtfnjlkmhnhojpaaDoor

/- The anchor of chapter 11. -/
import Derived.Test.YtnjmfedleimlmaaDoorJd2
namespace Go.Proofs.YtnjmfedleimlmaaDoor
open Go Go.RowKit

theorem anchor11_true : (Ev.rest [] (Ev.evFn (Ev.cxOf [] []) 1000 14 (Ev.tabBlks []) .nil [])).isEmpty = true := by kernel_rfl
theorem anchor11_calls (w : World) : Calls Tryd.prog 14 #[] w fun e w' => e = .returned (.bool true) ∧ Below w.heap.size w w' :=
  Ev.law_ok (cx := Ev.cxOf [] []) (jx := Ev.Jx.none) (ρ := Ev.envOf []) (vals := []) (tabs := []) (Ev.cxOk _ _) (fun m hm => by cases hm) (Ev.rest_isNil anchor11_true) rfl (fun t ht => by cases ht) Ev.pcOk_nil trivial trivial

end Go.Proofs.YtnjmfedleimlmaaDoor

/- The walk of InstSizes. -/
import Derived.Test.YtcaenimpfbfobaaDoorInstT1
namespace Go.Proofs.YtcaenimpfbfobaaDoor.Ev
open Go Go.RowKit

theorem sizes2 : sizesRest (pcOf [(.var 0, 10, 18)]) (.var 0) = true := by kernel_rfl
theorem sizes3 : sizesRest (pcOf [(.var 0, 19, 26)]) (.var 0) = true := by kernel_rfl
theorem sizes4 : sizesRest (pcOf [(.var 0, 27, 34)]) (.var 0) = true := by kernel_rfl
theorem sizesRest_nil {pc : PC} {e : E} (h : sizesRest pc e = true) : (rest [] (evFn cxT 1000 12 (tabBlks [shTab]) pc [.v (.c (.int .i64 e))])).isEmpty = true := by unfold sizesRest at h; exact h
theorem InstSizes_walk (a0 : Int) (b0 : -9223372036854775808 ≤ a0 ∧ a0 ≤ 9223372036854775807) (W : World) (hS : TabOk W shTab) :
    Calls Tryd.prog 12 #[.int .i64 a0] W fun e w' => e = .returned (.bool true) ∧ Below W.heap.size W w' := by
  have hj : (jxTabs [shTab]).J W := fun t ht => by rw [List.mem_singleton] at ht; subst ht; exact hS
  have ha : All2 (AV.Is (envOf [a0]) (tabPl [shTab])) [.v (.c (.int .i64 (.var 0)))] [.int .i64 a0] := ⟨rfl, trivial⟩
  by_cases h0 : a0 ≤ 0
  · exact law_ok (cx := cxT) (ρ := envOf [a0]) (vals := [.int .i64 a0]) (cxOk _ _) cxT_sums (rest_isNil (sizesRest_nil sizes_low)) rfl hj (pcOk_one ⟨b0.1, h0⟩) hj ha
  by_cases h1 : 35 ≤ a0
  · exact law_ok (cx := cxT) (ρ := envOf [a0]) (vals := [.int .i64 a0]) (cxOk _ _) cxT_sums (rest_isNil (sizesRest_nil sizes_high)) rfl hj (pcOk_one ⟨h1, b0.2⟩) hj ha
  by_cases h2 : a0 ≤ 9
  · exact law_ok (cx := cxT) (ρ := envOf [a0]) (vals := [.int .i64 a0]) (cxOk _ _) cxT_sums (rest_isNil (sizesRest_nil sizes1)) rfl hj (pcOk_one ⟨by show 1 ≤ a0; omega, h2⟩) hj ha
  by_cases h3 : a0 ≤ 18
  · exact law_ok (cx := cxT) (ρ := envOf [a0]) (vals := [.int .i64 a0]) (cxOk _ _) cxT_sums (rest_isNil (sizesRest_nil sizes2)) rfl hj (pcOk_one ⟨by show 10 ≤ a0; omega, h3⟩) hj ha
  by_cases h4 : a0 ≤ 26
  · exact law_ok (cx := cxT) (ρ := envOf [a0]) (vals := [.int .i64 a0]) (cxOk _ _) cxT_sums (rest_isNil (sizesRest_nil sizes3)) rfl hj (pcOk_one ⟨by show 19 ≤ a0; omega, h4⟩) hj ha
  · exact law_ok (cx := cxT) (ρ := envOf [a0]) (vals := [.int .i64 a0]) (cxOk _ _) cxT_sums (rest_isNil (sizesRest_nil sizes4)) rfl hj (pcOk_one ⟨by show 27 ≤ a0; omega, by show a0 ≤ 34; omega⟩) hj ha

end Go.Proofs.YtcaenimpfbfobaaDoor.Ev

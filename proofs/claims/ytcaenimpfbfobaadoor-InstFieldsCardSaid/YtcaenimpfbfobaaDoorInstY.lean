/- The walk of InstFields. -/
import Derived.Test.YtcaenimpfbfobaaDoorEvN
import Derived.Test.YtcaenimpfbfobaaDoorInstW
namespace Go.Proofs.YtcaenimpfbfobaaDoor.Ev
open Go Go.RowKit

theorem instFields_rest : restS (rest [] (evFn cx3 1000 10 (tabBlks [shTab]) (i64s 13) [instA, .v (.c (.int .i64 (.var 11))), .v (.c (.int .i64 (.var 12)))])) = true := by kernel_rfl
theorem InstFields_walk (l : List Int) (hl : l.length = 11) (hb : ∀ x ∈ l, -9223372036854775808 ≤ x ∧ x ≤ 9223372036854775807) (a1 : Int) (b1 : -9223372036854775808 ≤ a1 ∧ a1 ≤ 9223372036854775807) (a2 : Int) (b2 : -9223372036854775808 ≤ a2 ∧ a2 ≤ 9223372036854775807) (W : World) (hS : TabOk W facTab ∧ TabOk W shTab) :
    Calls Tryd.prog 10 #[instVals l, .int .i64 a1, .int .i64 a2] W fun e w' => e = .returned (.bool true) ∧ Below W.heap.size W w' := by
  have hb' : ∀ x ∈ l ++ [a1, a2], -9223372036854775808 ≤ x ∧ x ≤ 9223372036854775807 := by
    intro x hx
    rcases List.mem_append.1 hx with h | h
    · exact hb x h
    · simp only [List.mem_cons, List.not_mem_nil, or_false] at h
      rcases h with rfl | rfl
      · exact b1
      · exact b2
  have e1 : (l ++ [a1, a2]).getD 11 0 = a1 := by simp [List.getD, List.getElem?_append_right, hl]
  have e2 : (l ++ [a1, a2]).getD 12 0 = a2 := by simp [List.getD, List.getElem?_append_right, hl]
  have ha : All2 (AV.Is (envV (l ++ [a1, a2])) (tabPl [shTab])) [instA, .v (.c (.int .i64 (.var 11))), .v (.c (.int .i64 (.var 12)))] [instVals l, .int .i64 a1, .int .i64 a2] :=
    ⟨instA_is l [a1, a2] hl (envV (l ++ [a1, a2])).φ (envV (l ++ [a1, a2])).o (tabPl [shTab]), (by show Value.int .i64 a1 = .int .i64 ((l ++ [a1, a2]).getD 11 0); rw [e1]), (by show Value.int .i64 a2 = .int .i64 ((l ++ [a1, a2]).getD 12 0); rw [e2]), trivial⟩
  exact law_ok (cx := cx3) (jx := jx2) (ρ := envV (l ++ [a1, a2])) (vals := [instVals l, .int .i64 a1, .int .i64 a2]) (cxOk _ _) cx3_sums (restS_ok instFields_rest) rfl (fun t ht => by rw [List.mem_singleton] at ht; subst ht; exact hS.2) (i64s_ok (l ++ [a1, a2]) 13 _ _ (by simp [hl]) hb') (jx2_mk hS.1 hS.2) ha

end Go.Proofs.YtcaenimpfbfobaaDoor.Ev

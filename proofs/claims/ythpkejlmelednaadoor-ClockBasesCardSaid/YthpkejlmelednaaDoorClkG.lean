/- The walk of ClockBases. -/
import Derived.Test.YthpkejlmelednaaDoorClkF
namespace Go.Proofs.YthpkejlmelednaaDoor.Ev
open Go Go.RowKit

theorem bases_low : clkOk false 3 [1, 2, 2] (-9223372036854775808, 41) (.var 0) (.var 10) [] = true := by unfold clkOk; kernel_rfl
theorem bases_high : clkOk false 3 [1, 2, 2] (44, 9223372036854775807) (.var 0) (.var 10) [] = true := by unfold clkOk; kernel_rfl
theorem bases_push : clkOk false 3 [1, 2, 2] (42, 42) (.lit 42) (.var 10) (noneF 42) = true := by unfold clkOk; kernel_rfl
theorem bases_pop : clkOk false 3 [1, 2, 2] (43, 43) (.lit 43) (.var 10) (noneF 43) = true := by unfold clkOk; kernel_rfl
theorem bases_push1 : clkOk true 3 [1, 2, 2] (42, 42) (.lit 42) (.var 10) [(.var 10, 1, 255)] = true := by unfold clkOk; kernel_rfl
theorem bases_push2 : clkOk true 3 [1, 2, 2] (42, 42) (.lit 42) (.var 10) [(.var 10, 16384, 16639)] = true := by unfold clkOk; kernel_rfl
theorem bases_pop1 : clkOk true 3 [1, 2, 2] (43, 43) (.lit 43) (.var 10) [(.var 10, 1, 255)] = true := by unfold clkOk; kernel_rfl
theorem bases_pop2 : clkOk true 3 [1, 2, 2] (43, 43) (.lit 43) (.var 10) [(.var 10, 32768, 33023)] = true := by unfold clkOk; kernel_rfl
theorem bases_all : ClkAll 3 [1, 2, 2] := ⟨bases_low, bases_high, bases_push, bases_pop, bases_push1, bases_push2, bases_pop1, bases_pop2⟩
theorem ClockBases_walk (l : List Int) (hl : l.length = 11) (hb : ∀ x ∈ l, -9223372036854775808 ≤ x ∧ x ≤ 9223372036854775807) (a1 : Bool) (a2 : Int) (b2 : 0 ≤ a2 ∧ a2 ≤ 4294967295) (a3 : Int) (b3 : 0 ≤ a3 ∧ a3 ≤ 4294967295) (W : World) (hS : TabOk W facTab ∧ TabOk W shTab) :
    Calls Tryd.prog 3 #[instVals l, .bool a1, .int .u32 a2, .int .u32 a3] W fun e w' => e = .returned (.bool true) ∧ Below W.heap.size W w' := by
  have h := clk_all bases_all (xs := [truth a1, a2, a3]) hl hb ⟨truth_in a1, b2, b3, trivial⟩ W hS
  have e : moreV [1, 2, 2] [truth a1, a2, a3] = [.bool a1, .int .u32 a2, .int .u32 a3] := by cases a1 <;> rfl
  rw [e] at h
  exact h

end Go.Proofs.YthpkejlmelednaaDoor.Ev

/- The walk of ClockConstant. -/
import Derived.Test.YthpkejlmelednaaDoorClkF
namespace Go.Proofs.YthpkejlmelednaaDoor.Ev
open Go Go.RowKit

theorem const_low : clkOk false 4 [2, 2, 2, 2] (-9223372036854775808, 41) (.var 0) (.var 10) [] = true := by unfold clkOk; kernel_rfl
theorem const_high : clkOk false 4 [2, 2, 2, 2] (44, 9223372036854775807) (.var 0) (.var 10) [] = true := by unfold clkOk; kernel_rfl
theorem const_push : clkOk false 4 [2, 2, 2, 2] (42, 42) (.lit 42) (.var 10) (noneF 42) = true := by unfold clkOk; kernel_rfl
theorem const_pop : clkOk false 4 [2, 2, 2, 2] (43, 43) (.lit 43) (.var 10) (noneF 43) = true := by unfold clkOk; kernel_rfl
theorem const_push1 : clkOk true 4 [2, 2, 2, 2] (42, 42) (.lit 42) (.var 10) [(.var 10, 1, 255)] = true := by unfold clkOk; kernel_rfl
theorem const_push2 : clkOk true 4 [2, 2, 2, 2] (42, 42) (.lit 42) (.var 10) [(.var 10, 16384, 16639)] = true := by unfold clkOk; kernel_rfl
theorem const_pop1 : clkOk true 4 [2, 2, 2, 2] (43, 43) (.lit 43) (.var 10) [(.var 10, 1, 255)] = true := by unfold clkOk; kernel_rfl
theorem const_pop2 : clkOk true 4 [2, 2, 2, 2] (43, 43) (.lit 43) (.var 10) [(.var 10, 32768, 33023)] = true := by unfold clkOk; kernel_rfl
theorem const_all : ClkAll 4 [2, 2, 2, 2] := ⟨const_low, const_high, const_push, const_pop, const_push1, const_push2, const_pop1, const_pop2⟩
theorem ClockConstant_walk (l : List Int) (hl : l.length = 11) (hb : ∀ x ∈ l, -9223372036854775808 ≤ x ∧ x ≤ 9223372036854775807) (a1 : Int) (b1 : 0 ≤ a1 ∧ a1 ≤ 4294967295) (a2 : Int) (b2 : 0 ≤ a2 ∧ a2 ≤ 4294967295) (a3 : Int) (b3 : 0 ≤ a3 ∧ a3 ≤ 4294967295) (a4 : Int) (b4 : 0 ≤ a4 ∧ a4 ≤ 4294967295) (W : World) (hS : TabOk W facTab ∧ TabOk W shTab) :
    Calls Tryd.prog 4 #[instVals l, .int .u32 a1, .int .u32 a2, .int .u32 a3, .int .u32 a4] W fun e w' => e = .returned (.bool true) ∧ Below W.heap.size W w' := by
  exact clk_all const_all (xs := [a1, a2, a3, a4]) hl hb ⟨b1, b2, b3, b4, trivial⟩ W hS

end Go.Proofs.YthpkejlmelednaaDoor.Ev

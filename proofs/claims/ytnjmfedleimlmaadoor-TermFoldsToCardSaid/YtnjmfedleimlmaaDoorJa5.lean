/- What the laws of this claim are proved with, joined (join.py) of 3 texts: no condition. -/
import Derived.Test.YtnjmfedleimlmaaDoorJa4
set_option linter.unusedVariables false

/- The orders of regions that draw. Written by a program (mkpl.py) off the given program; each is checked where it is used. -/
namespace Go.Proofs.YtnjmfedleimlmaaDoor.Pw
open Go

/-- remontoire/remontoirelaw11.TermRanges -/
def P3 : List (Nat × Plan) := []
/-- remontoire/remontoirelaw11.anchor -/
def P14 : List (Nat × Plan) := []
/-- remontoire/term.At -/
def P38 : List (Nat × Plan) := []
/-- remontoire/term.Of -/
def P39 : List (Nat × Plan) := []
/-- remontoire/term.Eval -/
def P17 : List (Nat × Plan) := [(5, .pure 0 <| .pure 2 <| .pure 4 <| .pure 7 <| .load 3 [9, 8, 6, 5] <| .eff 1 (.eff 5 (.pure 6 <| .pure 8 <| .pure 9 <| .done) (.nil)) (.nil))]
/-- remontoire/term.leaf -/
def P43 : List (Nat × Plan) := []
/-- remontoire/term.truth -/
def P44 : List (Nat × Plan) := []
/-- remontoire/term.one -/
def P45 : List (Nat × Plan) := []
/-- remontoire/term.two -/
def P46 : List (Nat × Plan) := []
/-- remontoire/term.logic -/
def P70 : List (Nat × Plan) := []
/-- math/bits.RotateLeft32 -/
def P97 : List (Nat × Plan) := []
/-- remontoire/term.Range -/
def P16 : List (Nat × Plan) := [(2, .pure 0 <| .pure 2 <| .load 1 [5, 4] <| .pure 4 <| .load 3 [5] <| .pure 5 <| .done)]
/-- remontoire/term.reach -/
def P42 : List (Nat × Plan) := [(5, .pure 0 <| .pure 1 <| .pure 4 <| .pure 5 <| .load 2 [9, 8, 7, 3] <| .load 6 [9, 8, 7] <| .eff 3 (.eff 7 (.pure 8 <| .eff 9 (.done) (.nil)) (.nil)) (.nil)), (9, .pure 0 <| .pure 2 <| .pure 6 <| .pure 7 <| .pure 9 <| .pure 13 <| .pure 14 <| .load 1 [17, 16] <| .load 3 [17, 16, 15, 8, 5, 4] <| .pure 4 <| .load 5 [17, 16, 15, 8] <| .load 10 [17, 16, 15, 12, 11] <| .pure 11 <| .load 12 [17, 16, 15] <| .eff 8 (.eff 15 (.eff 16 (.eff 17 (.done) (.nil)) (.nil)) (.nil)) (.nil))]
/-- remontoire/term.at -/
def P68 : List (Nat × Plan) := []
/-- remontoire/term.within -/
def P69 : List (Nat × Plan) := [(15, .pure 0 <| .pure 2 <| .pure 6 <| .pure 8 <| .load 1 [13, 12, 5] <| .load 3 [13, 12, 5, 4] <| .pure 4 <| .pure 5 <| .load 7 [13, 12, 11] <| .load 9 [13, 12, 11, 10] <| .pure 10 <| .pure 11 <| .pure 12 <| .eff 13 (.done) (.nil))]
/-- remontoire/term.sum -/
def P95 : List (Nat × Plan) := []
/-- math/bits.Add32 -/
def P114 : List (Nat × Plan) := []
/-- remontoire/term.product -/
def P96 : List (Nat × Plan) := []
/-- math/bits.Mul32 -/
def P115 : List (Nat × Plan) := []
/-- remontoire/remontoirelaw11.of -/
def P15 : List (Nat × Plan) := [(5, .load 0 [5, 4] <| .load 1 [5, 4, 3, 2] <| .eff 2 (.eff 3 (.eff 4 (.pure 5 <| .done) (.nil)) (.nil)) (.nil))]
/-- remontoire/remontoirelaw11.built -/
def P40 : List (Nat × Plan) := [(13, .pure 0 <| .pure 2 <| .pure 3 <| .pure 4 <| .pure 5 <| .load 1 [10, 9, 8] <| .eff 6 (.eff 7 (.eff 8 (.pure 9 <| .eff 10 (.done) (.nil)) (.nil)) (.nil)) (.nil))]
/-- remontoire/remontoirelaw11.flat -/
def P19 : List (Nat × Plan) := []
/-- remontoire/remontoireref11.Right -/
def P41 : List (Nat × Plan) := []
/-- remontoire/remontoireref11.needs -/
def P67 : List (Nat × Plan) := []
/-- remontoire/remontoirelaw11.TermSpans -/
def P4 : List (Nat × Plan) := []
/-- remontoire/remontoireref11.Span -/
def P18 : List (Nat × Plan) := [(4, .pure 0 <| .pure 3 <| .pure 6 <| .pure 7 <| .load 1 [10, 9, 8, 2] <| .pure 2 <| .pure 8 <| .load 4 [10, 9, 5] <| .pure 5 <| .pure 9 <| .pure 10 <| .done)]
/-- remontoire/remontoireref11.joined -/
def P47 : List (Nat × Plan) := [(19, .pure 0 <| .pure 1 <| .pure 2 <| .pure 3 <| .pure 4 <| .pure 5 <| .pure 6 <| .pure 7 <| .done)]
/-- remontoire/remontoireref11.least -/
def P71 : List (Nat × Plan) := []
/-- remontoire/remontoirelaw11.TermPuts -/
def P5 : List (Nat × Plan) := []
/-- remontoire/term.Put -/
def P20 : List (Nat × Plan) := [(7, .pure 0 <| .pure 3 <| .load 1 [8, 7, 6] <| .load 2 [8, 7, 6, 5, 4] <| .eff 4 (.eff 5 (.eff 6 (.pure 7 <| .eff 8 (.done) (.nil)) (.nil)) (.nil)) (.nil))]
/-- remontoire/remontoirelaw11.TermSame -/
def P6 : List (Nat × Plan) := [(7, .load 0 [5, 4, 3, 1] <| .load 2 [5, 4, 3] <| .eff 1 (.eff 3 (.pure 4 <| .pure 5 <| .done) (.nil)) (.nil)), (12, .pure 0 <| .pure 1 <| .pure 2 <| .pure 3 <| .pure 4 <| .pure 6 <| .pure 7 <| .pure 8 <| .load 5 [12, 11, 10] <| .load 9 [12, 11, 10] <| .pure 10 <| .pure 11 <| .pure 12 <| .done)]
/-- remontoire/term.Same -/
def P21 : List (Nat × Plan) := []
/-- slices.EqualFunc[[]remontoire/term.Term,[]remontoire/term.Term,remontoire/term.Term,remontoire/term.Term] -/
def P48 : List (Nat × Plan) := []
/-- remontoire/remontoirelaw11.TermFoldsTo -/
def P7 : List (Nat × Plan) := []
/-- remontoire/remontoireref11.Fold -/
def P22 : List (Nat × Plan) := [(7, .pure 0 <| .pure 2 <| .pure 3 <| .pure 4 <| .load 1 [11, 10, 9, 8, 7, 6] <| .load 5 [11, 10, 9, 8, 7, 6] <| .eff 6 (.pure 7 <| .pure 8 <| .pure 9 <| .pure 10 <| .pure 11 <| .done) (.nil)), (12, .pure 0 <| .pure 2 <| .pure 3 <| .pure 4 <| .pure 6 <| .pure 7 <| .pure 8 <| .load 1 [15, 14, 13, 12, 11, 10] <| .load 5 [15, 14, 13, 12, 11, 10] <| .load 9 [15, 14, 13, 12, 11, 10] <| .eff 10 (.pure 11 <| .pure 12 <| .pure 13 <| .pure 14 <| .pure 15 <| .done) (.nil))]
/-- remontoire/remontoireref11.apply -/
def P49 : List (Nat × Plan) := [(14, .pure 0 <| .pure 1 <| .pure 2 <| .pure 3 <| .pure 4 <| .pure 5 <| .pure 6 <| .pure 7 <| .pure 8 <| .pure 9 <| .pure 10 <| .pure 11 <| .pure 12 <| .pure 13 <| .pure 14 <| .pure 15 <| .pure 16 <| .pure 19 <| .pure 20 <| .pure 23 <| .pure 24 <| .pure 26 <| .pure 27 <| .pure 28 <| .pure 29 <| .pure 30 <| .pure 31 <| .pure 32 <| .pure 33 <| .pure 34 <| .eff 17 (.pure 18 <| .eff 21 (.pure 22 <| .eff 25 (.pure 35 <| .eff 36 (.eff 37 (.done) (.nil)) (.nil)) (.cons 36 (.eff 25 (.pure 35 <| .eff 37 (.done) (.nil)) (.nil)) (.nil))) (.cons 36 (.eff 21 (.pure 22 <| .eff 25 (.pure 35 <| .eff 37 (.done) (.nil)) (.nil)) (.nil)) (.nil))) (.cons 36 (.eff 17 (.pure 18 <| .eff 21 (.pure 22 <| .eff 25 (.pure 35 <| .eff 37 (.done) (.nil)) (.nil)) (.nil)) (.nil)) (.nil)))]
/-- remontoire/remontoireref11.power -/
def P72 : List (Nat × Plan) := []
/-- remontoire/remontoireref11.turned -/
def P73 : List (Nat × Plan) := []
/-- remontoire/term.Fold -/
def P24 : List (Nat × Plan) := []
/-- remontoire/remontoirelaw11.alike -/
def P23 : List (Nat × Plan) := [(6, .pure 0 <| .pure 1 <| .pure 2 <| .pure 4 <| .pure 5 <| .pure 6 <| .load 3 [8] <| .load 7 [8] <| .pure 8 <| .done)]
/-- remontoire/remontoirelaw11.TermEvals -/
def P8 : List (Nat × Plan) := [(8, .load 0 [25, 24, 23, 22, 21, 20, 19, 18, 17, 16, 15, 14, 13, 12, 11, 10, 9, 8, 7, 6, 5, 4, 3, 2, 1] <| .eff 1 (.pure 2 <| .pure 3 <| .pure 4 <| .pure 5 <| .pure 6 <| .pure 7 <| .pure 8 <| .pure 9 <| .pure 10 <| .pure 11 <| .pure 12 <| .load 13 [25, 24, 23, 22, 21, 20, 19, 18, 17, 16, 14] <| .load 15 [25, 24, 23, 22, 21, 20, 19, 18, 17, 16] <| .eff 14 (.eff 16 (.pure 17 <| .pure 18 <| .pure 19 <| .pure 20 <| .load 21 [25, 24, 23] <| .load 22 [25, 24, 23] <| .eff 23 (.pure 24 <| .pure 25 <| .done) (.nil)) (.nil)) (.nil)) (.nil))]
/-- (remontoire/term.Term).Right -/
def P25 : List (Nat × Plan) := []
/-- remontoire/term.Count -/
def P27 : List (Nat × Plan) := []
/-- remontoire/term.shaped -/
def P50 : List (Nat × Plan) := [(1, .pure 0 <| .load 1 [36, 35, 34, 33, 32, 31, 30, 29, 28, 27, 26, 25, 24, 23, 22, 21, 20, 19, 18, 17, 16, 15, 14, 13, 12, 11, 10, 9, 8, 7, 6, 5, 4, 3, 2] <| .pure 2 <| .pure 3 <| .pure 4 <| .load 5 [36, 35, 34, 33, 32, 31, 30, 29, 28, 27, 26, 25, 24, 23, 22, 21, 20, 19, 18, 17, 16, 15, 14, 13, 12, 11, 10, 9, 8, 7, 6] <| .pure 6 <| .pure 7 <| .pure 8 <| .pure 9 <| .pure 12 <| .load 10 [36, 35, 34, 33, 32, 31, 30, 29, 28, 27, 26, 25, 24, 23, 22, 21, 20, 19, 18, 17, 16, 15, 11] <| .pure 11 <| .load 13 [36, 35, 34, 33, 32, 31, 30, 29, 28, 27, 26, 25, 24, 23, 22, 21, 20, 19, 18, 17, 16, 15, 14] <| .eff 14 (.pure 15 <| .pure 16 <| .pure 17 <| .pure 18 <| .load 19 [36, 35, 34, 33, 32, 31, 30, 29, 28, 27, 26, 25, 24, 23, 22, 21, 20] <| .pure 20 <| .pure 21 <| .pure 22 <| .load 23 [36, 35, 34, 33, 32, 31, 30, 29, 28, 27, 26, 25, 24] <| .pure 24 <| .pure 25 <| .pure 26 <| .pure 27 <| .pure 28 <| .load 29 [36, 35, 34, 33, 32, 31, 30] <| .pure 30 <| .pure 31 <| .pure 32 <| .load 33 [36, 35, 34] <| .pure 34 <| .pure 35 <| .pure 36 <| .done) (.nil))]
/-- remontoire/term.needs -/
def P74 : List (Nat × Plan) := []
/-- slices.ContainsFunc[[]remontoire/term.Term,remontoire/term.Term] -/
def P75 : List (Nat × Plan) := []
/-- slices.IndexFunc[[]remontoire/term.Term,remontoire/term.Term] -/
def P98 : List (Nat × Plan) := []
/-- remontoire/term.shaped$1 -/
def P76 : List (Nat × Plan) := []
/-- remontoire/remontoireref11.Eval -/
def P26 : List (Nat × Plan) := []
/-- remontoire/remontoireref11.eval -/
def P51 : List (Nat × Plan) := []
/-- remontoire/remontoirelaw11.TermFolds -/
def P9 : List (Nat × Plan) := [(15, .pure 0 <| .pure 1 <| .pure 2 <| .pure 3 <| .pure 4 <| .pure 5 <| .pure 6 <| .pure 7 <| .pure 8 <| .load 9 [32, 31, 30, 29, 28, 27, 26, 25, 24, 23, 22, 21, 20, 19, 18, 17, 16, 15, 14, 13, 12, 10] <| .load 11 [32, 31, 30, 29, 28, 27, 26, 25, 24, 23, 22, 21, 20, 19, 18, 17, 16, 15, 14, 13, 12] <| .eff 10 (.eff 12 (.pure 13 <| .pure 14 <| .pure 15 <| .load 16 [32, 31, 30, 29, 28, 27, 26, 25, 24, 23, 22, 21, 20, 19, 18, 17] <| .eff 17 (.pure 18 <| .pure 19 <| .pure 20 <| .pure 21 <| .pure 22 <| .pure 23 <| .pure 24 <| .pure 25 <| .pure 26 <| .pure 27 <| .load 28 [32, 31, 30, 29] <| .pure 29 <| .pure 30 <| .pure 31 <| .pure 32 <| .done) (.nil)) (.nil)) (.nil))]
/-- remontoire/remontoirelaw21.CostWaits -/
def P10 : List (Nat × Plan) := []
/-- remontoire/remontoirelaw21.anchor -/
def P28 : List (Nat × Plan) := []
/-- remontoire/cost.Fixed -/
def P52 : List (Nat × Plan) := []
/-- remontoire/cost.Eval -/
def P31 : List (Nat × Plan) := [(7, .pure 0 <| .pure 1 <| .pure 2 <| .pure 4 <| .pure 5 <| .load 3 [6] <| .pure 6 <| .done), (8, .pure 0 <| .pure 1 <| .pure 2 <| .pure 4 <| .pure 5 <| .pure 6 <| .load 3 [10, 9, 8] <| .pure 8 <| .load 7 [10, 9] <| .pure 9 <| .pure 10 <| .done)]
/-- (*remontoire/cost.reckoner).one -/
def P55 : List (Nat × Plan) := [(6, .pure 0 <| .pure 1 <| .pure 4 <| .pure 7 <| .pure 8 <| .pure 9 <| .load 2 [14, 13, 3] <| .pure 3 <| .load 5 [14, 13, 12, 6] <| .pure 6 <| .load 10 [14, 13, 12, 11] <| .pure 11 <| .pure 12 <| .pure 13 <| .eff 14 (.done) (.nil))]
/-- (*remontoire/cost.reckoner).add -/
def P82 : List (Nat × Plan) := []
/-- (*remontoire/cost.reckoner).all -/
def P83 : List (Nat × Plan) := []
/-- (*remontoire/cost.reckoner).ended -/
def P85 : List (Nat × Plan) := []
/-- (*remontoire/cost.reckoner).eval -/
def P84 : List (Nat × Plan) := [(1, .pure 1 <| .pure 2 <| .pure 3 <| .load 0 [10, 9, 8, 7, 6, 5] <| .load 4 [10, 9, 8, 7, 6, 5] <| .eff 5 (.pure 6 <| .pure 7 <| .pure 8 <| .pure 9 <| .pure 10 <| .done) (.nil))]
/-- (*remontoire/cost.reckoner).rounds -/
def P86 : List (Nat × Plan) := [(4, .pure 0 <| .pure 1 <| .pure 2 <| .pure 4 <| .load 3 [8, 7, 6] <| .load 5 [8, 7, 6] <| .pure 6 <| .load 7 [8] <| .pure 8 <| .done), (8, .pure 0 <| .pure 1 <| .pure 2 <| .pure 4 <| .pure 6 <| .load 3 [8, 7] <| .load 5 [8, 7] <| .pure 7 <| .eff 8 (.done) (.nil)), (10, .pure 0 <| .pure 1 <| .pure 2 <| .pure 4 <| .pure 6 <| .load 3 [8, 7] <| .load 5 [8, 7] <| .pure 7 <| .eff 8 (.done) (.nil))]
/-- (*remontoire/cost.reckoner).stop -/
def P87 : List (Nat × Plan) := [(1, .pure 0 <| .pure 2 <| .pure 3 <| .pure 4 <| .load 1 [11, 10, 9, 8, 7, 6] <| .load 5 [11, 10, 9, 8, 7, 6] <| .eff 6 (.pure 7 <| .pure 8 <| .pure 9 <| .pure 10 <| .pure 11 <| .done) (.nil))]
/-- (*remontoire/cost.reckoner).divide -/
def P88 : List (Nat × Plan) := []
/-- remontoire/clock.Div -/
def P101 : List (Nat × Plan) := []
/-- remontoire/alu.Len -/
def P117 : List (Nat × Plan) := []
/-- math/bits.Len32 -/
def P112 : List (Nat × Plan) := []
/-- remontoire/remontoirelaw21.made -/
def P29 : List (Nat × Plan) := []
/-- remontoire/remontoirelaw21.built -/
def P53 : List (Nat × Plan) := [(5, .pure 0 <| .pure 2 <| .pure 4 <| .pure 6 <| .pure 8 <| .pure 10 <| .pure 13 <| .load 1 [18, 16] <| .load 3 [18, 16] <| .load 5 [18, 16] <| .load 7 [18, 16] <| .load 9 [18, 16] <| .load 11 [18, 16, 15, 12] <| .load 14 [18, 16, 15] <| .eff 12 (.eff 15 (.pure 16 <| .eff 17 (.eff 18 (.done) (.nil)) (.nil)) (.cons 17 (.eff 15 (.pure 16 <| .eff 18 (.done) (.nil)) (.nil)) (.nil))) (.cons 17 (.eff 12 (.eff 15 (.pure 16 <| .eff 18 (.done) (.nil)) (.nil)) (.nil)) (.nil))), (8, .pure 0 <| .pure 2 <| .pure 3 <| .pure 4 <| .pure 5 <| .load 1 [10, 9, 8] <| .eff 6 (.eff 7 (.eff 8 (.pure 9 <| .eff 10 (.done) (.nil)) (.nil)) (.nil)) (.nil))]
/-- remontoire/remontoirelaw21.termOf -/
def P77 : List (Nat × Plan) := [(8, .pure 0 <| .pure 2 <| .pure 6 <| .load 1 [11, 10] <| .load 3 [11, 10, 9, 5, 4] <| .pure 4 <| .pure 5 <| .load 7 [11, 10, 9, 8] <| .eff 8 (.eff 9 (.pure 10 <| .eff 11 (.done) (.nil)) (.nil)) (.nil))]
/-- (remontoire/cost.Cost).Right -/
def P30 : List (Nat × Plan) := []
/-- remontoire/cost.Nodes -/
def P34 : List (Nat × Plan) := [(1, .pure 0 <| .pure 4 <| .load 1 [8, 7, 6, 3, 2] <| .load 5 [8, 7, 6] <| .eff 2 (.pure 3 <| .eff 6 (.pure 7 <| .pure 8 <| .done) (.nil)) (.nil))]
/-- remontoire/cost.size -/
def P59 : List (Nat × Plan) := []
/-- remontoire/cost.shaped -/
def P54 : List (Nat × Plan) := []
/-- remontoire/cost.within -/
def P78 : List (Nat × Plan) := []
/-- remontoire/cost.termed -/
def P79 : List (Nat × Plan) := []
/-- remontoire/cost.low -/
def P99 : List (Nat × Plan) := []
/-- remontoire/cost.low$1 -/
def P116 : List (Nat × Plan) := []
/-- slices.ContainsFunc[[]remontoire/cost.Cost,remontoire/cost.Cost] -/
def P80 : List (Nat × Plan) := []
/-- slices.IndexFunc[[]remontoire/cost.Cost,remontoire/cost.Cost] -/
def P90 : List (Nat × Plan) := []
/-- remontoire/cost.shaped$1 -/
def P81 : List (Nat × Plan) := []
/-- remontoire/remontoirelaw21.CostRight -/
def P11 : List (Nat × Plan) := [(6, .load 0 [19, 18, 17, 16, 15, 14, 13, 12, 11, 10, 9, 8, 7, 6, 5, 4, 3, 1] <| .load 2 [19, 18, 17, 16, 15, 14, 13, 12, 11, 10, 9, 8, 7, 6, 5, 4, 3] <| .eff 1 (.eff 3 (.eff 4 (.pure 5 <| .pure 6 <| .pure 9 <| .load 7 [19, 18, 17, 16, 15, 14, 13, 12, 8] <| .load 10 [19, 18, 17, 16, 15, 14, 13, 12, 11] <| .pure 11 <| .eff 8 (.pure 12 <| .pure 13 <| .pure 14 <| .load 15 [19, 18, 17] <| .load 16 [19, 18, 17] <| .eff 17 (.pure 18 <| .pure 19 <| .done) (.nil)) (.nil)) (.nil)) (.nil)) (.nil))]
/-- remontoire/remontoirelaw21.of -/
def P33 : List (Nat × Plan) := [(1, .pure 0 <| .pure 2 <| .pure 4 <| .pure 6 <| .pure 8 <| .pure 10 <| .pure 13 <| .load 1 [18, 16] <| .load 3 [18, 16] <| .load 5 [18, 16] <| .load 7 [18, 16] <| .load 9 [18, 16] <| .load 11 [18, 16, 15, 12] <| .load 14 [18, 16, 15] <| .eff 12 (.eff 15 (.pure 16 <| .eff 17 (.eff 18 (.done) (.nil)) (.nil)) (.cons 17 (.eff 15 (.pure 16 <| .eff 18 (.done) (.nil)) (.nil)) (.nil))) (.cons 17 (.eff 12 (.eff 15 (.pure 16 <| .eff 18 (.done) (.nil)) (.nil)) (.nil)) (.nil))), (5, .pure 0 <| .load 1 [7, 6, 5] <| .load 2 [7, 6, 5, 4, 3] <| .eff 3 (.eff 4 (.eff 5 (.pure 6 <| .eff 7 (.done) (.nil)) (.nil)) (.nil)) (.nil))]
/-- remontoire/remontoirelaw21.flat -/
def P58 : List (Nat × Plan) := []
/-- remontoire/remontoireref21.Right -/
def P32 : List (Nat × Plan) := []
/-- remontoire/remontoireref21.Nodes -/
def P56 : List (Nat × Plan) := []
/-- remontoire/remontoireref21.shaped -/
def P57 : List (Nat × Plan) := [(23, .pure 0 <| .pure 3 <| .load 1 [7, 2] <| .pure 2 <| .load 4 [7, 6, 5] <| .pure 5 <| .load 6 [7] <| .pure 7 <| .done)]
/-- remontoire/remontoireref21.term -/
def P89 : List (Nat × Plan) := []
/-- remontoire/cost.Same -/
def P35 : List (Nat × Plan) := []
/-- slices.EqualFunc[[]remontoire/cost.Cost,[]remontoire/cost.Cost,remontoire/cost.Cost,remontoire/cost.Cost] -/
def P60 : List (Nat × Plan) := []
/-- remontoire/remontoirelaw21.CostJoins -/
def P12 : List (Nat × Plan) := []
/-- remontoire/cost.Join -/
def P36 : List (Nat × Plan) := [(7, .pure 0 <| .pure 1 <| .pure 2 <| .pure 3 <| .pure 4 <| .pure 5 <| .pure 6 <| .pure 7 <| .pure 9 <| .pure 12 <| .pure 13 <| .pure 14 <| .pure 15 <| .pure 16 <| .pure 18 <| .load 8 [23, 22, 21, 11] <| .load 10 [23, 22, 21, 11] <| .pure 11 <| .load 17 [23, 22, 21, 20] <| .load 19 [23, 22, 21, 20] <| .pure 20 <| .eff 21 (.pure 22 <| .eff 23 (.done) (.nil)) (.nil))]
/-- remontoire/cost.spread -/
def P61 : List (Nat × Plan) := []
/-- slices.DeleteFunc[[]remontoire/cost.Cost,remontoire/cost.Cost] -/
def P62 : List (Nat × Plan) := []
/-- remontoire/cost.Join$1 -/
def P63 : List (Nat × Plan) := []
/-- remontoire/remontoirelaw21.CostWords -/
def P13 : List (Nat × Plan) := []
/-- remontoire/cost.Words -/
def P37 : List (Nat × Plan) := []
/-- remontoire/cost.gather -/
def P64 : List (Nat × Plan) := [(4, .pure 0 <| .pure 2 <| .load 3 [6, 5, 4] <| .eff 1 (.eff 4 (.eff 5 (.pure 6 <| .done) (.nil)) (.nil)) (.cons 4 (.eff 1 (.eff 5 (.pure 6 <| .done) (.nil)) (.nil)) (.nil)))]
/-- remontoire/cost.named -/
def P91 : List (Nat × Plan) := [(2, .pure 0 <| .pure 1 <| .pure 2 <| .pure 4 <| .load 3 [10, 9, 8] <| .load 5 [10, 9, 8, 7, 6] <| .pure 6 <| .eff 7 (.eff 8 (.pure 9 <| .eff 10 (.done) (.nil)) (.nil)) (.nil))]
/-- slices.Contains[[]int,int] -/
def P102 : List (Nat × Plan) := []
/-- slices.Index[[]int,int] -/
def P118 : List (Nat × Plan) := []
/-- slices.Clone[[]int,int] -/
def P92 : List (Nat × Plan) := []
/-- slices.Sort[[]int,int] -/
def P65 : List (Nat × Plan) := []
/-- math/bits.Len -/
def P94 : List (Nat × Plan) := []
/-- math/bits.Len64 -/
def P113 : List (Nat × Plan) := []
/-- slices.pdqsortOrdered[int] -/
def P93 : List (Nat × Plan) := [(17, .pure 0 <| .pure 1 <| .pure 2 <| .pure 3 <| .pure 4 <| .pure 5 <| .pure 6 <| .pure 8 <| .pure 9 <| .pure 10 <| .load 7 [14, 13, 12] <| .load 11 [14, 13, 12] <| .eff 12 (.pure 13 <| .pure 14 <| .done) (.nil))]
/-- slices.insertionSortOrdered[int] -/
def P103 : List (Nat × Plan) := [(4, .pure 0 <| .pure 1 <| .pure 2 <| .pure 3 <| .pure 4 <| .pure 5 <| .pure 6 <| .pure 8 <| .pure 9 <| .pure 10 <| .pure 11 <| .load 7 [14, 13] <| .load 12 [14, 13] <| .eff 13 (.pure 14 <| .done) (.nil)), (6, .pure 0 <| .pure 1 <| .pure 2 <| .pure 3 <| .pure 4 <| .pure 5 <| .pure 6 <| .pure 7 <| .pure 8 <| .pure 10 <| .pure 11 <| .pure 12 <| .load 9 [17, 16, 15, 14] <| .load 13 [17, 16, 15, 14] <| .pure 14 <| .eff 15 (.pure 16 <| .eff 17 (.done) (.nil)) (.nil))]
/-- cmp.Less[int] -/
def P109 : List (Nat × Plan) := []
/-- cmp.isNaN[int] -/
def P124 : List (Nat × Plan) := []
/-- slices.heapSortOrdered[int] -/
def P104 : List (Nat × Plan) := [(10, .pure 0 <| .pure 1 <| .pure 2 <| .pure 3 <| .pure 4 <| .pure 5 <| .pure 6 <| .pure 7 <| .pure 8 <| .pure 9 <| .pure 10 <| .pure 12 <| .pure 13 <| .pure 14 <| .load 11 [19, 18, 17, 16] <| .load 15 [19, 18, 17, 16] <| .pure 16 <| .eff 17 (.pure 18 <| .eff 19 (.done) (.nil)) (.nil))]
/-- slices.siftDownOrdered[int] -/
def P119 : List (Nat × Plan) := [(3, .pure 0 <| .pure 1 <| .pure 2 <| .pure 3 <| .pure 4 <| .pure 5 <| .pure 6 <| .pure 7 <| .pure 8 <| .pure 9 <| .pure 11 <| .pure 12 <| .pure 13 <| .pure 14 <| .pure 15 <| .pure 16 <| .load 10 [19, 18] <| .load 17 [19, 18] <| .eff 18 (.pure 19 <| .done) (.nil)), (5, .pure 0 <| .pure 1 <| .pure 2 <| .pure 3 <| .pure 4 <| .pure 6 <| .pure 7 <| .pure 8 <| .pure 9 <| .pure 10 <| .load 5 [13, 12] <| .load 11 [13, 12] <| .eff 12 (.pure 13 <| .done) (.nil)), (6, .pure 0 <| .pure 1 <| .pure 2 <| .pure 3 <| .pure 4 <| .pure 5 <| .pure 6 <| .pure 7 <| .pure 8 <| .pure 9 <| .pure 10 <| .pure 11 <| .pure 12 <| .pure 14 <| .pure 15 <| .pure 16 <| .pure 17 <| .pure 18 <| .load 13 [23, 22, 21, 20] <| .load 19 [23, 22, 21, 20] <| .pure 20 <| .eff 21 (.pure 22 <| .eff 23 (.done) (.nil)) (.nil))]
/-- slices.breakPatternsOrdered[int] -/
def P105 : List (Nat × Plan) := [(10, .pure 0 <| .pure 1 <| .pure 2 <| .pure 3 <| .pure 4 <| .pure 5 <| .pure 6 <| .pure 7 <| .pure 8 <| .pure 9 <| .pure 10 <| .pure 12 <| .pure 13 <| .pure 14 <| .load 11 [19, 18, 17, 16] <| .load 15 [19, 18, 17, 16] <| .pure 16 <| .eff 17 (.pure 18 <| .eff 19 (.done) (.nil)) (.nil))]
/-- slices.nextPowerOfTwo -/
def P120 : List (Nat × Plan) := []
/-- (*slices.xorshift).Next -/
def P121 : List (Nat × Plan) := [(1, .pure 0 <| .pure 1 <| .pure 3 <| .pure 4 <| .load 2 [9, 8, 7] <| .load 5 [9, 8, 7, 6] <| .pure 6 <| .pure 7 <| .pure 8 <| .eff 9 (.done) (.nil)), (2, .pure 0 <| .pure 1 <| .pure 3 <| .pure 4 <| .load 2 [9, 8, 7] <| .load 5 [9, 8, 7, 6] <| .pure 6 <| .pure 7 <| .pure 8 <| .eff 9 (.done) (.nil)), (3, .pure 0 <| .pure 1 <| .pure 3 <| .pure 4 <| .load 2 [9, 8, 7] <| .load 5 [9, 8, 7, 6] <| .pure 6 <| .pure 7 <| .pure 8 <| .eff 9 (.done) (.nil))]
/-- slices.choosePivotOrdered[int] -/
def P106 : List (Nat × Plan) := []
/-- slices.medianAdjacentOrdered[int] -/
def P122 : List (Nat × Plan) := []
/-- slices.medianOrdered[int] -/
def P123 : List (Nat × Plan) := []
/-- slices.order2Ordered[int] -/
def P125 : List (Nat × Plan) := [(1, .pure 0 <| .pure 1 <| .pure 2 <| .pure 4 <| .pure 5 <| .pure 6 <| .load 3 [8] <| .load 7 [8] <| .eff 8 (.done) (.nil))]
/-- slices.reverseRangeOrdered[int] -/
def P107 : List (Nat × Plan) := [(3, .pure 0 <| .pure 1 <| .pure 2 <| .pure 3 <| .pure 4 <| .pure 5 <| .pure 6 <| .pure 8 <| .pure 9 <| .pure 10 <| .load 7 [15, 14, 13, 12] <| .load 11 [15, 14, 13, 12] <| .pure 12 <| .eff 13 (.pure 14 <| .eff 15 (.done) (.nil)) (.nil))]
/-- slices.partialInsertionSortOrdered[int] -/
def P108 : List (Nat × Plan) := [(5, .pure 0 <| .pure 1 <| .pure 2 <| .pure 3 <| .pure 4 <| .pure 5 <| .pure 6 <| .pure 8 <| .pure 9 <| .pure 10 <| .pure 11 <| .load 7 [15, 14, 13] <| .load 12 [15, 14, 13] <| .eff 13 (.pure 14 <| .pure 15 <| .done) (.nil)), (11, .pure 0 <| .pure 1 <| .pure 2 <| .pure 3 <| .pure 4 <| .pure 5 <| .pure 6 <| .pure 7 <| .pure 8 <| .pure 10 <| .pure 11 <| .pure 12 <| .load 9 [17, 16, 15, 14] <| .load 13 [17, 16, 15, 14] <| .pure 14 <| .eff 15 (.pure 16 <| .eff 17 (.done) (.nil)) (.nil)), (16, .pure 0 <| .pure 1 <| .pure 2 <| .pure 4 <| .pure 5 <| .pure 6 <| .pure 7 <| .load 3 [10, 9] <| .load 8 [10, 9] <| .eff 9 (.pure 10 <| .done) (.nil)), (17, .pure 0 <| .pure 1 <| .pure 2 <| .pure 3 <| .pure 4 <| .pure 5 <| .pure 6 <| .pure 7 <| .pure 8 <| .pure 10 <| .pure 11 <| .pure 12 <| .load 9 [17, 16, 15, 14] <| .load 13 [17, 16, 15, 14] <| .pure 14 <| .eff 15 (.pure 16 <| .eff 17 (.done) (.nil)) (.nil)), (22, .pure 0 <| .pure 1 <| .pure 2 <| .pure 4 <| .pure 5 <| .pure 6 <| .pure 7 <| .load 3 [10, 9] <| .load 8 [10, 9] <| .eff 9 (.pure 10 <| .done) (.nil)), (23, .pure 0 <| .pure 1 <| .pure 2 <| .pure 3 <| .pure 4 <| .pure 5 <| .pure 6 <| .pure 7 <| .pure 8 <| .pure 10 <| .pure 11 <| .pure 12 <| .load 9 [17, 16, 15, 14] <| .load 13 [17, 16, 15, 14] <| .pure 14 <| .eff 15 (.pure 16 <| .eff 17 (.done) (.nil)) (.nil))]
/-- slices.partitionEqualOrdered[int] -/
def P110 : List (Nat × Plan) := [(1, .pure 0 <| .pure 1 <| .pure 2 <| .pure 3 <| .pure 4 <| .pure 5 <| .pure 6 <| .pure 8 <| .pure 9 <| .pure 10 <| .load 7 [15, 14, 13, 12] <| .load 11 [15, 14, 13, 12] <| .pure 12 <| .eff 13 (.pure 14 <| .eff 15 (.done) (.nil)) (.nil)), (3, .pure 0 <| .pure 1 <| .pure 2 <| .pure 3 <| .pure 4 <| .pure 5 <| .pure 6 <| .pure 8 <| .pure 9 <| .pure 10 <| .load 7 [14, 13, 12] <| .load 11 [14, 13, 12] <| .eff 12 (.pure 13 <| .pure 14 <| .done) (.nil)), (5, .pure 0 <| .pure 1 <| .pure 2 <| .pure 3 <| .pure 4 <| .pure 5 <| .pure 6 <| .pure 8 <| .pure 9 <| .pure 10 <| .load 7 [13, 12] <| .load 11 [13, 12] <| .eff 12 (.pure 13 <| .done) (.nil)), (8, .pure 0 <| .pure 1 <| .pure 2 <| .pure 3 <| .pure 4 <| .pure 5 <| .pure 6 <| .pure 8 <| .pure 9 <| .pure 10 <| .load 7 [15, 14, 13, 12] <| .load 11 [15, 14, 13, 12] <| .pure 12 <| .eff 13 (.pure 14 <| .eff 15 (.done) (.nil)) (.nil))]
/-- slices.partitionOrdered[int] -/
def P111 : List (Nat × Plan) := [(1, .pure 0 <| .pure 1 <| .pure 2 <| .pure 3 <| .pure 4 <| .pure 5 <| .pure 6 <| .pure 8 <| .pure 9 <| .pure 10 <| .load 7 [15, 14, 13, 12] <| .load 11 [15, 14, 13, 12] <| .pure 12 <| .eff 13 (.pure 14 <| .eff 15 (.done) (.nil)) (.nil)), (3, .pure 0 <| .pure 1 <| .pure 2 <| .pure 3 <| .pure 4 <| .pure 5 <| .pure 6 <| .pure 8 <| .pure 9 <| .pure 10 <| .load 7 [13, 12] <| .load 11 [13, 12] <| .eff 12 (.pure 13 <| .done) (.nil)), (5, .pure 0 <| .pure 1 <| .pure 2 <| .pure 3 <| .pure 4 <| .pure 5 <| .pure 6 <| .pure 8 <| .pure 9 <| .pure 10 <| .load 7 [14, 13, 12] <| .load 11 [14, 13, 12] <| .eff 12 (.pure 13 <| .pure 14 <| .done) (.nil)), (8, .pure 0 <| .pure 1 <| .pure 2 <| .pure 3 <| .pure 4 <| .pure 5 <| .pure 6 <| .pure 8 <| .pure 9 <| .pure 10 <| .load 7 [15, 14, 13, 12] <| .load 11 [15, 14, 13, 12] <| .pure 12 <| .eff 13 (.pure 14 <| .eff 15 (.done) (.nil)) (.nil)), (10, .pure 0 <| .pure 1 <| .pure 2 <| .pure 3 <| .pure 4 <| .pure 5 <| .pure 6 <| .pure 8 <| .pure 9 <| .pure 10 <| .load 7 [15, 14, 13, 12] <| .load 11 [15, 14, 13, 12] <| .pure 12 <| .eff 13 (.pure 14 <| .eff 15 (.done) (.nil)) (.nil)), (13, .pure 0 <| .pure 1 <| .pure 2 <| .pure 3 <| .pure 4 <| .pure 5 <| .pure 6 <| .pure 8 <| .pure 9 <| .pure 10 <| .load 7 [13, 12] <| .load 11 [13, 12] <| .eff 12 (.pure 13 <| .done) (.nil)), (15, .pure 0 <| .pure 1 <| .pure 2 <| .pure 3 <| .pure 4 <| .pure 5 <| .pure 6 <| .pure 8 <| .pure 9 <| .pure 10 <| .load 7 [14, 13, 12] <| .load 11 [14, 13, 12] <| .eff 12 (.pure 13 <| .pure 14 <| .done) (.nil)), (18, .pure 0 <| .pure 1 <| .pure 2 <| .pure 3 <| .pure 4 <| .pure 5 <| .pure 6 <| .pure 8 <| .pure 9 <| .pure 10 <| .load 7 [15, 14, 13, 12] <| .load 11 [15, 14, 13, 12] <| .pure 12 <| .eff 13 (.pure 14 <| .eff 15 (.done) (.nil)) (.nil)), (21, .pure 0 <| .pure 1 <| .pure 2 <| .pure 3 <| .pure 4 <| .pure 5 <| .pure 6 <| .pure 8 <| .pure 9 <| .pure 10 <| .load 7 [15, 14, 13, 12] <| .load 11 [15, 14, 13, 12] <| .pure 12 <| .eff 13 (.pure 14 <| .eff 15 (.done) (.nil)) (.nil))]
/-- slices.Compact[[]int,int] -/
def P66 : List (Nat × Plan) := [(6, .pure 0 <| .pure 1 <| .pure 2 <| .pure 4 <| .pure 5 <| .pure 6 <| .pure 7 <| .load 3 [9] <| .load 8 [9] <| .pure 9 <| .done), (11, .pure 0 <| .pure 1 <| .pure 2 <| .pure 4 <| .pure 5 <| .pure 6 <| .pure 7 <| .load 3 [9] <| .load 8 [9] <| .pure 9 <| .done)]

end Go.Proofs.YtnjmfedleimlmaaDoor.Pw

/- Calls that are given slices of the caller's own blocks. -/
namespace Go.Proofs.YtnjmfedleimlmaaDoor.Pw
open Go Go.RowKit

/-- a block's elements -/
def elB (b : PBlk) (n : Nat) (es : List PV) : Prop := match b with
  | ⟨k, _, m, md, live, cs⟩ => bif live && notP md && Nat.beq m n then (match k with
    | .dyn => cs = es
    | .arr => elemsOf true m (.stat cs) = some es ∨ (m = 1 ∧ elemsOf false m (.stat cs) = some es)
    | .loc => False) else False
/-- what a value says is said by another one; a slice of a block of fz as a slice that doesn't change -/
def leB1 (S : List PBlk) (fz : List Nat) (x y : PV) : Prop := match x, y with
  | .wref l, .sl n es => bif inL l fz then need S[l]? fun b => elB b n es else False
  | x, y => le1 x y
def leB (S : List PBlk) (fz : List Nat) (x y : PV) : Prop := match x, y with
  | .wref l, .sl n es => bif inL l fz then need S[l]? fun b => elB b n es else False
  | .agg cs, .agg ds => leL (leB1 S fz) cs ds
  | x, y => leK x y
def okZ (S : List PBlk) (fz : List Nat) : Bool := fz.all fun l => match S[l]? with
  | some b => b.live && notP b.m
  | none => false
def frzM (b : Bool) (m : Md) : Md := bif b then .r else m
def frzS (fz : List Nat) (S : List PBlk) : List PBlk := mapM frzM fz 0 S
def PV.flat1 : PV → Bool
  | .lit .. | .int .. | .tt | .ff | .bool _ | .val _ | .nil => true
  | _ => false
def PV.flatA : PV → Bool
  | .agg cs => cs.all PV.flat1
  | x => x.flat1
def PV.flatP : PV → Bool
  | .tup cs => cs.all PV.flatA
  | x => x.flatA

section
variable {w w' : World} {I I' : Nat → Prop} {β β' : Places} {G : Gx} {S : List PBlk}
theorem flat1_ok {x : PV} {v : Value} (hf : x.flat1 = true) (h : x.Is w I β v) : x.Is w' I' β' v := by
  cases x <;> first | (cases hf; done) | (simp only [PV.Is] at h ⊢; exact h)
theorem flatL_ok {r : PV → Bool} (hr : ∀ x v, r x = true → x.Is w I β v → x.Is w' I' β' v) : ∀ {cs : List PV} {vs : List Value}, cs.all r = true → IsL w I cs β vs → IsL w' I' cs β' vs
  | [], [], _, _ => by simp only [IsL]
  | c :: cs, v :: vs, hf, h => by
    simp only [List.all_cons, Bool.and_eq_true] at hf
    simp only [IsL] at h ⊢
    exact ⟨hr c v hf.1 h.1, flatL_ok hr hf.2 h.2⟩
  | [], _ :: _, _, h => by simp only [IsL] at h
  | _ :: _, [], _, h => by simp only [IsL] at h
theorem flatA_ok {x : PV} {v : Value} (hf : x.flatA = true) (h : x.Is w I β v) : x.Is w' I' β' v := by
  unfold PV.flatA at hf
  split at hf
  · simp only [PV.Is] at h ⊢
    obtain ⟨vs, rfl, h⟩ := h
    exact ⟨vs, rfl, flatL_ok (fun x v => flat1_ok) hf h⟩
  · exact flat1_ok hf h
theorem flatP_ok {x : PV} {v : Value} (hf : x.flatP = true) (h : x.Is w I β v) : x.Is w' I' β' v := by
  unfold PV.flatP at hf
  split at hf
  · simp only [PV.Is] at h ⊢
    obtain ⟨vs, rfl, h⟩ := h
    exact ⟨vs, rfl, flatL_ok (fun x v => flatA_ok) hf h⟩
  · exact flatA_ok hf h

/-- what is not changed while a call is under way -/
def LentI (I : Nat → Prop) (β : Places) (S : List PBlk) (fz : List Nat) (g : Nat) : Prop := I g ∨ ∃ l b p o, l ∈ fz ∧ S[l]? = some b ∧ b.live = true ∧ notP b.m = true ∧ β l = some p ∧ p.a = some (g, o)
theorem okZ_ok {fz : List Nat} (h : okZ S fz = true) {l : Nat} (hl : l ∈ fz) : ∃ b, S[l]? = some b ∧ b.live = true ∧ notP b.m = true := by
  have := List.all_eq_true.1 h l hl
  split at this
  · rename_i b hb
    simp only [Bool.and_eq_true] at this
    exact ⟨b, hb, this⟩
  · cases this
theorem lent_sl {fz : List Nat} (hH : HeapOk I β S w) {l : Nat} {b : PBlk} {n : Nat} {es : List PV} (hl : l ∈ fz) (hb : S[l]? = some b) (h : elB b n es) {v : Value} (hx : (PV.wref l).Is w I β v) : (PV.sl n es).Is w (LentI I β S fz) no v := by
  obtain ⟨k, ty, m, md, live, cs⟩ := b
  unfold elB at h
  replace h := bif_ok h
  obtain ⟨hc, h⟩ := h
  simp only [Bool.and_eq_true] at hc
  obtain ⟨⟨hlive, hm⟩, hn⟩ := hc
  obtain rfl := Nat.eq_of_beq_eq_true hn
  simp only [PV.Is] at hx ⊢
  obtain ⟨p, hp, rfl⟩ := hx
  have hI : ∀ g, I g → LentI I β S fz g := fun g h => .inl h
  have hgI : ∀ {g o : Nat}, p.a = some (g, o) → LentI I β S fz g := fun {g o} ha => .inr ⟨l, _, p, o, hl, hb, hlive, hm, hp, ha⟩
  cases k with
  | dyn =>
    obtain ⟨hn0, hlen, hle, hmx, hor⟩ := whole_dyn hH hb hlive rfl hp
    subst h
    rcases hor with ⟨ha, hc0, hw⟩ | ⟨g, arr, fr, ha, hw, hhg, hes, hown, has⟩
    · have h0 : cs = [] := List.eq_nil_of_length_eq_zero (by simp only at hlen; omega)
      subst h0
      exact ⟨none, 0, by rw [hw]; rfl, Nat.le_refl _, Nat.zero_le _, (fun _ _ e => by cases e), fun hn => absurd rfl hn⟩
    · simp only at hlen
      exact ⟨some ⟨g, 0, none⟩, p.cap, by rw [hw, hlen], by omega, by omega, (fun g' o' e => by cases e; exact IsEs.mono hI (fun _ _ => rfl) _ _ _ _ rfl hes), fun _ => ⟨g, 0, rfl, hgI ha, hn0⟩⟩
  | arr =>
    obtain ⟨g, arr, fr, ha, hw, hhg, hca, hown, hlen, hle, hmx, has, hn0⟩ := whole_arr hH hb hlive rfl hp
    simp only at hlen has hn0 hca
    have hsz : p.len * m ≤ arr.size := by rw [has]; exact Nat.mul_le_mul_right _ hle
    have hxl : (arr.toList.take (p.len * m)).length = p.len * m := by rw [List.length_take, Array.length_toList]; omega
    have hsrc : SrcIs w I β m (.stat cs) (arr.toList.take (p.len * m)) := by
      refine ⟨by rw [hxl, hlen], fun j c hj => ?_⟩
      obtain ⟨u, hu, hi, h1⟩ := hca j c hj
      have hj' : j < p.len * m := by rw [← hlen]; exact (List.getElem?_eq_some_iff.1 hj).1
      exact ⟨u, by rw [List.getElem?_take, if_pos hj']; simpa using hu, hi, h1⟩
    have key : es.length = p.len ∧ RowIs w I es m (arr.toList.take (p.len * m)) := by
      rcases h with h | ⟨h1, h⟩
      · exact elemsOf_ok hn0 (.inl rfl) h hsrc hxl
      · exact elemsOf_ok hn0 (.inr h1) h hsrc hxl
    obtain ⟨e1, e2⟩ := key
    have hEs : IsEs w I es m g 0 := e2.at (fun j v hj => by
      have := take_at hhg 0 (p.len * m) j v (by simpa using hj)
      simpa using this) (fun _ h => h) (fun _ _ => rfl)
    exact ⟨some ⟨g, 0, none⟩, p.cap, by rw [hw, e1], by omega, by omega, fun g' o' e => by cases e; exact IsEs.mono hI (fun _ _ => rfl) _ _ _ _ rfl hEs, fun _ => ⟨g, 0, rfl, hgI ha, hn0⟩⟩
  | loc => exact h.elim
theorem lent_1 {fz : List Nat} (hH : HeapOk I β S w) {x y : PV} {v : Value} (h1 : leB1 S fz x y) (hu : y.uses = []) (hx : x.Is w I β v) : y.Is w (LentI I β S fz) no v := by
  unfold leB1 at h1
  split at h1
  · replace h1 := bif_ok h1
    obtain ⟨hl, h1⟩ := h1
    replace h1 := need_ok h1
    obtain ⟨b, hb, h1⟩ := h1
    exact lent_sl hH (inL_iff.1 hl) hb h1 hx
  · exact PV.Is.mono (fun _ h => .inl h) (fun _ _ => rfl) y β no v (fun l p hl => by rw [hu] at hl; cases hl) (le1_ok h1 w I β v hx)
theorem lent_l1 {fz : List Nat} (hH : HeapOk I β S w) : ∀ {args args' : List PV} {vals : List Value}, leL (leB1 S fz) args args' → usesL args' = [] → IsL w I args β vals → IsL w (LentI I β S fz) args' no vals
  | [], [], [], _, _, _ => by simp only [IsL]
  | x :: xs, y :: ys, v :: vs, h, hu, hx => by
    simp only [IsL] at hx ⊢
    have hu' : y.uses = [] ∧ usesL ys = [] := by simpa [usesL] using hu
    exact ⟨lent_1 hH h.1 hu'.1 hx.1, lent_l1 hH h.2 hu'.2 hx.2⟩
  | [], _ :: _, _, h, _, _ => h.elim
  | _ :: _, [], _, h, _, _ => h.elim
  | [], [], _ :: _, _, _, hx => by simp only [IsL] at hx
  | _ :: _, _ :: _, [], _, _, hx => by simp only [IsL] at hx
theorem lent_args {fz : List Nat} (hH : HeapOk I β S w) : ∀ {args args' : List PV} {vals : List Value}, leL (leB S fz) args args' → usesL args' = [] → IsL w I args β vals → IsL w (LentI I β S fz) args' no vals
  | [], [], [], _, _, _ => by simp only [IsL]
  | x :: xs, y :: ys, v :: vs, h, hu, hx => by
    simp only [IsL] at hx ⊢
    have hu' : y.uses = [] ∧ usesL ys = [] := by simpa [usesL] using hu
    refine ⟨?_, lent_args hH h.2 hu'.2 hx.2⟩
    have h1 := h.1
    unfold leB at h1
    split at h1
    · obtain ⟨hl, h1⟩ := bif_ok h1
      obtain ⟨b, hb, h1⟩ := need_ok h1
      exact lent_sl hH (inL_iff.1 hl) hb h1 hx.1
    · have hx1 := hx.1
      simp only [PV.Is] at hx1 ⊢
      obtain ⟨vs', rfl, hx1⟩ := hx1
      exact ⟨vs', rfl, lent_l1 hH h1 (by simpa [PV.uses] using hu'.1) hx1⟩
    · exact PV.Is.mono (fun _ h => .inl h) (fun _ _ => rfl) y β no v (fun l p hl => by rw [hu'.1] at hl; cases hl) (leK_ok h1 w I β v hx.1)
  | [], _ :: _, _, h, _, _ => h.elim
  | _ :: _, [], _, h, _, _ => h.elim
  | [], [], _ :: _, _, _, hx => by simp only [IsL] at hx
  | _ :: _, _ :: _, [], _, _, hx => by simp only [IsL] at hx
theorem lent_lt {fz : List Nat} (hH : HeapOk I β S w) (hM : ImmOk G I w) {g : Nat} (h : LentI I β S fz g) : g < w.heap.size := by
  rcases h with h | ⟨l, b, p, o, _, hb, hlive, _, hp, ha⟩
  · exact hM.imm g h
  · exact hH.lives_lt ⟨l, b, p, o, hb, hlive, hp, ha⟩
theorem lent_imm {fz : List Nat} (hH : HeapOk I β S w) (hM : ImmOk G I w) : ImmOk G (LentI I β S fz) w :=
  ⟨fun g hg => lent_lt hH hM hg, fun g cs hg => ⟨.inl (hM.tab g cs hg).1, IsAt.mono (fun _ h => .inl h) (fun _ _ => rfl) _ _ _ rfl (hM.tab g cs hg).2⟩⟩
theorem no_wr (g : Nat) : ¬ Wr no ([] : List PBlk) g := fun ⟨l, b, p, o, h1, _⟩ => by simp at h1

/-- blocks that are lent, and may be kept: they are not changed any more -/
theorem PureF.useF {f : FuncId} {args args' : List PV} {r : PV} {K : PV → List PBlk → Prop} (h : PureF G f args' r) (fz : List Nat) (hz : okZ S fz = true) (hle : leL (leB S fz) args args') (hu : usesL args' = []) (hr : r.uses = []) (hK : frB (frzS fz S) (K r)) : Spec G f args S [] K := by
  refine Spec.intro h.run.1 fun I β w vals hH hM hA => ?_
  have h0 : HeapOk (LentI I β S fz) no ([] : List PBlk) w := ⟨fun _ _ => rfl, fun l b hl => by simp at hl⟩
  refine (h.run.2 _ no w vals h0 (lent_imm hH hM) (lent_args hH hle hu hA)).mono fun e w' ⟨v, r', S', I', β', he, hr', hi, _, hM', hE, _, _⟩ => ?_
  subst hr'
  have hold : ∀ g, g < w.heap.size → w'.heap[g]? = w.heap[g]? := fun g hg => hE.block g hg (no_wr g)
  have hI' : ∀ g, g < w.heap.size → I' g → LentI I β S fz g := fun g hg h => (hE.new g hg h).elim id fun h => absurd h (no_wr g)
  have hII : ∀ g, I g → I' g := fun g h => hE.imm g (.inl h)
  have hget : ∀ (l : Nat) (b : PBlk), (frzS fz S)[l]? = some b → ∃ b0, S[l]? = some b0 ∧ b = { b0 with m := frzM (inL l fz) b0.m } := fun l b hb => by
    unfold frzS at hb
    rw [mapM_get, Option.map_eq_some_iff] at hb
    obtain ⟨b0, h1, h2⟩ := hb
    rw [Nat.zero_add] at h2
    exact ⟨b0, h1, h2.symm⟩
  refine ⟨v, r', frzS fz S, I', β, he, frB_ok hK, uses_none hr hi, ⟨fun l hl => hH.far l (by unfold frzS at hl; rw [mapM_len] at hl; exact hl), fun l b hb hlive => ?_⟩, hM', ⟨hE.os, hE.tape, hE.output, hE.size, fun g hg _ => hold g hg, fun g _ h => ?_, hII, fun g hg h => ?_⟩, by unfold frzS; rw [mapM_len]; exact Nat.le_refl _, fun _ _ _ => rfl⟩
  · obtain ⟨b0, hb0, rfl⟩ := hget l b hb
    obtain ⟨p, hp, hk⟩ := hH.blk l b0 hb0 hlive
    have own : ∀ {g o : Nat} {fr : Nat × Nat}, p.a = some (g, o) → g < w.heap.size → Own I β S l g fr b0 → Own I' β (frzS fz S) l g fr { b0 with m := frzM (inL l fz) b0.m } := fun {g o fr} ha hg ho => by
      refine ⟨fun hm => ?_, fun hm => ?_⟩
      · have hm0 : inL l fz = false ∧ b0.m ≠ .r := by
          cases hc : inL l fz with
          | true => simp only [hc, frzM, cond_true, ne_eq, not_true_eq_false] at hm
          | false => exact ⟨rfl, by simpa only [hc, frzM, cond_false] using hm⟩
        obtain ⟨h1, h2, h3⟩ := ho.1 hm0.2
        refine ⟨h1, fun hI => ?_, fun l2 b2 hne hl2 hlive2 p2 g2 o2 hp2 ha2 => ?_⟩
        · rcases hI' g hg hI with hI | ⟨l2, b2, p2, o2, hl2, hb2, hlive2, _, hp2, ha2⟩
          · exact h2 hI
          · refine h3 l2 b2 (fun e => ?_) hb2 hlive2 p2 g o2 hp2 ha2 rfl
            subst e
            rw [inL_iff.2 hl2] at hm0
            cases hm0.1
        · obtain ⟨b3, hb3, rfl⟩ := hget l2 b2 hl2
          exact h3 l2 b3 hne hb3 hlive2 p2 g2 o2 hp2 ha2
      · cases hc : inL l fz with
        | true =>
          obtain ⟨b1, hb1, k1, k2⟩ := okZ_ok hz (inL_iff.1 hc)
          rw [hb0] at hb1; cases hb1
          exact hE.imm g (.inr ⟨l, b0, p, o, inL_iff.1 hc, hb0, k1, k2, hp, ha⟩)
        | false => exact hII g (ho.2 (by simpa only [hc, frzM, cond_false] using hm))
    have hwI : ∀ g, I g → w'.heap[g]? = w.heap[g]? := fun g hg => hold g (hM.imm g hg)
    refine ⟨p, hp, ?_⟩
    split at hk
    · rename_i hkk
      obtain ⟨g, o, arr, ty, fr, h1, h2, h3, ho⟩ := hk
      have hg := lt_of_heap h2
      simp only [hkk]
      exact ⟨g, o, arr, ty, fr, h1, (hold g hg).trans h2, CellsAt.mono hII hwI (fun _ _ h => h) h3, own h1 hg ho⟩
    · rename_i hkk
      obtain ⟨g, arr, fr, h1, h2, h3, ho, h4⟩ := hk
      have hg := lt_of_heap h2
      simp only [hkk]
      exact ⟨g, arr, fr, h1, (hold g hg).trans h2, CellsAt.mono hII hwI (fun _ _ h => h) h3, own h1 hg ho, h4⟩
    · rename_i hkk
      obtain ⟨h1, hk⟩ := hk
      simp only [hkk]
      refine ⟨h1, ?_⟩
      rcases hk with h | ⟨g, arr, fr, h2, h3, h4, ho, h5⟩
      · exact .inl h
      · have hg := lt_of_heap h3
        exact .inr ⟨g, arr, fr, h2, (hold g hg).trans h3, IsEs.mono hII hwI _ _ _ _ (hold g hg) h4, own h2 hg ho, h5⟩
  · obtain ⟨l, b, p, o, h1, h2, h3, h4, h5⟩ := h
    obtain ⟨b0, hb0, rfl⟩ := hget l b h1
    refine ⟨l, b0, p, o, hb0, h2, ?_, h4, h5⟩
    cases hc : inL l fz with
    | true => simp only [hc, frzM, cond_true] at h3; cases h3
    | false => simpa only [hc, frzM, cond_false] using h3
  · rcases hI' g hg h with h | ⟨l, b, p, o, hl, hb, hlive, hm, hp, ha⟩
    · exact .inl h
    · cases hmm : b.m with
      | w => exact .inr ⟨l, b, p, o, hb, hlive, hmm, hp, ha⟩
      | p => rw [hmm] at hm; cases hm
      | r =>
        obtain ⟨arr, ty, fr, _, ho⟩ := (hH.blk l b hb hlive).place hp ha
        exact .inl (ho.2 hmm)
/-- blocks that are lent to what yields numbers -/
theorem PureF.useB {f : FuncId} {args args' : List PV} {r : PV} {K : PV → List PBlk → Prop} (h : PureF G f args' r) (fz : List Nat) (hle : leL (leB S fz) args args') (hu : usesL args' = []) (hr : r.flatP = true) (hK : K r S) : Spec G f args S [] K := by
  refine Spec.intro h.run.1 fun I β w vals hH hM hA => ?_
  have h0 : HeapOk (LentI I β S fz) no ([] : List PBlk) w := ⟨fun _ _ => rfl, fun l b hl => by simp at hl⟩
  refine (h.run.2 _ no w vals h0 (lent_imm hH hM) (lent_args hH hle hu hA)).mono fun e w' ⟨v, r', S', I', β', he, hr', hi, _, hM', hE, _, _⟩ => ?_
  subst hr'
  have hold : ∀ g, g < w.heap.size → w'.heap[g]? = w.heap[g]? := fun g hg => hE.block g hg (no_wr g)
  have hwI : ∀ g, I g → w'.heap[g]? = w.heap[g]? := fun g hg => hold g (hM.imm g hg)
  refine ⟨v, r', S, I, β, he, hK, flatP_ok hr hi, ⟨hH.far, fun l b hb hlive => (hH.blk l b hb hlive).mono (fun _ h => h) hwI (fun _ _ h => h) fun p g o hp ha => ?_⟩, ⟨fun g hg => Nat.lt_of_lt_of_le (hM.imm g hg) hE.size, fun g cs hg => ⟨(hM.tab g cs hg).1, IsAt.mono (fun _ h => h) hwI _ _ _ (hwI g (hM.tab g cs hg).1) (hM.tab g cs hg).2⟩⟩,
    ⟨hE.os, hE.tape, hE.output, hE.size, fun g hg _ => hold g hg, fun g _ h => h, fun _ h => h, fun _ _ h => .inl h⟩, Nat.le_refl _, fun _ _ _ => rfl⟩
  obtain ⟨arr, ty, fr, hh, ho⟩ := (hH.blk l b hb hlive).place hp ha
  exact ⟨hold g (lt_of_heap hh), fun hr => ⟨(ho.1 hr).2.1, (ho.1 hr).2.2⟩⟩
end

end Go.Proofs.YtnjmfedleimlmaaDoor.Pw

/- Loops that keep the store. -/
namespace Go.Proofs.YtnjmfedleimlmaaDoor.Pw
open Go Go.RowKit

def TM.dropT : TM → TM
  | .nil => .nil
  | .node v l r => .node (match v with
    | some (.tup _) => none
    | v => v) l.dropT r.dropT
/-- the state at a loop's head; tuples are let go -/
def PSt.headS (s : PSt) (c : Code) (vs : List (Nat × PV)) : PSt := match s with
  | ⟨n, t, st, b, rl⟩ => ⟨n, (layF vs (clearF (dsts c) t)).dropT, st, b, rl⟩
/-- a loop whose rounds leave the store as it was, but for new blocks: slots by x -/
theorem SW.loopS {G : Gx} {s : PSt} (hG : GOk G) (R : List (Nat × Plan)) {α : Type} {c : Code} {Q : X → PSt → Prop} (hc : planAll R c = true) (vs : α → List (Nat × PV)) (μ : α → Nat) (x0 : α) (N : Nat) (h0 : subK G.cx (idR 0 s.st) s (s.headS c (vs x0)))
    (h : ∀ x, frS (s.headS c (vs x)) (pw G R N c (backK (fun s' => ∃ y, μ y < μ x ∧ subK G.cx (idR 0 s.st) s' (s.headS c (vs y))) Q))) : SW G (.loop c) Q s :=
  SW.inv hG (fun x => s.headS c (vs x)) μ (N := N) hc x0 (subK_ok hG.ok h0) (fun x s' => ∃ y, μ y < μ x ∧ subK G.cx (idR 0 s.st) s' (s.headS c (vs y))) (fun x s' ⟨y, hy, hs⟩ => ⟨y, hy, subK_ok hG.ok hs⟩) fun x => frS_ok (h x)

/-- .. with other blocks behind the store -/
def PSt.headD (s : PSt) (c : Code) (vs : List (Nat × PV)) (ex : List PBlk) : PSt := match s with
  | ⟨n, t, st, b, rl⟩ => ⟨n, (layF vs (clearF (dsts c) t)).dropT, st ++ ex, b, rl⟩
/-- a loop that leaves the store as it was, but for blocks of its own (ex x, behind the store): π: which block of the state is which of ex -/
theorem SW.loopD {G : Gx} {s : PSt} (hG : GOk G) (R : List (Nat × Plan)) {α : Type} {c : Code} {Q : X → PSt → Prop} (hc : planAll R c = true) (vs : α → List (Nat × PV)) (ex : α → List PBlk) (μ : α → Nat) (x0 : α) (N : Nat) (π0 : Ren) (h0 : subK G.cx (idR 0 s.st ++ π0) s (s.headD c (vs x0) (ex x0)))
    (h : ∀ x, frS (s.headD c (vs x) (ex x)) (pw G R N c (backK (fun s' => ∃ y π, μ y < μ x ∧ subK G.cx (idR 0 s.st ++ π) s' (s.headD c (vs y) (ex y))) Q))) : SW G (.loop c) Q s :=
  SW.inv hG (fun x => s.headD c (vs x) (ex x)) μ (N := N) hc x0 (subK_ok hG.ok h0) (fun x s' => ∃ y π, μ y < μ x ∧ subK G.cx (idR 0 s.st ++ π) s' (s.headD c (vs y) (ex y))) (fun x s' ⟨y, _, hy, hs⟩ => ⟨y, hy, subK_ok hG.ok hs⟩) fun x => frS_ok (h x)

end Go.Proofs.YtnjmfedleimlmaaDoor.Pw

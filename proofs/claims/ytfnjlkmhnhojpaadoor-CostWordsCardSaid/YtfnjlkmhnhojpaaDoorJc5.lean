/- What the laws of this claim are proved with, joined (join.py) of 8 texts: no condition. -/
import Derived.Test.YtfnjlkmhnhojpaaDoorJc4
import Derived.Deep.OwnRows
import Derived.Laws.AppendOwn
set_option linter.unusedVariables false
set_option linter.unusedSimpArgs false

/- The orders of regions that draw. Written by a program (mkpl.py) off the given program; each is checked where it is used. -/
namespace Go.Proofs.YtfnjlkmhnhojpaaDoor.Pw
open Go

/-- remontoire/remontoirelaw21.CostJoins -/
def P3 : List (Nat × Plan) := []
/-- remontoire/remontoirelaw21.anchor -/
def P5 : List (Nat × Plan) := []
/-- remontoire/term.Of -/
def P11 : List (Nat × Plan) := []
/-- remontoire/cost.Fixed -/
def P12 : List (Nat × Plan) := []
/-- remontoire/cost.Eval -/
def P9 : List (Nat × Plan) := [(7, .pure 0 <| .pure 1 <| .pure 2 <| .pure 4 <| .pure 5 <| .load 3 [6] <| .pure 6 <| .done), (8, .pure 0 <| .pure 1 <| .pure 2 <| .pure 4 <| .pure 5 <| .pure 6 <| .load 3 [10, 9, 8] <| .pure 8 <| .load 7 [10, 9] <| .pure 9 <| .pure 10 <| .done)]
/-- (*remontoire/cost.reckoner).one -/
def P19 : List (Nat × Plan) := [(6, .pure 0 <| .pure 1 <| .pure 4 <| .pure 7 <| .pure 8 <| .pure 9 <| .load 2 [14, 13, 3] <| .pure 3 <| .load 5 [14, 13, 12, 6] <| .pure 6 <| .load 10 [14, 13, 12, 11] <| .pure 11 <| .pure 12 <| .pure 13 <| .eff 14 (.done) (.nil))]
/-- (*remontoire/cost.reckoner).add -/
def P30 : List (Nat × Plan) := []
/-- (*remontoire/cost.reckoner).all -/
def P31 : List (Nat × Plan) := []
/-- (*remontoire/cost.reckoner).ended -/
def P33 : List (Nat × Plan) := []
/-- (*remontoire/cost.reckoner).eval -/
def P32 : List (Nat × Plan) := [(1, .pure 1 <| .pure 2 <| .pure 3 <| .load 0 [10, 9, 8, 7, 6, 5] <| .load 4 [10, 9, 8, 7, 6, 5] <| .eff 5 (.pure 6 <| .pure 7 <| .pure 8 <| .pure 9 <| .pure 10 <| .done) (.nil))]
/-- remontoire/term.Eval -/
def P45 : List (Nat × Plan) := [(5, .pure 0 <| .pure 2 <| .pure 4 <| .pure 7 <| .load 3 [9, 8, 6, 5] <| .eff 1 (.eff 5 (.pure 6 <| .pure 8 <| .pure 9 <| .done) (.nil)) (.nil))]
/-- remontoire/term.leaf -/
def P62 : List (Nat × Plan) := []
/-- remontoire/term.truth -/
def P63 : List (Nat × Plan) := []
/-- remontoire/term.one -/
def P64 : List (Nat × Plan) := []
/-- remontoire/term.two -/
def P65 : List (Nat × Plan) := []
/-- remontoire/term.logic -/
def P77 : List (Nat × Plan) := []
/-- math/bits.RotateLeft32 -/
def P79 : List (Nat × Plan) := []
/-- (*remontoire/cost.reckoner).rounds -/
def P34 : List (Nat × Plan) := [(4, .pure 0 <| .pure 1 <| .pure 2 <| .pure 4 <| .load 3 [8, 7, 6] <| .load 5 [8, 7, 6] <| .pure 6 <| .load 7 [8] <| .pure 8 <| .done), (8, .pure 0 <| .pure 1 <| .pure 2 <| .pure 4 <| .pure 6 <| .load 3 [8, 7] <| .load 5 [8, 7] <| .pure 7 <| .eff 8 (.done) (.nil)), (10, .pure 0 <| .pure 1 <| .pure 2 <| .pure 4 <| .pure 6 <| .load 3 [8, 7] <| .load 5 [8, 7] <| .pure 7 <| .eff 8 (.done) (.nil))]
/-- (*remontoire/cost.reckoner).stop -/
def P35 : List (Nat × Plan) := [(1, .pure 0 <| .pure 2 <| .pure 3 <| .pure 4 <| .load 1 [11, 10, 9, 8, 7, 6] <| .load 5 [11, 10, 9, 8, 7, 6] <| .eff 6 (.pure 7 <| .pure 8 <| .pure 9 <| .pure 10 <| .pure 11 <| .done) (.nil))]
/-- (*remontoire/cost.reckoner).divide -/
def P36 : List (Nat × Plan) := []
/-- remontoire/clock.Div -/
def P46 : List (Nat × Plan) := []
/-- remontoire/alu.Len -/
def P66 : List (Nat × Plan) := []
/-- math/bits.Len32 -/
def P57 : List (Nat × Plan) := []
/-- remontoire/remontoirelaw21.made -/
def P6 : List (Nat × Plan) := []
/-- remontoire/remontoirelaw21.built -/
def P13 : List (Nat × Plan) := [(5, .pure 0 <| .pure 2 <| .pure 4 <| .pure 6 <| .pure 8 <| .pure 10 <| .pure 13 <| .load 1 [18, 16] <| .load 3 [18, 16] <| .load 5 [18, 16] <| .load 7 [18, 16] <| .load 9 [18, 16] <| .load 11 [18, 16, 15, 12] <| .load 14 [18, 16, 15] <| .eff 12 (.eff 15 (.pure 16 <| .eff 17 (.eff 18 (.done) (.nil)) (.nil)) (.cons 17 (.eff 15 (.pure 16 <| .eff 18 (.done) (.nil)) (.nil)) (.nil))) (.cons 17 (.eff 12 (.eff 15 (.pure 16 <| .eff 18 (.done) (.nil)) (.nil)) (.nil)) (.nil))), (8, .pure 0 <| .pure 2 <| .pure 3 <| .pure 4 <| .pure 5 <| .load 1 [10, 9, 8] <| .eff 6 (.eff 7 (.eff 8 (.pure 9 <| .eff 10 (.done) (.nil)) (.nil)) (.nil)) (.nil))]
/-- remontoire/remontoirelaw21.termOf -/
def P23 : List (Nat × Plan) := [(8, .pure 0 <| .pure 2 <| .pure 6 <| .load 1 [11, 10] <| .load 3 [11, 10, 9, 5, 4] <| .pure 4 <| .pure 5 <| .load 7 [11, 10, 9, 8] <| .eff 8 (.eff 9 (.pure 10 <| .eff 11 (.done) (.nil)) (.nil)) (.nil))]
/-- (remontoire/cost.Cost).Right -/
def P7 : List (Nat × Plan) := []
/-- remontoire/cost.Nodes -/
def P14 : List (Nat × Plan) := [(1, .pure 0 <| .pure 4 <| .load 1 [8, 7, 6, 3, 2] <| .load 5 [8, 7, 6] <| .eff 2 (.pure 3 <| .eff 6 (.pure 7 <| .pure 8 <| .done) (.nil)) (.nil))]
/-- remontoire/cost.size -/
def P24 : List (Nat × Plan) := []
/-- remontoire/term.Count -/
def P41 : List (Nat × Plan) := []
/-- remontoire/cost.shaped -/
def P15 : List (Nat × Plan) := []
/-- remontoire/cost.within -/
def P25 : List (Nat × Plan) := []
/-- remontoire/cost.termed -/
def P26 : List (Nat × Plan) := []
/-- (remontoire/term.Term).Right -/
def P42 : List (Nat × Plan) := []
/-- remontoire/term.shaped -/
def P59 : List (Nat × Plan) := [(1, .pure 0 <| .load 1 [36, 35, 34, 33, 32, 31, 30, 29, 28, 27, 26, 25, 24, 23, 22, 21, 20, 19, 18, 17, 16, 15, 14, 13, 12, 11, 10, 9, 8, 7, 6, 5, 4, 3, 2] <| .pure 2 <| .pure 3 <| .pure 4 <| .load 5 [36, 35, 34, 33, 32, 31, 30, 29, 28, 27, 26, 25, 24, 23, 22, 21, 20, 19, 18, 17, 16, 15, 14, 13, 12, 11, 10, 9, 8, 7, 6] <| .pure 6 <| .pure 7 <| .pure 8 <| .pure 9 <| .pure 12 <| .load 10 [36, 35, 34, 33, 32, 31, 30, 29, 28, 27, 26, 25, 24, 23, 22, 21, 20, 19, 18, 17, 16, 15, 11] <| .pure 11 <| .load 13 [36, 35, 34, 33, 32, 31, 30, 29, 28, 27, 26, 25, 24, 23, 22, 21, 20, 19, 18, 17, 16, 15, 14] <| .eff 14 (.pure 15 <| .pure 16 <| .pure 17 <| .pure 18 <| .load 19 [36, 35, 34, 33, 32, 31, 30, 29, 28, 27, 26, 25, 24, 23, 22, 21, 20] <| .pure 20 <| .pure 21 <| .pure 22 <| .load 23 [36, 35, 34, 33, 32, 31, 30, 29, 28, 27, 26, 25, 24] <| .pure 24 <| .pure 25 <| .pure 26 <| .pure 27 <| .pure 28 <| .load 29 [36, 35, 34, 33, 32, 31, 30] <| .pure 30 <| .pure 31 <| .pure 32 <| .load 33 [36, 35, 34] <| .pure 34 <| .pure 35 <| .pure 36 <| .done) (.nil))]
/-- remontoire/term.needs -/
def P74 : List (Nat × Plan) := []
/-- slices.ContainsFunc[[]remontoire/term.Term,remontoire/term.Term] -/
def P60 : List (Nat × Plan) := []
/-- slices.IndexFunc[[]remontoire/term.Term,remontoire/term.Term] -/
def P76 : List (Nat × Plan) := []
/-- remontoire/term.shaped$1 -/
def P75 : List (Nat × Plan) := []
/-- remontoire/cost.low -/
def P43 : List (Nat × Plan) := []
/-- remontoire/cost.low$1 -/
def P61 : List (Nat × Plan) := []
/-- slices.ContainsFunc[[]remontoire/cost.Cost,remontoire/cost.Cost] -/
def P27 : List (Nat × Plan) := []
/-- slices.IndexFunc[[]remontoire/cost.Cost,remontoire/cost.Cost] -/
def P29 : List (Nat × Plan) := []
/-- remontoire/cost.shaped$1 -/
def P28 : List (Nat × Plan) := []
/-- remontoire/cost.Join -/
def P8 : List (Nat × Plan) := [(7, .pure 0 <| .pure 1 <| .pure 2 <| .pure 3 <| .pure 4 <| .pure 5 <| .pure 6 <| .pure 7 <| .pure 9 <| .pure 12 <| .pure 13 <| .pure 14 <| .pure 15 <| .pure 16 <| .pure 18 <| .load 8 [23, 22, 21, 11] <| .load 10 [23, 22, 21, 11] <| .pure 11 <| .load 17 [23, 22, 21, 20] <| .load 19 [23, 22, 21, 20] <| .pure 20 <| .eff 21 (.pure 22 <| .eff 23 (.done) (.nil)) (.nil))]
/-- remontoire/cost.spread -/
def P16 : List (Nat × Plan) := []
/-- slices.DeleteFunc[[]remontoire/cost.Cost,remontoire/cost.Cost] -/
def P17 : List (Nat × Plan) := []
/-- remontoire/cost.Join$1 -/
def P18 : List (Nat × Plan) := []
/-- remontoire/remontoirelaw21.CostWords -/
def P4 : List (Nat × Plan) := []
/-- remontoire/cost.Words -/
def P10 : List (Nat × Plan) := []
/-- remontoire/cost.gather -/
def P20 : List (Nat × Plan) := [(4, .pure 0 <| .pure 2 <| .load 3 [6, 5, 4] <| .eff 1 (.eff 4 (.eff 5 (.pure 6 <| .done) (.nil)) (.nil)) (.alt 4 (.eff 1 (.eff 5 (.pure 6 <| .done) (.nil)) (.nil)) (.nil)))]
/-- remontoire/cost.named -/
def P37 : List (Nat × Plan) := [(2, .pure 0 <| .pure 1 <| .pure 2 <| .pure 4 <| .load 3 [10, 9, 8] <| .load 5 [10, 9, 8, 7, 6] <| .pure 6 <| .eff 7 (.eff 8 (.pure 9 <| .eff 10 (.done) (.nil)) (.nil)) (.nil))]
/-- slices.Contains[[]int,int] -/
def P47 : List (Nat × Plan) := []
/-- slices.Index[[]int,int] -/
def P67 : List (Nat × Plan) := []
/-- slices.Clone[[]int,int] -/
def P38 : List (Nat × Plan) := []
/-- slices.Sort[[]int,int] -/
def P21 : List (Nat × Plan) := []
/-- math/bits.Len -/
def P40 : List (Nat × Plan) := []
/-- math/bits.Len64 -/
def P58 : List (Nat × Plan) := []
/-- slices.pdqsortOrdered[int] -/
def P39 : List (Nat × Plan) := [(17, .pure 0 <| .pure 1 <| .pure 2 <| .pure 3 <| .pure 4 <| .pure 5 <| .pure 6 <| .pure 8 <| .pure 9 <| .pure 10 <| .load 7 [14, 13, 12] <| .load 11 [14, 13, 12] <| .eff 12 (.pure 13 <| .pure 14 <| .done) (.nil))]
/-- slices.insertionSortOrdered[int] -/
def P48 : List (Nat × Plan) := [(4, .pure 0 <| .pure 1 <| .pure 2 <| .pure 3 <| .pure 4 <| .pure 5 <| .pure 6 <| .pure 8 <| .pure 9 <| .pure 10 <| .pure 11 <| .load 7 [14, 13] <| .load 12 [14, 13] <| .eff 13 (.pure 14 <| .done) (.nil)), (6, .pure 0 <| .pure 1 <| .pure 2 <| .pure 3 <| .pure 4 <| .pure 5 <| .pure 6 <| .pure 7 <| .pure 8 <| .pure 10 <| .pure 11 <| .pure 12 <| .load 9 [17, 16, 15, 14] <| .load 13 [17, 16, 15, 14] <| .pure 14 <| .eff 15 (.pure 16 <| .eff 17 (.done) (.nil)) (.nil))]
/-- cmp.Less[int] -/
def P54 : List (Nat × Plan) := []
/-- cmp.isNaN[int] -/
def P73 : List (Nat × Plan) := []
/-- slices.heapSortOrdered[int] -/
def P49 : List (Nat × Plan) := [(10, .pure 0 <| .pure 1 <| .pure 2 <| .pure 3 <| .pure 4 <| .pure 5 <| .pure 6 <| .pure 7 <| .pure 8 <| .pure 9 <| .pure 10 <| .pure 12 <| .pure 13 <| .pure 14 <| .load 11 [19, 18, 17, 16] <| .load 15 [19, 18, 17, 16] <| .pure 16 <| .eff 17 (.pure 18 <| .eff 19 (.done) (.nil)) (.nil))]
/-- slices.siftDownOrdered[int] -/
def P68 : List (Nat × Plan) := [(3, .pure 0 <| .pure 1 <| .pure 2 <| .pure 3 <| .pure 4 <| .pure 5 <| .pure 6 <| .pure 7 <| .pure 8 <| .pure 9 <| .pure 11 <| .pure 12 <| .pure 13 <| .pure 14 <| .pure 15 <| .pure 16 <| .load 10 [19, 18] <| .load 17 [19, 18] <| .eff 18 (.pure 19 <| .done) (.nil)), (5, .pure 0 <| .pure 1 <| .pure 2 <| .pure 3 <| .pure 4 <| .pure 6 <| .pure 7 <| .pure 8 <| .pure 9 <| .pure 10 <| .load 5 [13, 12] <| .load 11 [13, 12] <| .eff 12 (.pure 13 <| .done) (.nil)), (6, .pure 0 <| .pure 1 <| .pure 2 <| .pure 3 <| .pure 4 <| .pure 5 <| .pure 6 <| .pure 7 <| .pure 8 <| .pure 9 <| .pure 10 <| .pure 11 <| .pure 12 <| .pure 14 <| .pure 15 <| .pure 16 <| .pure 17 <| .pure 18 <| .load 13 [23, 22, 21, 20] <| .load 19 [23, 22, 21, 20] <| .pure 20 <| .eff 21 (.pure 22 <| .eff 23 (.done) (.nil)) (.nil))]
/-- slices.breakPatternsOrdered[int] -/
def P50 : List (Nat × Plan) := [(10, .pure 0 <| .pure 1 <| .pure 2 <| .pure 3 <| .pure 4 <| .pure 5 <| .pure 6 <| .pure 7 <| .pure 8 <| .pure 9 <| .pure 10 <| .pure 12 <| .pure 13 <| .pure 14 <| .load 11 [19, 18, 17, 16] <| .load 15 [19, 18, 17, 16] <| .pure 16 <| .eff 17 (.pure 18 <| .eff 19 (.done) (.nil)) (.nil))]
/-- slices.nextPowerOfTwo -/
def P69 : List (Nat × Plan) := []
/-- (*slices.xorshift).Next -/
def P70 : List (Nat × Plan) := [(1, .pure 0 <| .pure 1 <| .pure 3 <| .pure 4 <| .load 2 [9, 8, 7] <| .load 5 [9, 8, 7, 6] <| .pure 6 <| .pure 7 <| .pure 8 <| .eff 9 (.done) (.nil)), (2, .pure 0 <| .pure 1 <| .pure 3 <| .pure 4 <| .load 2 [9, 8, 7] <| .load 5 [9, 8, 7, 6] <| .pure 6 <| .pure 7 <| .pure 8 <| .eff 9 (.done) (.nil)), (3, .pure 0 <| .pure 1 <| .pure 3 <| .pure 4 <| .load 2 [9, 8, 7] <| .load 5 [9, 8, 7, 6] <| .pure 6 <| .pure 7 <| .pure 8 <| .eff 9 (.done) (.nil))]
/-- slices.choosePivotOrdered[int] -/
def P51 : List (Nat × Plan) := []
/-- slices.medianAdjacentOrdered[int] -/
def P71 : List (Nat × Plan) := []
/-- slices.medianOrdered[int] -/
def P72 : List (Nat × Plan) := []
/-- slices.order2Ordered[int] -/
def P78 : List (Nat × Plan) := [(1, .pure 0 <| .pure 1 <| .pure 2 <| .pure 4 <| .pure 5 <| .pure 6 <| .load 3 [8] <| .load 7 [8] <| .eff 8 (.done) (.nil))]
/-- slices.reverseRangeOrdered[int] -/
def P52 : List (Nat × Plan) := [(3, .pure 0 <| .pure 1 <| .pure 2 <| .pure 3 <| .pure 4 <| .pure 5 <| .pure 6 <| .pure 8 <| .pure 9 <| .pure 10 <| .load 7 [15, 14, 13, 12] <| .load 11 [15, 14, 13, 12] <| .pure 12 <| .eff 13 (.pure 14 <| .eff 15 (.done) (.nil)) (.nil))]
/-- slices.partialInsertionSortOrdered[int] -/
def P53 : List (Nat × Plan) := [(5, .pure 0 <| .pure 1 <| .pure 2 <| .pure 3 <| .pure 4 <| .pure 5 <| .pure 6 <| .pure 8 <| .pure 9 <| .pure 10 <| .pure 11 <| .load 7 [15, 14, 13] <| .load 12 [15, 14, 13] <| .eff 13 (.pure 14 <| .pure 15 <| .done) (.nil)), (11, .pure 0 <| .pure 1 <| .pure 2 <| .pure 3 <| .pure 4 <| .pure 5 <| .pure 6 <| .pure 7 <| .pure 8 <| .pure 10 <| .pure 11 <| .pure 12 <| .load 9 [17, 16, 15, 14] <| .load 13 [17, 16, 15, 14] <| .pure 14 <| .eff 15 (.pure 16 <| .eff 17 (.done) (.nil)) (.nil)), (16, .pure 0 <| .pure 1 <| .pure 2 <| .pure 4 <| .pure 5 <| .pure 6 <| .pure 7 <| .load 3 [10, 9] <| .load 8 [10, 9] <| .eff 9 (.pure 10 <| .done) (.nil)), (17, .pure 0 <| .pure 1 <| .pure 2 <| .pure 3 <| .pure 4 <| .pure 5 <| .pure 6 <| .pure 7 <| .pure 8 <| .pure 10 <| .pure 11 <| .pure 12 <| .load 9 [17, 16, 15, 14] <| .load 13 [17, 16, 15, 14] <| .pure 14 <| .eff 15 (.pure 16 <| .eff 17 (.done) (.nil)) (.nil)), (22, .pure 0 <| .pure 1 <| .pure 2 <| .pure 4 <| .pure 5 <| .pure 6 <| .pure 7 <| .load 3 [10, 9] <| .load 8 [10, 9] <| .eff 9 (.pure 10 <| .done) (.nil)), (23, .pure 0 <| .pure 1 <| .pure 2 <| .pure 3 <| .pure 4 <| .pure 5 <| .pure 6 <| .pure 7 <| .pure 8 <| .pure 10 <| .pure 11 <| .pure 12 <| .load 9 [17, 16, 15, 14] <| .load 13 [17, 16, 15, 14] <| .pure 14 <| .eff 15 (.pure 16 <| .eff 17 (.done) (.nil)) (.nil))]
/-- slices.partitionEqualOrdered[int] -/
def P55 : List (Nat × Plan) := [(1, .pure 0 <| .pure 1 <| .pure 2 <| .pure 3 <| .pure 4 <| .pure 5 <| .pure 6 <| .pure 8 <| .pure 9 <| .pure 10 <| .load 7 [15, 14, 13, 12] <| .load 11 [15, 14, 13, 12] <| .pure 12 <| .eff 13 (.pure 14 <| .eff 15 (.done) (.nil)) (.nil)), (3, .pure 0 <| .pure 1 <| .pure 2 <| .pure 3 <| .pure 4 <| .pure 5 <| .pure 6 <| .pure 8 <| .pure 9 <| .pure 10 <| .load 7 [14, 13, 12] <| .load 11 [14, 13, 12] <| .eff 12 (.pure 13 <| .pure 14 <| .done) (.nil)), (5, .pure 0 <| .pure 1 <| .pure 2 <| .pure 3 <| .pure 4 <| .pure 5 <| .pure 6 <| .pure 8 <| .pure 9 <| .pure 10 <| .load 7 [13, 12] <| .load 11 [13, 12] <| .eff 12 (.pure 13 <| .done) (.nil)), (8, .pure 0 <| .pure 1 <| .pure 2 <| .pure 3 <| .pure 4 <| .pure 5 <| .pure 6 <| .pure 8 <| .pure 9 <| .pure 10 <| .load 7 [15, 14, 13, 12] <| .load 11 [15, 14, 13, 12] <| .pure 12 <| .eff 13 (.pure 14 <| .eff 15 (.done) (.nil)) (.nil))]
/-- slices.partitionOrdered[int] -/
def P56 : List (Nat × Plan) := [(1, .pure 0 <| .pure 1 <| .pure 2 <| .pure 3 <| .pure 4 <| .pure 5 <| .pure 6 <| .pure 8 <| .pure 9 <| .pure 10 <| .load 7 [15, 14, 13, 12] <| .load 11 [15, 14, 13, 12] <| .pure 12 <| .eff 13 (.pure 14 <| .eff 15 (.done) (.nil)) (.nil)), (3, .pure 0 <| .pure 1 <| .pure 2 <| .pure 3 <| .pure 4 <| .pure 5 <| .pure 6 <| .pure 8 <| .pure 9 <| .pure 10 <| .load 7 [13, 12] <| .load 11 [13, 12] <| .eff 12 (.pure 13 <| .done) (.nil)), (5, .pure 0 <| .pure 1 <| .pure 2 <| .pure 3 <| .pure 4 <| .pure 5 <| .pure 6 <| .pure 8 <| .pure 9 <| .pure 10 <| .load 7 [14, 13, 12] <| .load 11 [14, 13, 12] <| .eff 12 (.pure 13 <| .pure 14 <| .done) (.nil)), (8, .pure 0 <| .pure 1 <| .pure 2 <| .pure 3 <| .pure 4 <| .pure 5 <| .pure 6 <| .pure 8 <| .pure 9 <| .pure 10 <| .load 7 [15, 14, 13, 12] <| .load 11 [15, 14, 13, 12] <| .pure 12 <| .eff 13 (.pure 14 <| .eff 15 (.done) (.nil)) (.nil)), (10, .pure 0 <| .pure 1 <| .pure 2 <| .pure 3 <| .pure 4 <| .pure 5 <| .pure 6 <| .pure 8 <| .pure 9 <| .pure 10 <| .load 7 [15, 14, 13, 12] <| .load 11 [15, 14, 13, 12] <| .pure 12 <| .eff 13 (.pure 14 <| .eff 15 (.done) (.nil)) (.nil)), (13, .pure 0 <| .pure 1 <| .pure 2 <| .pure 3 <| .pure 4 <| .pure 5 <| .pure 6 <| .pure 8 <| .pure 9 <| .pure 10 <| .load 7 [13, 12] <| .load 11 [13, 12] <| .eff 12 (.pure 13 <| .done) (.nil)), (15, .pure 0 <| .pure 1 <| .pure 2 <| .pure 3 <| .pure 4 <| .pure 5 <| .pure 6 <| .pure 8 <| .pure 9 <| .pure 10 <| .load 7 [14, 13, 12] <| .load 11 [14, 13, 12] <| .eff 12 (.pure 13 <| .pure 14 <| .done) (.nil)), (18, .pure 0 <| .pure 1 <| .pure 2 <| .pure 3 <| .pure 4 <| .pure 5 <| .pure 6 <| .pure 8 <| .pure 9 <| .pure 10 <| .load 7 [15, 14, 13, 12] <| .load 11 [15, 14, 13, 12] <| .pure 12 <| .eff 13 (.pure 14 <| .eff 15 (.done) (.nil)) (.nil)), (21, .pure 0 <| .pure 1 <| .pure 2 <| .pure 3 <| .pure 4 <| .pure 5 <| .pure 6 <| .pure 8 <| .pure 9 <| .pure 10 <| .load 7 [15, 14, 13, 12] <| .load 11 [15, 14, 13, 12] <| .pure 12 <| .eff 13 (.pure 14 <| .eff 15 (.done) (.nil)) (.nil))]
/-- slices.Compact[[]int,int] -/
def P22 : List (Nat × Plan) := [(6, .pure 0 <| .pure 1 <| .pure 2 <| .pure 4 <| .pure 5 <| .pure 6 <| .pure 7 <| .load 3 [9] <| .load 8 [9] <| .pure 9 <| .done), (11, .pure 0 <| .pure 1 <| .pure 2 <| .pure 4 <| .pure 5 <| .pure 6 <| .pure 7 <| .load 3 [9] <| .load 8 [9] <| .pure 9 <| .done)]

end Go.Proofs.YtfnjlkmhnhojpaaDoor.Pw

/- Calls that are given slices of the caller's own blocks. -/
namespace Go.Proofs.YtfnjlkmhnhojpaaDoor.Pw
open Go Go.RowKit

/-- a block's elements -/
def elB (b : PBlk) (n : Nat) (es : List PV) : Prop := match b with
  | ⟨k, _, m, md, live, cs⟩ => bif live && notP md && Nat.beq m n then (match k with
    | .dyn => cs = es
    | .arr => elemsOf true m (.stat cs) = some es ∨ (m = 1 ∧ elemsOf false m (.stat cs) = some es)
    | .loc => False) else False
/-- what a value says is said by another one; a slice of a block of fz as a slice that doesn't change -/
def leB1 (S : List PBlk) (fz : List Nat) (x y : PV) : Prop := match x, y with
  | .wref l, .sl n es => bif inL l fz then need S[l]? fun b => elB b n es else False
  | x, y => le1 x y
def leB (S : List PBlk) (fz : List Nat) (x y : PV) : Prop := match x, y with
  | .wref l, .sl n es => bif inL l fz then need S[l]? fun b => elB b n es else False
  | .agg cs, .agg ds => leL (leB1 S fz) cs ds
  | x, y => leK x y
def okZ (S : List PBlk) (fz : List Nat) : Bool := fz.all fun l => match S[l]? with
  | some b => b.live && notP b.m
  | none => false
def frzM (b : Bool) (m : Md) : Md := bif b then .r else m
def frzS (fz : List Nat) (S : List PBlk) : List PBlk := mapM frzM fz 0 S
def PV.flat1 : PV → Bool
  | .lit .. | .int .. | .tt | .ff | .bool _ | .val _ | .nil => true
  | _ => false
def PV.flatA : PV → Bool
  | .agg cs => cs.all PV.flat1
  | x => x.flat1
def PV.flatP : PV → Bool
  | .tup cs => cs.all PV.flatA
  | x => x.flatA

section
variable {w w' : World} {I I' : Nat → Prop} {β β' : Places} {G : Gx} {S : List PBlk}
theorem flat1_ok {x : PV} {v : Value} (hf : x.flat1 = true) (h : x.Is w I β v) : x.Is w' I' β' v := by
  cases x <;> first | (cases hf; done) | (simp only [PV.Is] at h ⊢; exact h)
theorem flatL_ok {r : PV → Bool} (hr : ∀ x v, r x = true → x.Is w I β v → x.Is w' I' β' v) : ∀ {cs : List PV} {vs : List Value}, cs.all r = true → IsL w I cs β vs → IsL w' I' cs β' vs
  | [], [], _, _ => by simp only [IsL]
  | c :: cs, v :: vs, hf, h => by
    simp only [List.all_cons, Bool.and_eq_true] at hf
    simp only [IsL] at h ⊢
    exact ⟨hr c v hf.1 h.1, flatL_ok hr hf.2 h.2⟩
  | [], _ :: _, _, h => by simp only [IsL] at h
  | _ :: _, [], _, h => by simp only [IsL] at h
theorem flatA_ok {x : PV} {v : Value} (hf : x.flatA = true) (h : x.Is w I β v) : x.Is w' I' β' v := by
  unfold PV.flatA at hf
  split at hf
  · simp only [PV.Is] at h ⊢
    obtain ⟨vs, rfl, h⟩ := h
    exact ⟨vs, rfl, flatL_ok (fun x v => flat1_ok) hf h⟩
  · exact flat1_ok hf h
theorem flatP_ok {x : PV} {v : Value} (hf : x.flatP = true) (h : x.Is w I β v) : x.Is w' I' β' v := by
  unfold PV.flatP at hf
  split at hf
  · simp only [PV.Is] at h ⊢
    obtain ⟨vs, rfl, h⟩ := h
    exact ⟨vs, rfl, flatL_ok (fun x v => flatA_ok) hf h⟩
  · exact flatA_ok hf h

/-- what is not changed while a call is under way -/
def LentI (I : Nat → Prop) (β : Places) (S : List PBlk) (fz : List Nat) (g : Nat) : Prop := I g ∨ ∃ l b p o, l ∈ fz ∧ S[l]? = some b ∧ b.live = true ∧ notP b.m = true ∧ β l = some p ∧ p.a = some (g, o)
theorem okZ_ok {fz : List Nat} (h : okZ S fz = true) {l : Nat} (hl : l ∈ fz) : ∃ b, S[l]? = some b ∧ b.live = true ∧ notP b.m = true := by
  have := List.all_eq_true.1 h l hl
  split at this
  · rename_i b hb
    simp only [Bool.and_eq_true] at this
    exact ⟨b, hb, this⟩
  · cases this
theorem lent_sl {fz : List Nat} (hH : HeapOk I β S w) {l : Nat} {b : PBlk} {n : Nat} {es : List PV} (hl : l ∈ fz) (hb : S[l]? = some b) (h : elB b n es) {v : Value} (hx : (PV.wref l).Is w I β v) : (PV.sl n es).Is w (LentI I β S fz) no v := by
  obtain ⟨k, ty, m, md, live, cs⟩ := b
  unfold elB at h
  replace h := bif_ok h
  obtain ⟨hc, h⟩ := h
  simp only [Bool.and_eq_true] at hc
  obtain ⟨⟨hlive, hm⟩, hn⟩ := hc
  obtain rfl := Nat.eq_of_beq_eq_true hn
  simp only [PV.Is] at hx ⊢
  obtain ⟨p, hp, rfl⟩ := hx
  have hI : ∀ g, I g → LentI I β S fz g := fun g h => .inl h
  have hgI : ∀ {g o : Nat}, p.a = some (g, o) → LentI I β S fz g := fun {g o} ha => .inr ⟨l, _, p, o, hl, hb, hlive, hm, hp, ha⟩
  cases k with
  | dyn =>
    obtain ⟨hn0, hlen, hle, hmx, hor⟩ := whole_dyn hH hb hlive rfl hp
    subst h
    rcases hor with ⟨ha, hc0, hw⟩ | ⟨g, arr, fr, ha, hw, hhg, hes, hown, has⟩
    · have h0 : cs = [] := List.eq_nil_of_length_eq_zero (by simp only at hlen; omega)
      subst h0
      exact ⟨none, 0, by rw [hw]; rfl, Nat.le_refl _, Nat.zero_le _, (fun _ _ e => by cases e), fun hn => absurd rfl hn⟩
    · simp only at hlen
      exact ⟨some ⟨g, 0, none⟩, p.cap, by rw [hw, hlen], by omega, by omega, (fun g' o' e => by cases e; exact IsEs.mono hI (fun _ _ => rfl) _ _ _ _ rfl hes), fun _ => ⟨g, 0, rfl, hgI ha, hn0⟩⟩
  | arr =>
    obtain ⟨g, arr, fr, ha, hw, hhg, hca, hown, hlen, hle, hmx, has, hn0⟩ := whole_arr hH hb hlive rfl hp
    simp only at hlen has hn0 hca
    have hsz : p.len * m ≤ arr.size := by rw [has]; exact Nat.mul_le_mul_right _ hle
    have hxl : (arr.toList.take (p.len * m)).length = p.len * m := by rw [List.length_take, Array.length_toList]; omega
    have hsrc : SrcIs w I β m (.stat cs) (arr.toList.take (p.len * m)) := by
      refine ⟨by rw [hxl, hlen], fun j c hj => ?_⟩
      obtain ⟨u, hu, hi, h1⟩ := hca j c hj
      have hj' : j < p.len * m := by rw [← hlen]; exact (List.getElem?_eq_some_iff.1 hj).1
      exact ⟨u, by rw [List.getElem?_take, if_pos hj']; simpa using hu, hi, h1⟩
    have key : es.length = p.len ∧ RowIs w I es m (arr.toList.take (p.len * m)) := by
      rcases h with h | ⟨h1, h⟩
      · exact elemsOf_ok hn0 (.inl rfl) h hsrc hxl
      · exact elemsOf_ok hn0 (.inr h1) h hsrc hxl
    obtain ⟨e1, e2⟩ := key
    have hEs : IsEs w I es m g 0 := e2.at (fun j v hj => by
      have := take_at hhg 0 (p.len * m) j v (by simpa using hj)
      simpa using this) (fun _ h => h) (fun _ _ => rfl)
    exact ⟨some ⟨g, 0, none⟩, p.cap, by rw [hw, e1], by omega, by omega, fun g' o' e => by cases e; exact IsEs.mono hI (fun _ _ => rfl) _ _ _ _ rfl hEs, fun _ => ⟨g, 0, rfl, hgI ha, hn0⟩⟩
  | loc => exact h.elim
theorem lent_1 {fz : List Nat} (hH : HeapOk I β S w) {x y : PV} {v : Value} (h1 : leB1 S fz x y) (hu : y.uses = []) (hx : x.Is w I β v) : y.Is w (LentI I β S fz) no v := by
  unfold leB1 at h1
  split at h1
  · replace h1 := bif_ok h1
    obtain ⟨hl, h1⟩ := h1
    replace h1 := need_ok h1
    obtain ⟨b, hb, h1⟩ := h1
    exact lent_sl hH (inL_iff.1 hl) hb h1 hx
  · exact PV.Is.mono (fun _ h => .inl h) (fun _ _ => rfl) y β no v (fun l p hl => by rw [hu] at hl; cases hl) (le1_ok h1 w I β v hx)
theorem lent_l1 {fz : List Nat} (hH : HeapOk I β S w) : ∀ {args args' : List PV} {vals : List Value}, leL (leB1 S fz) args args' → usesL args' = [] → IsL w I args β vals → IsL w (LentI I β S fz) args' no vals
  | [], [], [], _, _, _ => by simp only [IsL]
  | x :: xs, y :: ys, v :: vs, h, hu, hx => by
    simp only [IsL] at hx ⊢
    have hu' : y.uses = [] ∧ usesL ys = [] := by simpa [usesL] using hu
    exact ⟨lent_1 hH h.1 hu'.1 hx.1, lent_l1 hH h.2 hu'.2 hx.2⟩
  | [], _ :: _, _, h, _, _ => h.elim
  | _ :: _, [], _, h, _, _ => h.elim
  | [], [], _ :: _, _, _, hx => by simp only [IsL] at hx
  | _ :: _, _ :: _, [], _, _, hx => by simp only [IsL] at hx
theorem lent_args {fz : List Nat} (hH : HeapOk I β S w) : ∀ {args args' : List PV} {vals : List Value}, leL (leB S fz) args args' → usesL args' = [] → IsL w I args β vals → IsL w (LentI I β S fz) args' no vals
  | [], [], [], _, _, _ => by simp only [IsL]
  | x :: xs, y :: ys, v :: vs, h, hu, hx => by
    simp only [IsL] at hx ⊢
    have hu' : y.uses = [] ∧ usesL ys = [] := by simpa [usesL] using hu
    refine ⟨?_, lent_args hH h.2 hu'.2 hx.2⟩
    have h1 := h.1
    unfold leB at h1
    split at h1
    · obtain ⟨hl, h1⟩ := bif_ok h1
      obtain ⟨b, hb, h1⟩ := need_ok h1
      exact lent_sl hH (inL_iff.1 hl) hb h1 hx.1
    · have hx1 := hx.1
      simp only [PV.Is] at hx1 ⊢
      obtain ⟨vs', rfl, hx1⟩ := hx1
      exact ⟨vs', rfl, lent_l1 hH h1 (by simpa [PV.uses] using hu'.1) hx1⟩
    · exact PV.Is.mono (fun _ h => .inl h) (fun _ _ => rfl) y β no v (fun l p hl => by rw [hu'.1] at hl; cases hl) (leK_ok h1 w I β v hx.1)
  | [], _ :: _, _, h, _, _ => h.elim
  | _ :: _, [], _, h, _, _ => h.elim
  | [], [], _ :: _, _, _, hx => by simp only [IsL] at hx
  | _ :: _, _ :: _, [], _, _, hx => by simp only [IsL] at hx
theorem lent_lt {fz : List Nat} (hH : HeapOk I β S w) (hM : ImmOk G I w) {g : Nat} (h : LentI I β S fz g) : g < w.heap.size := by
  rcases h with h | ⟨l, b, p, o, _, hb, hlive, _, hp, ha⟩
  · exact hM.imm g h
  · exact hH.lives_lt ⟨l, b, p, o, hb, hlive, hp, ha⟩
theorem lent_imm {fz : List Nat} (hH : HeapOk I β S w) (hM : ImmOk G I w) : ImmOk G (LentI I β S fz) w :=
  ⟨fun g hg => lent_lt hH hM hg, fun g cs hg => ⟨.inl (hM.tab g cs hg).1, IsAt.mono (fun _ h => .inl h) (fun _ _ => rfl) _ _ _ rfl (hM.tab g cs hg).2⟩, hM.row⟩
theorem no_wr (g : Nat) : ¬ Wr no ([] : List PBlk) g := fun ⟨l, b, p, o, h1, _⟩ => by simp at h1

/-- blocks that are lent, and may be kept: they are not changed any more -/
theorem PureF.useF {f : FuncId} {args args' : List PV} {r : PV} {K : PV → List PBlk → Prop} (h : PureF G f args' r) (fz : List Nat) (hz : okZ S fz = true) (hle : leL (leB S fz) args args') (hu : usesL args' = []) (hr : r.uses = []) (hK : frB (frzS fz S) (K r)) : Spec G f args S [] K := by
  refine Spec.intro h.run.1 fun I β w vals hH hM hA => ?_
  have h0 : HeapOk (LentI I β S fz) no ([] : List PBlk) w := ⟨fun _ _ => rfl, fun l b hl => by simp at hl⟩
  refine (h.run.2 _ no w vals h0 (lent_imm hH hM) (lent_args hH hle hu hA)).mono fun e w' ⟨v, r', S', I', β', he, hr', hi, _, hM', hE, _, _⟩ => ?_
  subst hr'
  have hold : ∀ g, g < w.heap.size → w'.heap[g]? = w.heap[g]? := fun g hg => hE.block g hg (no_wr g)
  have hI' : ∀ g, g < w.heap.size → I' g → LentI I β S fz g := fun g hg h => (hE.new g hg h).elim id fun h => absurd h (no_wr g)
  have hII : ∀ g, I g → I' g := fun g h => hE.imm g (.inl h)
  have hget : ∀ (l : Nat) (b : PBlk), (frzS fz S)[l]? = some b → ∃ b0, S[l]? = some b0 ∧ b = { b0 with m := frzM (inL l fz) b0.m } := fun l b hb => by
    unfold frzS at hb
    rw [mapM_get, Option.map_eq_some_iff] at hb
    obtain ⟨b0, h1, h2⟩ := hb
    rw [Nat.zero_add] at h2
    exact ⟨b0, h1, h2.symm⟩
  refine ⟨v, r', frzS fz S, I', β, he, frB_ok hK, uses_none hr hi, ⟨fun l hl => hH.far l (by unfold frzS at hl; rw [mapM_len] at hl; exact hl), fun l b hb hlive => ?_⟩, hM', ⟨hE.os, hE.tape, hE.output, hE.size, fun g hg _ => hold g hg, fun g _ h => ?_, hII, fun g hg h => ?_⟩, by unfold frzS; rw [mapM_len]; exact Nat.le_refl _, fun _ _ _ => rfl⟩
  · obtain ⟨b0, hb0, rfl⟩ := hget l b hb
    obtain ⟨p, hp, hk⟩ := hH.blk l b0 hb0 hlive
    have own : ∀ {g o : Nat} {fr : Nat × Nat}, p.a = some (g, o) → g < w.heap.size → Own I β S l g fr b0 → Own I' β (frzS fz S) l g fr { b0 with m := frzM (inL l fz) b0.m } := fun {g o fr} ha hg ho => by
      refine ⟨fun hm => ?_, fun hm => ?_⟩
      · have hm0 : inL l fz = false ∧ b0.m ≠ .r := by
          cases hc : inL l fz with
          | true => simp only [hc, frzM, cond_true, ne_eq, not_true_eq_false] at hm
          | false => exact ⟨rfl, by simpa only [hc, frzM, cond_false] using hm⟩
        obtain ⟨h1, h2, h3⟩ := ho.1 hm0.2
        refine ⟨h1, fun hI => ?_, fun l2 b2 hne hl2 hlive2 p2 g2 o2 hp2 ha2 => ?_⟩
        · rcases hI' g hg hI with hI | ⟨l2, b2, p2, o2, hl2, hb2, hlive2, _, hp2, ha2⟩
          · exact h2 hI
          · refine h3 l2 b2 (fun e => ?_) hb2 hlive2 p2 g o2 hp2 ha2 rfl
            subst e
            rw [inL_iff.2 hl2] at hm0
            cases hm0.1
        · obtain ⟨b3, hb3, rfl⟩ := hget l2 b2 hl2
          exact h3 l2 b3 hne hb3 hlive2 p2 g2 o2 hp2 ha2
      · cases hc : inL l fz with
        | true =>
          obtain ⟨b1, hb1, k1, k2⟩ := okZ_ok hz (inL_iff.1 hc)
          rw [hb0] at hb1; cases hb1
          exact hE.imm g (.inr ⟨l, b0, p, o, inL_iff.1 hc, hb0, k1, k2, hp, ha⟩)
        | false => exact hII g (ho.2 (by simpa only [hc, frzM, cond_false] using hm))
    have hwI : ∀ g, I g → w'.heap[g]? = w.heap[g]? := fun g hg => hold g (hM.imm g hg)
    refine ⟨p, hp, ?_⟩
    split at hk
    · rename_i hkk
      obtain ⟨g, o, arr, ty, fr, h1, h2, h3, ho⟩ := hk
      have hg := lt_of_heap h2
      simp only [hkk]
      exact ⟨g, o, arr, ty, fr, h1, (hold g hg).trans h2, CellsAt.mono hII hwI (fun _ _ h => h) h3, own h1 hg ho⟩
    · rename_i hkk
      obtain ⟨g, arr, fr, h1, h2, h3, ho, h4⟩ := hk
      have hg := lt_of_heap h2
      simp only [hkk]
      exact ⟨g, arr, fr, h1, (hold g hg).trans h2, CellsAt.mono hII hwI (fun _ _ h => h) h3, own h1 hg ho, h4⟩
    · rename_i hkk
      obtain ⟨h1, hk⟩ := hk
      simp only [hkk]
      refine ⟨h1, ?_⟩
      rcases hk with h | ⟨g, arr, fr, h2, h3, h4, ho, h5⟩
      · exact .inl h
      · have hg := lt_of_heap h3
        exact .inr ⟨g, arr, fr, h2, (hold g hg).trans h3, IsEs.mono hII hwI _ _ _ _ (hold g hg) h4, own h2 hg ho, h5⟩
  · obtain ⟨l, b, p, o, h1, h2, h3, h4, h5⟩ := h
    obtain ⟨b0, hb0, rfl⟩ := hget l b h1
    refine ⟨l, b0, p, o, hb0, h2, ?_, h4, h5⟩
    cases hc : inL l fz with
    | true => simp only [hc, frzM, cond_true] at h3; cases h3
    | false => simpa only [hc, frzM, cond_false] using h3
  · rcases hI' g hg h with h | ⟨l, b, p, o, hl, hb, hlive, hm, hp, ha⟩
    · exact .inl h
    · cases hmm : b.m with
      | w => exact .inr ⟨l, b, p, o, hb, hlive, hmm, hp, ha⟩
      | p => rw [hmm] at hm; cases hm
      | r =>
        obtain ⟨arr, ty, fr, _, ho⟩ := (hH.blk l b hb hlive).place hp ha
        exact .inl (ho.2 hmm)
/-- blocks that are lent to what yields numbers -/
theorem PureF.useB {f : FuncId} {args args' : List PV} {r : PV} {K : PV → List PBlk → Prop} (h : PureF G f args' r) (fz : List Nat) (hle : leL (leB S fz) args args') (hu : usesL args' = []) (hr : r.flatP = true) (hK : K r S) : Spec G f args S [] K := by
  refine Spec.intro h.run.1 fun I β w vals hH hM hA => ?_
  have h0 : HeapOk (LentI I β S fz) no ([] : List PBlk) w := ⟨fun _ _ => rfl, fun l b hl => by simp at hl⟩
  refine (h.run.2 _ no w vals h0 (lent_imm hH hM) (lent_args hH hle hu hA)).mono fun e w' ⟨v, r', S', I', β', he, hr', hi, _, hM', hE, _, _⟩ => ?_
  subst hr'
  have hold : ∀ g, g < w.heap.size → w'.heap[g]? = w.heap[g]? := fun g hg => hE.block g hg (no_wr g)
  have hwI : ∀ g, I g → w'.heap[g]? = w.heap[g]? := fun g hg => hold g (hM.imm g hg)
  refine ⟨v, r', S, I, β, he, hK, flatP_ok hr hi, ⟨hH.far, fun l b hb hlive => (hH.blk l b hb hlive).mono (fun _ h => h) hwI (fun _ _ h => h) fun p g o hp ha => ?_⟩, ⟨fun g hg => Nat.lt_of_lt_of_le (hM.imm g hg) hE.size, fun g cs hg => ⟨(hM.tab g cs hg).1, IsAt.mono (fun _ h => h) hwI _ _ _ (hwI g (hM.tab g cs hg).1) (hM.tab g cs hg).2⟩, fun g cs hg => by
      obtain ⟨arr, ty, fr, h1, h2⟩ := hM.row g cs hg
      exact ⟨arr, ty, fr, (hwI g (hM.tab g cs hg).1).trans h1, h2⟩⟩,
    ⟨hE.os, hE.tape, hE.output, hE.size, fun g hg _ => hold g hg, fun g _ h => h, fun _ h => h, fun _ _ h => .inl h⟩, Nat.le_refl _, fun _ _ _ => rfl⟩
  obtain ⟨arr, ty, fr, hh, ho⟩ := (hH.blk l b hb hlive).place hp ha
  exact ⟨hold g (lt_of_heap hh), fun hr => ⟨(ho.1 hr).2.1, (ho.1 hr).2.2⟩⟩
end

end Go.Proofs.YtfnjlkmhnhojpaaDoor.Pw

/- Loops that keep the store. -/
namespace Go.Proofs.YtfnjlkmhnhojpaaDoor.Pw
open Go Go.RowKit

def TM.dropT : TM → TM
  | .nil => .nil
  | .node v l r => .node (match v with
    | some (.tup _) => none
    | v => v) l.dropT r.dropT
/-- the state at a loop's head; tuples are let go -/
def PSt.headS (s : PSt) (c : Code) (vs : List (Nat × PV)) : PSt := match s with
  | ⟨n, t, st, b, rl⟩ => ⟨n, (layF vs (clearF (dsts c) t)).dropT, st, b, rl⟩
/-- a loop whose rounds leave the store as it was, but for new blocks: slots by x -/
theorem SW.loopS {G : Gx} {s : PSt} (hG : GOk G) (R : List (Nat × Plan)) {α : Type} {c : Code} {Q : X → PSt → Prop} (hc : planAll R c = true) (vs : α → List (Nat × PV)) (μ : α → Nat) (x0 : α) (N : Nat) (h0 : subK G.cx (idR 0 s.st) s (s.headS c (vs x0)))
    (h : ∀ x, frS (s.headS c (vs x)) (pw G R N c (backK (fun s' => ∃ y, μ y < μ x ∧ subK G.cx (idR 0 s.st) s' (s.headS c (vs y))) Q))) : SW G (.loop c) Q s :=
  SW.inv hG (fun x => s.headS c (vs x)) μ (N := N) hc x0 (subK_ok hG.ok h0) (fun x s' => ∃ y, μ y < μ x ∧ subK G.cx (idR 0 s.st) s' (s.headS c (vs y))) (fun x s' ⟨y, hy, hs⟩ => ⟨y, hy, subK_ok hG.ok hs⟩) fun x => frS_ok (h x)

/-- .. with other blocks behind the store -/
def PSt.headD (s : PSt) (c : Code) (vs : List (Nat × PV)) (ex : List PBlk) : PSt := match s with
  | ⟨n, t, st, b, rl⟩ => ⟨n, (layF vs (clearF (dsts c) t)).dropT, st ++ ex, b, rl⟩
/-- a loop that leaves the store as it was, but for blocks of its own (ex x, behind the store): π: which block of the state is which of ex -/
theorem SW.loopD {G : Gx} {s : PSt} (hG : GOk G) (R : List (Nat × Plan)) {α : Type} {c : Code} {Q : X → PSt → Prop} (hc : planAll R c = true) (vs : α → List (Nat × PV)) (ex : α → List PBlk) (μ : α → Nat) (x0 : α) (N : Nat) (π0 : Ren) (h0 : subK G.cx (idR 0 s.st ++ π0) s (s.headD c (vs x0) (ex x0)))
    (h : ∀ x, frS (s.headD c (vs x) (ex x)) (pw G R N c (backK (fun s' => ∃ y π, μ y < μ x ∧ subK G.cx (idR 0 s.st ++ π) s' (s.headD c (vs y) (ex y))) Q))) : SW G (.loop c) Q s :=
  SW.inv hG (fun x => s.headD c (vs x) (ex x)) μ (N := N) hc x0 (subK_ok hG.ok h0) (fun x s' => ∃ y π, μ y < μ x ∧ subK G.cx (idR 0 s.st ++ π) s' (s.headD c (vs y) (ex y))) (fun x s' ⟨y, _, hy, hs⟩ => ⟨y, hy, subK_ok hG.ok hs⟩) fun x => frS_ok (h x)

end Go.Proofs.YtfnjlkmhnhojpaaDoor.Pw

/- How a contract over a store is used in a greater one. -/
namespace Go.Proofs.YtfnjlkmhnhojpaaDoor.Pw
open Go Go.RowKit

def leBlk (b b' : PBlk) : Prop := match b, b' with
  | ⟨k, ty, n, m, live, cs⟩, ⟨k', ty', n', m', live', cs'⟩ => bif Nat.beq ty ty' && Nat.beq n n' && Md.beq m m' && live && live' && BK.beq k k' then (match k with
    | .dyn => cs = cs'
    | _ => leL le1 cs cs') else False
/-- the first blocks say no less than S; k: the rest -/
def stLeR : List PBlk → List PBlk → (List PBlk → Prop) → Prop
  | [], T, k => k T
  | b' :: S, b :: st, k => leBlk b b' ∧ stLeR S st k
  | _ :: _, [], _ => False
def stLe (st S : List PBlk) (k : List PBlk → Prop) : Prop := stLeR S st k
def appK : List PBlk → List PBlk → (List PBlk → Prop) → Prop
  | [], T, k => k T
  | b :: l, T, k => appK l T fun r => k (b :: r)
/-- the blocks may be written just as before -/
def modeS : List PBlk → List PBlk → Bool
  | [], [] => true
  | a :: S, b :: T => a.live && Md.beq a.m b.m && modeS S T
  | _, _ => false
theorem appK_ok : ∀ {S T : List PBlk} {k : List PBlk → Prop}, appK S T k → k (S ++ T)
  | [], _, _, h => h
  | b :: l, T, k, h => appK_ok (S := l) h
theorem BK.beq_ok {m n : BK} (h : BK.beq m n = true) : m = n := by cases m <;> cases n <;> first | rfl | cases h
theorem leBlk_ok {b b' : PBlk} (h : leBlk b b') : b.ty = b'.ty ∧ b.size = b'.size ∧ b.m = b'.m ∧ b.live = true ∧ b'.live = true ∧ b.k = b'.k ∧ ((b.k = .dyn ∧ b.cs = b'.cs) ∨ (b.k ≠ .dyn ∧ leL le1 b.cs b'.cs)) := by
  obtain ⟨k, ty, n, m, live, cs⟩ := b
  obtain ⟨k', ty', n', m', live', cs'⟩ := b'
  obtain ⟨hc, h⟩ := bif_ok h
  simp only [Bool.and_eq_true] at hc
  obtain ⟨⟨⟨⟨⟨h1, h2⟩, h3⟩, h4⟩, h5⟩, h6⟩ := hc
  refine ⟨Nat.eq_of_beq_eq_true h1, Nat.eq_of_beq_eq_true h2, Md.beq_ok h3, h4, h5, BK.beq_ok h6, ?_⟩
  cases k with
  | dyn => exact .inl ⟨rfl, h⟩
  | loc => exact .inr ⟨nofun, h⟩
  | arr => exact .inr ⟨nofun, h⟩
theorem stLe_ok : ∀ {S st : List PBlk} {k : List PBlk → Prop}, stLe st S k → ∃ st0 T, st = st0 ++ T ∧ st0.length = S.length ∧ k T ∧ ∀ (l : Nat) (b b' : PBlk), st0[l]? = some b → S[l]? = some b' → leBlk b b'
  | [], T, k, h => ⟨[], T, rfl, rfl, h, fun l b b' hb => by simp at hb⟩
  | b' :: S, b :: st, k, h => by
    obtain ⟨st0, T, rfl, hl, hk, ha⟩ := stLe_ok (S := S) (st := st) h.2
    refine ⟨b :: st0, T, rfl, by simp [hl], hk, fun l c c' hc hc' => ?_⟩
    cases l with
    | zero => simp at hc hc'; subst hc; subst hc'; exact h.1
    | succ l => exact ha l c c' (by simpa using hc) (by simpa using hc')
  | _ :: _, [], _, h => h.elim
theorem modeS_ok : ∀ {S T : List PBlk}, modeS S T = true → S.length = T.length ∧ ∀ (l : Nat) (a b : PBlk), S[l]? = some a → T[l]? = some b → a.live = true ∧ a.m = b.m
  | [], [], _ => ⟨rfl, fun l a b h => by simp at h⟩
  | a :: S, b :: T, h => by
    simp only [modeS, Bool.and_eq_true] at h
    obtain ⟨h1, h2⟩ := modeS_ok h.2
    refine ⟨by simp [h1], fun l c d hc hd => ?_⟩
    cases l with
    | zero => simp at hc hd; subst hc; subst hd; exact ⟨h.1.1, Md.beq_ok h.1.2⟩
    | succ l => exact h2 l c d (by simpa using hc) (by simpa using hd)
  | [], _ :: _, h => by simp [modeS] at h
  | _ :: _, [], h => by simp [modeS] at h

section
variable {w w' : World} {I I' : Nat → Prop} {β β' : Places} {G : Gx} {s : PSt} {a : Act} {st st' : List PBlk}
theorem Spec.useS {f : FuncId} {args args' : List PV} {r0 : PV} {S0 S1 : List PBlk} {K : PV → List PBlk → Prop} (h : Spec G f args' S0 [] fun r S' => r = r0 ∧ S' = S1) (hm : modeS S0 S1 = true) (hlow : S0.all (lowB S0.length) = true) (hu : (usesL args').all (fun l => Nat.blt l S0.length) = true)
    (hr0 : r0.uses.all (fun l => Nat.blt l S0.length) = true) (hle : leL leK args args') (hK : stLe st S0 fun T => frBB S1 fun S1 => appK S1 T (K r0)) : Spec G f args st [] K := by
  obtain ⟨st0, T, rfl, hl0, hk, hle0⟩ := stLe_ok hK
  replace hk := appK_ok (frBB_ok hk)
  obtain ⟨hl1, hmd⟩ := modeS_ok hm
  refine Spec.intro h.run.1 fun I β w vals hH hM hA => ?_
  let β0 : Places := fun l => if l < S0.length then β l else none
  have hβ0 : ∀ l, l < S0.length → β0 l = β l := fun l hl => if_pos hl
  have hβn : ∀ {l p}, β0 l = some p → l < S0.length ∧ β l = some p := fun {l p} h => by
    by_cases hl : l < S0.length
    · exact ⟨hl, by rw [← hβ0 l hl]; exact h⟩
    · have : β0 l = none := if_neg hl
      rw [this] at h; cases h
  have old : ∀ {l : Nat} {b' : PBlk}, S0[l]? = some b' → l < S0.length ∧ ∃ b, (st0 ++ T)[l]? = some b ∧ leBlk b b' := fun {l b'} hb' => by
    have hlt : l < S0.length := (List.getElem?_eq_some_iff.1 hb').1
    have hlt0 : l < st0.length := by omega
    refine ⟨hlt, st0[l], by rw [List.getElem?_append_left hlt0]; simp [hlt0], hle0 l _ b' (by simp [hlt0]) hb'⟩
  have low : ∀ {l : Nat} {b' : PBlk}, S0[l]? = some b' → b'.k ≠ .dyn → ∀ c ∈ b'.cs, ∀ m ∈ c.uses, m < S0.length := fun {l b'} hb' hk c hc m hm' => by
    rw [List.all_eq_true] at hlow
    have := hlow b' (List.mem_of_getElem? hb')
    unfold lowB at this
    have hall : b'.cs.all (fun c => c.uses.all fun l => Nat.blt l S0.length) = true := by
      cases hkk : b'.k with
      | dyn => exact absurd hkk hk
      | loc => rw [hkk] at this; exact this
      | arr => rw [hkk] at this; exact this
    rw [List.all_eq_true] at hall
    have := hall c hc
    rw [List.all_eq_true] at this
    exact Nat.le_of_ble_eq_true (this m hm')
  have hH0 : HeapOk I β0 S0 w := by
    refine ⟨fun l hl => if_neg (by omega), fun l b' hb' hlive => ?_⟩
    obtain ⟨hlt, b, hb, hle1⟩ := old hb'
    obtain ⟨e1, e2, e3, e4, e5, e6, e7⟩ := leBlk_ok hle1
    obtain ⟨p, hp, hB⟩ := hH.blk l b hb e4
    have own : ∀ {g : Nat} {fr : Nat × Nat}, Own I β (st0 ++ T) l g fr b → Own I β0 S0 l g fr b' := fun {g fr} ho => by
      refine ⟨fun hr => ?_, fun hr => ho.2 (by rw [e3]; exact hr)⟩
      obtain ⟨h1, h2, h3⟩ := ho.1 (by rw [e3]; exact hr)
      refine ⟨h1, h2, fun l2 b2 hne hl2 hlive2 p2 g2 o2 hp2 ha2 => ?_⟩
      obtain ⟨_, b3, hb3, hle3⟩ := old hl2
      exact h3 l2 b3 hne hb3 (leBlk_ok hle3).2.2.2.1 p2 g2 o2 (hβn hp2).2 ha2
    have cells : b'.k ≠ .dyn → ∀ {arr : Array Value} {o : Nat}, CellsAt w I β b.cs arr o → CellsAt w I β0 b'.cs arr o := fun hk {arr o} hc i c hi => by
      have hc2 : CellsAt w I β b'.cs arr o := by
        rcases e7 with ⟨hd, _⟩ | ⟨_, h7⟩
        · exact absurd (e6 ▸ hd) hk
        · exact leL_cells h7 hc
      obtain ⟨u, hu', hi', h1⟩ := hc2 i c hi
      exact ⟨u, hu', PV.Is.mono (fun _ h => h) (fun _ _ => rfl) c β β0 u (fun m p hm' hp' => by rw [hβ0 m (low hb' hk c (List.mem_of_getElem? hi) m hm')]; exact hp') hi', h1⟩
    refine ⟨p, by rw [hβ0 l hlt]; exact hp, ?_⟩
    split at hB
    · rename_i hkk
      have hk' : b'.k = .loc := by rw [← e6]; exact hkk
      obtain ⟨g, o, arr, ty, fr, h1, h2, h3, ho⟩ := hB
      rw [hk']
      exact ⟨g, o, arr, ty, fr, h1, h2, cells (by rw [hk']; nofun) h3, own ho⟩
    · rename_i hkk
      have hk' : b'.k = .arr := by rw [← e6]; exact hkk
      obtain ⟨g, arr, fr, h1, h2, h3, ho, h4, h5, h6, h7, h8⟩ := hB
      have hlen : b'.cs.length = b.cs.length := by
        rcases e7 with ⟨hd, _⟩ | ⟨_, h9⟩
        · rw [hd] at hkk; cases hkk
        · exact (leL_len h9).symm
      rw [hk']
      exact ⟨g, arr, fr, h1, by rw [← e1]; exact h2, cells (by rw [hk']; nofun) h3, own ho, by rw [hlen, ← e2]; exact h4, h5, h6, by rw [← e2]; exact h7, by rw [← e2]; exact h8⟩
    · rename_i hkk
      have hk' : b'.k = .dyn := by rw [← e6]; exact hkk
      have hcs : b.cs = b'.cs := by
        rcases e7 with ⟨_, h9⟩ | ⟨hd, _⟩
        · exact h9
        · exact absurd hkk hd
      obtain ⟨⟨h1, h2, h3, h4⟩, hB⟩ := hB
      rw [hk']
      refine ⟨⟨by rw [← e2]; exact h1, by rw [← hcs]; exact h2, h3, h4⟩, ?_⟩
      rcases hB with h | ⟨g, arr, fr, h5, h6, h7, ho, h8⟩
      · exact .inl h
      · exact .inr ⟨g, arr, fr, h5, by rw [← e1]; exact h6, by rw [← hcs, ← e2]; exact h7, own ho, by rw [← e2]; exact h8⟩
  have hA' : IsL w I args' β0 vals := by
    have := leL_ok (fun _ _ => leK_ok) hle hA
    refine IsL.mono (fun _ h => h) (fun _ _ => rfl) args' β β0 vals (fun m p hm' hp' => ?_) this
    rw [List.all_eq_true] at hu
    rw [hβ0 m (Nat.le_of_ble_eq_true (hu m hm'))]; exact hp'
  refine (h.run.2 I β0 w vals hH0 hM hA').mono fun e w' ⟨v, r, S', I', β', he, ⟨e1, e2⟩, hi, hH', hM', hE, hlen, hβ⟩ => ?_
  subst e1; subst e2
  have hβ' : ∀ l, l < S0.length → β' l = β l := fun l hl => (hβ l hl (by simp)).trans (hβ0 l hl)
  have hβm : ∀ l p, β' l = some p → β l = some p := fun l p hp => by
    have : l < S0.length := by have := hH'.lt hp; omega
    rw [← hβ' l this]; exact hp
  have wr0 : ∀ {g}, Wr β0 S0 g → Wr β (st0 ++ T) g := fun {g} ⟨l, b, p, o, h1, h2, h3, h4, h5⟩ => by
    obtain ⟨hlt, b2, hb2, hle2⟩ := old h1
    obtain ⟨_, _, q3, q4, _⟩ := leBlk_ok hle2
    exact ⟨l, b2, p, o, hb2, q4, by rw [q3]; exact h3, (hβn h4).2, h5⟩
  have wr1 : ∀ {g}, Wr β (S' ++ T) g → (Wr β' S' g) ∨ ∃ l b p o, S0.length ≤ l ∧ (st0 ++ T)[l]? = some b ∧ b.live = true ∧ b.m = .w ∧ β l = some p ∧ p.a = some (g, o) := fun {g} ⟨l, b, p, o, h1, h2, h3, h4, h5⟩ => by
    by_cases hl : l < S'.length
    · rw [List.getElem?_append_left hl] at h1
      exact .inl ⟨l, b, p, o, h1, h2, h3, by rw [hβ' l (by omega)]; exact h4, h5⟩
    · rw [List.getElem?_append_right (by omega)] at h1
      refine .inr ⟨l, b, p, o, by omega, ?_, h2, h3, h4, h5⟩
      rw [List.getElem?_append_right (by omega), hl0, hl1]; exact h1
  -- a block of the rest lies apart from those of S0
  have apart : ∀ {l : Nat} {b : PBlk} {p : Plc} {g o : Nat}, S0.length ≤ l → (st0 ++ T)[l]? = some b → b.live = true → β l = some p → p.a = some (g, o) → ¬ Wr β0 S0 g := fun {l b p g o} hl hb hlive hp ha ⟨l2, b2, p2, o2, h1, h2, h3, h4, h5⟩ => by
    obtain ⟨hlt, b3, hb3, hle3⟩ := old h1
    obtain ⟨_, _, q3, q4, _⟩ := leBlk_ok hle3
    obtain ⟨arr, ty, fr, _, ho⟩ := (hH.blk l2 b3 hb3 q4).place (hβn h4).2 h5
    exact (ho.1 (by rw [q3, h3]; nofun)).2.2 l b (by omega) hb hlive p g o hp ha rfl
  refine ⟨v, r, S' ++ T, I', β, he, hk, PV.Is.mono (fun _ h => h) (fun _ _ => rfl) r β' β v (fun m p _ hp => hβm m p hp) hi, ⟨fun l hl => hH.far l (by simp only [List.length_append] at hl ⊢; omega), fun l b hb hlive => ?_⟩, hM', ⟨hE.os, hE.tape, hE.output, hE.size, fun g hg hn => hE.block g hg fun h => hn (wr0 h), fun g hg h => ?_, hE.imm, fun g hg h => (hE.new g hg h).imp id wr0⟩, by simp only [List.length_append]; omega, fun _ _ _ => rfl⟩
  · by_cases hl : l < S'.length
    · rw [List.getElem?_append_left hl] at hb
      have hB := hH'.blk l b hb hlive
      refine hB.mono (fun _ h => h) (fun _ _ => rfl) hβm fun p g o hp ha => ⟨rfl, fun hr => ?_⟩
      obtain ⟨arr, ty, fr, hh, ho⟩ := hB.place hp ha
      obtain ⟨h1, h2, h3⟩ := ho.1 hr
      refine ⟨h2, fun l2 b2 hne hb2 hlive2 p2 g2 o2 hp2 ha2 => ?_⟩
      by_cases hl2 : l2 < S'.length
      · rw [List.getElem?_append_left hl2] at hb2
        exact h3 l2 b2 hne hb2 hlive2 p2 g2 o2 (by rw [hβ' l2 (by omega)]; exact hp2) ha2
      · rw [List.getElem?_append_right (by omega)] at hb2
        have hb2' : (st0 ++ T)[l2]? = some b2 := by rw [List.getElem?_append_right (by omega), hl0, hl1]; exact hb2
        obtain ⟨b0, hb0⟩ : ∃ b0, S0[l]? = some b0 := ⟨S0[l]'(by omega), by simp [show l < S0.length by omega]⟩
        obtain ⟨_, b3, hb3, hle3⟩ := old hb0
        obtain ⟨_, _, q3, q4, _⟩ := leBlk_ok hle3
        obtain ⟨_, q5⟩ := hmd l b0 b hb0 hb
        obtain ⟨_, _, _, _, ho3⟩ := (hH.blk l b3 hb3 q4).place (hβm l p hp) ha
        exact (ho3.1 (by rw [q3, q5]; exact hr)).2.2 l2 b2 hne hb2' hlive2 p2 g2 o2 hp2 ha2
    · rw [List.getElem?_append_right (by omega)] at hb
      have hb' : (st0 ++ T)[l]? = some b := by rw [List.getElem?_append_right (by omega), hl0, hl1]; exact hb
      have hB := hH.blk l b hb' hlive
      have same : ∀ {p g o}, β l = some p → p.a = some (g, o) → g < w.heap.size ∧ w'.heap[g]? = w.heap[g]? := fun {p g o} hp ha => by
        have hlt := hH.lives_lt ⟨l, b, p, o, hb', hlive, hp, ha⟩
        exact ⟨hlt, hE.block g hlt (apart (by omega) hb' hlive hp ha)⟩
      refine hB.mono hE.imm (fun g hg => hE.block g (hM.imm g hg) fun hw => ?_) (fun _ _ h => h) fun p g o hp ha => ⟨(same hp ha).2, fun hr => ?_⟩
      · exact hH0.wr_imm hw hg
      · obtain ⟨arr, ty, fr, hh, ho⟩ := hB.place hp ha
        obtain ⟨h1, h2, h3⟩ := ho.1 hr
        refine ⟨fun hI => (hE.new g (same hp ha).1 hI).elim h2 (apart (by omega) hb' hlive hp ha), fun l2 b2 hne hb2 hlive2 p2 g2 o2 hp2 ha2 => ?_⟩
        by_cases hl2 : l2 < S'.length
        · obtain ⟨b0, hb0⟩ : ∃ b0, S0[l2]? = some b0 := ⟨S0[l2]'(by omega), by simp [show l2 < S0.length by omega]⟩
          obtain ⟨_, b3, hb3, hle3⟩ := old hb0
          exact h3 l2 b3 hne hb3 (leBlk_ok hle3).2.2.2.1 p2 g2 o2 hp2 ha2
        · rw [List.getElem?_append_right (by omega)] at hb2
          exact h3 l2 b2 hne (by rw [List.getElem?_append_right (by omega), hl0, hl1]; exact hb2) hlive2 p2 g2 o2 hp2 ha2
  · rcases wr1 h with h | ⟨l, b, p, o, _, h2, h3, h4, h5, h6⟩
    · exact wr0 (hE.wr g hg h)
    · exact ⟨l, b, p, o, h2, h3, h4, h5, h6⟩
/-- a store says no less than another -/
def leSt : List PBlk → List PBlk → Prop
  | [], [] => True
  | b :: S, b' :: S' => leBlk b b' ∧ leSt S S'
  | _, _ => False
theorem leSt_ok : ∀ {S S' : List PBlk}, leSt S S' → S.length = S'.length ∧ ∀ (l : Nat) (b b' : PBlk), S[l]? = some b → S'[l]? = some b' → leBlk b b'
  | [], [], _ => ⟨rfl, fun l b b' h => by simp at h⟩
  | b :: S, b' :: S', h => by
    obtain ⟨h1, h2⟩ := leSt_ok h.2
    refine ⟨by simp [h1], fun l c c' hc hc' => ?_⟩
    cases l with
    | zero => simp at hc hc'; subst hc; subst hc'; exact h.1
    | succ l => exact h2 l c c' (by simpa using hc) (by simpa using hc')
  | [], _ :: _, h => h.elim
  | _ :: _, [], h => h.elim
theorem leSt_some {S S' : List PBlk} (h : leSt S S') {l : Nat} {b' : PBlk} (hb : S'[l]? = some b') : ∃ b, S[l]? = some b ∧ leBlk b b' := by
  obtain ⟨h1, h2⟩ := leSt_ok h
  have hl : l < S.length := by rw [h1]; exact (List.getElem?_eq_some_iff.1 hb).1
  exact ⟨S[l], by simp [hl], h2 l _ _ (by simp [hl]) hb⟩
theorem HeapOk.le {S S' : List PBlk} (h : leSt S S') (hH : HeapOk I β S w) : HeapOk I β S' w := by
  refine ⟨fun l hl => hH.far l (by rw [(leSt_ok h).1]; exact hl), fun l b' hb' hlive => ?_⟩
  obtain ⟨b, hb, hle1⟩ := leSt_some h hb'
  obtain ⟨e1, e2, e3, e4, e5, e6, e7⟩ := leBlk_ok hle1
  obtain ⟨p, hp, hB⟩ := hH.blk l b hb e4
  have own : ∀ {g : Nat} {fr : Nat × Nat}, Own I β S l g fr b → Own I β S' l g fr b' := fun {g fr} ho => by
    refine ⟨fun hr => ?_, fun hr => ho.2 (by rw [e3]; exact hr)⟩
    obtain ⟨h1, h2, h3⟩ := ho.1 (by rw [e3]; exact hr)
    refine ⟨h1, h2, fun l2 b2 hne hl2 hlive2 p2 g2 o2 hp2 ha2 => ?_⟩
    obtain ⟨b3, hb3, hle3⟩ := leSt_some h hl2
    exact h3 l2 b3 hne hb3 (leBlk_ok hle3).2.2.2.1 p2 g2 o2 hp2 ha2
  have cells : b'.k ≠ .dyn → ∀ {arr : Array Value} {o : Nat}, CellsAt w I β b.cs arr o → CellsAt w I β b'.cs arr o := fun hk {arr o} hc => by
    rcases e7 with ⟨hd, _⟩ | ⟨_, h7⟩
    · exact absurd (e6 ▸ hd) hk
    · exact leL_cells h7 hc
  refine ⟨p, hp, ?_⟩
  split at hB
  · rename_i hkk
    have hk' : b'.k = .loc := by rw [← e6]; exact hkk
    obtain ⟨g, o, arr, ty, fr, h1, h2, h3, ho⟩ := hB
    rw [hk']
    exact ⟨g, o, arr, ty, fr, h1, h2, cells (by rw [hk']; nofun) h3, own ho⟩
  · rename_i hkk
    have hk' : b'.k = .arr := by rw [← e6]; exact hkk
    obtain ⟨g, arr, fr, h1, h2, h3, ho, h4, h5, h6, h7, h8⟩ := hB
    have hlen : b'.cs.length = b.cs.length := by
      rcases e7 with ⟨hd, _⟩ | ⟨_, h9⟩
      · rw [hd] at hkk; cases hkk
      · exact (leL_len h9).symm
    rw [hk']
    exact ⟨g, arr, fr, h1, by rw [← e1]; exact h2, cells (by rw [hk']; nofun) h3, own ho, by rw [hlen, ← e2]; exact h4, h5, h6, by rw [← e2]; exact h7, by rw [← e2]; exact h8⟩
  · rename_i hkk
    have hk' : b'.k = .dyn := by rw [← e6]; exact hkk
    have hcs : b.cs = b'.cs := by
      rcases e7 with ⟨_, h9⟩ | ⟨hd, _⟩
      · exact h9
      · exact absurd hkk hd
    obtain ⟨⟨h1, h2, h3, h4⟩, hB⟩ := hB
    rw [hk']
    refine ⟨⟨by rw [← e2]; exact h1, by rw [← hcs]; exact h2, h3, h4⟩, ?_⟩
    rcases hB with h | ⟨g, arr, fr, h5, h6, h7, ho, h8⟩
    · exact .inl h
    · exact .inr ⟨g, arr, fr, h5, by rw [← e1]; exact h6, by rw [← hcs, ← e2]; exact h7, own ho, by rw [← e2]; exact h8⟩
theorem Spec.leS {f : FuncId} {args : List PV} {S : List PBlk} {rl : List Nat} {r0 : PV} {S1 : List PBlk} (h : Spec G f args S rl fun x S' => x = r0 ∧ leSt S' S1) : Spec G f args S rl fun x S' => x = r0 ∧ S' = S1 :=
  Spec.intro h.run.1 fun I β w vals hH hM hA => (h.run.2 I β w vals hH hM hA).mono fun e w' ⟨v, r, S', I', β', he, ⟨e1, e2⟩, hi, hH', hM', hE, hlen, hβ⟩ =>
    ⟨v, r, S1, I', β', he, ⟨e1, rfl⟩, hi, hH'.le e2, hM', ⟨hE.os, hE.tape, hE.output, hE.size, hE.block, fun g hg ⟨l, b, p, o, h1, h2, h3, h4, h5⟩ => by
      obtain ⟨b0, hb0, hle0⟩ := leSt_some e2 h1
      obtain ⟨_, _, q3, q4, _⟩ := leBlk_ok hle0
      exact hE.wr g hg ⟨l, b0, p, o, hb0, q4, by rw [q3]; exact h3, h4, h5⟩, hE.imm, hE.new⟩, by rw [← (leSt_ok e2).1]; exact hlen, hβ⟩
theorem retS {r r0 : PV} {S' S1 : List PBlk} (h : leK r r0) (hs : leSt S' S1) : ∃ r', PLe r r' ∧ (fun x S' => x = r0 ∧ leSt S' S1) r' S' := ⟨r0, leK_ok h, rfl, hs⟩
end

/-- the state at a loop's head, with a store of its own -/
def PSt.headW (s : PSt) (c : Code) (vs : List (Nat × PV)) (st' : List PBlk) : PSt := match s with
  | ⟨n, t, _, b, rl⟩ => ⟨n, (layF vs (clearF (dsts c) t)).dropT, st', b, rl⟩
/-- a loop that writes to the store: slots and store by x -/
theorem SW.loopW {G : Gx} {s : PSt} (hG : GOk G) (R : List (Nat × Plan)) {α : Type} {c : Code} {Q : X → PSt → Prop} (hc : planAll R c = true) (vs : α → List (Nat × PV)) (stx : α → List PBlk) (μ : α → Nat) (x0 : α) (N : Nat) (π : Ren) (h0 : subK G.cx π s (s.headW c (vs x0) (stx x0)))
    (h : ∀ x, frS (s.headW c (vs x) (stx x)) (pw G R N c (backK (fun s' => ∃ y π, μ y < μ x ∧ subK G.cx π s' (s.headW c (vs y) (stx y))) Q))) : SW G (.loop c) Q s :=
  SW.inv hG (fun x => s.headW c (vs x) (stx x)) μ (N := N) hc x0 (subK_ok hG.ok h0) (fun x s' => ∃ y π, μ y < μ x ∧ subK G.cx π s' (s.headW c (vs y) (stx y))) (fun x s' ⟨y, _, hy, hs⟩ => ⟨y, hy, subK_ok hG.ok hs⟩) fun x => frS_ok (h x)

end Go.Proofs.YtfnjlkmhnhojpaaDoor.Pw

/- make and copy, as the evaluator says. -/
namespace Go.Proofs.YtfnjlkmhnhojpaaDoor.Pw
open Go Go.RowKit

theorem no_rl {p : Nat → Prop} : ∀ l ∈ ([] : List Nat), p l := fun l hl => absurd hl List.not_mem_nil
/-- make of a known length, elements of one cell -/
def pmake (G : Gx) (s : PSt) (o : Oper) (q : PV → PSt → Prop) : Prop := match o.op with
  | .makeSlice t l c => need (G.cx.und t) fun d => match d with
    | .slice elem => need (Ev.sizeT G.cx elem) fun n => need (Ev.lkT elem G.bt) fun by_ => zerosO G.cx elem fun z => s.ev l fun l => s.ev c fun c => (match l, c, z with
      | .lit _ a, .lit _ b, [x] => bif decide (a = b) && decide (0 ≤ a) && Nat.beq n 1 && Nat.ble (by_ * a.toNat) 281474976710656 && Nat.ble a.toNat maxLen && x.noRef then pnewS s ⟨.dyn, elem, 1, .w, true, List.replicate a.toNat x.norm⟩ q else False
      | _, _, _ => False)
    | _ => False
  | _ => False
/-- copy into a block whose elements are told -/
def pcopy (G : Gx) (s : PSt) (o : Oper) (q : PV → PSt → Prop) : Prop := match o.op with
  | .call { callee := .builtin .copy, args := ⟨[d, x]⟩, argTypes := ⟨t :: _⟩ } => need (G.cx.und t) fun td => match td with
    | .slice elem => need (Ev.sizeT G.cx elem) fun n => need (Ev.isAggT G.cx elem) fun ag => s.ev d fun d => s.ev x fun x => (match d with
      | .wref l => need s.st[l]? fun b => (match b.k with
        | .dyn => bif b.can && Nat.beq b.size n && Nat.blt 0 n && (ag || Nat.beq n 1) then srcK G.cx s.st n x fun src => need (elemsOf ag n src) fun fs => b.cs.length ≠ 0 ∧ setB s.st l (b.withCs (fs.take b.cs.length ++ b.cs.drop fs.length)) fun st => q (.int .i64 (min fs.length b.cs.length : Nat)) (s.store st) else False
        | _ => False)
      | _ => False)
    | _ => False
  | _ => False

/-- what the model itself does at a call -/
def PureX (G : Gx) (f : FuncId) (args : List PV) (r : PV) : Prop := ∀ I β w vals, IsL w I args β vals → ∃ v, (callFunc f vals.toArray).run G.cx.P w = .ok (.value v) w ∧ r.Is w I β v
def pext (G : Gx) (s : PSt) (o : Oper) (f : FuncId) (q : PV → PSt → Prop) : Prop := match o.op with
  | .call { callee := .value (.func g), args := ⟨ars⟩, argTypes := _ } => bif Nat.beq g f then argsK s ars fun l => ∃ r, PureX G f l r ∧ q r s else False
  | _ => False

section
variable {w w' : World} {I I' : Nat → Prop} {β β' : Places} {G : Gx} {s : PSt} {a : Act} {st st' : List PBlk}
theorem RowIs.take {es : List PV} {n : Nat} {xs : List Value} (h : RowIs w I es n xs) {k : Nat} (hk : k ≤ es.length) : RowIs w I (es.take k) n (xs.take (k * n)) := by
  have h1 : k * n ≤ es.length * n := Nat.mul_le_mul_right _ hk
  refine ⟨by rw [List.length_take, List.length_take, h.1, Nat.min_eq_left h1, Nat.min_eq_left hk], fun i e he => ?_⟩
  rw [List.getElem?_take] at he
  split at he
  · rename_i hi
    obtain ⟨h2, h3⟩ := h.2 i e he
    refine ⟨h2, fun j c hc => ?_⟩
    obtain ⟨v, hv, h4⟩ := h3 j c hc
    have hj : j < n := by rw [← h2]; exact (List.getElem?_eq_some_iff.1 hc).1
    have : i * n + n ≤ k * n := by rw [← Nat.succ_mul]; exact Nat.mul_le_mul_right _ hi
    exact ⟨v, by rw [List.getElem?_take, if_pos (by omega)]; exact hv, h4⟩
  · cases he
theorem RowIs.drop {es : List PV} {n : Nat} {xs : List Value} (h : RowIs w I es n xs) (k : Nat) : RowIs w I (es.drop k) n (xs.drop (k * n)) := by
  refine ⟨by rw [List.length_drop, List.length_drop, h.1, Nat.sub_mul], fun i e he => ?_⟩
  rw [List.getElem?_drop] at he
  obtain ⟨h2, h3⟩ := h.2 _ e he
  refine ⟨h2, fun j c hc => ?_⟩
  obtain ⟨v, hv, h4⟩ := h3 j c hc
  exact ⟨v, by rw [List.getElem?_drop, ← Nat.add_assoc, ← Nat.add_mul]; exact hv, h4⟩
theorem OpS.intro {o : Oper} {q : PV → PSt → Prop} (h : ∀ I β a w, Rel G I β s a w → Ev.resE G.cx.P (OpPost G s I β w a q) ((execOp a.eval o).run G.cx.P w)) : OpS G s o q := by unfold OpS; exact h

theorem pmake_ok (hG : GOk G) {o : Oper} {q : PV → PSt → Prop} (h : pmake G s o q) : OpS G s o q := OpS.intro fun I β a w hR => by
  unfold pmake at h
  split at h
  · rename_i t l c hop
    replace h := need_ok h
    obtain ⟨d, hu, h⟩ := h
    split at h
    · rename_i elem
      replace h := need_ok h
      obtain ⟨n, hn, h⟩ := h
      replace h := need_ok h
      obtain ⟨by_, hby, h⟩ := h
      replace h := zerosO_ok (w := w) (I := I) (β := β) hG.ok h
      obtain ⟨z, i, v, h, hi, hzv, hzz⟩ := h
      replace h := PSt.ev_ok hR h
      obtain ⟨x, h, hx⟩ := h
      replace h := PSt.ev_ok hR h
      obtain ⟨y, h, hy⟩ := h
      split at h
      · rename_i k1 m1 k2 m2 x
        replace h := bif_ok h
        obtain ⟨hc, h⟩ := h
        simp only [Bool.and_eq_true, decide_eq_true_eq] at hc
        obtain ⟨⟨⟨⟨⟨h1, h2⟩, h3⟩, h4⟩, h5⟩, h6⟩ := hc
        subst h1
        obtain ⟨N, rfl⟩ : ∃ N : Nat, m1 = N := ⟨m1.toNat, by omega⟩
        simp only [Int.toNat_natCast] at h4 h5 h
        have h4 := Nat.le_of_ble_eq_true h4
        have h5 := Nat.le_of_ble_eq_true h5
        obtain rfl := Nat.eq_of_beq_eq_true h3
        simp only [PV.Is] at hx hy
        obtain ⟨i2, hi2, hib⟩ := hG.by_ _ (Ev.lkT_mem hby)
        rw [hi] at hi2; cases hi2
        obtain ⟨i3, hi3, his⟩ := Ev.size_inf hG.ok hn
        rw [hi] at hi3; cases hi3
        match hvc : v.cells.toList, hzz with
        | [u], hzz =>
          have hvc' : v.cells = #[u] := by rw [← Array.toArray_toList (xs := v.cells), hvc]
          simp only [IsL, and_true] at hzz
          have hu1 : u.oneCell' = true := by
            refine flat_one (hzz.flat (show x.cell1 = true from ?_))
            cases x <;> first | rfl | cases h6
          have hv1 : v.cells = #[u] := hvc'
          have hrun : (execOp a.eval o).run G.cx.P w = .ok (.value (.slice (some ⟨w.heap.size, 0, none⟩) N N)) (w.alloc (.cells (madeCells #[u] N) elem)) := by
            have h7 : ((by_ * N : Nat) : Int) ≤ 281474976710656 := Int.ofNat_le.2 h4
            have h8 : (i.bytes : Int) * (N : Int) ≤ 281474976710656 := by rw [hib, ← Int.natCast_mul]; exact h7
            have := run_make (P := G.cx.P) w t elem i v (hG.ok.un hu) hi hzv k1 k2 N N (by omega) (Int.le_refl _) h8 (by unfold maxLen at h5; omega)
            rw [show i.size = 1 from his, hv1] at this
            simp only [Int.toNat_natCast, Nat.mul_one] at this
            unfold execOp
            rw [hop]
            simp only [hx, hy, Sem.run_bind, this, Result.andThen_ok, Sem.run_pure]
          rw [hrun]
          replace h := addB_ok (lenK_ok h)
          rw [Nat.zero_add] at h
          have hset := Places.set_mono hR.heap ⟨some (w.heap.size, 0), N, N⟩
          have hsz : (madeCells #[u] N).size = N := size_madeCells _ _
          have hec : x.norm.cells = [x.norm] := by cases x <;> first | rfl | cases h6
          have hEs : IsEs (w.alloc (.cells (madeCells #[u] N) elem)) I (List.replicate N x.norm) 1 w.heap.size 0 := IsEs.of fun j e he => by
            rw [List.getElem?_replicate] at he
            split at he
            · rename_i hj
              cases he
              refine ⟨by rw [hec]; rfl, IsAt.of fun j2 c hc => ?_⟩
              rw [hec] at hc
              match j2, hc with
              | 0, hc =>
                simp at hc; subst hc
                refine ⟨u, ?_, norm_is ?_, hu1⟩
                · rw [Ev.cells_of (Ev.heap_new w _)]
                  simp [madeCells, hj, Nat.mod_one]
                · refine PV.Is.mono (fun _ h => h) (fun g hg => alloc_keeps hR.heap hR.imm.imm _ g (.inr hg)) x β _ u (fun l p hl => ?_) hzz
                  exfalso
                  cases x <;> first | (simp [PV.uses] at hl; done) | (simp [PV.noRef] at h6; done)
            · cases he
          obtain ⟨hH, hE⟩ := alloc_new (vs := madeCells #[u] N) (t := elem) hR.heap hR.imm.imm (b := ⟨.dyn, elem, 1, .w, true, List.replicate N x.norm⟩) (p := ⟨some (w.heap.size, 0), N, N⟩) rfl (fun ho =>
            ⟨_, Places.set_self .., ⟨Nat.zero_lt_one, List.length_replicate, Nat.le_refl _, h5⟩, .inr ⟨w.heap.size, madeCells #[u] N, (0, 0), rfl, Ev.heap_new w _, hEs, ho, by rw [hsz, Nat.mul_one]⟩⟩) rfl
          refine OpPost.mk' hR h hH hE hset (by simp) (fun l hl => if_neg (by omega)) ?_
          simp only [PV.Is]; exact ⟨_, Places.set_self .., rfl⟩
        | [], hzz => simp only [IsL] at hzz
        | _ :: _ :: _, hzz => simp only [IsL, and_false] at hzz
      · exact h.elim
    · exact h.elim
  · exact h.elim

theorem pext_ok {o : Oper} {f : FuncId} {q : PV → PSt → Prop} (h : pext G s o f q) : OpS G s o q := OpS.intro fun I β a w hR => by
  unfold pext at h
  split at h
  · rename_i g ars ats hop
    replace h := bif_ok h
    obtain ⟨hg, h⟩ := h
    obtain rfl := Nat.eq_of_beq_eq_true hg
    replace h := argsK_ok hR h
    obtain ⟨l, ⟨r, hx, hq⟩, hl⟩ := h
    obtain ⟨v, hv, hr⟩ := hx I β w _ hl
    have hrun : (execOp a.eval o).run G.cx.P w = .ok (.value v) w := by
      unfold execOp
      rw [hop]
      have e1 : (Array.mk ars).map a.eval = (ars.map a.eval).toArray := by simp
      simp only [resolve, Act.eval, Deferred.ofValue, Sem.run_bind, Sem.run_pure, Result.andThen_ok, invoke]
      simp only [Array.empty_append, Array.append_empty]
      rw [e1]
      exact hv
    rw [hrun]
    exact OpPost.same hR hq hr
  · exact h.elim

theorem pcopy_ok (hG : GOk G) {o : Oper} {q : PV → PSt → Prop} (h : pcopy G s o q) : OpS G s o q := OpS.intro fun I β a w hR => by
  unfold pcopy at h
  split at h
  · rename_i od ox t r hop
    replace h := need_ok h
    obtain ⟨d, hu, h⟩ := h
    split at h
    · rename_i elem
      replace h := need_ok h
      obtain ⟨n, hn, h⟩ := h
      replace h := need_ok h
      obtain ⟨ag, hag, h⟩ := h
      replace h := PSt.ev_ok hR h
      obtain ⟨d, h, hd⟩ := h
      replace h := PSt.ev_ok hR h
      obtain ⟨x, h, hx⟩ := h
      split at h
      · rename_i l
        replace h := need_ok h
        obtain ⟨b, hb, h⟩ := h
        split at h
        · rename_i hk
          replace h := bif_ok h
          obtain ⟨hc, h⟩ := h
          simp only [Bool.and_eq_true, Bool.or_eq_true] at hc
          obtain ⟨⟨⟨hcan, hbn⟩, hn0⟩, hag1⟩ := hc
          obtain ⟨hlive, hm⟩ := can_ok hcan
          have hbn := Nat.eq_of_beq_eq_true hbn
          have hn0 := Nat.le_of_ble_eq_true hn0
          obtain ⟨src, ad, len, c, news, h, hxv, hsrc, hnl, hlen0, hat⟩ := srcK_ok hG.ok hR.heap hn0 h hx
          replace h := need_ok h
          obtain ⟨fs, hfs, hne, h⟩ := h
          replace h := setB_ok h
          obtain ⟨hlt, h⟩ := h
          obtain ⟨hfl, hrow⟩ := elemsOf_ok hn0 (hag1.imp id Nat.eq_of_beq_eq_true) hfs hsrc hnl
          simp only [PV.Is] at hd
          obtain ⟨p, hp, hdv⟩ := hd
          obtain ⟨hsp, hlen, hle, hmx, hor⟩ := whole_dyn hR.heap hb hlive hk hp
          rcases hor with ⟨_, hc0, _⟩ | ⟨g, arr, fr, ha, hw, hhg, hes, hown, has⟩
          · exact absurd (show b.cs.length = 0 by omega) hne
          · have hfr : fr = (0, 0) := (hown.1 (by rw [hm]; decide)).1
            subst hfr
            rw [hw] at hdv
            rw [hbn] at hes has
            obtain ⟨xs, hxs, hxc⟩ := hes.row
            obtain ⟨m, hmd⟩ : ∃ m, m = min len p.len := ⟨_, rfl⟩
            have hml : m ≤ len := by omega
            have hmp : m ≤ p.len := by omega
            have hmn : m * n ≤ len * n := Nat.mul_le_mul_right _ hml
            have hmn2 : m * n ≤ p.cap * n := Nat.mul_le_mul_right _ (by omega)
            have htl : (news.take (m * n)).length = m * n := by rw [List.length_take]; omega
            have hfc : (Builtin.firstCells n m (.slice ad len c)).run G.cx.P w = .ok (news.take (m * n)).toArray w := by
              have hget : ∀ j v, (news.take (m * n))[j]? = some v → news[j]? = some v := fun j v hv => by
                rw [List.getElem?_take] at hv
                split at hv
                · exact hv
                · cases hv
              rcases hlen0 with h0 | ⟨g', o', rfl⟩
              · have hm0 : m = 0 := by omega
                have hnil : news.take (m * n) = [] := by rw [hm0, Nat.zero_mul]; rfl
                cases ad with
                | none => rw [hnil, run_firstCells_none w]
                | some b' => exact run_firstCells_some w n m b' len c _ htl fun j v hv => by rw [hnil] at hv; simp at hv
              · exact run_firstCells_some w n m ⟨g', o', none⟩ len c _ htl fun j v hv => by have h0 := hat g' o' rfl j v (hget j v hv); by_cases hj : j = 0 <;> simpa [Addr.add, hj] using h0
            have hones : ∀ v ∈ news.take (m * n), v.oneCell' = true := fun v hv => hsrc.ones v (List.mem_of_mem_take hv)
            have hst := run_storeCells_at (P := G.cx.P) g 0 b.ty (news.take (m * n)) 0 arr w hhg (by rw [htl, has]; omega) hones
            obtain ⟨arr', harr'⟩ : ∃ A, A = (arr.toList.take (0 + 0) ++ news.take (m * n) ++ arr.toList.drop (0 + 0 + (news.take (m * n)).length)).toArray := ⟨_, rfl⟩
            rw [← harr'] at hst
            have harr2 : arr' = (news.take (m * n) ++ arr.toList.drop (m * n)).toArray := by rw [harr', htl]; simp
            have hsa : arr'.size = arr.size := by
              rw [harr2]; simp only [List.size_toArray, List.length_append, htl, List.length_drop, Array.length_toList]; rw [has]; omega
            have hrun : (execOp a.eval o).run G.cx.P w = .ok (.value (.int .i64 (m : Nat))) (w.setRow g arr') := by
              have hcp : ∀ ty, (Builtin.copy_ (t :: r).toArray ty #[a.eval od, a.eval ox]).run G.cx.P w = .ok (.int .i64 (m : Nat)) (w.setRow g arr') := fun ty => by
                rw [hdv, hxv]
                have hmm : Nat.min len p.len = m := hmd.symm
                simp [Builtin.copy_, run_underlying (hG.ok.un hu), Builtin.lenOf, hmm, Ev.size_run hG.ok hn, hfc, hst, goInt]
              unfold execOp
              rw [hop]
              simp [resolve, invoke, builtin, hcp]
            rw [hrun]
            obtain ⟨k1, k2, k3, k4, k5, k6⟩ := withCs_k b (fs.take b.cs.length ++ b.cs.drop fs.length)
            have e1 : fs.take b.cs.length = fs.take m := by
              rcases Nat.le_total len p.len with hh | hh
              · rw [List.take_of_length_le (by omega), List.take_of_length_le (by omega)]
              · rw [hlen, show p.len = m by omega]
            have e2 : b.cs.drop fs.length = b.cs.drop m := by
              rcases Nat.le_total len p.len with hh | hh
              · rw [hfl, show len = m by omega]
              · rw [List.drop_of_length_le (by omega), List.drop_of_length_le (by omega)]
            have hnewrow : RowIs w I (fs.take b.cs.length ++ b.cs.drop fs.length) n (news.take (m * n) ++ xs.drop (m * n)) := by
              rw [e1, e2]
              exact (hrow.take (by omega)).append (hxs.drop m)
            have hnewlen : (fs.take b.cs.length ++ b.cs.drop fs.length).length = p.len := by
              rw [List.length_append, List.length_take, List.length_drop]; omega
            obtain ⟨hH, hE⟩ := hR.heap.write (b' := b.withCs (fs.take b.cs.length ++ b.cs.drop fs.length)) hb hlive hm hp ha hhg (by rw [k5]; exact hlive) (by rw [k4]; exact hm) (arr' := arr') (fun hI hO => by
              have hr := setRow_heap w g arr arr' b.ty (0, 0) hhg
              refine ⟨p, hp, ?_⟩
              rw [k1, hk]
              refine ⟨⟨by rw [k3]; exact hsp, by rw [k6]; exact hnewlen, hle, hmx⟩, .inr ⟨g, arr', (0, 0), ha, by rw [k2]; exact hr, ?_, hO, by rw [hsa, k3, has, hbn]⟩⟩
              rw [k6, k3, hbn]
              refine hnewrow.at (fun j v hv => ?_) (fun _ h => h) hI
              rw [Ev.cells_of hr, harr2]
              simp only [List.getElem?_toArray]
              by_cases hj : j < m * n
              · rw [List.getElem?_append_left (by omega)] at hv ⊢
                exact hv
              · rw [List.getElem?_append_right (by omega)] at hv ⊢
                rw [List.getElem?_drop] at hv ⊢
                have := hxc _ v hv
                rw [Ev.cells_of hhg, Nat.zero_add] at this
                simpa using this)
            refine OpPost.mk' hR h hH hE (fun _ _ h => h) (by simp) (fun _ _ => rfl) ?_
            simp only [PV.Is]
            rw [hfl, hlen, hmd]
        · exact h.elim
      · exact h.elim
    · exact h.elim
  · exact h.elim
end

end Go.Proofs.YtfnjlkmhnhojpaaDoor.Pw

/- Functions whose result is the caller's own block, that may be written and appended to. -/
namespace Go.Proofs.YtfnjlkmhnhojpaaDoor.Pw
open Go Go.RowKit

/-- at a function's end: what the caller gets, of what is known; nothing is frozen -/
def retN (G : Gx) (rs : List ResultVar) (base : Nat) (K : PV → List PBlk → Prop) (x : X) (s : PSt) : Prop := match x with
  | .exit _ => False
  | _ => ∃ (π : Ren) (vs : List (Nat × PV)) (S' : List PBlk), subK G.cx π s ⟨s.n, layF vs .nil, S', s.base, s.rl⟩ ∧ base ≤ S'.length ∧ resK G ⟨s.n, layF vs .nil, S', s.base, s.rl⟩ rs fun r => K r S'
def enterN (G : Gx) (R : List (Nat × Plan)) (N : Nat) (fn : Func) (c : Code) (args : List PV) (S : List PBlk) (rl : List Nat) (K : PV → List PBlk → Prop) : Prop :=
  bif Nat.ble args.length fn.ntmps && Nat.ble fn.ntmps 16777215 && !(fn.name == "runtime.NumGoroutine") then
    lenK S 0 fun b => argT args 0 .nil fun t => pw G R N c (retN G fn.results.toList b K) ⟨fn.ntmps, t, S, b, rl⟩ else False

section
variable {w w' : World} {I I' : Nat → Prop} {β β' : Places} {G : Gx} {s : PSt} {a : Act} {st st' : List PBlk}
theorem Spec.enterN (hG : GOk G) (R : List (Nat × Plan)) {f : FuncId} {fn : Func} {c : Code} {args : List PV} {S : List PBlk} {rl : List Nat} {K : PV → List PBlk → Prop} (N : Nat) (hf : G.cx.P.funcs[f]? = some fn) (hb : fn.body = some c) (hpl : planAll R c = true) (h : enterN G R N fn c args S rl K) : Spec G f args S rl K := by
  obtain ⟨hc, h⟩ := bif_ok h
  simp only [Bool.and_eq_true, Bool.not_eq_true'] at hc
  obtain ⟨⟨hle, hlim⟩, hname⟩ := hc
  have hle := Nat.le_of_ble_eq_true hle
  have hlim := Nat.le_of_ble_eq_true hlim
  replace h := lenK_ok h
  rw [Nat.zero_add] at h
  obtain ⟨t, h, ht⟩ := argT_ok h
  refine Spec.intro (Ev.enters_of hf hb hname) fun I β w vals hH hM hA => calls_of_wp hf hb ?_
  have hal := hA.length
  have hR : Rel G I β ⟨fn.ntmps, t, S, S.length, rl⟩ { tmps := vals.toArray ++ Array.replicate (fn.ntmps - vals.toArray.size) Go.undef, defers := [] } w := by
    refine ⟨hlim, rfl, by simp; omega, Nat.le_refl _, fun n x hx => ?_, hH, hM⟩
    rcases ht n x hx with ⟨j, hj, hx⟩ | hx
    · rw [Nat.zero_add] at hj
      subst hj
      obtain ⟨v, hv, hi⟩ := hA.get hx
      have hlt : n < vals.length := (List.getElem?_eq_some_iff.1 hv).1
      exact ⟨v, by rw [Array.getElem?_append_left (by simpa using hlt)]; simpa using hv, hi⟩
    · cases hx
  refine wp_mono ((pw_ok hG N c _ _ hpl h).run hR) fun e a' w' hp => ?_
  obtain ⟨x, s', I', β', rfl, hq, hR', hg⟩ := hp.goes
  have fin_ : retN G fn.results.toList S.length K .nml s' → a'.defers = [] ∧ ∃ v, (results fn a'.tmps).run G.cx.P w' = .ok v w' ∧ ∃ v', ∃ r S' I' β', Ending.returned v = .returned v' ∧ K r S' ∧ r.Is w' I' β' v' ∧ HeapOk I' β' S' w' ∧ ImmOk G I' w' ∧ Ext I β S w I' β' S' w' ∧ S.length ≤ S'.length ∧ ∀ l, l < S.length → l ∉ rl → β' l = β l := by
    rintro ⟨π, vs, S', hsub, hlen, hres⟩
    obtain ⟨I2, β2, hR2, hg2⟩ := subK_ok hG.ok hsub I' β' a' w' hR'
    obtain ⟨r, v, hK, hr, hrun⟩ := resK_ok hG hR2 hres
    have hgg := hg.trans hg2
    exact ⟨hR'.defers, v, hrun, v, r, S', I2, β2, rfl, hK, hr, hR2.heap, hR2.imm, hgg.ext, hlen, fun l hl hr => hgg.low l hl hr⟩
  cases x with
  | nml => exact fin_ hq
  | ret => exact fin_ hq
  | exit id => exact hq.elim
/-- a new block is the caller's -/
theorem Spec.useNew {f : FuncId} {args args' : List PV} {b : PBlk} {K : PV → List PBlk → Prop} (h : Spec G f args' [] [] fun r S' => r = .wref 0 ∧ S' = [b]) (hm : b.m = .w) (hlv : b.live = true) (hk : b.k = .dyn) (hle : leL leK args args') (hu : usesL args' = [])
    (hK : lenK st 0 fun l => addB st b fun st' => K (.wref l) st') : Spec G f args st [] K := by
  refine Spec.intro h.run.1 fun I β w vals hH hM hA => ?_
  replace hK := addB_ok (lenK_ok hK)
  rw [Nat.zero_add] at hK
  have h0 : HeapOk I (fun _ => none) ([] : List PBlk) w := ⟨fun _ _ => rfl, fun l b hl => by simp at hl⟩
  refine (h.run.2 I (fun _ => none) w vals h0 hM (usesL_none hu (leL_ok (fun _ _ => leK_ok) hle hA))).mono fun e w' ⟨v, r', S', I', β', he, ⟨hr', hS'⟩, hi, hH', hM', hE, _, _⟩ => ?_
  subst hr'
  subst hS'
  have hnw : ∀ g, ¬ Wr (fun _ => none) ([] : List PBlk) g := fun g ⟨l, b, p, o, h1, _⟩ => by simp at h1
  have hold : ∀ g, g < w.heap.size → w'.heap[g]? = w.heap[g]? := fun g hg => hE.block g hg (hnw g)
  have hI' : ∀ g, g < w.heap.size → I' g → I g := fun g hg h => (hE.new g hg h).elim id fun h => absurd h (hnw g)
  simp only [PV.Is] at hi
  obtain ⟨p, hp, rfl⟩ := hi
  have hfresh : ∀ g o, p.a = some (g, o) → w.heap.size ≤ g := fun g o ha => by
    rcases Nat.lt_or_ge g w.heap.size with hlt | hge
    · exact absurd (hE.wr g hlt ⟨0, b, p, o, rfl, hlv, hm, hp, ha⟩) (hnw g)
    · exact hge
  have hHo : HeapOk I' β st w' := ⟨hH.far, fun l b hl hlive => by
    have hb := hH.blk l b hl hlive
    refine hb.mono hE.imm (fun g hg => hold g (hM.imm g hg)) (fun _ _ h => h) fun p g o hp ha => ?_
    obtain ⟨arr, ty, fr, hh, ho⟩ := hb.place hp ha
    have hlt := lt_of_heap hh
    exact ⟨hold g hlt, fun hr => ⟨fun hI => (ho.1 hr).2.1 (hI' g hlt hI), (ho.1 hr).2.2⟩⟩⟩
  have hlow : ∀ g, Lives β st g → g < w.heap.size := fun g hg => hH.lives_lt hg
  have hbk := hH'.blk 0 b rfl hlv
  have hadd : HeapOk I' (β.set st.length p) (st ++ [b]) w' := by
    refine hHo.add (fun _ _ => rfl) (fun g o ha => ⟨?_, fun hL => by have := hlow g hL; have := hfresh g o ha; omega⟩) ?_
    · obtain ⟨arr, ty, fr, hh, ho⟩ := hbk.place hp ha
      exact (ho.1 (by rw [hm]; decide)).2.1
    · obtain ⟨p', hp', hd⟩ := hbk
      obtain rfl := Option.some.inj (hp.symm.trans hp')
      refine ⟨p, Places.set_self .., ?_⟩
      rw [hk] at hd ⊢
      refine ⟨hd.1, hd.2.imp id ?_⟩
      rintro ⟨g, arr, fr, h1, h2, h3, ho, h4⟩
      refine ⟨g, arr, fr, h1, h2, h3, ⟨fun hr => ⟨(ho.1 hr).1, (ho.1 hr).2.1, fun l' b' hne hl' hlive' q g' o' hq ha' e => ?_⟩, ho.2⟩, h4⟩
      subst e
      unfold Places.set at hq
      rw [if_neg hne] at hq
      have hlt := hH.lt hq
      rw [List.getElem?_append_left hlt] at hl'
      have := hlow g' ⟨l', b', q, o', hl', hlive', hq, ha'⟩
      have := hfresh g' _ h1
      omega
  refine ⟨_, .wref st.length, st ++ [b], I', β.set st.length p, he, hK, ?_, hadd, hM', ⟨hE.os, hE.tape, hE.output, hE.size, fun g hg _ => hold g hg, fun g hg ⟨l, b', q, o, h1, h2, h3, h4, h5⟩ => ?_, hE.imm, fun g hg h => .inl (hI' g hg h)⟩, by simp, fun l hl _ => ?_⟩
  · simp only [PV.Is]; exact ⟨p, Places.set_self .., rfl⟩
  · unfold Places.set at h4
    split at h4
    · cases h4
      have := hfresh g o h5
      omega
    · have := hH.lt h4
      rw [List.getElem?_append_left this] at h1
      exact ⟨l, b', q, o, h1, h2, h3, h4, h5⟩
  · unfold Places.set
    rw [if_neg (by omega)]
end

end Go.Proofs.YtfnjlkmhnhojpaaDoor.Pw

/- clear of a block's end, as the evaluator says. -/
namespace Go.Proofs.YtfnjlkmhnhojpaaDoor.Pw
open Go Go.RowKit

/-- clear of all that lies behind the first i elements of a block whose elements are told -/
def pclear (G : Gx) (s : PSt) (o : Oper) (q : PV → PSt → Prop) : Prop := match o.op with
  | .call { callee := .builtin .clear, args := ⟨[d]⟩, argTypes := ⟨t :: _⟩ } => need (G.cx.und t) fun td => match td with
    | .slice elem => need (Ev.sizeT G.cx elem) fun n => need (Ev.isAggT G.cx elem) fun ag => zerosO G.cx elem fun z => s.ev d fun d => (match d with
      | .ref l off len => need s.st[l]? fun b => (match b.k with
        | .dyn => bif b.can && Nat.beq b.size n && Nat.blt 0 n && (ag || Nat.beq n 1) && Nat.beq z.length n && z.all PV.cell1 then need (elemsOf ag n (.stat z)) fun fs => (match fs with
          | [e] => ∃ i : Nat, off = i * n ∧ i + len = b.cs.length ∧ 0 < len ∧ setB s.st l (b.withCs (b.cs.take i ++ List.replicate len e)) fun st => q (.tup []) (s.store st)
          | _ => False) else False
        | _ => False)
      | _ => False)
    | _ => False
  | _ => False

section
variable {w w' : World} {I I' : Nat → Prop} {β β' : Places} {G : Gx} {s : PSt} {a : Act} {st st' : List PBlk}
theorem zeroCells_get (z : Array Value) (len k : Nat) (hk : k < len * z.size) (hz : 0 < z.size) : (Builtin.zeroCells z len).toList[k]? = z.toList[k % z.size]? := by
  have hm : k % z.size < z.size := Nat.mod_lt _ hz
  simp [Builtin.zeroCells, hk, hm]
theorem pclear_ok (hG : GOk G) {o : Oper} {q : PV → PSt → Prop} (h : pclear G s o q) : OpS G s o q := OpS.intro fun I β a w hR => by
  unfold pclear at h
  split at h
  · rename_i od t r hop
    replace h := need_ok h
    obtain ⟨d, hu, h⟩ := h
    split at h
    · rename_i elem
      replace h := need_ok h
      obtain ⟨n, hn, h⟩ := h
      replace h := need_ok h
      obtain ⟨ag, hag, h⟩ := h
      replace h := zerosO_ok (w := w) (I := I) (β := β) hG.ok h
      obtain ⟨z, inf, v, h, hinf, hzv, hzz⟩ := h
      replace h := PSt.ev_ok hR h
      obtain ⟨d, h, hd⟩ := h
      split at h
      · rename_i l off len
        replace h := need_ok h
        obtain ⟨b, hb, h⟩ := h
        split at h
        · rename_i hk
          replace h := bif_ok h
          obtain ⟨hc, h⟩ := h
          simp only [Bool.and_eq_true, Bool.or_eq_true] at hc
          obtain ⟨⟨⟨⟨⟨hcan, hbn⟩, hn0⟩, hag1⟩, hzl⟩, hz1⟩ := hc
          obtain ⟨hlive, hm⟩ := can_ok hcan
          have hbn := Nat.eq_of_beq_eq_true hbn
          have hn0 := Nat.le_of_ble_eq_true hn0
          have hzl := Nat.eq_of_beq_eq_true hzl
          replace h := need_ok h
          obtain ⟨fs, hfs, h⟩ := h
          split at h
          · rename_i e
            obtain ⟨i, rfl, hil, hlen, h⟩ := h
            replace h := setB_ok h
            obtain ⟨hlt, h⟩ := h
            have hones : ∀ u ∈ v.cells.toList, u.oneCell' = true := fun u hu => by
              obtain ⟨j, hj, hju⟩ := List.mem_iff_getElem.1 hu
              have hzj : z[j]? = some (z[j]'(by rw [hzz.length]; exact hj)) := List.getElem?_eq_getElem _
              obtain ⟨u', hu', hcu⟩ := hzz.get hzj
              rw [List.getElem?_eq_getElem hj, hju] at hu'
              cases hu'
              exact flat_one (hcu.flat (List.all_eq_true.1 hz1 _ (List.mem_of_getElem? hzj)))
            have hvs : v.cells.toList.length = n := by rw [← hzz.length, hzl]
            have hvs' : v.cells.size = n := by simpa using hvs
            have hsrc : SrcIs w I β n (.stat z) v.cells.toList := ⟨hzz.length.symm, fun j c hc => by
              obtain ⟨u, hu, hcu⟩ := hzz.get hc
              exact ⟨u, hu, hcu, hones u (List.mem_of_getElem? hu)⟩⟩
            obtain ⟨_, hrow⟩ := elemsOf_ok (len := 1) hn0 (hag1.imp id Nat.eq_of_beq_eq_true) hfs hsrc (by rw [hvs, Nat.one_mul])
            simp only [PV.Is] at hd
            obtain ⟨p, g0, o0, cap, hp, ha0, hdv, hlc⟩ := hd
            obtain ⟨hsp, hplen, hle, hmx, hor⟩ := whole_dyn hR.heap hb hlive hk hp
            rcases hor with ⟨hnone, hc0, _⟩ | ⟨g, arr, fr, ha, hw, hhg, hes, hown, has⟩
            · rw [hnone] at ha0; cases ha0
            · rw [ha] at ha0
              obtain ⟨rfl, rfl⟩ : g = g0 ∧ 0 = o0 := by cases ha0; exact ⟨rfl, rfl⟩
              have hfr : fr = (0, 0) := (hown.1 (by rw [hm]; decide)).1
              subst hfr
              rw [hbn] at hes has
              obtain ⟨xs, hxs, hxc⟩ := hes.row
              obtain ⟨news, hnews⟩ : ∃ L, L = (Builtin.zeroCells v.cells len).toList := ⟨_, rfl⟩
              have hnl : news.length = len * n := by rw [hnews, Array.length_toList, size_zeroCells, hvs']
              have hnget : ∀ k, k < len * n → news[k]? = v.cells.toList[k % n]? := fun k hk => by
                rw [hnews, zeroCells_get _ _ _ (by rw [hvs']; exact hk) (by omega), hvs']
              have hnones : ∀ u ∈ news, u.oneCell' = true := fun u hu => by
                obtain ⟨k, hk, hku⟩ := List.mem_iff_getElem.1 hu
                have h1 := hnget k (by omega)
                rw [List.getElem?_eq_getElem hk, hku] at h1
                exact hones u (List.mem_of_getElem? h1.symm)
              have hin : i * n + len * n ≤ p.cap * n := by rw [← Nat.add_mul]; exact Nat.mul_le_mul_right _ (by omega)
              have hst := run_storeCells_at (P := G.cx.P) g (i * n) b.ty news 0 arr w hhg (by rw [hnl, has]; omega) hnones
              obtain ⟨arr', harr'⟩ : ∃ A, A = (arr.toList.take (i * n + 0) ++ news ++ arr.toList.drop (i * n + 0 + news.length)).toArray := ⟨_, rfl⟩
              rw [← harr'] at hst
              have hal : arr.toList.length = p.cap * n := by rw [Array.length_toList, has]
              have hsa : arr'.size = arr.size := by
                rw [harr']; simp only [List.size_toArray, List.length_append, List.length_take, List.length_drop, hal, hnl, has]; omega
              have hrun : (execOp a.eval o).run G.cx.P w = .ok (.value (.tuple #[])) (w.setRow g arr') := by
                have hzr : (zeroValue elem).run G.cx.P w = .ok v w := by
                  simp [zeroValue, run_typeInfo _ hinf, hzv]
                have hcl : ∀ ty, (Builtin.clear_ (t :: r).toArray ty #[a.eval od]).run G.cx.P w = .ok (.tuple #[]) (w.setRow g arr') := fun ty => by
                  rw [hdv]
                  obtain ⟨m, rfl⟩ : ∃ m, len = m + 1 := ⟨len - 1, by omega⟩
                  simp [Builtin.clear_, run_underlying (hG.ok.un hu), hzr, ← hnews, hst]
                unfold execOp
                rw [hop]
                simp [resolve, invoke, builtin, hcl]
              rw [hrun]
              obtain ⟨k1, k2, k3, k4, k5, k6⟩ := withCs_k b (b.cs.take i ++ List.replicate len e)
              have hrep : RowIs w I (List.replicate len e) n news := by
                refine ⟨by rw [hnl, List.length_replicate], fun j e' he => ?_⟩
                rw [List.getElem?_replicate] at he
                split at he
                · rename_i hj
                  cases he
                  obtain ⟨h1, h2⟩ := hrow.2 0 e rfl
                  refine ⟨h1, fun j2 c hc => ?_⟩
                  obtain ⟨u, hu, h3⟩ := h2 j2 c hc
                  have hj2 : j2 < n := by rw [← h1]; exact (List.getElem?_eq_some_iff.1 hc).1
                  refine ⟨u, ?_, h3⟩
                  have hjn : j * n + n ≤ len * n := by rw [← Nat.succ_mul]; exact Nat.mul_le_mul_right _ hj
                  rw [hnget _ (by omega), Nat.mul_comm, Nat.mul_add_mod, Nat.mod_eq_of_lt hj2]
                  simpa using hu
                · cases he
              have hnewrow : RowIs w I (b.cs.take i ++ List.replicate len e) n (xs.take (i * n) ++ news) := (hxs.take (by omega)).append hrep
              have hnewlen : (b.cs.take i ++ List.replicate len e).length = p.len := by
                rw [List.length_append, List.length_take, List.length_replicate]; omega
              have hxl : xs.length = p.len * n := by rw [hxs.1, hplen]
              obtain ⟨hH, hE⟩ := hR.heap.write (b' := b.withCs (b.cs.take i ++ List.replicate len e)) hb hlive hm hp ha hhg (by rw [k5]; exact hlive) (by rw [k4]; exact hm) (arr' := arr') (fun hI hO => by
                have hr := setRow_heap w g arr arr' b.ty (0, 0) hhg
                refine ⟨p, hp, ?_⟩
                rw [k1, hk]
                refine ⟨⟨by rw [k3]; exact hsp, by rw [k6]; exact hnewlen, hle, hmx⟩, .inr ⟨g, arr', (0, 0), ha, by rw [k2]; exact hr, ?_, hO, by rw [hsa, k3, has, hbn]⟩⟩
                rw [k6, k3, hbn]
                refine hnewrow.at (fun j u hv => ?_) (fun _ h => h) hI
                rw [Ev.cells_of hr, harr']
                simp only [List.getElem?_toArray, Nat.add_zero]
                have hpn : i * n ≤ p.len * n := Nat.mul_le_mul_right _ (by omega)
                have hxt : (xs.take (i * n)).length = i * n := by rw [List.length_take]; omega
                have hat : (arr.toList.take (i * n)).length = i * n := by rw [List.length_take]; omega
                by_cases hj : j < i * n
                · rw [List.getElem?_append_left (by omega), List.getElem?_take, if_pos hj] at hv
                  rw [List.append_assoc, List.getElem?_append_left (by omega), List.getElem?_take, if_pos hj]
                  have := hxc _ u hv
                  rw [Ev.cells_of hhg, Nat.zero_add] at this
                  simpa using this
                · rw [List.getElem?_append_right (by omega), hxt] at hv
                  have hjl : j - i * n < news.length := (List.getElem?_eq_some_iff.1 hv).1
                  rw [List.append_assoc, List.getElem?_append_right (by omega), hat, List.getElem?_append_left hjl]
                  exact hv)
              refine OpPost.mk' hR h hH hE (fun _ _ h => h) (by simp) (fun _ _ => rfl) ?_
              simp only [PV.Is]
              exact ⟨_, rfl, trivial⟩
          · exact h.elim
        · exact h.elim
      · exact h.elim
    · exact h.elim
  · exact h.elim
/-- a call that yields the caller's own block, or its first elements: they are not changed any more, the block is given up -/
theorem Spec.cut {f : FuncId} {args : List PV} {b0 : PBlk} {n : Nat} {es : List PV} (h : Spec G f args [b0] [] fun r S' => ∃ b : PBlk, S' = [b] ∧ b.k = .dyn ∧ b.live = true ∧ b.m = .w ∧ b.size = n ∧ ((r = .wref 0 ∧ b.cs = es) ∨ (r = .ref 0 0 es.length ∧ b.cs.take es.length = es))) :
    Spec G f args [b0] [] fun r S' => r = .sl n es ∧ S' = [⟨.dyn, b0.ty, n, .w, false, []⟩] := by
  refine Spec.intro h.run.1 fun I β w vals hH hM hA => (h.run.2 I β w vals hH hM hA).mono fun e w' ⟨v, r, S', I', β', he, ⟨b, hS, hk, hl, hm, hn, hc⟩, hi, hH', hM', hE, hlen, hβ⟩ => ?_
  subst hS
  have hb : [b][0]? = some b := rfl
  obtain ⟨p, hp, hbk⟩ := hH'.blk 0 b hb hl
  obtain ⟨hsp, hplen, hle, hmx, hor⟩ := whole_dyn hH' hb hl hk hp
  rw [hn] at hsp hor
  have hII : ∀ g, I' g → (I' g ∨ ∃ o, p.a = some (g, o)) := fun g h => .inl h
  have hwr : ∀ {g o : Nat}, p.a = some (g, o) → Wr β' [b] g := fun {g o} ha => ⟨0, b, p, o, hb, hl, hm, hp, ha⟩
  have hI2 : ∀ g, (I' g ∨ ∃ o, p.a = some (g, o)) → g < w'.heap.size := fun g hg => by
    rcases hg with hg | ⟨o, ha⟩
    · exact hM'.imm g hg
    · rcases hor with ⟨hno, _⟩ | ⟨g1, arr, fr, ha1, _, hhg, _⟩
      · rw [hno] at ha; cases ha
      · rw [ha1] at ha; cases ha; exact lt_of_heap hhg
  have hel : es.length ≤ b.cs.length := by
    rcases hc with ⟨_, rfl⟩ | ⟨_, hc⟩
    · exact Nat.le_refl _
    · rw [← hc, List.length_take]; omega
  have htk : b.cs.take es.length = es := by
    rcases hc with ⟨_, rfl⟩ | ⟨_, hc⟩
    · rw [List.take_length]
    · exact hc
  have hIs : (PV.sl n es).Is w' (fun g => I' g ∨ ∃ o, p.a = some (g, o)) β' v := by
    simp only [PV.Is]
    rcases hor with ⟨hno, hc0, hw⟩ | ⟨g, arr, fr, ha, hw, hhg, hes, hown, has⟩
    · have h0 : es = [] := List.eq_nil_of_length_eq_zero (by omega)
      subst h0
      rcases hc with ⟨rfl, _⟩ | ⟨rfl, _⟩
      · simp only [PV.Is] at hi
        obtain ⟨p', hp', rfl⟩ := hi
        rw [hp] at hp'; cases hp'
        exact ⟨none, 0, by rw [hw]; rfl, Nat.le_refl _, Nat.zero_le _, (fun _ _ e => by cases e), fun hn => absurd rfl hn⟩
      · simp only [PV.Is] at hi
        obtain ⟨p', g', o', cap', hp', ha', _⟩ := hi
        rw [hp] at hp'; cases hp'
        rw [hno] at ha'; cases ha'
    · obtain ⟨xs, hxs, hxc⟩ := hes.row
      have hEs : IsEs w' (fun g => I' g ∨ ∃ o, p.a = some (g, o)) es n g 0 := by
        have h1 := hxs.take (k := es.length) hel
        rw [htk] at h1
        exact h1.at (fun j u hu => by
          rw [List.getElem?_take] at hu
          split at hu
          · have := hxc j u hu
            rwa [Nat.zero_add] at this
          · cases hu) hII (fun _ _ => rfl)
      have hgI : es.length ≠ 0 → ∃ g' o', (some (⟨g, 0, none⟩ : Addr)) = some ⟨g', o', none⟩ ∧ (I' g' ∨ ∃ o, p.a = some (g', o)) ∧ 0 < n := fun _ => ⟨g, 0, rfl, .inr ⟨0, ha⟩, hsp⟩
      rcases hc with ⟨rfl, hce⟩ | ⟨rfl, _⟩
      · simp only [PV.Is] at hi
        obtain ⟨p', hp', rfl⟩ := hi
        rw [hp] at hp'; cases hp'
        have hpl : p.len = es.length := by rw [← hplen, hce]
        exact ⟨some ⟨g, 0, none⟩, p.cap, by rw [hw, hpl], by omega, by omega, (fun g' o' e => by cases e; exact hEs), hgI⟩
      · simp only [PV.Is] at hi
        obtain ⟨p', g', o', cap', hp', ha', rfl, hlc⟩ := hi
        rw [hp] at hp'; cases hp'
        rw [ha] at ha'; cases ha'
        exact ⟨some ⟨g, 0, none⟩, cap', rfl, hlc, by omega, (fun g' o' e => by cases e; exact hEs), hgI⟩
  refine ⟨v, .sl n es, _, _, β', he, ⟨rfl, rfl⟩, hIs, ⟨fun l hl2 => hH'.far l hl2, fun l b2 hb2 hlive => ?_⟩, ⟨hI2, fun g cs hg => ⟨.inl (hM'.tab g cs hg).1, IsAt.mono hII (fun _ _ => rfl) _ _ _ rfl (hM'.tab g cs hg).2⟩, hM'.row⟩, ⟨hE.os, hE.tape, hE.output, hE.size, hE.block, fun g _ h => ?_, fun g hg => .inl (hE.imm g hg), fun g hg h => ?_⟩, hlen, hβ⟩
  · match l, hb2 with
    | 0, hb2 => cases hb2; cases hlive
    | l + 1, hb2 => simp at hb2
  · obtain ⟨l, b2, p2, o2, hb2, hlive, _⟩ := h
    match l, hb2 with
    | 0, hb2 => cases hb2; cases hlive
    | l + 1, hb2 => simp at hb2
  · rcases h with h | ⟨o, ha⟩
    · exact hE.new g hg h
    · exact .inr (hE.wr g hg (hwr ha))
/-- the same, where the block is the second one -/
theorem Spec.cut1 {f : FuncId} {args : List PV} {z b0 : PBlk} (hz : z.k = .loc) (hzm : z.m = .w) (hzl : z.live = true) {n : Nat} {es : List PV} (h : Spec G f args [z, b0] [] fun r S' => ∃ b : PBlk, S' = [z, b] ∧ b.k = .dyn ∧ b.live = true ∧ b.m = .w ∧ b.size = n ∧ ((r = .wref 1 ∧ b.cs = es) ∨ (r = .ref 1 0 es.length ∧ b.cs.take es.length = es))) :
    Spec G f args [z, b0] [] fun r S' => r = .sl n es ∧ S' = [z, ⟨.dyn, b0.ty, n, .w, false, []⟩] := by
  refine Spec.intro h.run.1 fun I β w vals hH hM hA => (h.run.2 I β w vals hH hM hA).mono fun e w' ⟨v, r, S', I', β', he, ⟨b, hS, hk, hl, hm, hn, hc⟩, hi, hH', hM', hE, hlen, hβ⟩ => ?_
  subst hS
  have hb : [z, b][1]? = some b := rfl
  obtain ⟨p, hp, hbk⟩ := hH'.blk 1 b hb hl
  obtain ⟨hsp, hplen, hle, hmx, hor⟩ := whole_dyn hH' hb hl hk hp
  rw [hn] at hsp hor
  have hII : ∀ g, I' g → (I' g ∨ ∃ o, p.a = some (g, o)) := fun g h => .inl h
  have hwr : ∀ {g o : Nat}, p.a = some (g, o) → Wr β' [z, b] g := fun {g o} ha => ⟨1, b, p, o, hb, hl, hm, hp, ha⟩
  have hI2 : ∀ g, (I' g ∨ ∃ o, p.a = some (g, o)) → g < w'.heap.size := fun g hg => by
    rcases hg with hg | ⟨o, ha⟩
    · exact hM'.imm g hg
    · rcases hor with ⟨hno, _⟩ | ⟨g1, arr, fr, ha1, _, hhg, _⟩
      · rw [hno] at ha; cases ha
      · rw [ha1] at ha; cases ha; exact lt_of_heap hhg
  have hel : es.length ≤ b.cs.length := by
    rcases hc with ⟨_, rfl⟩ | ⟨_, hc⟩
    · exact Nat.le_refl _
    · rw [← hc, List.length_take]; omega
  have htk : b.cs.take es.length = es := by
    rcases hc with ⟨_, rfl⟩ | ⟨_, hc⟩
    · rw [List.take_length]
    · exact hc
  have hIs : (PV.sl n es).Is w' (fun g => I' g ∨ ∃ o, p.a = some (g, o)) β' v := by
    simp only [PV.Is]
    rcases hor with ⟨hno, hc0, hw⟩ | ⟨g, arr, fr, ha, hw, hhg, hes, hown, has⟩
    · have h0 : es = [] := List.eq_nil_of_length_eq_zero (by omega)
      subst h0
      rcases hc with ⟨rfl, _⟩ | ⟨rfl, _⟩
      · simp only [PV.Is] at hi
        obtain ⟨p', hp', rfl⟩ := hi
        rw [hp] at hp'; cases hp'
        exact ⟨none, 0, by rw [hw]; rfl, Nat.le_refl _, Nat.zero_le _, (fun _ _ e => by cases e), fun hn => absurd rfl hn⟩
      · simp only [PV.Is] at hi
        obtain ⟨p', g', o', cap', hp', ha', _⟩ := hi
        rw [hp] at hp'; cases hp'
        rw [hno] at ha'; cases ha'
    · obtain ⟨xs, hxs, hxc⟩ := hes.row
      have hEs : IsEs w' (fun g => I' g ∨ ∃ o, p.a = some (g, o)) es n g 0 := by
        have h1 := hxs.take (k := es.length) hel
        rw [htk] at h1
        exact h1.at (fun j u hu => by
          rw [List.getElem?_take] at hu
          split at hu
          · have := hxc j u hu
            rwa [Nat.zero_add] at this
          · cases hu) hII (fun _ _ => rfl)
      have hgI : es.length ≠ 0 → ∃ g' o', (some (⟨g, 0, none⟩ : Addr)) = some ⟨g', o', none⟩ ∧ (I' g' ∨ ∃ o, p.a = some (g', o)) ∧ 0 < n := fun _ => ⟨g, 0, rfl, .inr ⟨0, ha⟩, hsp⟩
      rcases hc with ⟨rfl, hce⟩ | ⟨rfl, _⟩
      · simp only [PV.Is] at hi
        obtain ⟨p', hp', rfl⟩ := hi
        rw [hp] at hp'; cases hp'
        have hpl : p.len = es.length := by rw [← hplen, hce]
        exact ⟨some ⟨g, 0, none⟩, p.cap, by rw [hw, hpl], by omega, by omega, (fun g' o' e => by cases e; exact hEs), hgI⟩
      · simp only [PV.Is] at hi
        obtain ⟨p', g', o', cap', hp', ha', rfl, hlc⟩ := hi
        rw [hp] at hp'; cases hp'
        rw [ha] at ha'; cases ha'
        exact ⟨some ⟨g, 0, none⟩, cap', rfl, hlc, by omega, (fun g' o' e => by cases e; exact hEs), hgI⟩
  refine ⟨v, .sl n es, _, _, β', he, ⟨rfl, rfl⟩, hIs, ⟨fun l hl2 => hH'.far l hl2, fun l b2 hb2 hlive => ?_⟩, ⟨hI2, fun g cs hg => ⟨.inl (hM'.tab g cs hg).1, IsAt.mono hII (fun _ _ => rfl) _ _ _ rfl (hM'.tab g cs hg).2⟩, hM'.row⟩, ⟨hE.os, hE.tape, hE.output, hE.size, hE.block, fun g _ h => ?_, fun g hg => .inl (hE.imm g hg), fun g hg h => ?_⟩, hlen, hβ⟩
  · match l, hb2 with
    | 0, hb2 =>
      cases hb2
      obtain ⟨p0, hp0, hk0⟩ := hH'.blk 0 z rfl hlive
      rw [hz] at hk0
      obtain ⟨g0, o0, arr, ty, fr, q1, q2, q3, q4⟩ := hk0
      obtain ⟨r1, r2, r3⟩ := q4.1 (by rw [hzm]; decide)
      refine ⟨p0, hp0, ?_⟩
      rw [hz]
      refine ⟨g0, o0, arr, ty, fr, q1, q2, CellsAt.mono hII (fun _ _ => rfl) (fun _ _ h => h) q3, ⟨fun _ => ⟨r1, fun hI => ?_, fun l' b' hne hl' hlive' => ?_⟩, fun hm' => by rw [hzm] at hm'; cases hm'⟩⟩
      · rcases hI with hI | ⟨o, ha⟩
        · exact r2 hI
        · exact r3 1 b (by decide) rfl hl p g0 o hp ha rfl
      · match l', hl' with
        | 0, _ => exact absurd rfl hne
        | 1, hl' => cases hl'; cases hlive'
        | l' + 2, hl' => simp at hl'
    | 1, hb2 => cases hb2; cases hlive
    | l + 2, hb2 => simp at hb2
  · obtain ⟨l, b2, p2, o2, hb2, hlive, hm2, hp2, ha2⟩ := h
    match l, hb2 with
    | 0, hb2 => cases hb2; exact hE.wr _ (by assumption) ⟨0, z, p2, o2, rfl, hzl, hm2, hp2, ha2⟩
    | 1, hb2 => cases hb2; cases hlive
    | l + 2, hb2 => simp at hb2
  · rcases h with h | ⟨o, ha⟩
    · exact hE.new g hg h
    · exact .inr (hE.wr g hg (hwr ha))
end

end Go.Proofs.YtfnjlkmhnhojpaaDoor.Pw

/- Calls of functions that may move some of the caller's blocks (append through a pointer); a variable that is nil as a list of its own; a list of the caller's that doesn't change any more. -/
namespace Go.Proofs.YtfnjlkmhnhojpaaDoor.Pw
open Go Go.RowKit

def canL (S : List PBlk) (l : Nat) : Bool := match S[l]? with
  | some b => b.can
  | none => false
theorem canL_ok {S : List PBlk} {l : Nat} (h : canL S l = true) : l < S.length ∧ ∀ b, S[l]? = some b → b.m = .w := by
  unfold canL at h
  split at h
  · rename_i b hb
    refine ⟨(List.getElem?_eq_some_iff.1 hb).1, fun b' hb' => ?_⟩
    rw [hb] at hb'; cases hb'
    unfold PBlk.can at h
    simp only [Bool.and_eq_true] at h
    cases hm : b.m with
    | w => rfl
    | p => rw [hm] at h; cases h.2
    | r => rw [hm] at h; cases h.2
  · cases h
/-- blocks whose cells lead to none of rl -/
def restB (rl : List Nat) (b : PBlk) : Bool := match b.k with
  | .dyn => true
  | _ => b.cs.all fun c => c.uses.all fun l => !(inL l rl)
def restOk (rl : List Nat) (T : List PBlk) : Bool := T.all (restB rl)
theorem restOk_ok {rl : List Nat} {T : List PBlk} (h : restOk rl T = true) {b : PBlk} (hb : b ∈ T) (hk : b.k ≠ .dyn) : ∀ c ∈ b.cs, ∀ m ∈ c.uses, m ∉ rl := fun c hc m hm hr => by
  have h1 := List.all_eq_true.1 h b hb
  unfold restB at h1
  have h2 : b.cs.all (fun c => c.uses.all fun l => !(inL l rl)) = true := by
    cases hkk : b.k with
    | dyn => exact absurd hkk hk
    | loc => rw [hkk] at h1; exact h1
    | arr => rw [hkk] at h1; exact h1
  have h3 := List.all_eq_true.1 (List.all_eq_true.1 h2 c hc) m hm
  rw [inL_iff.2 hr] at h3
  cases h3
section
variable {w w' : World} {I I' : Nat → Prop} {β β' : Places} {G : Gx} {s : PSt} {a : Act} {st st' : List PBlk}
theorem CellsAt.monoU {cs : List PV} {arr : Array Value} {o : Nat} (hI : ∀ g, I g → I' g) (hw : ∀ g, I g → w'.heap[g]? = w.heap[g]?) (hb : ∀ c ∈ cs, ∀ l ∈ c.uses, ∀ p, β l = some p → β' l = some p) (h : CellsAt w I β cs arr o) : CellsAt w' I' β' cs arr o :=
  fun i c hc => let ⟨v, h1, h2, h3⟩ := h i c hc; ⟨v, h1, PV.Is.mono hI hw c β β' v (fun l p hl => hb c (List.mem_of_getElem? hc) l hl p) h2, h3⟩
theorem BlkOk.monoU {l : Nat} {b : PBlk} (hI : ∀ g, I g → I' g) (hw : ∀ g, I g → w'.heap[g]? = w.heap[g]?) (hβ : ∀ p, β l = some p → β' l = some p) (hu : b.k ≠ .dyn → ∀ c ∈ b.cs, ∀ l ∈ c.uses, ∀ p, β l = some p → β' l = some p)
    (hg : ∀ p g o, β l = some p → p.a = some (g, o) → w'.heap[g]? = w.heap[g]? ∧ (b.m ≠ .r → ¬ I' g ∧ ∀ l' b', l' ≠ l → st'[l']? = some b' → b'.live = true → ∀ p g' o', β' l' = some p → p.a = some (g', o') → g' ≠ g)) (hb : BlkOk I β st w l b) : BlkOk I' β' st' w' l b := by
  obtain ⟨p, hp, hk⟩ := hb
  refine ⟨p, hβ p hp, ?_⟩
  have own : ∀ {g o : Nat} {fr : Nat × Nat}, p.a = some (g, o) → Own I β st l g fr b → Own I' β' st' l g fr b := fun ha ho => ⟨fun hr => ⟨(ho.1 hr).1, (hg p _ _ hp ha).2 hr⟩, fun hr => hI _ (ho.2 hr)⟩
  split at hk
  · rename_i hkk
    obtain ⟨g, o, arr, ty, fr, ha, hh, hc, ho⟩ := hk
    exact ⟨g, o, arr, ty, fr, ha, (hg p g o hp ha).1.trans hh, hc.monoU hI hw (hu (by rw [hkk]; nofun)), own ha ho⟩
  · rename_i hkk
    obtain ⟨g, arr, fr, ha, hh, hc, ho, h1⟩ := hk
    exact ⟨g, arr, fr, ha, (hg p g 0 hp ha).1.trans hh, hc.monoU hI hw (hu (by rw [hkk]; nofun)), own ha ho, h1⟩
  · obtain ⟨h1, hk⟩ := hk
    refine ⟨h1, ?_⟩
    rcases hk with h | ⟨g, arr, fr, ha, hh, hc, ho, h2⟩
    · exact .inl h
    · exact .inr ⟨g, arr, fr, ha, (hg p g 0 hp ha).1.trans hh, IsEs.mono hI hw _ _ _ _ (hg p g 0 hp ha).1 hc, own ha ho, h2⟩

/-- a call whose store is the first blocks; those of rl may lie elsewhere behind it -/
theorem Spec.useR {f : FuncId} {args args' : List PV} {r0 : PV} {S0 S1 : List PBlk} {rl : List Nat} {K : PV → List PBlk → Prop} (h : Spec G f args' S0 rl fun r S' => r = r0 ∧ S' = S1) (hm : modeS S0 S1 = true) (hlow : S0.all (lowB S0.length) = true) (hu : (usesL args').all (fun l => Nat.blt l S0.length) = true)
    (hr0 : r0.uses.all (fun l => Nat.blt l S0.length) = true) (hrl : rl.all (fun l => canL S0 l) = true) (hle : leL leK args args') (hK : stLe st S0 fun T => (bif restOk rl T then True else False) ∧ frBB S1 fun S1 => appK S1 T (K r0)) : Spec G f args st rl K := by
  obtain ⟨st0, T, rfl, hl0, hk, hle0⟩ := stLe_ok hK
  obtain ⟨hT, hk⟩ := hk
  replace hT := (bif_ok hT).1
  replace hk := appK_ok (frBB_ok hk)
  obtain ⟨hl1, hmd⟩ := modeS_ok hm
  refine Spec.intro h.run.1 fun I β w vals hH hM hA => ?_
  let β0 : Places := fun l => if l < S0.length then β l else none
  have hβ0 : ∀ l, l < S0.length → β0 l = β l := fun l hl => if_pos hl
  have hβn : ∀ {l p}, β0 l = some p → l < S0.length ∧ β l = some p := fun {l p} h => by
    by_cases hl : l < S0.length
    · exact ⟨hl, by rw [← hβ0 l hl]; exact h⟩
    · have : β0 l = none := if_neg hl
      rw [this] at h; cases h
  have old : ∀ {l : Nat} {b' : PBlk}, S0[l]? = some b' → l < S0.length ∧ ∃ b, (st0 ++ T)[l]? = some b ∧ leBlk b b' := fun {l b'} hb' => by
    have hlt : l < S0.length := (List.getElem?_eq_some_iff.1 hb').1
    have hlt0 : l < st0.length := by omega
    refine ⟨hlt, st0[l], by rw [List.getElem?_append_left hlt0]; simp [hlt0], hle0 l _ b' (by simp [hlt0]) hb'⟩
  have low : ∀ {l : Nat} {b' : PBlk}, S0[l]? = some b' → b'.k ≠ .dyn → ∀ c ∈ b'.cs, ∀ m ∈ c.uses, m < S0.length := fun {l b'} hb' hk c hc m hm' => by
    rw [List.all_eq_true] at hlow
    have := hlow b' (List.mem_of_getElem? hb')
    unfold lowB at this
    have hall : b'.cs.all (fun c => c.uses.all fun l => Nat.blt l S0.length) = true := by
      cases hkk : b'.k with
      | dyn => exact absurd hkk hk
      | loc => rw [hkk] at this; exact this
      | arr => rw [hkk] at this; exact this
    rw [List.all_eq_true] at hall
    have := hall c hc
    rw [List.all_eq_true] at this
    exact Nat.le_of_ble_eq_true (this m hm')
  have hH0 : HeapOk I β0 S0 w := by
    refine ⟨fun l hl => if_neg (by omega), fun l b' hb' hlive => ?_⟩
    obtain ⟨hlt, b, hb, hle1⟩ := old hb'
    obtain ⟨e1, e2, e3, e4, e5, e6, e7⟩ := leBlk_ok hle1
    obtain ⟨p, hp, hB⟩ := hH.blk l b hb e4
    have own : ∀ {g : Nat} {fr : Nat × Nat}, Own I β (st0 ++ T) l g fr b → Own I β0 S0 l g fr b' := fun {g fr} ho => by
      refine ⟨fun hr => ?_, fun hr => ho.2 (by rw [e3]; exact hr)⟩
      obtain ⟨h1, h2, h3⟩ := ho.1 (by rw [e3]; exact hr)
      refine ⟨h1, h2, fun l2 b2 hne hl2 hlive2 p2 g2 o2 hp2 ha2 => ?_⟩
      obtain ⟨_, b3, hb3, hle3⟩ := old hl2
      exact h3 l2 b3 hne hb3 (leBlk_ok hle3).2.2.2.1 p2 g2 o2 (hβn hp2).2 ha2
    have cells : b'.k ≠ .dyn → ∀ {arr : Array Value} {o : Nat}, CellsAt w I β b.cs arr o → CellsAt w I β0 b'.cs arr o := fun hk {arr o} hc i c hi => by
      have hc2 : CellsAt w I β b'.cs arr o := by
        rcases e7 with ⟨hd, _⟩ | ⟨_, h7⟩
        · exact absurd (e6 ▸ hd) hk
        · exact leL_cells h7 hc
      obtain ⟨u, hu', hi', h1⟩ := hc2 i c hi
      exact ⟨u, hu', PV.Is.mono (fun _ h => h) (fun _ _ => rfl) c β β0 u (fun m p hm' hp' => by rw [hβ0 m (low hb' hk c (List.mem_of_getElem? hi) m hm')]; exact hp') hi', h1⟩
    refine ⟨p, by rw [hβ0 l hlt]; exact hp, ?_⟩
    split at hB
    · rename_i hkk
      have hk' : b'.k = .loc := by rw [← e6]; exact hkk
      obtain ⟨g, o, arr, ty, fr, h1, h2, h3, ho⟩ := hB
      rw [hk']
      exact ⟨g, o, arr, ty, fr, h1, h2, cells (by rw [hk']; nofun) h3, own ho⟩
    · rename_i hkk
      have hk' : b'.k = .arr := by rw [← e6]; exact hkk
      obtain ⟨g, arr, fr, h1, h2, h3, ho, h4, h5, h6, h7, h8⟩ := hB
      have hlen : b'.cs.length = b.cs.length := by
        rcases e7 with ⟨hd, _⟩ | ⟨_, h9⟩
        · rw [hd] at hkk; cases hkk
        · exact (leL_len h9).symm
      rw [hk']
      exact ⟨g, arr, fr, h1, by rw [← e1]; exact h2, cells (by rw [hk']; nofun) h3, own ho, by rw [hlen, ← e2]; exact h4, h5, h6, by rw [← e2]; exact h7, by rw [← e2]; exact h8⟩
    · rename_i hkk
      have hk' : b'.k = .dyn := by rw [← e6]; exact hkk
      have hcs : b.cs = b'.cs := by
        rcases e7 with ⟨_, h9⟩ | ⟨hd, _⟩
        · exact h9
        · exact absurd hkk hd
      obtain ⟨⟨h1, h2, h3, h4⟩, hB⟩ := hB
      rw [hk']
      refine ⟨⟨by rw [← e2]; exact h1, by rw [← hcs]; exact h2, h3, h4⟩, ?_⟩
      rcases hB with h | ⟨g, arr, fr, h5, h6, h7, ho, h8⟩
      · exact .inl h
      · exact .inr ⟨g, arr, fr, h5, by rw [← e1]; exact h6, by rw [← hcs, ← e2]; exact h7, own ho, by rw [← e2]; exact h8⟩
  have hA' : IsL w I args' β0 vals := by
    have := leL_ok (fun _ _ => leK_ok) hle hA
    refine IsL.mono (fun _ h => h) (fun _ _ => rfl) args' β β0 vals (fun m p hm' hp' => ?_) this
    rw [List.all_eq_true] at hu
    rw [hβ0 m (Nat.le_of_ble_eq_true (hu m hm'))]; exact hp'
  refine (h.run.2 I β0 w vals hH0 hM hA').mono fun e w' ⟨v, r, S', I', β', he, ⟨e1, e2⟩, hi, hH', hM', hE, hlen, hβ⟩ => ?_
  subst e1; subst e2
  have hβ' : ∀ l, l < S0.length → l ∉ rl → β' l = β l := fun l hl hr => (hβ l hl hr).trans (hβ0 l hl)
  let β2 : Places := fun l => if l < S0.length then β' l else β l
  have h2lo : ∀ l, l < S0.length → β2 l = β' l := fun l hl => if_pos hl
  have h2hi : ∀ l, ¬ l < S0.length → β2 l = β l := fun l hl => if_neg hl
  have hβm : ∀ l p, β' l = some p → β2 l = some p := fun l p hp => by
    have : l < S0.length := by have := hH'.lt hp; omega
    rw [h2lo l this]; exact hp
  have hcan : ∀ l, l ∈ rl → l < S0.length ∧ ∀ b, S0[l]? = some b → b.m = .w := fun l hl => canL_ok (List.all_eq_true.1 hrl l hl)
  have wr0 : ∀ {g}, Wr β0 S0 g → Wr β (st0 ++ T) g := fun {g} ⟨l, b, p, o, h1, h2, h3, h4, h5⟩ => by
    obtain ⟨hlt, b2, hb2, hle2⟩ := old h1
    obtain ⟨_, _, q3, q4, _⟩ := leBlk_ok hle2
    exact ⟨l, b2, p, o, hb2, q4, by rw [q3]; exact h3, (hβn h4).2, h5⟩
  have wr1 : ∀ {g}, Wr β2 (S' ++ T) g → (Wr β' S' g) ∨ ∃ l b p o, S0.length ≤ l ∧ (st0 ++ T)[l]? = some b ∧ b.live = true ∧ b.m = .w ∧ β l = some p ∧ p.a = some (g, o) := fun {g} ⟨l, b, p, o, h1, h2, h3, h4, h5⟩ => by
    by_cases hl : l < S'.length
    · rw [List.getElem?_append_left hl] at h1
      exact .inl ⟨l, b, p, o, h1, h2, h3, by rw [← h2lo l (by omega)]; exact h4, h5⟩
    · rw [List.getElem?_append_right (by omega)] at h1
      refine .inr ⟨l, b, p, o, by omega, ?_, h2, h3, by rw [← h2hi l (by omega)]; exact h4, h5⟩
      rw [List.getElem?_append_right (by omega), hl0, hl1]; exact h1
  -- a block of the rest lies apart from those of S0
  have apart : ∀ {l : Nat} {b : PBlk} {p : Plc} {g o : Nat}, S0.length ≤ l → (st0 ++ T)[l]? = some b → b.live = true → β l = some p → p.a = some (g, o) → ¬ Wr β0 S0 g := fun {l b p g o} hl hb hlive hp ha ⟨l2, b2, p2, o2, h1, h2, h3, h4, h5⟩ => by
    obtain ⟨hlt, b3, hb3, hle3⟩ := old h1
    obtain ⟨_, _, q3, q4, _⟩ := leBlk_ok hle3
    obtain ⟨arr, ty, fr, _, ho⟩ := (hH.blk l2 b3 hb3 q4).place (hβn h4).2 h5
    exact (ho.1 (by rw [q3, h3]; nofun)).2.2 l b (by omega) hb hlive p g o hp ha rfl
  refine ⟨v, r, S' ++ T, I', β2, he, hk, PV.Is.mono (fun _ h => h) (fun _ _ => rfl) r β' β2 v (fun m p _ hp => hβm m p hp) hi, ⟨fun l hl => by rw [h2hi l (by simp only [List.length_append] at hl; omega)]; exact hH.far l (by simp only [List.length_append] at hl ⊢; omega), fun l b hb hlive => ?_⟩, hM', ⟨hE.os, hE.tape, hE.output, hE.size, fun g hg hn => hE.block g hg fun h => hn (wr0 h), fun g hg h => ?_, hE.imm, fun g hg h => (hE.new g hg h).imp id wr0⟩, by simp only [List.length_append]; omega, fun l _ hr => by
      by_cases hl : l < S0.length
      · rw [h2lo l hl]; exact hβ' l hl hr
      · exact h2hi l hl⟩
  · by_cases hl : l < S'.length
    · rw [List.getElem?_append_left hl] at hb
      have hB := hH'.blk l b hb hlive
      refine hB.mono (fun _ h => h) (fun _ _ => rfl) hβm fun p g o hp ha => ⟨rfl, fun hr => ?_⟩
      obtain ⟨arr, ty, fr, hh, ho⟩ := hB.place hp ha
      obtain ⟨h1, h2, h3⟩ := ho.1 hr
      refine ⟨h2, fun l2 b2 hne hb2 hlive2 p2 g2 o2 hp2 ha2 => ?_⟩
      by_cases hl2 : l2 < S'.length
      · rw [List.getElem?_append_left hl2] at hb2
        exact h3 l2 b2 hne hb2 hlive2 p2 g2 o2 (by rw [← h2lo l2 (by omega)]; exact hp2) ha2
      · rw [List.getElem?_append_right (by omega)] at hb2
        have hb2' : (st0 ++ T)[l2]? = some b2 := by rw [List.getElem?_append_right (by omega), hl0, hl1]; exact hb2
        have hp2' : β l2 = some p2 := by rw [← h2hi l2 (by omega)]; exact hp2
        have hg2 := hH.lives_lt ⟨l2, b2, p2, o2, hb2', hlive2, hp2', ha2⟩
        obtain ⟨b0, hb0⟩ : ∃ b0, S0[l]? = some b0 := ⟨S0[l]'(by omega), by simp [show l < S0.length by omega]⟩
        obtain ⟨_, q5⟩ := hmd l b0 b hb0 hb
        by_cases hlr : l ∈ rl
        · intro e
          subst e
          have hw : b.m = .w := by rw [← q5]; exact (hcan l hlr).2 b0 hb0
          exact apart (by omega) hb2' hlive2 hp2' ha2 (hE.wr _ hg2 ⟨l, b, p, o, hb, hlive, hw, hp, ha⟩)
        · obtain ⟨_, b3, hb3, hle3⟩ := old hb0
          obtain ⟨_, _, q3, q4, _⟩ := leBlk_ok hle3
          have hpo : β l = some p := by rw [← hβ' l (by omega) hlr]; exact hp
          obtain ⟨_, _, _, _, ho3⟩ := (hH.blk l b3 hb3 q4).place hpo ha
          exact (ho3.1 (by rw [q3, q5]; exact hr)).2.2 l2 b2 hne hb2' hlive2 p2 g2 o2 hp2' ha2
    · rw [List.getElem?_append_right (by omega)] at hb
      have hb' : (st0 ++ T)[l]? = some b := by rw [List.getElem?_append_right (by omega), hl0, hl1]; exact hb
      have hB := hH.blk l b hb' hlive
      have same : ∀ {p g o}, β l = some p → p.a = some (g, o) → g < w.heap.size ∧ w'.heap[g]? = w.heap[g]? := fun {p g o} hp ha => by
        have hlt := hH.lives_lt ⟨l, b, p, o, hb', hlive, hp, ha⟩
        exact ⟨hlt, hE.block g hlt (apart (by omega) hb' hlive hp ha)⟩
      have hTb := restOk_ok hT (List.mem_of_getElem? hb)
      refine hB.monoU hE.imm (fun g hg => hE.block g (hM.imm g hg) fun hw => ?_) (fun p hp => by rw [h2hi l (by omega)]; exact hp) (fun hk c hc m hm p hp => ?_) fun p g o hp ha => ⟨(same hp ha).2, fun hr => ?_⟩
      · exact hH0.wr_imm hw hg
      · by_cases hml : m < S0.length
        · rw [h2lo m hml, hβ' m hml (hTb hk c hc m hm)]; exact hp
        · rw [h2hi m hml]; exact hp
      · obtain ⟨arr, ty, fr, hh, ho⟩ := hB.place hp ha
        obtain ⟨h1, h2, h3⟩ := ho.1 hr
        refine ⟨fun hI => (hE.new g (same hp ha).1 hI).elim h2 (apart (by omega) hb' hlive hp ha), fun l2 b2 hne hb2 hlive2 p2 g2 o2 hp2 ha2 => ?_⟩
        have hgl := (same hp ha).1
        by_cases hl2 : l2 < S'.length
        · rw [List.getElem?_append_left hl2] at hb2
          have hp2' : β' l2 = some p2 := by rw [← h2lo l2 (by omega)]; exact hp2
          obtain ⟨b0, hb0⟩ : ∃ b0, S0[l2]? = some b0 := ⟨S0[l2]'(by omega), by simp [show l2 < S0.length by omega]⟩
          by_cases hlr : l2 ∈ rl
          · intro e
            subst e
            obtain ⟨_, q5⟩ := hmd l2 b0 b2 hb0 hb2
            have hw : b2.m = .w := by rw [← q5]; exact (hcan l2 hlr).2 b0 hb0
            exact apart (by omega) hb' hlive hp ha (hE.wr _ hgl ⟨l2, b2, p2, o2, hb2, hlive2, hw, hp2', ha2⟩)
          · obtain ⟨_, b3, hb3, hle3⟩ := old hb0
            exact h3 l2 b3 hne hb3 (leBlk_ok hle3).2.2.2.1 p2 g2 o2 (by rw [← hβ' l2 (by omega) hlr]; exact hp2') ha2
        · rw [List.getElem?_append_right (by omega)] at hb2
          exact h3 l2 b2 hne (by rw [List.getElem?_append_right (by omega), hl0, hl1]; exact hb2) hlive2 p2 g2 o2 (by rw [← h2hi l2 (by omega)]; exact hp2) ha2
  · rcases wr1 h with h | ⟨l, b, p, o, _, h2, h3, h4, h5, h6⟩
    · exact wr0 (hE.wr g hg h)
    · exact ⟨l, b, p, o, h2, h3, h4, h5, h6⟩

/-! ### lists of the caller's own that don't change any more -/
def frzV (st : List PBlk) (fz : List Nat) (x : PV) : PV := match x with
  | .wref l => bif inL l fz then (match st[l]? with
    | some ⟨.dyn, _, n, _, _, cs⟩ => .sl n cs
    | _ => .wref l) else .wref l
  | x => x
def TM.mapV (f : PV → PV) : TM → TM
  | .nil => .nil
  | .node v l r => .node (match v with
    | some x => some (f x)
    | none => none) (l.mapV f) (r.mapV f)
def PSt.frz (s : PSt) (fz : List Nat) : PSt := match s with
  | ⟨n, t, st, b, rl⟩ => ⟨n, t.mapV (frzV st fz), frzS fz st, b, rl⟩
theorem TM.mapV_get (f : PV → PV) : ∀ (t : TM) (n : Nat), (t.mapV f).get n = (t.get n).map f
  | .nil, _ => rfl
  | .node v l r, n => by
    show TM.get (.node (match v with
      | some x => some (f x)
      | none => none) (l.mapV f) (r.mapV f)) n = _
    rw [TM.get, TM.get]
    cases Nat.beq n 0 <;> cases Nat.beq (n % 2) 1 <;> simp only [cond_true, cond_false]
    · exact TM.mapV_get f r _
    · exact TM.mapV_get f l _
    · cases v <;> rfl
    · cases v <;> rfl
theorem frzS_get {S : List PBlk} {fz : List Nat} {l : Nat} {b : PBlk} (hb : (frzS fz S)[l]? = some b) : ∃ b0, S[l]? = some b0 ∧ b = { b0 with m := frzM (inL l fz) b0.m } := by
  unfold frzS at hb
  rw [mapM_get, Option.map_eq_some_iff] at hb
  obtain ⟨b0, h1, h2⟩ := hb
  rw [Nat.zero_add] at h2
  exact ⟨b0, h1, h2.symm⟩
theorem HeapOk.frz {S : List PBlk} (hH : HeapOk I β S w) (hM : ImmOk G I w) {fz : List Nat} (hz : okZ S fz = true) : HeapOk (LentI I β S fz) β (frzS fz S) w := by
  refine ⟨fun l hl => hH.far l (by unfold frzS at hl; rw [mapM_len] at hl; exact hl), fun l b hb hlive => ?_⟩
  obtain ⟨b0, hb0, rfl⟩ := frzS_get hb
  obtain ⟨p, hp, hk⟩ := hH.blk l b0 hb0 hlive
  have hII : ∀ g, I g → LentI I β S fz g := fun g h => .inl h
  have own : ∀ {g o : Nat} {fr : Nat × Nat}, p.a = some (g, o) → Own I β S l g fr b0 → Own (LentI I β S fz) β (frzS fz S) l g fr { b0 with m := frzM (inL l fz) b0.m } := fun {g o fr} ha ho => by
    refine ⟨fun hm => ?_, fun hm => ?_⟩
    · have hm0 : inL l fz = false ∧ b0.m ≠ .r := by
        cases hc : inL l fz with
        | true => simp only [hc, frzM, cond_true, ne_eq, not_true_eq_false] at hm
        | false => exact ⟨rfl, by simpa only [hc, frzM, cond_false] using hm⟩
      obtain ⟨h1, h2, h3⟩ := ho.1 hm0.2
      refine ⟨h1, fun hI => ?_, fun l2 b2 hne hl2 hlive2 p2 g2 o2 hp2 ha2 => ?_⟩
      · rcases hI with hI | ⟨l2, b2, p2, o2, hl2, hb2, hlive2, _, hp2, ha2⟩
        · exact h2 hI
        · refine h3 l2 b2 (fun e => ?_) hb2 hlive2 p2 g o2 hp2 ha2 rfl
          subst e
          rw [inL_iff.2 hl2] at hm0
          cases hm0.1
      · obtain ⟨b3, hb3, rfl⟩ := frzS_get hl2
        exact h3 l2 b3 hne hb3 hlive2 p2 g2 o2 hp2 ha2
    · cases hc : inL l fz with
      | true =>
        obtain ⟨b1, hb1, k1, k2⟩ := okZ_ok hz (inL_iff.1 hc)
        rw [hb0] at hb1; cases hb1
        exact .inr ⟨l, b0, p, o, inL_iff.1 hc, hb0, k1, k2, hp, ha⟩
      | false => exact hII g (ho.2 (by simpa only [hc, frzM, cond_false] using hm))
  have hwI : ∀ g, I g → w.heap[g]? = w.heap[g]? := fun _ _ => rfl
  refine ⟨p, hp, ?_⟩
  split at hk
  · rename_i hkk
    obtain ⟨g, o, arr, ty, fr, h1, h2, h3, ho⟩ := hk
    simp only [hkk]
    exact ⟨g, o, arr, ty, fr, h1, h2, CellsAt.mono hII hwI (fun _ _ h => h) h3, own h1 ho⟩
  · rename_i hkk
    obtain ⟨g, arr, fr, h1, h2, h3, ho, h4⟩ := hk
    simp only [hkk]
    exact ⟨g, arr, fr, h1, h2, CellsAt.mono hII hwI (fun _ _ h => h) h3, own h1 ho, h4⟩
  · rename_i hkk
    obtain ⟨h1, hk⟩ := hk
    simp only [hkk]
    refine ⟨h1, ?_⟩
    rcases hk with h | ⟨g, arr, fr, h2, h3, h4, ho, h5⟩
    · exact .inl h
    · exact .inr ⟨g, arr, fr, h2, h3, IsEs.mono hII hwI _ _ _ _ rfl h4, own h2 ho, h5⟩
theorem frzV_is {S : List PBlk} (hH : HeapOk I β S w) {fz : List Nat} (hz : okZ S fz = true) {x : PV} {v : Value} (hx : x.Is w I β v) : (frzV S fz x).Is w (LentI I β S fz) β v := by
  have keep : ∀ y : PV, y.Is w I β v → y.Is w (LentI I β S fz) β v := fun y hy => PV.Is.mono (fun _ h => .inl h) (fun _ _ => rfl) y β β v (fun _ _ _ h => h) hy
  unfold frzV
  split
  · rename_i l
    cases hc : inL l fz with
    | false => exact keep _ hx
    | true =>
      obtain ⟨b, hb, hlive, hm⟩ := okZ_ok hz (inL_iff.1 hc)
      simp only [cond_true]
      split
      · rename_i _ ty n m live cs hs
        rw [hb] at hs
        cases hs
        have h1 := lent_sl hH (inL_iff.1 hc) hb (n := n) (es := cs) (by
          simp only at hlive hm
          show (bif live && notP m && Nat.beq n n then cs = cs else False)
          rw [hlive, hm, Nat.beq_refl]; exact rfl) hx
        exact PV.Is.mono (fun _ h => h) (fun _ _ => rfl) _ no β v (fun l p hl => by simp [PV.uses] at hl) h1
      · exact keep _ hx
  · exact keep _ hx
theorem Sub.freeze (fz : List Nat) (hz : okZ s.st fz = true) : Sub G s (s.frz fz) := fun I β a w hR => by
  obtain ⟨n, t, st, b, rl⟩ := s
  refine ⟨LentI I β st fz, β, ⟨hR.small, hR.defers, hR.size, by show b ≤ (frzS fz st).length; unfold frzS; rw [mapM_len]; exact hR.base, fun i x hx => ?_, hR.heap.frz hR.imm hz, lent_imm hR.heap hR.imm⟩, ⟨⟨rfl, rfl, rfl, Nat.le_refl _, fun _ _ _ => rfl, fun g _ h => ?_, fun _ h => .inl h, fun g _ h => ?_⟩, rfl, rfl, rfl, fun _ _ _ => rfl⟩⟩
  · have hx' : (t.mapV (frzV st fz)).get i = some x := hx
    rw [TM.mapV_get, Option.map_eq_some_iff] at hx'
    obtain ⟨y, hy, rfl⟩ := hx'
    obtain ⟨v, hv, hi⟩ := hR.get i y hy
    exact ⟨v, hv, frzV_is hR.heap hz hi⟩
  · obtain ⟨l, b1, p, o, h1, h2, h3, h4, h5⟩ := h
    obtain ⟨b0, hb0, rfl⟩ := frzS_get h1
    refine ⟨l, b0, p, o, hb0, h2, ?_, h4, h5⟩
    cases hc : inL l fz with
    | true => simp only [hc, frzM, cond_true] at h3; cases h3
    | false => simpa only [hc, frzM, cond_false] using h3
  · rcases h with h | ⟨l, b1, p, o, hl, hb, hlive, hm, hp, ha⟩
    · exact .inl h
    · cases hmm : b1.m with
      | w => exact .inr ⟨l, b1, p, o, hb, hlive, hmm, hp, ha⟩
      | p => rw [hmm] at hm; cases hm
      | r =>
        obtain ⟨arr, ty, fr, _, ho⟩ := (hR.heap.blk l b1 hb hlive).place hp ha
        exact .inl (ho.2 hmm)
theorem SW.sub {c : Code} {Q : X → PSt → Prop} {s s' : PSt} (h : Sub G s s') (h' : SW G c Q s') : SW G c Q s := SW.intro fun I β a w hR => by
  obtain ⟨I', β', hR', hg⟩ := h I β a w hR
  exact h'.from hR' hg

/-! ### a loop of whose slots just some are kept -/
def PSt.bare (s : PSt) (vs : List (Nat × PV)) (st : List PBlk) : PSt := match s with
  | ⟨n, _, _, b, rl⟩ => ⟨n, layF vs .nil, st, b, rl⟩
theorem SW.loopX (hG : GOk G) (R : List (Nat × Plan)) {α : Type} {c : Code} {Q : X → PSt → Prop} (hc : planAll R c = true) (vs : α → List (Nat × PV)) (st : α → List PBlk) (μ : α → Nat) (x0 : α) (N : Nat) (π0 : Ren) (h0 : subK G.cx π0 s (s.bare (vs x0) (st x0)))
    (h : ∀ x, frS (s.bare (vs x) (st x)) (pw G R N c (backK (fun s' => ∃ y π, μ y < μ x ∧ subK G.cx π s' (s.bare (vs y) (st y))) Q))) : SW G (.loop c) Q s :=
  SW.inv hG (fun x => s.bare (vs x) (st x)) μ (N := N) hc x0 (subK_ok hG.ok h0) (fun x s' => ∃ y π, μ y < μ x ∧ subK G.cx π s' (s.bare (vs y) (st y))) (fun x s' ⟨y, π, hy, hs⟩ => ⟨y, hy, subK_ok hG.ok hs⟩) fun x => frS_ok (h x)

/-- a store as another one, the first blocks the same -/
theorem Spec.ren (hG : GOk G) {f : FuncId} {args : List PV} {S S' : List PBlk} {rl : List Nat} {K : PV → List PBlk → Prop} (h : Spec G f args S' rl K) (π : Ren) (hs : subK G.cx π ⟨0, .nil, S, S.length, []⟩ ⟨0, .nil, S', S.length, []⟩) (hu : (usesL args).all (fun l => Nat.blt l S.length) = true) (hrl : ∀ l ∈ rl, S.length ≤ l) : Spec G f args S [] K := by
  refine Spec.intro h.run.1 fun I β w vals hH hM hA => ?_
  have hR : Rel G I β ⟨0, .nil, S, S.length, []⟩ { tmps := #[], defers := [] } w := ⟨Nat.zero_le _, rfl, rfl, Nat.le_refl _, fun n x hx => (by cases hx), hH, hM⟩
  obtain ⟨I', β', hR', hg⟩ := subK_ok hG.ok hs I β _ w hR
  have hA' : IsL w I' args β' vals := IsL.mono hg.ext.imm (fun g hgI => hg.ext.block g (hM.imm g hgI) (fun hw => hH.wr_imm hw hgI)) args β β' vals (fun m p hm hp => by
    rw [List.all_eq_true] at hu
    rw [hg.low m (Nat.le_of_ble_eq_true (hu m hm)) (by simp)]; exact hp) hA
  have hlen : S.length ≤ S'.length := hR'.base
  refine (h.run.2 I' β' w vals hR'.heap hR'.imm hA').mono fun e w' ⟨v, r, S2, I2, β2, he, hK, hr, hH2, hM2, hE, hl, hβ⟩ => ?_
  refine ⟨v, r, S2, I2, β2, he, hK, hr, hH2, hM2, hg.ext.trans hE, by omega, fun l hl' _ => ?_⟩
  rw [hβ l (by omega) (fun hm => by have := hrl l hm; omega)]
  exact hg.low l hl' (by simp)
end

end Go.Proofs.YtfnjlkmhnhojpaaDoor.Pw

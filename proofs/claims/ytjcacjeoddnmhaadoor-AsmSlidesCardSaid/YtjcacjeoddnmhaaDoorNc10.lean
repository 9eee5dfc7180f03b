/- What the laws of this claim are proved with, joined (join.py) of 6 texts: no condition. -/
import Derived.Test.YtjcacjeoddnmhaaDoorNc8
import Derived.Test.YtjcacjeoddnmhaaDoorNc9
import Derived.Deep.OwnRows
set_option linter.unusedVariables false
set_option linter.unusedSimpArgs false

/- The orders of regions that draw. Written by a program (mkpl.py) off the given program; each is checked where it is used. -/
namespace Go.Proofs.YtjcacjeoddnmhaaDoor.Pw
open Go

/-- remontoire/remontoirelaw08.anchor -/
def P7 : List (Nat × Plan) := []
/-- remontoire/asm.Here -/
def P13 : List (Nat × Plan) := []
/-- remontoire/asm.Do -/
def P11 : List (Nat × Plan) := []
/-- remontoire/asm.Go -/
def P12 : List (Nat × Plan) := []
/-- remontoire/asm.Lay -/
def P16 : List (Nat × Plan) := [(4, .pure 0 <| .pure 1 <| .pure 2 <| .pure 4 <| .pure 5 <| .pure 7 <| .pure 8 <| .eff 3 (.eff 6 (.eff 9 (.eff 10 (.pure 11 <| .eff 12 (.pure 13 <| .done) (.nil)) (.nil)) (.sub 10 (.eff 9 (.pure 11 <| .eff 12 (.pure 13 <| .done) (.nil)) (.nil)) (.nil))) (.sub 9 (.eff 6 (.eff 10 (.pure 11 <| .eff 12 (.pure 13 <| .done) (.nil)) (.nil)) (.sub 10 (.eff 6 (.pure 11 <| .eff 12 (.pure 13 <| .done) (.nil)) (.nil)) (.nil))) (.sub 10 (.eff 6 (.eff 9 (.pure 11 <| .eff 12 (.pure 13 <| .done) (.nil)) (.nil)) (.sub 9 (.eff 6 (.pure 11 <| .eff 12 (.pure 13 <| .done) (.nil)) (.nil)) (.nil))) (.nil)))) (.sub 6 (.eff 3 (.eff 9 (.eff 10 (.pure 11 <| .eff 12 (.pure 13 <| .done) (.nil)) (.nil)) (.sub 10 (.eff 9 (.pure 11 <| .eff 12 (.pure 13 <| .done) (.nil)) (.nil)) (.nil))) (.sub 9 (.eff 3 (.eff 10 (.pure 11 <| .eff 12 (.pure 13 <| .done) (.nil)) (.nil)) (.sub 10 (.eff 3 (.pure 11 <| .eff 12 (.pure 13 <| .done) (.nil)) (.nil)) (.nil))) (.sub 10 (.eff 3 (.eff 9 (.pure 11 <| .eff 12 (.pure 13 <| .done) (.nil)) (.nil)) (.sub 9 (.eff 3 (.pure 11 <| .eff 12 (.pure 13 <| .done) (.nil)) (.nil)) (.nil))) (.nil)))) (.sub 9 (.eff 3 (.eff 6 (.eff 10 (.pure 11 <| .eff 12 (.pure 13 <| .done) (.nil)) (.nil)) (.sub 10 (.eff 6 (.pure 11 <| .eff 12 (.pure 13 <| .done) (.nil)) (.nil)) (.nil))) (.sub 6 (.eff 3 (.eff 10 (.pure 11 <| .eff 12 (.pure 13 <| .done) (.nil)) (.nil)) (.sub 10 (.eff 3 (.pure 11 <| .eff 12 (.pure 13 <| .done) (.nil)) (.nil)) (.nil))) (.sub 10 (.eff 3 (.eff 6 (.pure 11 <| .eff 12 (.pure 13 <| .done) (.nil)) (.nil)) (.sub 6 (.eff 3 (.pure 11 <| .eff 12 (.pure 13 <| .done) (.nil)) (.nil)) (.nil))) (.nil)))) (.sub 10 (.eff 3 (.eff 6 (.eff 9 (.pure 11 <| .eff 12 (.pure 13 <| .done) (.nil)) (.nil)) (.sub 9 (.eff 6 (.pure 11 <| .eff 12 (.pure 13 <| .done) (.nil)) (.nil)) (.nil))) (.sub 6 (.eff 3 (.eff 9 (.pure 11 <| .eff 12 (.pure 13 <| .done) (.nil)) (.nil)) (.sub 9 (.eff 3 (.pure 11 <| .eff 12 (.pure 13 <| .done) (.nil)) (.nil)) (.nil))) (.sub 9 (.eff 3 (.eff 6 (.pure 11 <| .eff 12 (.pure 13 <| .done) (.nil)) (.nil)) (.sub 6 (.eff 3 (.pure 11 <| .eff 12 (.pure 13 <| .done) (.nil)) (.nil)) (.nil))) (.nil)))) (.nil))))), (14, .pure 0 <| .pure 1 <| .pure 2 <| .pure 3 <| .pure 5 <| .pure 6 <| .pure 7 <| .pure 9 <| .load 4 [12, 11, 10] <| .load 8 [12, 11, 10] <| .pure 10 <| .eff 11 (.pure 12 <| .done) (.nil))]
/-- remontoire/asm.check -/
def P25 : List (Nat × Plan) := []
/-- (remontoire/asm.Item).Right -/
def P8 : List (Nat × Plan) := [(3, .pure 1 <| .load 0 [22, 21, 20, 19, 18, 17, 16, 15, 14, 13, 12, 11, 10, 9, 8, 7, 6, 5, 4] <| .load 2 [22, 21, 20, 19, 18, 17, 16, 15, 14, 13, 12, 11, 10, 9, 8, 7, 6, 5, 4, 3] <| .eff 3 (.pure 4 <| .pure 5 <| .pure 6 <| .load 7 [22, 21, 20, 19, 18, 17, 16, 15, 14, 13, 12, 11, 10, 9, 8] <| .eff 8 (.pure 9 <| .pure 10 <| .pure 11 <| .load 12 [22, 21, 20, 19, 18, 17, 16, 15, 14, 13] <| .eff 13 (.pure 14 <| .pure 15 <| .pure 16 <| .pure 17 <| .load 18 [22, 21, 20, 19] <| .pure 19 <| .pure 20 <| .pure 21 <| .pure 22 <| .done) (.nil)) (.nil)) (.nil)), (5, .pure 1 <| .pure 3 <| .load 0 [22, 21, 20, 19, 18, 17, 16, 15, 14, 13, 12, 11, 10, 9, 8, 7, 6] <| .load 2 [22, 21, 20, 19, 18, 17, 16, 15, 14, 13, 12, 11, 10, 9, 8, 7, 6, 5] <| .load 4 [22, 21, 20, 19, 18, 17, 16, 15, 14, 13, 12, 11, 10, 9, 8, 7, 6, 5] <| .eff 5 (.pure 6 <| .pure 7 <| .pure 8 <| .load 9 [22, 21, 20, 19, 18, 17, 16, 15, 14, 13, 12, 11, 10] <| .pure 10 <| .pure 11 <| .pure 12 <| .pure 13 <| .load 14 [22, 21, 20, 19, 18, 17, 16, 15] <| .pure 15 <| .pure 16 <| .pure 17 <| .pure 18 <| .load 19 [22, 21, 20] <| .eff 20 (.pure 21 <| .pure 22 <| .done) (.nil)) (.nil)), (7, .pure 1 <| .load 0 [10, 9, 8, 7, 6, 5, 4] <| .load 2 [10, 9, 8, 7, 6, 5, 4, 3] <| .eff 3 (.pure 4 <| .pure 5 <| .pure 6 <| .load 7 [10, 9, 8] <| .eff 8 (.pure 9 <| .pure 10 <| .done) (.nil)) (.nil)), (9, .pure 1 <| .load 0 [24, 23, 22, 21, 20, 19, 18, 17, 16, 15, 14, 13, 12, 11, 10, 9, 8, 7, 6, 5, 4] <| .load 2 [24, 23, 22, 21, 20, 19, 18, 17, 16, 15, 14, 13, 12, 11, 10, 9, 8, 7, 6, 5, 4, 3] <| .eff 3 (.pure 4 <| .pure 5 <| .pure 6 <| .load 7 [24, 23, 22, 21, 20, 19, 18, 17, 16, 15, 14, 13, 12, 11, 10, 9, 8] <| .pure 8 <| .pure 9 <| .pure 10 <| .pure 11 <| .load 12 [24, 23, 22, 21, 20, 19, 18, 17, 16, 15, 14, 13] <| .pure 13 <| .pure 14 <| .pure 15 <| .pure 16 <| .pure 18 <| .load 17 [24, 23, 22, 21] <| .load 19 [24, 23, 22, 21, 20] <| .pure 20 <| .pure 21 <| .pure 22 <| .pure 23 <| .pure 24 <| .done) (.nil))]
/-- (remontoire/inst.Inst).Right -/
def P21 : List (Nat × Plan) := []
/-- (remontoire/inst.Form).Is -/
def P33 : List (Nat × Plan) := []
/-- (remontoire/inst.Form).Shape -/
def P35 : List (Nat × Plan) := []
/-- remontoire/inst.wideRule -/
def P34 : List (Nat × Plan) := []
/-- remontoire/inst.narrowRule -/
def P54 : List (Nat × Plan) := []
/-- (remontoire/inst.class).has -/
def P36 : List (Nat × Plan) := []
/-- remontoire/inst.Low -/
def P55 : List (Nat × Plan) := []
/-- (remontoire/inst.Inst).listed -/
def P37 : List (Nat × Plan) := []
/-- (remontoire/inst.span).has -/
def P38 : List (Nat × Plan) := []
/-- remontoire/inst.may -/
def P39 : List (Nat × Plan) := []
/-- (remontoire/inst.Inst).shift -/
def P40 : List (Nat × Plan) := []
/-- remontoire/inst.barrel -/
def P56 : List (Nat × Plan) := []
/-- (remontoire/inst.Inst).apart -/
def P41 : List (Nat × Plan) := []
/-- (remontoire/inst.Inst).Branch -/
def P20 : List (Nat × Plan) := []
/-- remontoire/asm.may -/
def P22 : List (Nat × Plan) := []
/-- remontoire/asm.Pad -/
def P14 : List (Nat × Plan) := []
/-- (*remontoire/asm.layer).lay -/
def P26 : List (Nat × Plan) := [(4, .pure 0 <| .pure 1 <| .pure 2 <| .pure 4 <| .pure 5 <| .pure 6 <| .pure 7 <| .pure 9 <| .pure 10 <| .pure 11 <| .pure 12 <| .pure 13 <| .load 3 [18, 17, 16, 15] <| .load 8 [18, 17, 16, 15] <| .eff 14 (.pure 15 <| .eff 16 (.pure 17 <| .eff 18 (.done) (.nil)) (.nil)) (.nil)), (6, .pure 0 <| .pure 1 <| .pure 2 <| .pure 4 <| .pure 6 <| .load 3 [7] <| .load 5 [7] <| .eff 7 (.done) (.nil))]
/-- (*remontoire/asm.layer).bytes -/
def P45 : List (Nat × Plan) := [(8, .pure 0 <| .pure 2 <| .pure 3 <| .pure 7 <| .load 1 [10, 9, 6] <| .load 4 [10, 9, 6, 5] <| .pure 5 <| .pure 6 <| .load 8 [10, 9] <| .pure 9 <| .pure 10 <| .done)]
/-- (remontoire/inst.Inst).Bytes -/
def P19 : List (Nat × Plan) := []
/-- (remontoire/inst.Form).Size -/
def P32 : List (Nat × Plan) := []
/-- (remontoire/inst.Form).Wide -/
def P49 : List (Nat × Plan) := []
/-- (*remontoire/asm.layer).widen -/
def P27 : List (Nat × Plan) := []
/-- (*remontoire/asm.layer).reaches -/
def P46 : List (Nat × Plan) := []
/-- (*remontoire/asm.layer).far -/
def P65 : List (Nat × Plan) := [(1, .pure 0 <| .pure 1 <| .pure 2 <| .pure 4 <| .pure 5 <| .pure 6 <| .pure 8 <| .pure 13 <| .pure 14 <| .pure 15 <| .pure 17 <| .load 3 [22, 21, 20, 12] <| .load 7 [22, 21, 20, 12, 11, 10, 9] <| .pure 9 <| .pure 10 <| .load 11 [22, 21, 20, 12] <| .load 16 [22, 21, 20, 19, 18] <| .pure 18 <| .load 19 [22, 21, 20] <| .eff 12 (.pure 20 <| .pure 21 <| .pure 22 <| .done) (.nil))]
/-- (*remontoire/asm.layer).write -/
def P28 : List (Nat × Plan) := []
/-- (*remontoire/asm.layer).insts -/
def P47 : List (Nat × Plan) := []
/-- (*remontoire/asm.layer).branch -/
def P66 : List (Nat × Plan) := [(1, .pure 0 <| .pure 1 <| .pure 3 <| .pure 4 <| .pure 5 <| .pure 7 <| .load 6 [14, 12, 11, 10, 9, 8] <| .pure 8 <| .pure 9 <| .load 10 [14, 12, 11] <| .pure 11 <| .eff 2 (.pure 12 <| .eff 13 (.eff 14 (.done) (.nil)) (.nil)) (.cons 13 (.eff 2 (.pure 12 <| .eff 14 (.done) (.nil)) (.nil)) (.nil)))]
/-- remontoire/code.Bytes -/
def P48 : List (Nat × Plan) := []
/-- remontoire/code.Word -/
def P67 : List (Nat × Plan) := []
/-- remontoire/code.pack -/
def P53 : List (Nat × Plan) := [(2, .pure 0 <| .load 1 [6, 5, 4, 2] <| .load 3 [6, 5, 4] <| .eff 2 (.eff 4 (.pure 5 <| .pure 6 <| .done) (.nil)) (.nil)), (3, .pure 0 <| .load 1 [6, 5, 4, 2] <| .load 3 [6, 5, 4] <| .eff 2 (.eff 4 (.pure 5 <| .pure 6 <| .done) (.nil)) (.nil))]
/-- (remontoire/inst.Form).Bits -/
def P50 : List (Nat × Plan) := []
/-- remontoire/inst.bitsOf -/
def P68 : List (Nat × Plan) := []
/-- remontoire/code.wide -/
def P79 : List (Nat × Plan) := [(1, .pure 0 <| .pure 3 <| .load 1 [7, 6, 2] <| .pure 2 <| .pure 6 <| .load 4 [7, 5] <| .pure 5 <| .pure 7 <| .done), (12, .pure 2 <| .pure 6 <| .pure 10 <| .load 0 [15, 14, 9, 8, 7, 5, 4, 3, 1] <| .load 11 [15, 14, 13, 12] <| .pure 12 <| .pure 13 <| .eff 1 (.eff 3 (.pure 4 <| .pure 5 <| .eff 7 (.pure 8 <| .pure 9 <| .pure 14 <| .pure 15 <| .done) (.nil)) (.nil)) (.nil))]
/-- remontoire/code.plain -/
def P85 : List (Nat × Plan) := []
/-- remontoire/code.twelve -/
def P86 : List (Nat × Plan) := []
/-- remontoire/code.cut -/
def P83 : List (Nat × Plan) := [(1, .pure 0 <| .pure 1 <| .pure 2 <| .pure 3 <| .pure 4 <| .pure 5 <| .pure 6 <| .pure 7 <| .pure 8 <| .pure 9 <| .pure 10 <| .done)]
/-- remontoire/code.condWide -/
def P87 : List (Nat × Plan) := []
/-- remontoire/code.jumpWide -/
def P88 : List (Nat × Plan) := []
/-- remontoire/code.same -/
def P84 : List (Nat × Plan) := []
/-- remontoire/code.narrow -/
def P80 : List (Nat × Plan) := [(1, .pure 0 <| .pure 3 <| .pure 6 <| .load 1 [11, 10, 9, 2] <| .pure 2 <| .pure 9 <| .load 4 [11, 10, 5] <| .pure 5 <| .pure 10 <| .load 7 [11, 8] <| .pure 8 <| .pure 11 <| .done), (24, .pure 0 <| .pure 5 <| .load 1 [10, 9, 8, 4, 3, 2] <| .pure 2 <| .load 6 [10, 9, 8, 7] <| .pure 7 <| .eff 3 (.pure 4 <| .eff 8 (.pure 9 <| .pure 10 <| .done) (.nil)) (.nil)), (26, .pure 0 <| .pure 5 <| .load 1 [10, 9, 8, 4, 3, 2] <| .pure 2 <| .load 6 [10, 9, 8, 7] <| .pure 7 <| .eff 3 (.pure 4 <| .eff 8 (.pure 9 <| .pure 10 <| .done) (.nil)) (.nil)), (30, .pure 0 <| .pure 4 <| .load 1 [7, 6, 3, 2] <| .pure 2 <| .pure 3 <| .eff 5 (.pure 6 <| .pure 7 <| .done) (.nil))]
/-- remontoire/code.small -/
def P89 : List (Nat × Plan) := []
/-- remontoire/code.At -/
def P17 : List (Nat × Plan) := []
/-- remontoire/code.halfAt -/
def P29 : List (Nat × Plan) := [(1, .pure 0 <| .pure 1 <| .pure 2 <| .pure 5 <| .pure 6 <| .pure 7 <| .pure 8 <| .load 3 [13, 12, 4] <| .pure 4 <| .load 9 [13, 12, 11, 10] <| .pure 10 <| .pure 11 <| .pure 12 <| .pure 13 <| .done)]
/-- remontoire/code.Begins -/
def P30 : List (Nat × Plan) := []
/-- remontoire/code.Of -/
def P31 : List (Nat × Plan) := []
/-- remontoire/code.narrowOf -/
def P51 : List (Nat × Plan) := []
/-- remontoire/code.at -/
def P69 : List (Nat × Plan) := []
/-- remontoire/code.turned -/
def P70 : List (Nat × Plan) := []
/-- remontoire/code.three -/
def P71 : List (Nat × Plan) := []
/-- remontoire/code.signed -/
def P72 : List (Nat × Plan) := []
/-- remontoire/code.wideOf -/
def P52 : List (Nat × Plan) := [(5, .pure 0 <| .pure 2 <| .load 1 [7, 6, 5, 4] <| .pure 4 <| .eff 3 (.eff 5 (.pure 6 <| .eff 7 (.done) (.nil)) (.nil)) (.nil)), (16, .pure 0 <| .pure 2 <| .pure 4 <| .load 1 [11, 10, 9, 8, 7, 6] <| .pure 6 <| .eff 3 (.eff 5 (.eff 7 (.pure 8 <| .eff 9 (.pure 10 <| .eff 11 (.done) (.nil)) (.nil)) (.nil)) (.nil)) (.nil)), (18, .pure 0 <| .pure 2 <| .pure 4 <| .pure 6 <| .load 1 [15, 14, 13, 12, 11, 10, 9, 8] <| .pure 8 <| .load 7 [15, 14] <| .eff 3 (.eff 5 (.eff 9 (.pure 10 <| .eff 11 (.pure 12 <| .eff 13 (.pure 14 <| .eff 15 (.done) (.nil)) (.nil)) (.nil)) (.nil)) (.nil)) (.nil)), (22, .pure 0 <| .pure 2 <| .pure 4 <| .load 1 [11, 10, 9, 8, 7, 6] <| .pure 6 <| .load 3 [11, 10, 9, 8] <| .load 5 [11, 10] <| .eff 7 (.pure 8 <| .eff 9 (.pure 10 <| .eff 11 (.done) (.nil)) (.nil)) (.nil)), (25, .pure 0 <| .pure 2 <| .pure 4 <| .pure 6 <| .load 1 [15, 14, 13, 12, 11, 10, 9, 8] <| .pure 8 <| .load 3 [15, 14, 13, 12, 11, 10] <| .load 5 [15, 14, 13, 12] <| .eff 7 (.eff 9 (.pure 10 <| .eff 11 (.pure 12 <| .eff 13 (.pure 14 <| .eff 15 (.done) (.nil)) (.nil)) (.nil)) (.nil)) (.nil)), (27, .pure 0 <| .pure 2 <| .pure 4 <| .pure 6 <| .load 1 [15, 14, 13, 12, 11, 10, 9, 8] <| .pure 8 <| .load 5 [15, 14, 13, 12] <| .load 7 [15, 14] <| .eff 3 (.eff 9 (.pure 10 <| .eff 11 (.pure 12 <| .eff 13 (.pure 14 <| .eff 15 (.done) (.nil)) (.nil)) (.nil)) (.nil)) (.nil)), (29, .pure 0 <| .pure 2 <| .load 1 [7, 6, 5, 4] <| .pure 4 <| .load 3 [7, 6] <| .eff 5 (.pure 6 <| .eff 7 (.done) (.nil)) (.nil))]
/-- remontoire/code.places -/
def P73 : List (Nat × Plan) := []
/-- remontoire/code.number -/
def P74 : List (Nat × Plan) := []
/-- remontoire/code.immediate -/
def P75 : List (Nat × Plan) := [(5, .pure 0 <| .pure 2 <| .pure 4 <| .load 1 [11, 10, 9, 8, 7, 6] <| .pure 6 <| .load 3 [11, 10, 9, 8] <| .load 5 [11, 10] <| .eff 7 (.pure 8 <| .eff 9 (.pure 10 <| .eff 11 (.done) (.nil)) (.nil)) (.nil)), (7, .pure 0 <| .pure 2 <| .load 1 [7, 6, 5, 4] <| .pure 4 <| .load 3 [7, 6] <| .eff 5 (.pure 6 <| .eff 7 (.done) (.nil)) (.nil)), (11, .pure 0 <| .pure 2 <| .load 1 [7, 6, 5, 4] <| .pure 4 <| .load 3 [7, 6] <| .eff 5 (.pure 6 <| .eff 7 (.done) (.nil)) (.nil))]
/-- remontoire/code.barrel -/
def P76 : List (Nat × Plan) := [(3, .pure 0 <| .pure 1 <| .pure 3 <| .pure 4 <| .pure 5 <| .pure 8 <| .load 2 [14, 12] <| .eff 6 (.pure 7 <| .eff 9 (.pure 10 <| .eff 11 (.pure 12 <| .eff 13 (.eff 14 (.done) (.nil)) (.nil)) (.cons 13 (.eff 11 (.pure 12 <| .eff 14 (.done) (.nil)) (.nil)) (.nil))) (.cons 13 (.eff 9 (.pure 10 <| .eff 11 (.pure 12 <| .eff 14 (.done) (.nil)) (.nil)) (.nil)) (.nil))) (.cons 13 (.eff 6 (.pure 7 <| .eff 9 (.pure 10 <| .eff 11 (.pure 12 <| .eff 14 (.done) (.nil)) (.nil)) (.nil)) (.nil)) (.nil))), (5, .pure 0 <| .pure 2 <| .load 1 [7, 6, 5, 4] <| .pure 4 <| .load 3 [7, 6] <| .eff 5 (.pure 6 <| .eff 7 (.done) (.nil)) (.nil))]
/-- remontoire/code.condOf -/
def P77 : List (Nat × Plan) := []
/-- remontoire/code.jumpOf -/
def P78 : List (Nat × Plan) := []
/-- remontoire/remontoirelaw08.of -/
def P9 : List (Nat × Plan) := []
/-- remontoire/remontoirelaw08.AsmSlides -/
def P4 : List (Nat × Plan) := [(17, .pure 0 <| .pure 3 <| .load 1 [25, 24, 23, 22, 21, 20, 19, 18, 17, 16, 15, 14, 13, 12, 11, 10, 9, 8, 7, 2] <| .pure 2 <| .load 4 [25, 24, 23, 22, 21, 20, 19, 18, 17, 16, 15, 14, 13, 12, 11, 10, 9, 8, 7, 6, 5] <| .pure 5 <| .pure 6 <| .pure 7 <| .pure 8 <| .pure 9 <| .pure 13 <| .load 10 [25, 24, 23, 22, 21, 20, 19, 18, 17, 16, 12, 11] <| .pure 11 <| .load 14 [25, 24, 23, 22, 21, 20, 19, 18, 17, 16, 15] <| .eff 12 (.eff 15 (.pure 16 <| .pure 17 <| .pure 18 <| .pure 19 <| .pure 21 <| .load 20 [25, 24, 23] <| .load 22 [25, 24, 23] <| .pure 23 <| .pure 24 <| .pure 25 <| .done) (.nil)) (.cons 15 (.eff 12 (.pure 16 <| .pure 17 <| .pure 18 <| .pure 19 <| .pure 21 <| .load 20 [25, 24, 23] <| .load 22 [25, 24, 23] <| .pure 23 <| .pure 24 <| .pure 25 <| .done) (.nil)) (.nil)))]
/-- remontoire/remontoirelaw08.all -/
def P15 : List (Nat × Plan) := []
end Go.Proofs.YtjcacjeoddnmhaaDoor.Pw

/- Calls that are given slices of the caller's own blocks. -/
namespace Go.Proofs.YtjcacjeoddnmhaaDoor.Pw
open Go Go.RowKit

/-- a block's elements -/
def elB (b : PBlk) (n : Nat) (es : List PV) : Prop := match b with
  | ⟨k, _, m, md, live, cs⟩ => bif live && notP md && Nat.beq m n then (match k with
    | .dyn => cs = es
    | .arr => elemsOf true m (.stat cs) = some es ∨ (m = 1 ∧ elemsOf false m (.stat cs) = some es)
    | _ => False) else False
/-- what a value says is said by another one; a slice of a block of fz as a slice that doesn't change -/
def leB1 (S : List PBlk) (fz : List Nat) (x y : PV) : Prop := match x, y with
  | .wref l, .sl n es => bif inL l fz then need S[l]? fun b => elB b n es else False
  | x, y => le1 x y
def leB (S : List PBlk) (fz : List Nat) (x y : PV) : Prop := match x, y with
  | .wref l, .sl n es => bif inL l fz then need S[l]? fun b => elB b n es else False
  | .agg cs, .agg ds => leL (leB1 S fz) cs ds
  | x, y => leK x y
def okZ (S : List PBlk) (fz : List Nat) : Bool := fz.all fun l => match S[l]? with
  | some b => b.live && notP b.m
  | none => false
def frzM (b : Bool) (m : Md) : Md := bif b then .r else m
def frzS (fz : List Nat) (S : List PBlk) : List PBlk := mapM frzM fz 0 S
def PV.flat1 : PV → Bool
  | .lit .. | .int .. | .tt | .ff | .bool _ | .val _ | .nil => true
  | _ => false
def PV.flatA : PV → Bool
  | .agg cs => cs.all PV.flat1
  | x => x.flat1
def PV.flatP : PV → Bool
  | .tup cs => cs.all PV.flatA
  | x => x.flatA

section
variable {w w' : World} {I I' : Nat → Prop} {β β' : Places} {G : Gx} {S : List PBlk}
theorem flat1_ok {x : PV} {v : Value} (hf : x.flat1 = true) (h : x.Is w I β v) : x.Is w' I' β' v := by
  cases x <;> first | (cases hf; done) | (simp only [PV.Is] at h ⊢; exact h)
theorem flatL_ok {r : PV → Bool} (hr : ∀ x v, r x = true → x.Is w I β v → x.Is w' I' β' v) : ∀ {cs : List PV} {vs : List Value}, cs.all r = true → IsL w I cs β vs → IsL w' I' cs β' vs
  | [], [], _, _ => by simp only [IsL]
  | c :: cs, v :: vs, hf, h => by
    simp only [List.all_cons, Bool.and_eq_true] at hf
    simp only [IsL] at h ⊢
    exact ⟨hr c v hf.1 h.1, flatL_ok hr hf.2 h.2⟩
  | [], _ :: _, _, h => by simp only [IsL] at h
  | _ :: _, [], _, h => by simp only [IsL] at h
theorem flatA_ok {x : PV} {v : Value} (hf : x.flatA = true) (h : x.Is w I β v) : x.Is w' I' β' v := by
  unfold PV.flatA at hf
  split at hf
  · simp only [PV.Is] at h ⊢
    obtain ⟨vs, rfl, h⟩ := h
    exact ⟨vs, rfl, flatL_ok (fun x v => flat1_ok) hf h⟩
  · exact flat1_ok hf h
theorem flatP_ok {x : PV} {v : Value} (hf : x.flatP = true) (h : x.Is w I β v) : x.Is w' I' β' v := by
  unfold PV.flatP at hf
  split at hf
  · simp only [PV.Is] at h ⊢
    obtain ⟨vs, rfl, h⟩ := h
    exact ⟨vs, rfl, flatL_ok (fun x v => flatA_ok) hf h⟩
  · exact flatA_ok hf h

/-- what is not changed while a call is under way -/
def LentI (I : Nat → Prop) (β : Places) (S : List PBlk) (fz : List Nat) (g : Nat) : Prop := I g ∨ ∃ l b p o, l ∈ fz ∧ S[l]? = some b ∧ b.live = true ∧ notP b.m = true ∧ β l = some p ∧ p.a = some (g, o)
theorem okZ_ok {fz : List Nat} (h : okZ S fz = true) {l : Nat} (hl : l ∈ fz) : ∃ b, S[l]? = some b ∧ b.live = true ∧ notP b.m = true := by
  have := List.all_eq_true.1 h l hl
  split at this
  · rename_i b hb
    simp only [Bool.and_eq_true] at this
    exact ⟨b, hb, this⟩
  · cases this
theorem lent_sl {fz : List Nat} (hH : HeapOk I β S w) {l : Nat} {b : PBlk} {n : Nat} {es : List PV} (hl : l ∈ fz) (hb : S[l]? = some b) (h : elB b n es) {v : Value} (hx : (PV.wref l).Is w I β v) : (PV.sl n es).Is w (LentI I β S fz) no v := by
  obtain ⟨k, ty, m, md, live, cs⟩ := b
  unfold elB at h
  replace h := bif_ok h
  obtain ⟨hc, h⟩ := h
  simp only [Bool.and_eq_true] at hc
  obtain ⟨⟨hlive, hm⟩, hn⟩ := hc
  obtain rfl := Nat.eq_of_beq_eq_true hn
  simp only [PV.Is] at hx ⊢
  obtain ⟨p, hp, rfl⟩ := hx
  have hI : ∀ g, I g → LentI I β S fz g := fun g h => .inl h
  have hgI : ∀ {g o : Nat}, p.a = some (g, o) → LentI I β S fz g := fun {g o} ha => .inr ⟨l, _, p, o, hl, hb, hlive, hm, hp, ha⟩
  cases k with
  | dyn =>
    obtain ⟨hn0, hlen, hle, hmx, hor⟩ := whole_dyn hH hb hlive rfl hp
    subst h
    rcases hor with ⟨ha, hc0, hw⟩ | ⟨g, arr, fr, ha, hw, hhg, hes, hown, has⟩
    · have h0 : cs = [] := List.eq_nil_of_length_eq_zero (by simp only at hlen; omega)
      subst h0
      exact ⟨none, 0, by rw [hw]; rfl, Nat.le_refl _, Nat.zero_le _, (fun _ _ e => by cases e), fun hn => absurd rfl hn⟩
    · simp only at hlen
      exact ⟨some ⟨g, 0, none⟩, p.cap, by rw [hw, hlen], by omega, by omega, (fun g' o' e => by cases e; exact IsEs.mono hI (fun _ _ => rfl) _ _ _ _ rfl hes), fun _ => ⟨g, 0, rfl, hgI ha, hn0⟩⟩
  | arr =>
    obtain ⟨g, arr, fr, ha, hw, hhg, hca, hown, hlen, hle, hmx, has, hn0⟩ := whole_arr hH hb hlive rfl hp
    simp only at hlen has hn0 hca
    have hsz : p.len * m ≤ arr.size := by rw [has]; exact Nat.mul_le_mul_right _ hle
    have hxl : (arr.toList.take (p.len * m)).length = p.len * m := by rw [List.length_take, Array.length_toList]; omega
    have hsrc : SrcIs w I β m (.stat cs) (arr.toList.take (p.len * m)) := by
      refine ⟨by rw [hxl, hlen], fun j c hj => ?_⟩
      obtain ⟨u, hu, hi, h1⟩ := hca j c hj
      have hj' : j < p.len * m := by rw [← hlen]; exact (List.getElem?_eq_some_iff.1 hj).1
      exact ⟨u, by rw [List.getElem?_take, if_pos hj']; simpa using hu, hi, h1⟩
    have key : es.length = p.len ∧ RowIs w I es m (arr.toList.take (p.len * m)) := by
      rcases h with h | ⟨h1, h⟩
      · exact elemsOf_ok hn0 (.inl rfl) h hsrc hxl
      · exact elemsOf_ok hn0 (.inr h1) h hsrc hxl
    obtain ⟨e1, e2⟩ := key
    have hEs : IsEs w I es m g 0 := e2.at (fun j v hj => by
      have := take_at hhg 0 (p.len * m) j v (by simpa using hj)
      simpa using this) (fun _ h => h) (fun _ _ => rfl)
    exact ⟨some ⟨g, 0, none⟩, p.cap, by rw [hw, e1], by omega, by omega, fun g' o' e => by cases e; exact IsEs.mono hI (fun _ _ => rfl) _ _ _ _ rfl hEs, fun _ => ⟨g, 0, rfl, hgI ha, hn0⟩⟩
  | loc => exact h.elim
  | mp => exact h.elim
theorem lent_1 {fz : List Nat} (hH : HeapOk I β S w) {x y : PV} {v : Value} (h1 : leB1 S fz x y) (hu : y.uses = []) (hx : x.Is w I β v) : y.Is w (LentI I β S fz) no v := by
  unfold leB1 at h1
  split at h1
  · replace h1 := bif_ok h1
    obtain ⟨hl, h1⟩ := h1
    replace h1 := need_ok h1
    obtain ⟨b, hb, h1⟩ := h1
    exact lent_sl hH (inL_iff.1 hl) hb h1 hx
  · exact PV.Is.mono (fun _ h => .inl h) (fun _ _ => rfl) y β no v (fun l p hl => by rw [hu] at hl; cases hl) (le1_ok h1 w I β v hx)
theorem lent_l1 {fz : List Nat} (hH : HeapOk I β S w) : ∀ {args args' : List PV} {vals : List Value}, leL (leB1 S fz) args args' → usesL args' = [] → IsL w I args β vals → IsL w (LentI I β S fz) args' no vals
  | [], [], [], _, _, _ => by simp only [IsL]
  | x :: xs, y :: ys, v :: vs, h, hu, hx => by
    simp only [IsL] at hx ⊢
    have hu' : y.uses = [] ∧ usesL ys = [] := by simpa [usesL] using hu
    exact ⟨lent_1 hH h.1 hu'.1 hx.1, lent_l1 hH h.2 hu'.2 hx.2⟩
  | [], _ :: _, _, h, _, _ => h.elim
  | _ :: _, [], _, h, _, _ => h.elim
  | [], [], _ :: _, _, _, hx => by simp only [IsL] at hx
  | _ :: _, _ :: _, [], _, _, hx => by simp only [IsL] at hx
theorem lent_args {fz : List Nat} (hH : HeapOk I β S w) : ∀ {args args' : List PV} {vals : List Value}, leL (leB S fz) args args' → usesL args' = [] → IsL w I args β vals → IsL w (LentI I β S fz) args' no vals
  | [], [], [], _, _, _ => by simp only [IsL]
  | x :: xs, y :: ys, v :: vs, h, hu, hx => by
    simp only [IsL] at hx ⊢
    have hu' : y.uses = [] ∧ usesL ys = [] := by simpa [usesL] using hu
    refine ⟨?_, lent_args hH h.2 hu'.2 hx.2⟩
    have h1 := h.1
    unfold leB at h1
    split at h1
    · obtain ⟨hl, h1⟩ := bif_ok h1
      obtain ⟨b, hb, h1⟩ := need_ok h1
      exact lent_sl hH (inL_iff.1 hl) hb h1 hx.1
    · have hx1 := hx.1
      simp only [PV.Is] at hx1 ⊢
      obtain ⟨vs', rfl, hx1⟩ := hx1
      exact ⟨vs', rfl, lent_l1 hH h1 (by simpa [PV.uses] using hu'.1) hx1⟩
    · exact PV.Is.mono (fun _ h => .inl h) (fun _ _ => rfl) y β no v (fun l p hl => by rw [hu'.1] at hl; cases hl) (leK_ok h1 w I β v hx.1)
  | [], _ :: _, _, h, _, _ => h.elim
  | _ :: _, [], _, h, _, _ => h.elim
  | [], [], _ :: _, _, _, hx => by simp only [IsL] at hx
  | _ :: _, _ :: _, [], _, _, hx => by simp only [IsL] at hx
theorem lent_lt {fz : List Nat} (hH : HeapOk I β S w) (hM : ImmOk G I w) {g : Nat} (h : LentI I β S fz g) : g < w.heap.size := by
  rcases h with h | ⟨l, b, p, o, _, hb, hlive, _, hp, ha⟩
  · exact hM.imm g h
  · exact hH.lives_lt ⟨l, b, p, o, hb, hlive, hp, ha⟩
theorem lent_imm {fz : List Nat} (hH : HeapOk I β S w) (hM : ImmOk G I w) : ImmOk G (LentI I β S fz) w :=
  ⟨fun g hg => lent_lt hH hM hg, fun g cs hg => ⟨.inl (hM.tab g cs hg).1, IsAt.mono (fun _ h => .inl h) (fun _ _ => rfl) _ _ _ rfl (hM.tab g cs hg).2⟩, hM.row⟩
theorem no_wr (g : Nat) : ¬ Wr no ([] : List PBlk) g := fun ⟨l, b, p, o, h1, _⟩ => by simp at h1

/-- blocks that are lent, and may be kept: they are not changed any more -/
theorem PureF.useF {f : FuncId} {args args' : List PV} {r : PV} {K : PV → List PBlk → Prop} (h : PureF G f args' r) (fz : List Nat) (hz : okZ S fz = true) (hle : leL (leB S fz) args args') (hu : usesL args' = []) (hr : r.uses = []) (hK : frB (frzS fz S) (K r)) : Spec G f args S [] K := by
  refine Spec.intro h.run.1 fun I β w vals hH hM hA => ?_
  have h0 : HeapOk (LentI I β S fz) no ([] : List PBlk) w := ⟨fun _ _ => rfl, fun l b hl => by simp at hl⟩
  refine (h.run.2 _ no w vals h0 (lent_imm hH hM) (lent_args hH hle hu hA)).mono fun e w' ⟨v, r', S', I', β', he, hr', hi, _, hM', hE, _, _⟩ => ?_
  subst hr'
  have hold : ∀ g, g < w.heap.size → w'.heap[g]? = w.heap[g]? := fun g hg => hE.block g hg (no_wr g)
  have hI' : ∀ g, g < w.heap.size → I' g → LentI I β S fz g := fun g hg h => (hE.new g hg h).elim id fun h => absurd h (no_wr g)
  have hII : ∀ g, I g → I' g := fun g h => hE.imm g (.inl h)
  have hget : ∀ (l : Nat) (b : PBlk), (frzS fz S)[l]? = some b → ∃ b0, S[l]? = some b0 ∧ b = { b0 with m := frzM (inL l fz) b0.m } := fun l b hb => by
    unfold frzS at hb
    rw [mapM_get, Option.map_eq_some_iff] at hb
    obtain ⟨b0, h1, h2⟩ := hb
    rw [Nat.zero_add] at h2
    exact ⟨b0, h1, h2.symm⟩
  refine ⟨v, r', frzS fz S, I', β, he, frB_ok hK, uses_none hr hi, ⟨fun l hl => hH.far l (by unfold frzS at hl; rw [mapM_len] at hl; exact hl), fun l b hb hlive => ?_⟩, hM', ⟨hE.os, hE.tape, hE.output, hE.size, fun g hg _ => hold g hg, fun g _ h => ?_, hII, fun g hg h => ?_⟩, by unfold frzS; rw [mapM_len]; exact Nat.le_refl _, fun _ _ _ => rfl⟩
  · obtain ⟨b0, hb0, rfl⟩ := hget l b hb
    obtain ⟨p, hp, hk⟩ := hH.blk l b0 hb0 hlive
    have own : ∀ {g o : Nat} {fr : Nat × Nat}, p.a = some (g, o) → g < w.heap.size → Own I β S l g fr b0 → Own I' β (frzS fz S) l g fr { b0 with m := frzM (inL l fz) b0.m } := fun {g o fr} ha hg ho => by
      refine ⟨fun hm => ?_, fun hm => ?_⟩
      · have hm0 : inL l fz = false ∧ b0.m ≠ .r := by
          cases hc : inL l fz with
          | true => simp only [hc, frzM, cond_true, ne_eq, not_true_eq_false] at hm
          | false => exact ⟨rfl, by simpa only [hc, frzM, cond_false] using hm⟩
        obtain ⟨h1, h2, h3⟩ := ho.1 hm0.2
        refine ⟨h1, fun hI => ?_, fun l2 b2 hne hl2 hlive2 p2 g2 o2 hp2 ha2 => ?_⟩
        · rcases hI' g hg hI with hI | ⟨l2, b2, p2, o2, hl2, hb2, hlive2, _, hp2, ha2⟩
          · exact h2 hI
          · refine h3 l2 b2 (fun e => ?_) hb2 hlive2 p2 g o2 hp2 ha2 rfl
            subst e
            rw [inL_iff.2 hl2] at hm0
            cases hm0.1
        · obtain ⟨b3, hb3, rfl⟩ := hget l2 b2 hl2
          exact h3 l2 b3 hne hb3 hlive2 p2 g2 o2 hp2 ha2
      · cases hc : inL l fz with
        | true =>
          obtain ⟨b1, hb1, k1, k2⟩ := okZ_ok hz (inL_iff.1 hc)
          rw [hb0] at hb1; cases hb1
          exact hE.imm g (.inr ⟨l, b0, p, o, inL_iff.1 hc, hb0, k1, k2, hp, ha⟩)
        | false => exact hII g (ho.2 (by simpa only [hc, frzM, cond_false] using hm))
    have hwI : ∀ g, I g → w'.heap[g]? = w.heap[g]? := fun g hg => hold g (hM.imm g hg)
    refine ⟨p, hp, ?_⟩
    split at hk
    · rename_i hkk
      obtain ⟨g, o, arr, ty, fr, h1, h2, h3, ho⟩ := hk
      have hg := lt_of_heap h2
      simp only [hkk]
      exact ⟨g, o, arr, ty, fr, h1, (hold g hg).trans h2, CellsAt.mono hII hwI (fun _ _ h => h) h3, own h1 hg ho⟩
    · rename_i hkk
      obtain ⟨g, arr, fr, h1, h2, h3, ho, h4⟩ := hk
      have hg := lt_of_heap h2
      simp only [hkk]
      exact ⟨g, arr, fr, h1, (hold g hg).trans h2, CellsAt.mono hII hwI (fun _ _ h => h) h3, own h1 hg ho, h4⟩
    · rename_i hkk
      obtain ⟨h1, hk⟩ := hk
      simp only [hkk]
      refine ⟨h1, ?_⟩
      rcases hk with h | ⟨g, arr, fr, h2, h3, h4, ho, h5⟩
      · exact .inl h
      · have hg := lt_of_heap h3
        exact .inr ⟨g, arr, fr, h2, (hold g hg).trans h3, IsEs.mono hII hwI _ _ _ _ (hold g hg) h4, own h2 hg ho, h5⟩
    · rename_i hkk
      obtain ⟨g, h1, h2, ho⟩ := hk
      have hg : g < w.heap.size := by obtain ⟨es, clock, hb, _⟩ := h2; exact lt_of_heap hb
      simp only [hkk]
      exact ⟨g, h1, h2.keep (hold g hg), own h1 hg ho⟩
  · obtain ⟨l, b, p, o, h1, h2, h3, h4, h5⟩ := h
    obtain ⟨b0, hb0, rfl⟩ := hget l b h1
    refine ⟨l, b0, p, o, hb0, h2, ?_, h4, h5⟩
    cases hc : inL l fz with
    | true => simp only [hc, frzM, cond_true] at h3; cases h3
    | false => simpa only [hc, frzM, cond_false] using h3
  · rcases hI' g hg h with h | ⟨l, b, p, o, hl, hb, hlive, hm, hp, ha⟩
    · exact .inl h
    · cases hmm : b.m with
      | w => exact .inr ⟨l, b, p, o, hb, hlive, hmm, hp, ha⟩
      | p => rw [hmm] at hm; cases hm
      | r =>
        obtain ⟨arr, ty, fr, _, ho⟩ := (hH.blk l b hb hlive).place hp ha
        exact .inl (ho.2 hmm)
/-- blocks that are lent to what yields numbers -/
theorem PureF.useB {f : FuncId} {args args' : List PV} {r : PV} {K : PV → List PBlk → Prop} (h : PureF G f args' r) (fz : List Nat) (hle : leL (leB S fz) args args') (hu : usesL args' = []) (hr : r.flatP = true) (hK : K r S) : Spec G f args S [] K := by
  refine Spec.intro h.run.1 fun I β w vals hH hM hA => ?_
  have h0 : HeapOk (LentI I β S fz) no ([] : List PBlk) w := ⟨fun _ _ => rfl, fun l b hl => by simp at hl⟩
  refine (h.run.2 _ no w vals h0 (lent_imm hH hM) (lent_args hH hle hu hA)).mono fun e w' ⟨v, r', S', I', β', he, hr', hi, _, hM', hE, _, _⟩ => ?_
  subst hr'
  have hold : ∀ g, g < w.heap.size → w'.heap[g]? = w.heap[g]? := fun g hg => hE.block g hg (no_wr g)
  have hwI : ∀ g, I g → w'.heap[g]? = w.heap[g]? := fun g hg => hold g (hM.imm g hg)
  refine ⟨v, r', S, I, β, he, hK, flatP_ok hr hi, ⟨hH.far, fun l b hb hlive => (hH.blk l b hb hlive).mono (fun _ h => h) hwI (fun _ _ h => h) fun p g o hp ha => ?_⟩, ⟨fun g hg => Nat.lt_of_lt_of_le (hM.imm g hg) hE.size, fun g cs hg => ⟨(hM.tab g cs hg).1, IsAt.mono (fun _ h => h) hwI _ _ _ (hwI g (hM.tab g cs hg).1) (hM.tab g cs hg).2⟩, fun g cs hg => by
      obtain ⟨arr, ty, fr, h1, h2⟩ := hM.row g cs hg
      exact ⟨arr, ty, fr, (hwI g (hM.tab g cs hg).1).trans h1, h2⟩⟩,
    ⟨hE.os, hE.tape, hE.output, hE.size, fun g hg _ => hold g hg, fun g _ h => h, fun _ h => h, fun _ _ h => .inl h⟩, Nat.le_refl _, fun _ _ _ => rfl⟩
  obtain ⟨arr, ty, fr, hh, ho⟩ := (hH.blk l b hb hlive).place hp ha
  exact ⟨hold g (lt_of_heap hh), fun hr => ⟨(ho.1 hr).2.1, (ho.1 hr).2.2⟩⟩
end

end Go.Proofs.YtjcacjeoddnmhaaDoor.Pw

/- Loops that keep the store. -/
namespace Go.Proofs.YtjcacjeoddnmhaaDoor.Pw
open Go Go.RowKit

def TM.dropT : TM → TM
  | .nil => .nil
  | .node v l r => .node (match v with
    | some (.tup _) => none
    | v => v) l.dropT r.dropT
/-- the state at a loop's head; tuples are let go -/
def PSt.headS (s : PSt) (c : Code) (vs : List (Nat × PV)) : PSt := match s with
  | ⟨n, t, st, b, rl⟩ => ⟨n, (layF vs (clearF (dsts c) t)).dropT, st, b, rl⟩
/-- a loop whose rounds leave the store as it was, but for new blocks: slots by x -/
theorem SW.loopS {G : Gx} {s : PSt} (hG : GOk G) (R : List (Nat × Plan)) {α : Type} {c : Code} {Q : X → PSt → Prop} (hc : planAll R c = true) (vs : α → List (Nat × PV)) (μ : α → Nat) (x0 : α) (N : Nat) (h0 : subK G.cx (idR 0 s.st) s (s.headS c (vs x0)))
    (h : ∀ x, frS (s.headS c (vs x)) (pw G R N c (backK (fun s' => ∃ y, μ y < μ x ∧ subK G.cx (idR 0 s.st) s' (s.headS c (vs y))) Q))) : SW G (.loop c) Q s :=
  SW.inv hG (fun x => s.headS c (vs x)) μ (N := N) hc x0 (subK_ok hG.ok h0) (fun x s' => ∃ y, μ y < μ x ∧ subK G.cx (idR 0 s.st) s' (s.headS c (vs y))) (fun x s' ⟨y, hy, hs⟩ => ⟨y, hy, subK_ok hG.ok hs⟩) fun x => frS_ok (h x)

/-- .. with other blocks behind the store -/
def PSt.headD (s : PSt) (c : Code) (vs : List (Nat × PV)) (ex : List PBlk) : PSt := match s with
  | ⟨n, t, st, b, rl⟩ => ⟨n, (layF vs (clearF (dsts c) t)).dropT, st ++ ex, b, rl⟩
/-- a loop that leaves the store as it was, but for blocks of its own (ex x, behind the store): π: which block of the state is which of ex -/
theorem SW.loopD {G : Gx} {s : PSt} (hG : GOk G) (R : List (Nat × Plan)) {α : Type} {c : Code} {Q : X → PSt → Prop} (hc : planAll R c = true) (vs : α → List (Nat × PV)) (ex : α → List PBlk) (μ : α → Nat) (x0 : α) (N : Nat) (π0 : Ren) (h0 : subK G.cx (idR 0 s.st ++ π0) s (s.headD c (vs x0) (ex x0)))
    (h : ∀ x, frS (s.headD c (vs x) (ex x)) (pw G R N c (backK (fun s' => ∃ y π, μ y < μ x ∧ subK G.cx (idR 0 s.st ++ π) s' (s.headD c (vs y) (ex y))) Q))) : SW G (.loop c) Q s :=
  SW.inv hG (fun x => s.headD c (vs x) (ex x)) μ (N := N) hc x0 (subK_ok hG.ok h0) (fun x s' => ∃ y π, μ y < μ x ∧ subK G.cx (idR 0 s.st ++ π) s' (s.headD c (vs y) (ex y))) (fun x s' ⟨y, _, hy, hs⟩ => ⟨y, hy, subK_ok hG.ok hs⟩) fun x => frS_ok (h x)

end Go.Proofs.YtjcacjeoddnmhaaDoor.Pw

/- How a contract over a store is used in a greater one. -/
namespace Go.Proofs.YtjcacjeoddnmhaaDoor.Pw
open Go Go.RowKit

def leBlk (b b' : PBlk) : Prop := match b, b' with
  | ⟨k, ty, n, m, live, cs⟩, ⟨k', ty', n', m', live', cs'⟩ => bif Nat.beq ty ty' && Nat.beq n n' && Md.beq m m' && live && live' && BK.beq k k' then (match k with
    | .dyn => cs = cs'
    | .mp => cs = cs'
    | _ => leL le1 cs cs') else False
/-- the first blocks say no less than S; k: the rest -/
def stLeR : List PBlk → List PBlk → (List PBlk → Prop) → Prop
  | [], T, k => k T
  | b' :: S, b :: st, k => leBlk b b' ∧ stLeR S st k
  | _ :: _, [], _ => False
def stLe (st S : List PBlk) (k : List PBlk → Prop) : Prop := stLeR S st k
def appK : List PBlk → List PBlk → (List PBlk → Prop) → Prop
  | [], T, k => k T
  | b :: l, T, k => appK l T fun r => k (b :: r)
/-- the blocks may be written just as before -/
def modeS : List PBlk → List PBlk → Bool
  | [], [] => true
  | a :: S, b :: T => a.live && Md.beq a.m b.m && modeS S T
  | _, _ => false
theorem appK_ok : ∀ {S T : List PBlk} {k : List PBlk → Prop}, appK S T k → k (S ++ T)
  | [], _, _, h => h
  | b :: l, T, k, h => appK_ok (S := l) h
theorem BK.beq_ok {m n : BK} (h : BK.beq m n = true) : m = n := by cases m <;> cases n <;> first | rfl | cases h
theorem leBlk_ok {b b' : PBlk} (h : leBlk b b') : b.ty = b'.ty ∧ b.size = b'.size ∧ b.m = b'.m ∧ b.live = true ∧ b'.live = true ∧ b.k = b'.k ∧ ((b.k.isC = false ∧ b.cs = b'.cs) ∨ (b.k.isC = true ∧ leL le1 b.cs b'.cs)) := by
  obtain ⟨k, ty, n, m, live, cs⟩ := b
  obtain ⟨k', ty', n', m', live', cs'⟩ := b'
  obtain ⟨hc, h⟩ := bif_ok h
  simp only [Bool.and_eq_true] at hc
  obtain ⟨⟨⟨⟨⟨h1, h2⟩, h3⟩, h4⟩, h5⟩, h6⟩ := hc
  refine ⟨Nat.eq_of_beq_eq_true h1, Nat.eq_of_beq_eq_true h2, Md.beq_ok h3, h4, h5, BK.beq_ok h6, ?_⟩
  cases k with
  | dyn => exact .inl ⟨rfl, h⟩
  | mp => exact .inl ⟨rfl, h⟩
  | loc => exact .inr ⟨rfl, h⟩
  | arr => exact .inr ⟨rfl, h⟩
theorem stLe_ok : ∀ {S st : List PBlk} {k : List PBlk → Prop}, stLe st S k → ∃ st0 T, st = st0 ++ T ∧ st0.length = S.length ∧ k T ∧ ∀ (l : Nat) (b b' : PBlk), st0[l]? = some b → S[l]? = some b' → leBlk b b'
  | [], T, k, h => ⟨[], T, rfl, rfl, h, fun l b b' hb => by simp at hb⟩
  | b' :: S, b :: st, k, h => by
    obtain ⟨st0, T, rfl, hl, hk, ha⟩ := stLe_ok (S := S) (st := st) h.2
    refine ⟨b :: st0, T, rfl, by simp [hl], hk, fun l c c' hc hc' => ?_⟩
    cases l with
    | zero => simp at hc hc'; subst hc; subst hc'; exact h.1
    | succ l => exact ha l c c' (by simpa using hc) (by simpa using hc')
  | _ :: _, [], _, h => h.elim
theorem modeS_ok : ∀ {S T : List PBlk}, modeS S T = true → S.length = T.length ∧ ∀ (l : Nat) (a b : PBlk), S[l]? = some a → T[l]? = some b → a.live = true ∧ a.m = b.m
  | [], [], _ => ⟨rfl, fun l a b h => by simp at h⟩
  | a :: S, b :: T, h => by
    simp only [modeS, Bool.and_eq_true] at h
    obtain ⟨h1, h2⟩ := modeS_ok h.2
    refine ⟨by simp [h1], fun l c d hc hd => ?_⟩
    cases l with
    | zero => simp at hc hd; subst hc; subst hd; exact ⟨h.1.1, Md.beq_ok h.1.2⟩
    | succ l => exact h2 l c d (by simpa using hc) (by simpa using hd)
  | [], _ :: _, h => by simp [modeS] at h
  | _ :: _, [], h => by simp [modeS] at h

section
variable {w w' : World} {I I' : Nat → Prop} {β β' : Places} {G : Gx} {s : PSt} {a : Act} {st st' : List PBlk}
theorem Spec.useS {f : FuncId} {args args' : List PV} {r0 : PV} {S0 S1 : List PBlk} {K : PV → List PBlk → Prop} (h : Spec G f args' S0 [] fun r S' => r = r0 ∧ S' = S1) (hm : modeS S0 S1 = true) (hlow : S0.all (lowB S0.length) = true) (hu : (usesL args').all (fun l => Nat.blt l S0.length) = true)
    (hr0 : r0.uses.all (fun l => Nat.blt l S0.length) = true) (hle : leL leK args args') (hK : stLe st S0 fun T => frBB S1 fun S1 => appK S1 T (K r0)) : Spec G f args st [] K := by
  obtain ⟨st0, T, rfl, hl0, hk, hle0⟩ := stLe_ok hK
  replace hk := appK_ok (frBB_ok hk)
  obtain ⟨hl1, hmd⟩ := modeS_ok hm
  refine Spec.intro h.run.1 fun I β w vals hH hM hA => ?_
  let β0 : Places := fun l => if l < S0.length then β l else none
  have hβ0 : ∀ l, l < S0.length → β0 l = β l := fun l hl => if_pos hl
  have hβn : ∀ {l p}, β0 l = some p → l < S0.length ∧ β l = some p := fun {l p} h => by
    by_cases hl : l < S0.length
    · exact ⟨hl, by rw [← hβ0 l hl]; exact h⟩
    · have : β0 l = none := if_neg hl
      rw [this] at h; cases h
  have old : ∀ {l : Nat} {b' : PBlk}, S0[l]? = some b' → l < S0.length ∧ ∃ b, (st0 ++ T)[l]? = some b ∧ leBlk b b' := fun {l b'} hb' => by
    have hlt : l < S0.length := (List.getElem?_eq_some_iff.1 hb').1
    have hlt0 : l < st0.length := by omega
    refine ⟨hlt, st0[l], by rw [List.getElem?_append_left hlt0]; simp [hlt0], hle0 l _ b' (by simp [hlt0]) hb'⟩
  have low : ∀ {l : Nat} {b' : PBlk}, S0[l]? = some b' → b'.k.isC = true → ∀ c ∈ b'.cs, ∀ m ∈ c.uses, m < S0.length := fun {l b'} hb' hk c hc m hm' => by
    rw [List.all_eq_true] at hlow
    have := hlow b' (List.mem_of_getElem? hb')
    unfold lowB at this
    have hall : b'.cs.all (fun c => c.uses.all fun l => Nat.blt l S0.length) = true := by
      cases hkk : b'.k with
      | dyn => rw [hkk] at hk; cases hk
      | mp => rw [hkk] at hk; cases hk
      | loc => rw [hkk] at this; exact this
      | arr => rw [hkk] at this; exact this
    rw [List.all_eq_true] at hall
    have := hall c hc
    rw [List.all_eq_true] at this
    exact Nat.le_of_ble_eq_true (this m hm')
  have hH0 : HeapOk I β0 S0 w := by
    refine ⟨fun l hl => if_neg (by omega), fun l b' hb' hlive => ?_⟩
    obtain ⟨hlt, b, hb, hle1⟩ := old hb'
    obtain ⟨e1, e2, e3, e4, e5, e6, e7⟩ := leBlk_ok hle1
    obtain ⟨p, hp, hB⟩ := hH.blk l b hb e4
    have own : ∀ {g : Nat} {fr : Nat × Nat}, Own I β (st0 ++ T) l g fr b → Own I β0 S0 l g fr b' := fun {g fr} ho => by
      refine ⟨fun hr => ?_, fun hr => ho.2 (by rw [e3]; exact hr)⟩
      obtain ⟨h1, h2, h3⟩ := ho.1 (by rw [e3]; exact hr)
      refine ⟨h1, h2, fun l2 b2 hne hl2 hlive2 p2 g2 o2 hp2 ha2 => ?_⟩
      obtain ⟨_, b3, hb3, hle3⟩ := old hl2
      exact h3 l2 b3 hne hb3 (leBlk_ok hle3).2.2.2.1 p2 g2 o2 (hβn hp2).2 ha2
    have cells : b'.k.isC = true → ∀ {arr : Array Value} {o : Nat}, CellsAt w I β b.cs arr o → CellsAt w I β0 b'.cs arr o := fun hk {arr o} hc i c hi => by
      have hc2 : CellsAt w I β b'.cs arr o := by
        rcases e7 with ⟨hd, _⟩ | ⟨_, h7⟩
        · (rw [e6, hk] at hd; cases hd)
        · exact leL_cells h7 hc
      obtain ⟨u, hu', hi', h1⟩ := hc2 i c hi
      exact ⟨u, hu', PV.Is.mono (fun _ h => h) (fun _ _ => rfl) c β β0 u (fun m p hm' hp' => by rw [hβ0 m (low hb' hk c (List.mem_of_getElem? hi) m hm')]; exact hp') hi', h1⟩
    refine ⟨p, by rw [hβ0 l hlt]; exact hp, ?_⟩
    split at hB
    · rename_i hkk
      have hk' : b'.k = .loc := by rw [← e6]; exact hkk
      obtain ⟨g, o, arr, ty, fr, h1, h2, h3, ho⟩ := hB
      rw [hk']
      exact ⟨g, o, arr, ty, fr, h1, h2, cells (by rw [hk']; rfl) h3, own ho⟩
    · rename_i hkk
      have hk' : b'.k = .arr := by rw [← e6]; exact hkk
      obtain ⟨g, arr, fr, h1, h2, h3, ho, h4, h5, h6, h7, h8⟩ := hB
      have hlen : b'.cs.length = b.cs.length := by
        rcases e7 with ⟨hd, _⟩ | ⟨_, h9⟩
        · rw [hkk] at hd; cases hd
        · exact (leL_len h9).symm
      rw [hk']
      exact ⟨g, arr, fr, h1, by rw [← e1]; exact h2, cells (by rw [hk']; rfl) h3, own ho, by rw [hlen, ← e2]; exact h4, h5, h6, by rw [← e2]; exact h7, by rw [← e2]; exact h8⟩
    · rename_i hkk
      have hk' : b'.k = .dyn := by rw [← e6]; exact hkk
      have hcs : b.cs = b'.cs := by
        rcases e7 with ⟨_, h9⟩ | ⟨hd, _⟩
        · exact h9
        · (rw [hkk] at hd; cases hd)
      obtain ⟨⟨h1, h2, h3, h4⟩, hB⟩ := hB
      rw [hk']
      refine ⟨⟨by rw [← e2]; exact h1, by rw [← hcs]; exact h2, h3, h4⟩, ?_⟩
      rcases hB with h | ⟨g, arr, fr, h5, h6, h7, ho, h8⟩
      · exact .inl h
      · exact .inr ⟨g, arr, fr, h5, by rw [← e1]; exact h6, by rw [← hcs, ← e2]; exact h7, own ho, by rw [← e2]; exact h8⟩
    · rename_i hkk
      have hk' : b'.k = .mp := by rw [← e6]; exact hkk
      have hcs : b.cs = b'.cs := by
        rcases e7 with ⟨_, h9⟩ | ⟨hd, _⟩
        · exact h9
        · (rw [hkk] at hd; cases hd)
      obtain ⟨g, h1, h2, ho⟩ := hB
      rw [hk']
      exact ⟨g, h1, by rw [← hcs]; exact h2, own ho⟩
  have hA' : IsL w I args' β0 vals := by
    have := leL_ok (fun _ _ => leK_ok) hle hA
    refine IsL.mono (fun _ h => h) (fun _ _ => rfl) args' β β0 vals (fun m p hm' hp' => ?_) this
    rw [List.all_eq_true] at hu
    rw [hβ0 m (Nat.le_of_ble_eq_true (hu m hm'))]; exact hp'
  refine (h.run.2 I β0 w vals hH0 hM hA').mono fun e w' ⟨v, r, S', I', β', he, ⟨e1, e2⟩, hi, hH', hM', hE, hlen, hβ⟩ => ?_
  subst e1; subst e2
  have hβ' : ∀ l, l < S0.length → β' l = β l := fun l hl => (hβ l hl (by simp)).trans (hβ0 l hl)
  have hβm : ∀ l p, β' l = some p → β l = some p := fun l p hp => by
    have : l < S0.length := by have := hH'.lt hp; omega
    rw [← hβ' l this]; exact hp
  have wr0 : ∀ {g}, Wr β0 S0 g → Wr β (st0 ++ T) g := fun {g} ⟨l, b, p, o, h1, h2, h3, h4, h5⟩ => by
    obtain ⟨hlt, b2, hb2, hle2⟩ := old h1
    obtain ⟨_, _, q3, q4, _⟩ := leBlk_ok hle2
    exact ⟨l, b2, p, o, hb2, q4, by rw [q3]; exact h3, (hβn h4).2, h5⟩
  have wr1 : ∀ {g}, Wr β (S' ++ T) g → (Wr β' S' g) ∨ ∃ l b p o, S0.length ≤ l ∧ (st0 ++ T)[l]? = some b ∧ b.live = true ∧ b.m = .w ∧ β l = some p ∧ p.a = some (g, o) := fun {g} ⟨l, b, p, o, h1, h2, h3, h4, h5⟩ => by
    by_cases hl : l < S'.length
    · rw [List.getElem?_append_left hl] at h1
      exact .inl ⟨l, b, p, o, h1, h2, h3, by rw [hβ' l (by omega)]; exact h4, h5⟩
    · rw [List.getElem?_append_right (by omega)] at h1
      refine .inr ⟨l, b, p, o, by omega, ?_, h2, h3, h4, h5⟩
      rw [List.getElem?_append_right (by omega), hl0, hl1]; exact h1
  -- a block of the rest lies apart from those of S0
  have apart : ∀ {l : Nat} {b : PBlk} {p : Plc} {g o : Nat}, S0.length ≤ l → (st0 ++ T)[l]? = some b → b.live = true → β l = some p → p.a = some (g, o) → ¬ Wr β0 S0 g := fun {l b p g o} hl hb hlive hp ha ⟨l2, b2, p2, o2, h1, h2, h3, h4, h5⟩ => by
    obtain ⟨hlt, b3, hb3, hle3⟩ := old h1
    obtain ⟨_, _, q3, q4, _⟩ := leBlk_ok hle3
    obtain ⟨arr, ty, fr, _, ho⟩ := (hH.blk l2 b3 hb3 q4).place (hβn h4).2 h5
    exact (ho.1 (by rw [q3, h3]; nofun)).2.2 l b (by omega) hb hlive p g o hp ha rfl
  refine ⟨v, r, S' ++ T, I', β, he, hk, PV.Is.mono (fun _ h => h) (fun _ _ => rfl) r β' β v (fun m p _ hp => hβm m p hp) hi, ⟨fun l hl => hH.far l (by simp only [List.length_append] at hl ⊢; omega), fun l b hb hlive => ?_⟩, hM', ⟨hE.os, hE.tape, hE.output, hE.size, fun g hg hn => hE.block g hg fun h => hn (wr0 h), fun g hg h => ?_, hE.imm, fun g hg h => (hE.new g hg h).imp id wr0⟩, by simp only [List.length_append]; omega, fun _ _ _ => rfl⟩
  · by_cases hl : l < S'.length
    · rw [List.getElem?_append_left hl] at hb
      have hB := hH'.blk l b hb hlive
      refine hB.mono (fun _ h => h) (fun _ _ => rfl) hβm fun p g o hp ha => ⟨rfl, fun hr => ?_⟩
      obtain ⟨arr, ty, fr, hh, ho⟩ := hB.place hp ha
      obtain ⟨h1, h2, h3⟩ := ho.1 hr
      refine ⟨h2, fun l2 b2 hne hb2 hlive2 p2 g2 o2 hp2 ha2 => ?_⟩
      by_cases hl2 : l2 < S'.length
      · rw [List.getElem?_append_left hl2] at hb2
        exact h3 l2 b2 hne hb2 hlive2 p2 g2 o2 (by rw [hβ' l2 (by omega)]; exact hp2) ha2
      · rw [List.getElem?_append_right (by omega)] at hb2
        have hb2' : (st0 ++ T)[l2]? = some b2 := by rw [List.getElem?_append_right (by omega), hl0, hl1]; exact hb2
        obtain ⟨b0, hb0⟩ : ∃ b0, S0[l]? = some b0 := ⟨S0[l]'(by omega), by simp [show l < S0.length by omega]⟩
        obtain ⟨_, b3, hb3, hle3⟩ := old hb0
        obtain ⟨_, _, q3, q4, _⟩ := leBlk_ok hle3
        obtain ⟨_, q5⟩ := hmd l b0 b hb0 hb
        obtain ⟨_, _, _, _, ho3⟩ := (hH.blk l b3 hb3 q4).place (hβm l p hp) ha
        exact (ho3.1 (by rw [q3, q5]; exact hr)).2.2 l2 b2 hne hb2' hlive2 p2 g2 o2 hp2 ha2
    · rw [List.getElem?_append_right (by omega)] at hb
      have hb' : (st0 ++ T)[l]? = some b := by rw [List.getElem?_append_right (by omega), hl0, hl1]; exact hb
      have hB := hH.blk l b hb' hlive
      have same : ∀ {p g o}, β l = some p → p.a = some (g, o) → g < w.heap.size ∧ w'.heap[g]? = w.heap[g]? := fun {p g o} hp ha => by
        have hlt := hH.lives_lt ⟨l, b, p, o, hb', hlive, hp, ha⟩
        exact ⟨hlt, hE.block g hlt (apart (by omega) hb' hlive hp ha)⟩
      refine hB.mono hE.imm (fun g hg => hE.block g (hM.imm g hg) fun hw => ?_) (fun _ _ h => h) fun p g o hp ha => ⟨(same hp ha).2, fun hr => ?_⟩
      · exact hH0.wr_imm hw hg
      · obtain ⟨arr, ty, fr, hh, ho⟩ := hB.place hp ha
        obtain ⟨h1, h2, h3⟩ := ho.1 hr
        refine ⟨fun hI => (hE.new g (same hp ha).1 hI).elim h2 (apart (by omega) hb' hlive hp ha), fun l2 b2 hne hb2 hlive2 p2 g2 o2 hp2 ha2 => ?_⟩
        by_cases hl2 : l2 < S'.length
        · obtain ⟨b0, hb0⟩ : ∃ b0, S0[l2]? = some b0 := ⟨S0[l2]'(by omega), by simp [show l2 < S0.length by omega]⟩
          obtain ⟨_, b3, hb3, hle3⟩ := old hb0
          exact h3 l2 b3 hne hb3 (leBlk_ok hle3).2.2.2.1 p2 g2 o2 hp2 ha2
        · rw [List.getElem?_append_right (by omega)] at hb2
          exact h3 l2 b2 hne (by rw [List.getElem?_append_right (by omega), hl0, hl1]; exact hb2) hlive2 p2 g2 o2 hp2 ha2
  · rcases wr1 h with h | ⟨l, b, p, o, _, h2, h3, h4, h5, h6⟩
    · exact wr0 (hE.wr g hg h)
    · exact ⟨l, b, p, o, h2, h3, h4, h5, h6⟩
/-- a store says no less than another -/
def leSt : List PBlk → List PBlk → Prop
  | [], [] => True
  | b :: S, b' :: S' => leBlk b b' ∧ leSt S S'
  | _, _ => False
theorem leSt_ok : ∀ {S S' : List PBlk}, leSt S S' → S.length = S'.length ∧ ∀ (l : Nat) (b b' : PBlk), S[l]? = some b → S'[l]? = some b' → leBlk b b'
  | [], [], _ => ⟨rfl, fun l b b' h => by simp at h⟩
  | b :: S, b' :: S', h => by
    obtain ⟨h1, h2⟩ := leSt_ok h.2
    refine ⟨by simp [h1], fun l c c' hc hc' => ?_⟩
    cases l with
    | zero => simp at hc hc'; subst hc; subst hc'; exact h.1
    | succ l => exact h2 l c c' (by simpa using hc) (by simpa using hc')
  | [], _ :: _, h => h.elim
  | _ :: _, [], h => h.elim
theorem leSt_some {S S' : List PBlk} (h : leSt S S') {l : Nat} {b' : PBlk} (hb : S'[l]? = some b') : ∃ b, S[l]? = some b ∧ leBlk b b' := by
  obtain ⟨h1, h2⟩ := leSt_ok h
  have hl : l < S.length := by rw [h1]; exact (List.getElem?_eq_some_iff.1 hb).1
  exact ⟨S[l], by simp [hl], h2 l _ _ (by simp [hl]) hb⟩
theorem HeapOk.le {S S' : List PBlk} (h : leSt S S') (hH : HeapOk I β S w) : HeapOk I β S' w := by
  refine ⟨fun l hl => hH.far l (by rw [(leSt_ok h).1]; exact hl), fun l b' hb' hlive => ?_⟩
  obtain ⟨b, hb, hle1⟩ := leSt_some h hb'
  obtain ⟨e1, e2, e3, e4, e5, e6, e7⟩ := leBlk_ok hle1
  obtain ⟨p, hp, hB⟩ := hH.blk l b hb e4
  have own : ∀ {g : Nat} {fr : Nat × Nat}, Own I β S l g fr b → Own I β S' l g fr b' := fun {g fr} ho => by
    refine ⟨fun hr => ?_, fun hr => ho.2 (by rw [e3]; exact hr)⟩
    obtain ⟨h1, h2, h3⟩ := ho.1 (by rw [e3]; exact hr)
    refine ⟨h1, h2, fun l2 b2 hne hl2 hlive2 p2 g2 o2 hp2 ha2 => ?_⟩
    obtain ⟨b3, hb3, hle3⟩ := leSt_some h hl2
    exact h3 l2 b3 hne hb3 (leBlk_ok hle3).2.2.2.1 p2 g2 o2 hp2 ha2
  have cells : b'.k.isC = true → ∀ {arr : Array Value} {o : Nat}, CellsAt w I β b.cs arr o → CellsAt w I β b'.cs arr o := fun hk {arr o} hc => by
    rcases e7 with ⟨hd, _⟩ | ⟨_, h7⟩
    · (rw [e6, hk] at hd; cases hd)
    · exact leL_cells h7 hc
  refine ⟨p, hp, ?_⟩
  split at hB
  · rename_i hkk
    have hk' : b'.k = .loc := by rw [← e6]; exact hkk
    obtain ⟨g, o, arr, ty, fr, h1, h2, h3, ho⟩ := hB
    rw [hk']
    exact ⟨g, o, arr, ty, fr, h1, h2, cells (by rw [hk']; rfl) h3, own ho⟩
  · rename_i hkk
    have hk' : b'.k = .arr := by rw [← e6]; exact hkk
    obtain ⟨g, arr, fr, h1, h2, h3, ho, h4, h5, h6, h7, h8⟩ := hB
    have hlen : b'.cs.length = b.cs.length := by
      rcases e7 with ⟨hd, _⟩ | ⟨_, h9⟩
      · rw [hkk] at hd; cases hd
      · exact (leL_len h9).symm
    rw [hk']
    exact ⟨g, arr, fr, h1, by rw [← e1]; exact h2, cells (by rw [hk']; rfl) h3, own ho, by rw [hlen, ← e2]; exact h4, h5, h6, by rw [← e2]; exact h7, by rw [← e2]; exact h8⟩
  · rename_i hkk
    have hk' : b'.k = .dyn := by rw [← e6]; exact hkk
    have hcs : b.cs = b'.cs := by
      rcases e7 with ⟨_, h9⟩ | ⟨hd, _⟩
      · exact h9
      · (rw [hkk] at hd; cases hd)
    obtain ⟨⟨h1, h2, h3, h4⟩, hB⟩ := hB
    rw [hk']
    refine ⟨⟨by rw [← e2]; exact h1, by rw [← hcs]; exact h2, h3, h4⟩, ?_⟩
    rcases hB with h | ⟨g, arr, fr, h5, h6, h7, ho, h8⟩
    · exact .inl h
    · exact .inr ⟨g, arr, fr, h5, by rw [← e1]; exact h6, by rw [← hcs, ← e2]; exact h7, own ho, by rw [← e2]; exact h8⟩
  · rename_i hkk
    have hk' : b'.k = .mp := by rw [← e6]; exact hkk
    have hcs : b.cs = b'.cs := by
      rcases e7 with ⟨_, h9⟩ | ⟨hd, _⟩
      · exact h9
      · (rw [hkk] at hd; cases hd)
    obtain ⟨g, h1, h2, ho⟩ := hB
    rw [hk']
    exact ⟨g, h1, by rw [← hcs]; exact h2, own ho⟩
theorem Spec.leS {f : FuncId} {args : List PV} {S : List PBlk} {rl : List Nat} {r0 : PV} {S1 : List PBlk} (h : Spec G f args S rl fun x S' => x = r0 ∧ leSt S' S1) : Spec G f args S rl fun x S' => x = r0 ∧ S' = S1 :=
  Spec.intro h.run.1 fun I β w vals hH hM hA => (h.run.2 I β w vals hH hM hA).mono fun e w' ⟨v, r, S', I', β', he, ⟨e1, e2⟩, hi, hH', hM', hE, hlen, hβ⟩ =>
    ⟨v, r, S1, I', β', he, ⟨e1, rfl⟩, hi, hH'.le e2, hM', ⟨hE.os, hE.tape, hE.output, hE.size, hE.block, fun g hg ⟨l, b, p, o, h1, h2, h3, h4, h5⟩ => by
      obtain ⟨b0, hb0, hle0⟩ := leSt_some e2 h1
      obtain ⟨_, _, q3, q4, _⟩ := leBlk_ok hle0
      exact hE.wr g hg ⟨l, b0, p, o, hb0, q4, by rw [q3]; exact h3, h4, h5⟩, hE.imm, hE.new⟩, by rw [← (leSt_ok e2).1]; exact hlen, hβ⟩
theorem retS {r r0 : PV} {S' S1 : List PBlk} (h : leK r r0) (hs : leSt S' S1) : ∃ r', PLe r r' ∧ (fun x S' => x = r0 ∧ leSt S' S1) r' S' := ⟨r0, leK_ok h, rfl, hs⟩
end

/-- the state at a loop's head, with a store of its own -/
def PSt.headW (s : PSt) (c : Code) (vs : List (Nat × PV)) (st' : List PBlk) : PSt := match s with
  | ⟨n, t, _, b, rl⟩ => ⟨n, (layF vs (clearF (dsts c) t)).dropT, st', b, rl⟩
/-- a loop that writes to the store: slots and store by x -/
theorem SW.loopW {G : Gx} {s : PSt} (hG : GOk G) (R : List (Nat × Plan)) {α : Type} {c : Code} {Q : X → PSt → Prop} (hc : planAll R c = true) (vs : α → List (Nat × PV)) (stx : α → List PBlk) (μ : α → Nat) (x0 : α) (N : Nat) (π : Ren) (h0 : subK G.cx π s (s.headW c (vs x0) (stx x0)))
    (h : ∀ x, frS (s.headW c (vs x) (stx x)) (pw G R N c (backK (fun s' => ∃ y π, μ y < μ x ∧ subK G.cx π s' (s.headW c (vs y) (stx y))) Q))) : SW G (.loop c) Q s :=
  SW.inv hG (fun x => s.headW c (vs x) (stx x)) μ (N := N) hc x0 (subK_ok hG.ok h0) (fun x s' => ∃ y π, μ y < μ x ∧ subK G.cx π s' (s.headW c (vs y) (stx y))) (fun x s' ⟨y, _, hy, hs⟩ => ⟨y, hy, subK_ok hG.ok hs⟩) fun x => frS_ok (h x)

end Go.Proofs.YtjcacjeoddnmhaaDoor.Pw

/- make and copy, as the evaluator says. -/
namespace Go.Proofs.YtjcacjeoddnmhaaDoor.Pw
open Go Go.RowKit

theorem no_rl {p : Nat → Prop} : ∀ l ∈ ([] : List Nat), p l := fun l hl => absurd hl List.not_mem_nil
section
variable {w w' : World} {I I' : Nat → Prop} {β β' : Places} {G : Gx} {s : PSt} {a : Act} {st st' : List PBlk}
theorem RowIs.take {es : List PV} {n : Nat} {xs : List Value} (h : RowIs w I es n xs) {k : Nat} (hk : k ≤ es.length) : RowIs w I (es.take k) n (xs.take (k * n)) := by
  have h1 : k * n ≤ es.length * n := Nat.mul_le_mul_right _ hk
  refine ⟨by rw [List.length_take, List.length_take, h.1, Nat.min_eq_left h1, Nat.min_eq_left hk], fun i e he => ?_⟩
  rw [List.getElem?_take] at he
  split at he
  · rename_i hi
    obtain ⟨h2, h3⟩ := h.2 i e he
    refine ⟨h2, fun j c hc => ?_⟩
    obtain ⟨v, hv, h4⟩ := h3 j c hc
    have hj : j < n := by rw [← h2]; exact (List.getElem?_eq_some_iff.1 hc).1
    have : i * n + n ≤ k * n := by rw [← Nat.succ_mul]; exact Nat.mul_le_mul_right _ hi
    exact ⟨v, by rw [List.getElem?_take, if_pos (by omega)]; exact hv, h4⟩
  · cases he
theorem RowIs.drop {es : List PV} {n : Nat} {xs : List Value} (h : RowIs w I es n xs) (k : Nat) : RowIs w I (es.drop k) n (xs.drop (k * n)) := by
  refine ⟨by rw [List.length_drop, List.length_drop, h.1, Nat.sub_mul], fun i e he => ?_⟩
  rw [List.getElem?_drop] at he
  obtain ⟨h2, h3⟩ := h.2 _ e he
  refine ⟨h2, fun j c hc => ?_⟩
  obtain ⟨v, hv, h4⟩ := h3 j c hc
  exact ⟨v, by rw [List.getElem?_drop, ← Nat.add_assoc, ← Nat.add_mul]; exact hv, h4⟩
theorem OpS.intro {o : Oper} {q : PV → PSt → Prop} (h : ∀ I β a w, Rel G I β s a w → Ev.resE G.cx.P (OpPost G s I β w a q) ((execOp a.eval o).run G.cx.P w)) : OpS G s o q := by unfold OpS; exact h

end

end Go.Proofs.YtjcacjeoddnmhaaDoor.Pw

/- Functions whose result is the caller's own block, that may be written and appended to. -/
namespace Go.Proofs.YtjcacjeoddnmhaaDoor.Pw
open Go Go.RowKit

/-- at a function's end: what the caller gets, of what is known; nothing is frozen -/
def retN (G : Gx) (rs : List ResultVar) (base : Nat) (K : PV → List PBlk → Prop) (x : X) (s : PSt) : Prop := match x with
  | .exit _ => False
  | _ => ∃ (π : Ren) (vs : List (Nat × PV)) (S' : List PBlk), subK G.cx π s ⟨s.n, layF vs .nil, S', s.base, s.rl⟩ ∧ base ≤ S'.length ∧ resK G ⟨s.n, layF vs .nil, S', s.base, s.rl⟩ rs fun r => K r S'
def enterN (G : Gx) (R : List (Nat × Plan)) (N : Nat) (fn : Func) (c : Code) (args : List PV) (S : List PBlk) (rl : List Nat) (K : PV → List PBlk → Prop) : Prop :=
  bif Nat.ble args.length fn.ntmps && Nat.ble fn.ntmps 16777215 && !(fn.name == "runtime.NumGoroutine") then
    lenK S 0 fun b => argT args 0 .nil fun t => pw G R N c (retN G fn.results.toList b K) ⟨fn.ntmps, t, S, b, rl⟩ else False

section
variable {w w' : World} {I I' : Nat → Prop} {β β' : Places} {G : Gx} {s : PSt} {a : Act} {st st' : List PBlk}
theorem Spec.enterN (hG : GOk G) (R : List (Nat × Plan)) {f : FuncId} {fn : Func} {c : Code} {args : List PV} {S : List PBlk} {rl : List Nat} {K : PV → List PBlk → Prop} (N : Nat) (hf : G.cx.P.funcs[f]? = some fn) (hb : fn.body = some c) (hpl : planAll R c = true) (h : enterN G R N fn c args S rl K) : Spec G f args S rl K := by
  obtain ⟨hc, h⟩ := bif_ok h
  simp only [Bool.and_eq_true, Bool.not_eq_true'] at hc
  obtain ⟨⟨hle, hlim⟩, hname⟩ := hc
  have hle := Nat.le_of_ble_eq_true hle
  have hlim := Nat.le_of_ble_eq_true hlim
  replace h := lenK_ok h
  rw [Nat.zero_add] at h
  obtain ⟨t, h, ht⟩ := argT_ok h
  refine Spec.intro (Ev.enters_of hf hb hname) fun I β w vals hH hM hA => calls_of_wp hf hb ?_
  have hal := hA.length
  have hR : Rel G I β ⟨fn.ntmps, t, S, S.length, rl⟩ { tmps := vals.toArray ++ Array.replicate (fn.ntmps - vals.toArray.size) Go.undef, defers := [] } w := by
    refine ⟨hlim, rfl, by simp; omega, Nat.le_refl _, fun n x hx => ?_, hH, hM⟩
    rcases ht n x hx with ⟨j, hj, hx⟩ | hx
    · rw [Nat.zero_add] at hj
      subst hj
      obtain ⟨v, hv, hi⟩ := hA.get hx
      have hlt : n < vals.length := (List.getElem?_eq_some_iff.1 hv).1
      exact ⟨v, by rw [Array.getElem?_append_left (by simpa using hlt)]; simpa using hv, hi⟩
    · cases hx
  refine wp_mono ((pw_ok hG N c _ _ hpl h).run hR) fun e a' w' hp => ?_
  obtain ⟨x, s', I', β', rfl, hq, hR', hg⟩ := hp.goes
  have fin_ : retN G fn.results.toList S.length K .nml s' → a'.defers = [] ∧ ∃ v, (results fn a'.tmps).run G.cx.P w' = .ok v w' ∧ ∃ v', ∃ r S' I' β', Ending.returned v = .returned v' ∧ K r S' ∧ r.Is w' I' β' v' ∧ HeapOk I' β' S' w' ∧ ImmOk G I' w' ∧ Ext I β S w I' β' S' w' ∧ S.length ≤ S'.length ∧ ∀ l, l < S.length → l ∉ rl → β' l = β l := by
    rintro ⟨π, vs, S', hsub, hlen, hres⟩
    obtain ⟨I2, β2, hR2, hg2⟩ := subK_ok hG.ok hsub I' β' a' w' hR'
    obtain ⟨r, v, hK, hr, hrun⟩ := resK_ok hG hR2 hres
    have hgg := hg.trans hg2
    exact ⟨hR'.defers, v, hrun, v, r, S', I2, β2, rfl, hK, hr, hR2.heap, hR2.imm, hgg.ext, hlen, fun l hl hr => hgg.low l hl hr⟩
  cases x with
  | nml => exact fin_ hq
  | ret => exact fin_ hq
  | exit id => exact hq.elim
/-- a new block is the caller's -/
theorem Spec.useNew {f : FuncId} {args args' : List PV} {b : PBlk} {K : PV → List PBlk → Prop} (h : Spec G f args' [] [] fun r S' => r = .wref 0 ∧ S' = [b]) (hm : b.m = .w) (hlv : b.live = true) (hk : b.k = .dyn) (hle : leL leK args args') (hu : usesL args' = [])
    (hK : lenK st 0 fun l => addB st b fun st' => K (.wref l) st') : Spec G f args st [] K := by
  refine Spec.intro h.run.1 fun I β w vals hH hM hA => ?_
  replace hK := addB_ok (lenK_ok hK)
  rw [Nat.zero_add] at hK
  have h0 : HeapOk I (fun _ => none) ([] : List PBlk) w := ⟨fun _ _ => rfl, fun l b hl => by simp at hl⟩
  refine (h.run.2 I (fun _ => none) w vals h0 hM (usesL_none hu (leL_ok (fun _ _ => leK_ok) hle hA))).mono fun e w' ⟨v, r', S', I', β', he, ⟨hr', hS'⟩, hi, hH', hM', hE, _, _⟩ => ?_
  subst hr'
  subst hS'
  have hnw : ∀ g, ¬ Wr (fun _ => none) ([] : List PBlk) g := fun g ⟨l, b, p, o, h1, _⟩ => by simp at h1
  have hold : ∀ g, g < w.heap.size → w'.heap[g]? = w.heap[g]? := fun g hg => hE.block g hg (hnw g)
  have hI' : ∀ g, g < w.heap.size → I' g → I g := fun g hg h => (hE.new g hg h).elim id fun h => absurd h (hnw g)
  simp only [PV.Is] at hi
  obtain ⟨p, hp, rfl⟩ := hi
  have hfresh : ∀ g o, p.a = some (g, o) → w.heap.size ≤ g := fun g o ha => by
    rcases Nat.lt_or_ge g w.heap.size with hlt | hge
    · exact absurd (hE.wr g hlt ⟨0, b, p, o, rfl, hlv, hm, hp, ha⟩) (hnw g)
    · exact hge
  have hHo : HeapOk I' β st w' := ⟨hH.far, fun l b hl hlive => by
    have hb := hH.blk l b hl hlive
    refine hb.mono hE.imm (fun g hg => hold g (hM.imm g hg)) (fun _ _ h => h) fun p g o hp ha => ?_
    obtain ⟨arr, ty, fr, hh, ho⟩ := hb.place hp ha
    have hlt := lt_of_heap hh
    exact ⟨hold g hlt, fun hr => ⟨fun hI => (ho.1 hr).2.1 (hI' g hlt hI), (ho.1 hr).2.2⟩⟩⟩
  have hlow : ∀ g, Lives β st g → g < w.heap.size := fun g hg => hH.lives_lt hg
  have hbk := hH'.blk 0 b rfl hlv
  have hadd : HeapOk I' (β.set st.length p) (st ++ [b]) w' := by
    refine hHo.add (fun _ _ => rfl) (fun g o ha => ⟨?_, fun hL => by have := hlow g hL; have := hfresh g o ha; omega⟩) ?_
    · obtain ⟨arr, ty, fr, hh, ho⟩ := hbk.place hp ha
      exact (ho.1 (by rw [hm]; decide)).2.1
    · obtain ⟨p', hp', hd⟩ := hbk
      obtain rfl := Option.some.inj (hp.symm.trans hp')
      refine ⟨p, Places.set_self .., ?_⟩
      rw [hk] at hd ⊢
      refine ⟨hd.1, hd.2.imp id ?_⟩
      rintro ⟨g, arr, fr, h1, h2, h3, ho, h4⟩
      refine ⟨g, arr, fr, h1, h2, h3, ⟨fun hr => ⟨(ho.1 hr).1, (ho.1 hr).2.1, fun l' b' hne hl' hlive' q g' o' hq ha' e => ?_⟩, ho.2⟩, h4⟩
      subst e
      unfold Places.set at hq
      rw [if_neg hne] at hq
      have hlt := hH.lt hq
      rw [List.getElem?_append_left hlt] at hl'
      have := hlow g' ⟨l', b', q, o', hl', hlive', hq, ha'⟩
      have := hfresh g' _ h1
      omega
  refine ⟨_, .wref st.length, st ++ [b], I', β.set st.length p, he, hK, ?_, hadd, hM', ⟨hE.os, hE.tape, hE.output, hE.size, fun g hg _ => hold g hg, fun g hg ⟨l, b', q, o, h1, h2, h3, h4, h5⟩ => ?_, hE.imm, fun g hg h => .inl (hI' g hg h)⟩, by simp, fun l hl _ => ?_⟩
  · simp only [PV.Is]; exact ⟨p, Places.set_self .., rfl⟩
  · unfold Places.set at h4
    split at h4
    · cases h4
      have := hfresh g o h5
      omega
    · have := hH.lt h4
      rw [List.getElem?_append_left this] at h1
      exact ⟨l, b', q, o, h1, h2, h3, h4, h5⟩
  · unfold Places.set
    rw [if_neg (by omega)]
end

end Go.Proofs.YtjcacjeoddnmhaaDoor.Pw

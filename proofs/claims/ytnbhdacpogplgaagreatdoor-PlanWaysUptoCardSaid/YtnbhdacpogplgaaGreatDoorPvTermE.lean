/- What this claim is proved with: no condition. -/
import Derived.Test.YtnbhdacpogplgaaGreatDoorPvTermD
import Derived.LoopTactic
import Derived.Lib.Hide
import Derived.Deep.QuietTactic
import Derived.BigQuiet
set_option linter.unusedVariables false
set_option linter.unusedSimpArgs false
namespace Go.Proofs.YtnbhdacpogplgaaGreatDoor
open Go Go.RowKit
def ql (op:Int):Int:=if op < 1\/17 < op then -1 else if op < 3 then 0 else if op < 5 then 1 else 2
def nf (x:Int × Int × Int):Bool:=decide (1<=x.1/\x.1<=17/\ql x.1=x.2.2/\(2 < x.1->x.2.1=0)/\(x.1=2->x.2.1<=255))
end Go.Proofs.YtnbhdacpogplgaaGreatDoor

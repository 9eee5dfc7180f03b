/- Right, and the document's Right, set against each other, form by form. -/
import Derived.Test.YtnbngokbamifbaaGreatDoorNaInstR
import Derived.Test.YtnbngokbamifbaaGreatDoorNa5
namespace Go.Proofs.YtnbngokbamifbaaGreatDoor.Ev
open Go Go.RowKit

def rightA (b : Int × Int) : AV := .v (.g (.int .i64 (bif decide (b.1 = b.2) then .lit b.1 else .var 0) :: (List.range 10).map fun i => .int .i64 (.var (i + 1))))
def rightL : FL := (List.range 10).map fun i => (.var (i + 1), -9223372036854775808, 9223372036854775807)
def rightPc (b : Int × Int) (l : FL) : PC := pcOf (l ++ ((.var 0, b) :: rightL))
/-- do both say the same of all instructions with a form within bounds? -/
noncomputable def rightT (b : Int × Int) (l : FL) : Tr Leaf := evFn cx2 1000 99 (tabBlks [shTab]) (rightPc b l) [rightA b]
noncomputable def refT (b : Int × Int) (l : FL) : Tr Leaf := evFn cx2 1000 129 (tabBlks [shTab]) (rightPc b l) [rightA b]
noncomputable def rightOk (b : Int × Int) (l : FL) : Bool := agree (refT b l) (rightPc b l) (rightT b l)
attribute [irreducible] rightOk

def maskF (m lo hi a b : Int) : FL := [(.var 10, lo, hi), (.sub (.var 10) (.land (.var 10) (.lit m)), a, b)]

end Go.Proofs.YtnbngokbamifbaaGreatDoor.Ev

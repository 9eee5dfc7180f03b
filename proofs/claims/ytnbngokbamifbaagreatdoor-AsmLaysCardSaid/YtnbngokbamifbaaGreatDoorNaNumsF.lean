/- The forms of instructions as numbers: their shapes, their bits. No program in sight. -/
import Derived.Test.YtnbngokbamifbaaGreatDoorNaNums
namespace Go.Proofs.YtnbngokbamifbaaGreatDoor.Rm

/-- the forms' shapes; place 0 is none -/
def shapesL : List Int := [0, 1, 1, 1, 2, 2, 3, 3, 4, 4, 4, 4, 5, 5, 5, 5, 5, 5, 5, 5, 5, 5, 5, 5, 5, 5, 5, 5, 6, 6, 6, 7, 8, 2, 2, 9, 9, 8, 8, 8, 10, 10, 11, 12, 13, 14, 15, 16, 17, 17, 18, 18, 18, 18, 18, 18, 18, 18, 18, 18, 19, 19, 20, 20, 20, 20, 21, 21, 21, 21, 21, 21, 21, 21, 21, 21, 22, 22, 23, 23, 23, 23, 24, 24, 25, 25, 26, 26, 27, 27, 27, 27, 28, 29, 30, 31, 31, 28, 32, 33, 34]
end Go.Proofs.YtnbngokbamifbaaGreatDoor.Rm

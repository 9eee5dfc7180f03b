/- Walks of a word's number, and of chapter 2's laws but the one that goes through all numbers. -/
import Derived.Test.YtnbngokbamifbaaGreatDoorNiImmB
import Derived.Test.YtnbngokbamifbaaGreatDoorNiImmC
namespace Go.Proofs.YtnbngokbamifbaaGreatDoor
open Go.RowKit

namespace Rm
end Rm

end Go.Proofs.YtnbngokbamifbaaGreatDoor

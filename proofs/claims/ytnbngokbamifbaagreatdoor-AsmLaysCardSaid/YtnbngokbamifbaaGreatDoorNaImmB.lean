/- Walks of the functions that find a word's number: the tries of a repeated byte, the number of a word, the document's search. -/
import Derived.Test.YtnbngokbamifbaaGreatDoorNaImmA
namespace Go.Proofs.YtnbngokbamifbaaGreatDoor
open Go.RowKit

end Go.Proofs.YtnbngokbamifbaaGreatDoor

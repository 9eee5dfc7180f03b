/- Walks of the words' functions with a loop: a shift by many bits, a bit, the document's shift, the document's length. -/
import Derived.Test.YtfnjlkmhnhojpaaDoorJcAluA
namespace Go.Proofs.YtfnjlkmhnhojpaaDoor
open Go.RowKit

end Go.Proofs.YtfnjlkmhnhojpaaDoor

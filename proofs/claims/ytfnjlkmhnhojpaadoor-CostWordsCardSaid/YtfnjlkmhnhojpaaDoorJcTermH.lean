/- The anchor of chapter 11. -/
import Derived.Test.YtfnjlkmhnhojpaaDoorJc2
namespace Go.Proofs.YtfnjlkmhnhojpaaDoor
open Go Go.RowKit

end Go.Proofs.YtfnjlkmhnhojpaaDoor

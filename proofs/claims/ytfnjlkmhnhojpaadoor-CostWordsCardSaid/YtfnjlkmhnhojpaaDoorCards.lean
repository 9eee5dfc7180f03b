/-
  DERIVED. GIVEN WITH THE SEED: THE CARDS: each row of YtfnjlkmhnhojpaaDoorRows.lean that lists a variable, with what it lists TIED to the program's text (the seventh form; the later family's looks); each row that meets fmt, with fmt's text TOLD by the authors' own Lean function (tested against real Go, not proved from fmt's source: count such statements apart). THE CARD IS WHAT COUNTS. Prove the row's statement (the work); the ties are given (YtfnjlkmhnhojpaaDoorTie.lean); close each card by the builder's one call (the guide's Derived/Test/ToyasCard.lean, 'card_holds'). Laid BY PROGRAM, IN A SANDBOX (cutbox-door.mjs). By AI agents, Wed Nov 11 2026. No macro, syntax, notation, axiom, sorry.
-/
import Derived.Test.YtfnjlkmhnhojpaaDoorRows
import GoSem.ClaimSeven
namespace Go.Proofs.YtfnjlkmhnhojpaaDoor
namespace Rows

/-- THE TIED CARD OF 'remontoirelaw21.CostJoins'. -/
def costJoinsCard : Claim7 := { stood := { row := costJoinsRow, standIns := [], harness := (true, "6bd95b9b84039b6a1bc9ae1bd8701d7204708b25bcef23f86f35a15bed92d3cb"), looks := false }, kinds := [], alts := [], laidByText := true, laidKinds := [.data], laidTests := true, laidLooks := .later }
def CostJoinsCardSaid : Prop := Claim7.holds Tryd.pinned (.plain (OpenSpec.ofChange costJoinsSpec)) costJoinsCard

/-- THE TIED CARD OF 'remontoirelaw21.CostWords'. -/
def costWordsCard : Claim7 := { stood := { row := costWordsRow, standIns := [], harness := (true, "6bd95b9b84039b6a1bc9ae1bd8701d7204708b25bcef23f86f35a15bed92d3cb"), looks := false }, kinds := [], alts := [], laidByText := true, laidKinds := [.data], laidTests := true, laidLooks := .later }
def CostWordsCardSaid : Prop := Claim7.holds Tryd.pinned (.plain (OpenSpec.ofChange costWordsSpec)) costWordsCard

/-- THE SECOND FORM's CARD OF 'remontoirelaw21.CostJoins'. -/
def costJoinsUptoCard : Claim7 := { stood := { row := costJoinsUptoRow, standIns := [], harness := (true, "6bd95b9b84039b6a1bc9ae1bd8701d7204708b25bcef23f86f35a15bed92d3cb"), looks := false }, kinds := [], alts := [], laidByText := true, laidKinds := [.data], laidTests := true, laidLooks := .later }
def CostJoinsUptoCardSaid : Prop := Claim7.holds Tryd.pinned (.plain (OpenSpec.upto costJoinsSpec)) costJoinsUptoCard

/-- THE SECOND FORM's CARD OF 'remontoirelaw21.CostWords'. -/
def costWordsUptoCard : Claim7 := { stood := { row := costWordsUptoRow, standIns := [], harness := (true, "6bd95b9b84039b6a1bc9ae1bd8701d7204708b25bcef23f86f35a15bed92d3cb"), looks := false }, kinds := [], alts := [], laidByText := true, laidKinds := [.data], laidTests := true, laidLooks := .later }
def CostWordsUptoCardSaid : Prop := Claim7.holds Tryd.pinned (.plain (OpenSpec.upto costWordsSpec)) costWordsUptoCard
end Rows
end Go.Proofs.YtfnjlkmhnhojpaaDoor

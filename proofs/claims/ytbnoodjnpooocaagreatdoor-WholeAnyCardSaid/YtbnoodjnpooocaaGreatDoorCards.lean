/-
  DERIVED. GIVEN WITH THE SEED: THE CARDS: each row of YtbnoodjnpooocaaGreatDoorRows.lean that lists a variable, with what it lists TIED to the program's text (the seventh form; the later family's looks); each row that meets fmt, with fmt's text TOLD by the authors' own Lean function (tested against real Go, not proved from fmt's source: count such statements apart). THE CARD IS WHAT COUNTS. Prove the row's statement (the work); the ties are given (YtbnoodjnpooocaaGreatDoorTie.lean); close each card by the builder's one call (the guide's Derived/Test/ToyasCard.lean, 'card_holds'). Laid BY PROGRAM, IN A SANDBOX (cutbox-door.mjs). By AI agents, Wed Nov 11 2026. No macro, syntax, notation, axiom, sorry.
-/
import Derived.Test.YtbnoodjnpooocaaGreatDoorRows
import GoSem.ClaimSeven
namespace Go.Proofs.YtbnoodjnpooocaaGreatDoor
namespace Rows

/-- THE TIED CARD OF 'remontoiretop.WholeAny'. -/
def wholeAnyCard : Claim7 := { stood := { row := wholeAnyRow, standIns := [], harness := (true, "d4b6be1aec0af4aa0d49cbff4612038dd8112bae55ab1c859c50693b26a55b82"), looks := false }, kinds := [], alts := [], laidByText := true, laidKinds := [.data, .data, .data, .data, .data, .data, .widerDeep, .data, .data, .data, .data], laidTests := true, laidLooks := .later }
def WholeAnyCardSaid : Prop := Claim7.holds Tryz.pinned (.plain (OpenSpec.ofChange wholeAnySpec)) wholeAnyCard

/-- THE SECOND FORM's CARD OF 'remontoiretop.WholeAny'. -/
def wholeAnyUptoCard : Claim7 := { stood := { row := wholeAnyUptoRow, standIns := [], harness := (true, "d4b6be1aec0af4aa0d49cbff4612038dd8112bae55ab1c859c50693b26a55b82"), looks := false }, kinds := [], alts := [], laidByText := true, laidKinds := [.data, .data, .data, .data, .data, .data, .widerDeep, .data, .data, .data, .data], laidTests := true, laidLooks := .later }
def WholeAnyUptoCardSaid : Prop := Claim7.holds Tryz.pinned (.plain (OpenSpec.upto wholeAnySpec)) wholeAnyUptoCard
end Rows
end Go.Proofs.YtbnoodjnpooocaaGreatDoor

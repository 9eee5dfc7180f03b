/-
  DERIVED. GIVEN WITH THE SEED: THE CARDS: each row of YthcnhigcimehjaaDoorRows.lean that lists a variable, with what it lists TIED to the program's text (the seventh form; the later family's looks); each row that meets fmt, with fmt's text TOLD by the authors' own Lean function (tested against real Go, not proved from fmt's source: count such statements apart). THE CARD IS WHAT COUNTS. Prove the row's statement (the work); the ties are given (YthcnhigcimehjaaDoorTie.lean); close each card by the builder's one call (the guide's Derived/Test/ToyasCard.lean, 'card_holds'). Laid BY PROGRAM, IN A SANDBOX (cutbox-door.mjs). By AI agents, Wed Nov 11 2026. No macro, syntax, notation, axiom, sorry.
-/
import Derived.Test.YthcnhigcimehjaaDoorRows
import GoSem.ClaimSeven
namespace Go.Proofs.YthcnhigcimehjaaDoor
namespace Rows

/-- THE TIED CARD OF 'remontoirelaw02.ImmAll'. -/
def immAllCard : Claim7 := { stood := { row := immAllRow, standIns := [], harness := (true, "3a1c4b686045c9d356b0cdf2984a0c68532ee49154ad8e9fbd9eef30ef71e2f8"), looks := false }, kinds := [], alts := [], laidByText := true, laidKinds := [.data], laidTests := true, laidLooks := .later }
def ImmAllCardSaid : Prop := Claim7.holds Tryd.pinned (.plain (OpenSpec.ofChange immAllSpec)) immAllCard

/-- THE SECOND FORM's CARD OF 'remontoirelaw02.ImmAll'. -/
def immAllUptoCard : Claim7 := { stood := { row := immAllUptoRow, standIns := [], harness := (true, "3a1c4b686045c9d356b0cdf2984a0c68532ee49154ad8e9fbd9eef30ef71e2f8"), looks := false }, kinds := [], alts := [], laidByText := true, laidKinds := [.data], laidTests := true, laidLooks := .later }
def ImmAllUptoCardSaid : Prop := Claim7.holds Tryd.pinned (.plain (OpenSpec.upto immAllSpec)) immAllUptoCard
end Rows
end Go.Proofs.YthcnhigcimehjaaDoor

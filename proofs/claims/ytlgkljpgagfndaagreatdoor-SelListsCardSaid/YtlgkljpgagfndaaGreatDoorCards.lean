/-
  DERIVED. GIVEN WITH THE SEED: THE CARDS: each row of YtlgkljpgagfndaaGreatDoorRows.lean that lists a variable, with what it lists TIED to the program's text (the seventh form; the later family's looks); each row that meets fmt, with fmt's text TOLD by the authors' own Lean function (tested against real Go, not proved from fmt's source: count such statements apart). THE CARD IS WHAT COUNTS. Prove the row's statement (the work); the ties are given (YtlgkljpgagfndaaGreatDoorTie.lean); close each card by the builder's one call (the guide's Derived/Test/ToyasCard.lean, 'card_holds'). Laid BY PROGRAM, IN A SANDBOX (cutbox-door.mjs). By AI agents, Wed Nov 11 2026. No macro, syntax, notation, axiom, sorry.
-/
import Derived.Test.YtlgkljpgagfndaaGreatDoorRows
import GoSem.ClaimSeven
namespace Go.Proofs.YtlgkljpgagfndaaGreatDoor
namespace Rows

/-- THE TIED CARD OF 'remontoirelaw18.SelConstant'. -/
def selConstantCard : Claim7 := { stood := { row := selConstantRow, standIns := [], harness := (true, "fd6745374f256624e4a0126ed956d712750ad42944719437af3562fbde3852bb"), looks := false }, kinds := [], alts := [], laidByText := true, laidKinds := [.data, .data, .data], laidTests := true, laidLooks := .later }
def SelConstantCardSaid : Prop := Claim7.holds Tryz.pinned (.plain (OpenSpec.ofChange selConstantSpec)) selConstantCard

/-- THE TIED CARD OF 'remontoirelaw18.SelDoes'. -/
def selDoesCard : Claim7 := { stood := { row := selDoesRow, standIns := [], harness := (true, "fd6745374f256624e4a0126ed956d712750ad42944719437af3562fbde3852bb"), looks := false }, kinds := [], alts := [], laidByText := true, laidKinds := [.data, .data, .data], laidTests := true, laidLooks := .later }
def SelDoesCardSaid : Prop := Claim7.holds Tryz.pinned (.plain (OpenSpec.ofChange selDoesSpec)) selDoesCard

/-- THE TIED CARD OF 'remontoirelaw18.SelLists'. -/
def selListsCard : Claim7 := { stood := { row := selListsRow, standIns := [], harness := (true, "fd6745374f256624e4a0126ed956d712750ad42944719437af3562fbde3852bb"), looks := false }, kinds := [], alts := [], laidByText := true, laidKinds := [.data, .data, .data], laidTests := true, laidLooks := .later }
def SelListsCardSaid : Prop := Claim7.holds Tryz.pinned (.plain (OpenSpec.ofChange selListsSpec)) selListsCard

/-- THE SECOND FORM's CARD OF 'remontoirelaw18.SelConstant'. -/
def selConstantUptoCard : Claim7 := { stood := { row := selConstantUptoRow, standIns := [], harness := (true, "fd6745374f256624e4a0126ed956d712750ad42944719437af3562fbde3852bb"), looks := false }, kinds := [], alts := [], laidByText := true, laidKinds := [.data, .data, .data], laidTests := true, laidLooks := .later }
def SelConstantUptoCardSaid : Prop := Claim7.holds Tryz.pinned (.plain (OpenSpec.upto selConstantSpec)) selConstantUptoCard

/-- THE SECOND FORM's CARD OF 'remontoirelaw18.SelDoes'. -/
def selDoesUptoCard : Claim7 := { stood := { row := selDoesUptoRow, standIns := [], harness := (true, "fd6745374f256624e4a0126ed956d712750ad42944719437af3562fbde3852bb"), looks := false }, kinds := [], alts := [], laidByText := true, laidKinds := [.data, .data, .data], laidTests := true, laidLooks := .later }
def SelDoesUptoCardSaid : Prop := Claim7.holds Tryz.pinned (.plain (OpenSpec.upto selDoesSpec)) selDoesUptoCard

/-- THE SECOND FORM's CARD OF 'remontoirelaw18.SelLists'. -/
def selListsUptoCard : Claim7 := { stood := { row := selListsUptoRow, standIns := [], harness := (true, "fd6745374f256624e4a0126ed956d712750ad42944719437af3562fbde3852bb"), looks := false }, kinds := [], alts := [], laidByText := true, laidKinds := [.data, .data, .data], laidTests := true, laidLooks := .later }
def SelListsUptoCardSaid : Prop := Claim7.holds Tryz.pinned (.plain (OpenSpec.upto selListsSpec)) selListsUptoCard
end Rows
end Go.Proofs.YtlgkljpgagfndaaGreatDoor

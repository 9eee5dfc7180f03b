/-
  DERIVED. GIVEN WITH THE SEED: THE CARDS: each row of YtjcacjeoddnmhaaDoorRows.lean that lists a variable, with what it lists TIED to the program's text (the seventh form; the later family's looks); each row that meets fmt, with fmt's text TOLD by the authors' own Lean function (tested against real Go, not proved from fmt's source: count such statements apart). THE CARD IS WHAT COUNTS. Prove the row's statement (the work); the ties are given (YtjcacjeoddnmhaaDoorTie.lean); close each card by the builder's one call (the guide's Derived/Test/ToyasCard.lean, 'card_holds'). Laid BY PROGRAM, IN A SANDBOX (cutbox-door.mjs). By AI agents, Wed Nov 11 2026. No macro, syntax, notation, axiom, sorry.
-/
import Derived.Test.YtjcacjeoddnmhaaDoorRows
import GoSem.ClaimSeven
namespace Go.Proofs.YtjcacjeoddnmhaaDoor
namespace Rows

/-- THE TIED CARD OF 'remontoirelaw08.AsmRight'. -/
def asmRightCard : Claim7 := { stood := { row := asmRightRow, standIns := [], harness := (true, "2d2db58ebd388761cc616121ad70f9ba0d18a63c4c9cc79ab31dc2f3d46945f1"), looks := false }, kinds := [], alts := [], laidByText := true, laidKinds := [.data, .data], laidTests := true, laidLooks := .later }
def AsmRightCardSaid : Prop := Claim7.holds Tryd.pinned (.plain (OpenSpec.ofChange asmRightSpec)) asmRightCard

/-- THE TIED CARD OF 'remontoirelaw08.AsmSlides'. -/
def asmSlidesCard : Claim7 := { stood := { row := asmSlidesRow, standIns := [], harness := (true, "2d2db58ebd388761cc616121ad70f9ba0d18a63c4c9cc79ab31dc2f3d46945f1"), looks := false }, kinds := [], alts := [], laidByText := true, laidKinds := [.data, .data], laidTests := true, laidLooks := .later }
def AsmSlidesCardSaid : Prop := Claim7.holds Tryd.pinned (.plain (OpenSpec.ofChange asmSlidesSpec)) asmSlidesCard

/-- THE TIED CARD OF 'remontoirelaw08.AsmReaches'. -/
def asmReachesCard : Claim7 := { stood := { row := asmReachesRow, standIns := [], harness := (true, "2d2db58ebd388761cc616121ad70f9ba0d18a63c4c9cc79ab31dc2f3d46945f1"), looks := false }, kinds := [], alts := [], laidByText := true, laidKinds := [.data, .data], laidTests := true, laidLooks := .later }
def AsmReachesCardSaid : Prop := Claim7.holds Tryd.pinned (.plain (OpenSpec.ofChange asmReachesSpec)) asmReachesCard

/-- THE TIED CARD OF 'remontoirelaw08.AsmWide'. -/
def asmWideCard : Claim7 := { stood := { row := asmWideRow, standIns := [], harness := (true, "2d2db58ebd388761cc616121ad70f9ba0d18a63c4c9cc79ab31dc2f3d46945f1"), looks := false }, kinds := [], alts := [], laidByText := true, laidKinds := [.data, .data], laidTests := true, laidLooks := .later }
def AsmWideCardSaid : Prop := Claim7.holds Tryd.pinned (.plain (OpenSpec.ofChange asmWideSpec)) asmWideCard

/-- THE SECOND FORM's CARD OF 'remontoirelaw08.AsmRight'. -/
def asmRightUptoCard : Claim7 := { stood := { row := asmRightUptoRow, standIns := [], harness := (true, "2d2db58ebd388761cc616121ad70f9ba0d18a63c4c9cc79ab31dc2f3d46945f1"), looks := false }, kinds := [], alts := [], laidByText := true, laidKinds := [.data, .data], laidTests := true, laidLooks := .later }
def AsmRightUptoCardSaid : Prop := Claim7.holds Tryd.pinned (.plain (OpenSpec.upto asmRightSpec)) asmRightUptoCard

/-- THE SECOND FORM's CARD OF 'remontoirelaw08.AsmSlides'. -/
def asmSlidesUptoCard : Claim7 := { stood := { row := asmSlidesUptoRow, standIns := [], harness := (true, "2d2db58ebd388761cc616121ad70f9ba0d18a63c4c9cc79ab31dc2f3d46945f1"), looks := false }, kinds := [], alts := [], laidByText := true, laidKinds := [.data, .data], laidTests := true, laidLooks := .later }
def AsmSlidesUptoCardSaid : Prop := Claim7.holds Tryd.pinned (.plain (OpenSpec.upto asmSlidesSpec)) asmSlidesUptoCard

/-- THE SECOND FORM's CARD OF 'remontoirelaw08.AsmReaches'. -/
def asmReachesUptoCard : Claim7 := { stood := { row := asmReachesUptoRow, standIns := [], harness := (true, "2d2db58ebd388761cc616121ad70f9ba0d18a63c4c9cc79ab31dc2f3d46945f1"), looks := false }, kinds := [], alts := [], laidByText := true, laidKinds := [.data, .data], laidTests := true, laidLooks := .later }
def AsmReachesUptoCardSaid : Prop := Claim7.holds Tryd.pinned (.plain (OpenSpec.upto asmReachesSpec)) asmReachesUptoCard

/-- THE SECOND FORM's CARD OF 'remontoirelaw08.AsmWide'. -/
def asmWideUptoCard : Claim7 := { stood := { row := asmWideUptoRow, standIns := [], harness := (true, "2d2db58ebd388761cc616121ad70f9ba0d18a63c4c9cc79ab31dc2f3d46945f1"), looks := false }, kinds := [], alts := [], laidByText := true, laidKinds := [.data, .data], laidTests := true, laidLooks := .later }
def AsmWideUptoCardSaid : Prop := Claim7.holds Tryd.pinned (.plain (OpenSpec.upto asmWideSpec)) asmWideUptoCard
end Rows
end Go.Proofs.YtjcacjeoddnmhaaDoor

/-
  DERIVED. GIVEN WITH THE SEED: THE CARDS: each row of YtnjmfedleimlmaaDoorRows.lean that lists a variable, with what it lists TIED to the program's text (the seventh form; the later family's looks); each row that meets fmt, with fmt's text TOLD by the authors' own Lean function (tested against real Go, not proved from fmt's source: count such statements apart). THE CARD IS WHAT COUNTS. Prove the row's statement (the work); the ties are given (YtnjmfedleimlmaaDoorTie.lean); close each card by the builder's one call (the guide's Derived/Test/ToyasCard.lean, 'card_holds'). Laid BY PROGRAM, IN A SANDBOX (cutbox-door.mjs). By AI agents, Wed Nov 11 2026. No macro, syntax, notation, axiom, sorry.
-/
import Derived.Test.YtnjmfedleimlmaaDoorRows
import GoSem.ClaimSeven
namespace Go.Proofs.YtnjmfedleimlmaaDoor
namespace Rows

/-- THE TIED CARD OF 'remontoirelaw11.TermRanges'. -/
def termRangesCard : Claim7 := { stood := { row := termRangesRow, standIns := [], harness := (true, "e95a2c77b3a117f5af588bbbe35a4704a3d97cd6b2237cd5f87120fbb0e2b5f7"), looks := false }, kinds := [], alts := [], laidByText := true, laidKinds := [.data], laidTests := true, laidLooks := .later }
def TermRangesCardSaid : Prop := Claim7.holds Tryd.pinned (.plain (OpenSpec.ofChange termRangesSpec)) termRangesCard

/-- THE TIED CARD OF 'remontoirelaw11.TermSpans'. -/
def termSpansCard : Claim7 := { stood := { row := termSpansRow, standIns := [], harness := (true, "e95a2c77b3a117f5af588bbbe35a4704a3d97cd6b2237cd5f87120fbb0e2b5f7"), looks := false }, kinds := [], alts := [], laidByText := true, laidKinds := [.data], laidTests := true, laidLooks := .later }
def TermSpansCardSaid : Prop := Claim7.holds Tryd.pinned (.plain (OpenSpec.ofChange termSpansSpec)) termSpansCard

/-- THE TIED CARD OF 'remontoirelaw11.TermPuts'. -/
def termPutsCard : Claim7 := { stood := { row := termPutsRow, standIns := [], harness := (true, "e95a2c77b3a117f5af588bbbe35a4704a3d97cd6b2237cd5f87120fbb0e2b5f7"), looks := false }, kinds := [], alts := [], laidByText := true, laidKinds := [.data], laidTests := true, laidLooks := .later }
def TermPutsCardSaid : Prop := Claim7.holds Tryd.pinned (.plain (OpenSpec.ofChange termPutsSpec)) termPutsCard

/-- THE TIED CARD OF 'remontoirelaw11.TermSame'. -/
def termSameCard : Claim7 := { stood := { row := termSameRow, standIns := [], harness := (true, "e95a2c77b3a117f5af588bbbe35a4704a3d97cd6b2237cd5f87120fbb0e2b5f7"), looks := false }, kinds := [], alts := [], laidByText := true, laidKinds := [.data], laidTests := true, laidLooks := .later }
def TermSameCardSaid : Prop := Claim7.holds Tryd.pinned (.plain (OpenSpec.ofChange termSameSpec)) termSameCard

/-- THE TIED CARD OF 'remontoirelaw11.TermFoldsTo'. -/
def termFoldsToCard : Claim7 := { stood := { row := termFoldsToRow, standIns := [], harness := (true, "e95a2c77b3a117f5af588bbbe35a4704a3d97cd6b2237cd5f87120fbb0e2b5f7"), looks := false }, kinds := [], alts := [], laidByText := true, laidKinds := [.data], laidTests := true, laidLooks := .later }
def TermFoldsToCardSaid : Prop := Claim7.holds Tryd.pinned (.plain (OpenSpec.ofChange termFoldsToSpec)) termFoldsToCard

/-- THE TIED CARD OF 'remontoirelaw11.TermEvals'. -/
def termEvalsCard : Claim7 := { stood := { row := termEvalsRow, standIns := [], harness := (true, "e95a2c77b3a117f5af588bbbe35a4704a3d97cd6b2237cd5f87120fbb0e2b5f7"), looks := false }, kinds := [], alts := [], laidByText := true, laidKinds := [.data], laidTests := true, laidLooks := .later }
def TermEvalsCardSaid : Prop := Claim7.holds Tryd.pinned (.plain (OpenSpec.ofChange termEvalsSpec)) termEvalsCard

/-- THE TIED CARD OF 'remontoirelaw11.TermFolds'. -/
def termFoldsCard : Claim7 := { stood := { row := termFoldsRow, standIns := [], harness := (true, "e95a2c77b3a117f5af588bbbe35a4704a3d97cd6b2237cd5f87120fbb0e2b5f7"), looks := false }, kinds := [], alts := [], laidByText := true, laidKinds := [.data], laidTests := true, laidLooks := .later }
def TermFoldsCardSaid : Prop := Claim7.holds Tryd.pinned (.plain (OpenSpec.ofChange termFoldsSpec)) termFoldsCard

/-- THE TIED CARD OF 'remontoirelaw21.CostWaits'. -/
def costWaitsCard : Claim7 := { stood := { row := costWaitsRow, standIns := [], harness := (true, "e95a2c77b3a117f5af588bbbe35a4704a3d97cd6b2237cd5f87120fbb0e2b5f7"), looks := false }, kinds := [], alts := [], laidByText := true, laidKinds := [.data], laidTests := true, laidLooks := .later }
def CostWaitsCardSaid : Prop := Claim7.holds Tryd.pinned (.plain (OpenSpec.ofChange costWaitsSpec)) costWaitsCard

/-- THE TIED CARD OF 'remontoirelaw21.CostRight'. -/
def costRightCard : Claim7 := { stood := { row := costRightRow, standIns := [], harness := (true, "e95a2c77b3a117f5af588bbbe35a4704a3d97cd6b2237cd5f87120fbb0e2b5f7"), looks := false }, kinds := [], alts := [], laidByText := true, laidKinds := [.data], laidTests := true, laidLooks := .later }
def CostRightCardSaid : Prop := Claim7.holds Tryd.pinned (.plain (OpenSpec.ofChange costRightSpec)) costRightCard

/-- THE TIED CARD OF 'remontoirelaw21.CostJoins'. -/
def costJoinsCard : Claim7 := { stood := { row := costJoinsRow, standIns := [], harness := (true, "e95a2c77b3a117f5af588bbbe35a4704a3d97cd6b2237cd5f87120fbb0e2b5f7"), looks := false }, kinds := [], alts := [], laidByText := true, laidKinds := [.data], laidTests := true, laidLooks := .later }
def CostJoinsCardSaid : Prop := Claim7.holds Tryd.pinned (.plain (OpenSpec.ofChange costJoinsSpec)) costJoinsCard

/-- THE TIED CARD OF 'remontoirelaw21.CostWords'. -/
def costWordsCard : Claim7 := { stood := { row := costWordsRow, standIns := [], harness := (true, "e95a2c77b3a117f5af588bbbe35a4704a3d97cd6b2237cd5f87120fbb0e2b5f7"), looks := false }, kinds := [], alts := [], laidByText := true, laidKinds := [.data], laidTests := true, laidLooks := .later }
def CostWordsCardSaid : Prop := Claim7.holds Tryd.pinned (.plain (OpenSpec.ofChange costWordsSpec)) costWordsCard

/-- THE SECOND FORM's CARD OF 'remontoirelaw11.TermRanges'. -/
def termRangesUptoCard : Claim7 := { stood := { row := termRangesUptoRow, standIns := [], harness := (true, "e95a2c77b3a117f5af588bbbe35a4704a3d97cd6b2237cd5f87120fbb0e2b5f7"), looks := false }, kinds := [], alts := [], laidByText := true, laidKinds := [.data], laidTests := true, laidLooks := .later }
def TermRangesUptoCardSaid : Prop := Claim7.holds Tryd.pinned (.plain (OpenSpec.upto termRangesSpec)) termRangesUptoCard

/-- THE SECOND FORM's CARD OF 'remontoirelaw11.TermSpans'. -/
def termSpansUptoCard : Claim7 := { stood := { row := termSpansUptoRow, standIns := [], harness := (true, "e95a2c77b3a117f5af588bbbe35a4704a3d97cd6b2237cd5f87120fbb0e2b5f7"), looks := false }, kinds := [], alts := [], laidByText := true, laidKinds := [.data], laidTests := true, laidLooks := .later }
def TermSpansUptoCardSaid : Prop := Claim7.holds Tryd.pinned (.plain (OpenSpec.upto termSpansSpec)) termSpansUptoCard

/-- THE SECOND FORM's CARD OF 'remontoirelaw11.TermPuts'. -/
def termPutsUptoCard : Claim7 := { stood := { row := termPutsUptoRow, standIns := [], harness := (true, "e95a2c77b3a117f5af588bbbe35a4704a3d97cd6b2237cd5f87120fbb0e2b5f7"), looks := false }, kinds := [], alts := [], laidByText := true, laidKinds := [.data], laidTests := true, laidLooks := .later }
def TermPutsUptoCardSaid : Prop := Claim7.holds Tryd.pinned (.plain (OpenSpec.upto termPutsSpec)) termPutsUptoCard

/-- THE SECOND FORM's CARD OF 'remontoirelaw11.TermSame'. -/
def termSameUptoCard : Claim7 := { stood := { row := termSameUptoRow, standIns := [], harness := (true, "e95a2c77b3a117f5af588bbbe35a4704a3d97cd6b2237cd5f87120fbb0e2b5f7"), looks := false }, kinds := [], alts := [], laidByText := true, laidKinds := [.data], laidTests := true, laidLooks := .later }
def TermSameUptoCardSaid : Prop := Claim7.holds Tryd.pinned (.plain (OpenSpec.upto termSameSpec)) termSameUptoCard

/-- THE SECOND FORM's CARD OF 'remontoirelaw11.TermFoldsTo'. -/
def termFoldsToUptoCard : Claim7 := { stood := { row := termFoldsToUptoRow, standIns := [], harness := (true, "e95a2c77b3a117f5af588bbbe35a4704a3d97cd6b2237cd5f87120fbb0e2b5f7"), looks := false }, kinds := [], alts := [], laidByText := true, laidKinds := [.data], laidTests := true, laidLooks := .later }
def TermFoldsToUptoCardSaid : Prop := Claim7.holds Tryd.pinned (.plain (OpenSpec.upto termFoldsToSpec)) termFoldsToUptoCard

/-- THE SECOND FORM's CARD OF 'remontoirelaw11.TermEvals'. -/
def termEvalsUptoCard : Claim7 := { stood := { row := termEvalsUptoRow, standIns := [], harness := (true, "e95a2c77b3a117f5af588bbbe35a4704a3d97cd6b2237cd5f87120fbb0e2b5f7"), looks := false }, kinds := [], alts := [], laidByText := true, laidKinds := [.data], laidTests := true, laidLooks := .later }
def TermEvalsUptoCardSaid : Prop := Claim7.holds Tryd.pinned (.plain (OpenSpec.upto termEvalsSpec)) termEvalsUptoCard

/-- THE SECOND FORM's CARD OF 'remontoirelaw11.TermFolds'. -/
def termFoldsUptoCard : Claim7 := { stood := { row := termFoldsUptoRow, standIns := [], harness := (true, "e95a2c77b3a117f5af588bbbe35a4704a3d97cd6b2237cd5f87120fbb0e2b5f7"), looks := false }, kinds := [], alts := [], laidByText := true, laidKinds := [.data], laidTests := true, laidLooks := .later }
def TermFoldsUptoCardSaid : Prop := Claim7.holds Tryd.pinned (.plain (OpenSpec.upto termFoldsSpec)) termFoldsUptoCard

/-- THE SECOND FORM's CARD OF 'remontoirelaw21.CostWaits'. -/
def costWaitsUptoCard : Claim7 := { stood := { row := costWaitsUptoRow, standIns := [], harness := (true, "e95a2c77b3a117f5af588bbbe35a4704a3d97cd6b2237cd5f87120fbb0e2b5f7"), looks := false }, kinds := [], alts := [], laidByText := true, laidKinds := [.data], laidTests := true, laidLooks := .later }
def CostWaitsUptoCardSaid : Prop := Claim7.holds Tryd.pinned (.plain (OpenSpec.upto costWaitsSpec)) costWaitsUptoCard

/-- THE SECOND FORM's CARD OF 'remontoirelaw21.CostRight'. -/
def costRightUptoCard : Claim7 := { stood := { row := costRightUptoRow, standIns := [], harness := (true, "e95a2c77b3a117f5af588bbbe35a4704a3d97cd6b2237cd5f87120fbb0e2b5f7"), looks := false }, kinds := [], alts := [], laidByText := true, laidKinds := [.data], laidTests := true, laidLooks := .later }
def CostRightUptoCardSaid : Prop := Claim7.holds Tryd.pinned (.plain (OpenSpec.upto costRightSpec)) costRightUptoCard

/-- THE SECOND FORM's CARD OF 'remontoirelaw21.CostJoins'. -/
def costJoinsUptoCard : Claim7 := { stood := { row := costJoinsUptoRow, standIns := [], harness := (true, "e95a2c77b3a117f5af588bbbe35a4704a3d97cd6b2237cd5f87120fbb0e2b5f7"), looks := false }, kinds := [], alts := [], laidByText := true, laidKinds := [.data], laidTests := true, laidLooks := .later }
def CostJoinsUptoCardSaid : Prop := Claim7.holds Tryd.pinned (.plain (OpenSpec.upto costJoinsSpec)) costJoinsUptoCard

/-- THE SECOND FORM's CARD OF 'remontoirelaw21.CostWords'. -/
def costWordsUptoCard : Claim7 := { stood := { row := costWordsUptoRow, standIns := [], harness := (true, "e95a2c77b3a117f5af588bbbe35a4704a3d97cd6b2237cd5f87120fbb0e2b5f7"), looks := false }, kinds := [], alts := [], laidByText := true, laidKinds := [.data], laidTests := true, laidLooks := .later }
def CostWordsUptoCardSaid : Prop := Claim7.holds Tryd.pinned (.plain (OpenSpec.upto costWordsSpec)) costWordsUptoCard
end Rows
end Go.Proofs.YtnjmfedleimlmaaDoor

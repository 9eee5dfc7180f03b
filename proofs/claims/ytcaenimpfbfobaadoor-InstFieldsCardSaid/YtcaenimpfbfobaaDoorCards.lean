/-
  DERIVED. GIVEN WITH THE SEED: THE CARDS: each row of YtcaenimpfbfobaaDoorRows.lean that lists a variable, with what it lists TIED to the program's text (the seventh form; the later family's looks); each row that meets fmt, with fmt's text TOLD by the authors' own Lean function (tested against real Go, not proved from fmt's source: count such statements apart). THE CARD IS WHAT COUNTS. Prove the row's statement (the work); the ties are given (YtcaenimpfbfobaaDoorTie.lean); close each card by the builder's one call (the guide's Derived/Test/ToyasCard.lean, 'card_holds'). Laid BY PROGRAM, IN A SANDBOX (cutbox-door.mjs). By AI agents, Wed Nov 11 2026. No macro, syntax, notation, axiom, sorry.
-/
import Derived.Test.YtcaenimpfbfobaaDoorRows
import GoSem.ClaimSeven
namespace Go.Proofs.YtcaenimpfbfobaaDoor
namespace Rows

/-- THE TIED CARD OF 'remontoirelaw02.ImmOnce'. -/
def immOnceCard : Claim7 := { stood := { row := immOnceRow, standIns := [], harness := (true, "cb2b2f009103a3c8a5642819708bb6e63a7380b8bfffb859a02c317d6241302c"), looks := false }, kinds := [], alts := [], laidByText := true, laidKinds := [.data], laidTests := true, laidLooks := .later }
def ImmOnceCardSaid : Prop := Claim7.holds Tryd.pinned (.plain (OpenSpec.ofChange immOnceSpec)) immOnceCard

/-- THE TIED CARD OF 'remontoirelaw02.ImmTurns'. -/
def immTurnsCard : Claim7 := { stood := { row := immTurnsRow, standIns := [], harness := (true, "cb2b2f009103a3c8a5642819708bb6e63a7380b8bfffb859a02c317d6241302c"), looks := false }, kinds := [], alts := [], laidByText := true, laidKinds := [.data], laidTests := true, laidLooks := .later }
def ImmTurnsCardSaid : Prop := Claim7.holds Tryd.pinned (.plain (OpenSpec.ofChange immTurnsSpec)) immTurnsCard

/-- THE TIED CARD OF 'remontoirelaw02.ImmFinds'. -/
def immFindsCard : Claim7 := { stood := { row := immFindsRow, standIns := [], harness := (true, "cb2b2f009103a3c8a5642819708bb6e63a7380b8bfffb859a02c317d6241302c"), looks := false }, kinds := [], alts := [], laidByText := true, laidKinds := [.data], laidTests := true, laidLooks := .later }
def ImmFindsCardSaid : Prop := Claim7.holds Tryd.pinned (.plain (OpenSpec.ofChange immFindsSpec)) immFindsCard

/-- THE TIED CARD OF 'remontoirelaw02.ImmRepeats'. -/
def immRepeatsCard : Claim7 := { stood := { row := immRepeatsRow, standIns := [], harness := (true, "cb2b2f009103a3c8a5642819708bb6e63a7380b8bfffb859a02c317d6241302c"), looks := false }, kinds := [], alts := [], laidByText := true, laidKinds := [.data], laidTests := true, laidLooks := .later }
def ImmRepeatsCardSaid : Prop := Claim7.holds Tryd.pinned (.plain (OpenSpec.ofChange immRepeatsSpec)) immRepeatsCard

/-- THE TIED CARD OF 'remontoirelaw02.ImmAll'. -/
def immAllCard : Claim7 := { stood := { row := immAllRow, standIns := [], harness := (true, "cb2b2f009103a3c8a5642819708bb6e63a7380b8bfffb859a02c317d6241302c"), looks := false }, kinds := [], alts := [], laidByText := true, laidKinds := [.data], laidTests := true, laidLooks := .later }
def ImmAllCardSaid : Prop := Claim7.holds Tryd.pinned (.plain (OpenSpec.ofChange immAllSpec)) immAllCard

/-- THE TIED CARD OF 'remontoirelaw02.ImmWords'. -/
def immWordsCard : Claim7 := { stood := { row := immWordsRow, standIns := [], harness := (true, "cb2b2f009103a3c8a5642819708bb6e63a7380b8bfffb859a02c317d6241302c"), looks := false }, kinds := [], alts := [], laidByText := true, laidKinds := [.data], laidTests := true, laidLooks := .later }
def ImmWordsCardSaid : Prop := Claim7.holds Tryd.pinned (.plain (OpenSpec.ofChange immWordsSpec)) immWordsCard

/-- THE TIED CARD OF 'remontoirelaw03.InstRight'. -/
def instRightCard : Claim7 := { stood := { row := instRightRow, standIns := [], harness := (true, "cb2b2f009103a3c8a5642819708bb6e63a7380b8bfffb859a02c317d6241302c"), looks := false }, kinds := [], alts := [], laidByText := true, laidKinds := [.data, .data], laidTests := true, laidLooks := .later }
def InstRightCardSaid : Prop := Claim7.holds Tryd.pinned (.plain (OpenSpec.ofChange instRightSpec)) instRightCard

/-- THE TIED CARD OF 'remontoirelaw03.InstFields'. -/
def instFieldsCard : Claim7 := { stood := { row := instFieldsRow, standIns := [], harness := (true, "cb2b2f009103a3c8a5642819708bb6e63a7380b8bfffb859a02c317d6241302c"), looks := false }, kinds := [], alts := [], laidByText := true, laidKinds := [.data, .data], laidTests := true, laidLooks := .later }
def InstFieldsCardSaid : Prop := Claim7.holds Tryd.pinned (.plain (OpenSpec.ofChange instFieldsSpec)) instFieldsCard

/-- THE TIED CARD OF 'remontoirelaw03.InstBranches'. -/
def instBranchesCard : Claim7 := { stood := { row := instBranchesRow, standIns := [], harness := (true, "cb2b2f009103a3c8a5642819708bb6e63a7380b8bfffb859a02c317d6241302c"), looks := false }, kinds := [], alts := [], laidByText := true, laidKinds := [.data, .data], laidTests := true, laidLooks := .later }
def InstBranchesCardSaid : Prop := Claim7.holds Tryd.pinned (.plain (OpenSpec.ofChange instBranchesSpec)) instBranchesCard

/-- THE TIED CARD OF 'remontoirelaw03.InstSizes'. -/
def instSizesCard : Claim7 := { stood := { row := instSizesRow, standIns := [], harness := (true, "cb2b2f009103a3c8a5642819708bb6e63a7380b8bfffb859a02c317d6241302c"), looks := false }, kinds := [], alts := [], laidByText := true, laidKinds := [.data, .data], laidTests := true, laidLooks := .later }
def InstSizesCardSaid : Prop := Claim7.holds Tryd.pinned (.plain (OpenSpec.ofChange instSizesSpec)) instSizesCard

/-- THE TIED CARD OF 'remontoirelaw03.InstForms'. -/
def instFormsCard : Claim7 := { stood := { row := instFormsRow, standIns := [], harness := (true, "cb2b2f009103a3c8a5642819708bb6e63a7380b8bfffb859a02c317d6241302c"), looks := false }, kinds := [], alts := [], laidByText := true, laidKinds := [.data, .data], laidTests := true, laidLooks := .later }
def InstFormsCardSaid : Prop := Claim7.holds Tryd.pinned (.plain (OpenSpec.ofChange instFormsSpec)) instFormsCard

/-- THE SECOND FORM's CARD OF 'remontoirelaw02.ImmOnce'. -/
def immOnceUptoCard : Claim7 := { stood := { row := immOnceUptoRow, standIns := [], harness := (true, "cb2b2f009103a3c8a5642819708bb6e63a7380b8bfffb859a02c317d6241302c"), looks := false }, kinds := [], alts := [], laidByText := true, laidKinds := [.data], laidTests := true, laidLooks := .later }
def ImmOnceUptoCardSaid : Prop := Claim7.holds Tryd.pinned (.plain (OpenSpec.upto immOnceSpec)) immOnceUptoCard

/-- THE SECOND FORM's CARD OF 'remontoirelaw02.ImmTurns'. -/
def immTurnsUptoCard : Claim7 := { stood := { row := immTurnsUptoRow, standIns := [], harness := (true, "cb2b2f009103a3c8a5642819708bb6e63a7380b8bfffb859a02c317d6241302c"), looks := false }, kinds := [], alts := [], laidByText := true, laidKinds := [.data], laidTests := true, laidLooks := .later }
def ImmTurnsUptoCardSaid : Prop := Claim7.holds Tryd.pinned (.plain (OpenSpec.upto immTurnsSpec)) immTurnsUptoCard

/-- THE SECOND FORM's CARD OF 'remontoirelaw02.ImmFinds'. -/
def immFindsUptoCard : Claim7 := { stood := { row := immFindsUptoRow, standIns := [], harness := (true, "cb2b2f009103a3c8a5642819708bb6e63a7380b8bfffb859a02c317d6241302c"), looks := false }, kinds := [], alts := [], laidByText := true, laidKinds := [.data], laidTests := true, laidLooks := .later }
def ImmFindsUptoCardSaid : Prop := Claim7.holds Tryd.pinned (.plain (OpenSpec.upto immFindsSpec)) immFindsUptoCard

/-- THE SECOND FORM's CARD OF 'remontoirelaw02.ImmRepeats'. -/
def immRepeatsUptoCard : Claim7 := { stood := { row := immRepeatsUptoRow, standIns := [], harness := (true, "cb2b2f009103a3c8a5642819708bb6e63a7380b8bfffb859a02c317d6241302c"), looks := false }, kinds := [], alts := [], laidByText := true, laidKinds := [.data], laidTests := true, laidLooks := .later }
def ImmRepeatsUptoCardSaid : Prop := Claim7.holds Tryd.pinned (.plain (OpenSpec.upto immRepeatsSpec)) immRepeatsUptoCard

/-- THE SECOND FORM's CARD OF 'remontoirelaw02.ImmAll'. -/
def immAllUptoCard : Claim7 := { stood := { row := immAllUptoRow, standIns := [], harness := (true, "cb2b2f009103a3c8a5642819708bb6e63a7380b8bfffb859a02c317d6241302c"), looks := false }, kinds := [], alts := [], laidByText := true, laidKinds := [.data], laidTests := true, laidLooks := .later }
def ImmAllUptoCardSaid : Prop := Claim7.holds Tryd.pinned (.plain (OpenSpec.upto immAllSpec)) immAllUptoCard

/-- THE SECOND FORM's CARD OF 'remontoirelaw02.ImmWords'. -/
def immWordsUptoCard : Claim7 := { stood := { row := immWordsUptoRow, standIns := [], harness := (true, "cb2b2f009103a3c8a5642819708bb6e63a7380b8bfffb859a02c317d6241302c"), looks := false }, kinds := [], alts := [], laidByText := true, laidKinds := [.data], laidTests := true, laidLooks := .later }
def ImmWordsUptoCardSaid : Prop := Claim7.holds Tryd.pinned (.plain (OpenSpec.upto immWordsSpec)) immWordsUptoCard

/-- THE SECOND FORM's CARD OF 'remontoirelaw03.InstRight'. -/
def instRightUptoCard : Claim7 := { stood := { row := instRightUptoRow, standIns := [], harness := (true, "cb2b2f009103a3c8a5642819708bb6e63a7380b8bfffb859a02c317d6241302c"), looks := false }, kinds := [], alts := [], laidByText := true, laidKinds := [.data, .data], laidTests := true, laidLooks := .later }
def InstRightUptoCardSaid : Prop := Claim7.holds Tryd.pinned (.plain (OpenSpec.upto instRightSpec)) instRightUptoCard

/-- THE SECOND FORM's CARD OF 'remontoirelaw03.InstFields'. -/
def instFieldsUptoCard : Claim7 := { stood := { row := instFieldsUptoRow, standIns := [], harness := (true, "cb2b2f009103a3c8a5642819708bb6e63a7380b8bfffb859a02c317d6241302c"), looks := false }, kinds := [], alts := [], laidByText := true, laidKinds := [.data, .data], laidTests := true, laidLooks := .later }
def InstFieldsUptoCardSaid : Prop := Claim7.holds Tryd.pinned (.plain (OpenSpec.upto instFieldsSpec)) instFieldsUptoCard

/-- THE SECOND FORM's CARD OF 'remontoirelaw03.InstBranches'. -/
def instBranchesUptoCard : Claim7 := { stood := { row := instBranchesUptoRow, standIns := [], harness := (true, "cb2b2f009103a3c8a5642819708bb6e63a7380b8bfffb859a02c317d6241302c"), looks := false }, kinds := [], alts := [], laidByText := true, laidKinds := [.data, .data], laidTests := true, laidLooks := .later }
def InstBranchesUptoCardSaid : Prop := Claim7.holds Tryd.pinned (.plain (OpenSpec.upto instBranchesSpec)) instBranchesUptoCard

/-- THE SECOND FORM's CARD OF 'remontoirelaw03.InstSizes'. -/
def instSizesUptoCard : Claim7 := { stood := { row := instSizesUptoRow, standIns := [], harness := (true, "cb2b2f009103a3c8a5642819708bb6e63a7380b8bfffb859a02c317d6241302c"), looks := false }, kinds := [], alts := [], laidByText := true, laidKinds := [.data, .data], laidTests := true, laidLooks := .later }
def InstSizesUptoCardSaid : Prop := Claim7.holds Tryd.pinned (.plain (OpenSpec.upto instSizesSpec)) instSizesUptoCard

/-- THE SECOND FORM's CARD OF 'remontoirelaw03.InstForms'. -/
def instFormsUptoCard : Claim7 := { stood := { row := instFormsUptoRow, standIns := [], harness := (true, "cb2b2f009103a3c8a5642819708bb6e63a7380b8bfffb859a02c317d6241302c"), looks := false }, kinds := [], alts := [], laidByText := true, laidKinds := [.data, .data], laidTests := true, laidLooks := .later }
def InstFormsUptoCardSaid : Prop := Claim7.holds Tryd.pinned (.plain (OpenSpec.upto instFormsSpec)) instFormsUptoCard
end Rows
end Go.Proofs.YtcaenimpfbfobaaDoor

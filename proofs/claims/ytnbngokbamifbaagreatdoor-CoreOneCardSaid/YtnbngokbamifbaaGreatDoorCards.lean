/-
  DERIVED. GIVEN WITH THE SEED: THE CARDS: each row of YtnbngokbamifbaaGreatDoorRows.lean that lists a variable, with what it lists TIED to the program's text (the seventh form; the later family's looks); each row that meets fmt, with fmt's text TOLD by the authors' own Lean function (tested against real Go, not proved from fmt's source: count such statements apart). THE CARD IS WHAT COUNTS. Prove the row's statement (the work); the ties are given (YtnbngokbamifbaaGreatDoorTie.lean); close each card by the builder's one call (the guide's Derived/Test/ToyasCard.lean, 'card_holds'). Laid BY PROGRAM, IN A SANDBOX (cutbox-door.mjs). By AI agents, Wed Nov 11 2026. No macro, syntax, notation, axiom, sorry.
-/
import Derived.Test.YtnbngokbamifbaaGreatDoorRows
import GoSem.ClaimSeven
namespace Go.Proofs.YtnbngokbamifbaaGreatDoor
namespace Rows

/-- THE TIED CARD OF 'remontoirelaw08.AsmLays'. -/
def asmLaysCard : Claim7 := { stood := { row := asmLaysRow, standIns := [], harness := (true, "db16353e7cd0dd7be024812dbfe4832328e4e9c970c85d96d91434716c195614"), looks := false }, kinds := [], alts := [], laidByText := true, laidKinds := [.data, .data], laidTests := true, laidLooks := .later }
def AsmLaysCardSaid : Prop := Claim7.holds Tryz.pinned (.plain (OpenSpec.ofChange asmLaysSpec)) asmLaysCard

/-- THE TIED CARD OF 'remontoirelaw07.CoreHolds'. -/
def coreHoldsCard : Claim7 := { stood := { row := coreHoldsRow, standIns := [], harness := (true, "db16353e7cd0dd7be024812dbfe4832328e4e9c970c85d96d91434716c195614"), looks := false }, kinds := [], alts := [], laidByText := true, laidKinds := [.data, .data], laidTests := true, laidLooks := .later }
def CoreHoldsCardSaid : Prop := Claim7.holds Tryz.pinned (.plain (OpenSpec.ofChange coreHoldsSpec)) coreHoldsCard

/-- THE TIED CARD OF 'remontoirelaw07.CoreRuns'. -/
def coreRunsCard : Claim7 := { stood := { row := coreRunsRow, standIns := [], harness := (true, "db16353e7cd0dd7be024812dbfe4832328e4e9c970c85d96d91434716c195614"), looks := false }, kinds := [], alts := [], laidByText := true, laidKinds := [.data, .data], laidTests := true, laidLooks := .later }
def CoreRunsCardSaid : Prop := Claim7.holds Tryz.pinned (.plain (OpenSpec.ofChange coreRunsSpec)) coreRunsCard

/-- THE TIED CARD OF 'remontoirelaw07.CoreSteps'. -/
def coreStepsCard : Claim7 := { stood := { row := coreStepsRow, standIns := [], harness := (true, "db16353e7cd0dd7be024812dbfe4832328e4e9c970c85d96d91434716c195614"), looks := false }, kinds := [], alts := [], laidByText := true, laidKinds := [.data, .data], laidTests := true, laidLooks := .later }
def CoreStepsCardSaid : Prop := Claim7.holds Tryz.pinned (.plain (OpenSpec.ofChange coreStepsSpec)) coreStepsCard

/-- THE TIED CARD OF 'remontoirelaw07.CoreOne'. -/
def coreOneCard : Claim7 := { stood := { row := coreOneRow, standIns := [], harness := (true, "db16353e7cd0dd7be024812dbfe4832328e4e9c970c85d96d91434716c195614"), looks := false }, kinds := [], alts := [], laidByText := true, laidKinds := [.data, .data], laidTests := true, laidLooks := .later }
def CoreOneCardSaid : Prop := Claim7.holds Tryz.pinned (.plain (OpenSpec.ofChange coreOneSpec)) coreOneCard

/-- THE SECOND FORM's CARD OF 'remontoirelaw08.AsmLays'. -/
def asmLaysUptoCard : Claim7 := { stood := { row := asmLaysUptoRow, standIns := [], harness := (true, "db16353e7cd0dd7be024812dbfe4832328e4e9c970c85d96d91434716c195614"), looks := false }, kinds := [], alts := [], laidByText := true, laidKinds := [.data, .data], laidTests := true, laidLooks := .later }
def AsmLaysUptoCardSaid : Prop := Claim7.holds Tryz.pinned (.plain (OpenSpec.upto asmLaysSpec)) asmLaysUptoCard

/-- THE SECOND FORM's CARD OF 'remontoirelaw07.CoreHolds'. -/
def coreHoldsUptoCard : Claim7 := { stood := { row := coreHoldsUptoRow, standIns := [], harness := (true, "db16353e7cd0dd7be024812dbfe4832328e4e9c970c85d96d91434716c195614"), looks := false }, kinds := [], alts := [], laidByText := true, laidKinds := [.data, .data], laidTests := true, laidLooks := .later }
def CoreHoldsUptoCardSaid : Prop := Claim7.holds Tryz.pinned (.plain (OpenSpec.upto coreHoldsSpec)) coreHoldsUptoCard

/-- THE SECOND FORM's CARD OF 'remontoirelaw07.CoreRuns'. -/
def coreRunsUptoCard : Claim7 := { stood := { row := coreRunsUptoRow, standIns := [], harness := (true, "db16353e7cd0dd7be024812dbfe4832328e4e9c970c85d96d91434716c195614"), looks := false }, kinds := [], alts := [], laidByText := true, laidKinds := [.data, .data], laidTests := true, laidLooks := .later }
def CoreRunsUptoCardSaid : Prop := Claim7.holds Tryz.pinned (.plain (OpenSpec.upto coreRunsSpec)) coreRunsUptoCard

/-- THE SECOND FORM's CARD OF 'remontoirelaw07.CoreSteps'. -/
def coreStepsUptoCard : Claim7 := { stood := { row := coreStepsUptoRow, standIns := [], harness := (true, "db16353e7cd0dd7be024812dbfe4832328e4e9c970c85d96d91434716c195614"), looks := false }, kinds := [], alts := [], laidByText := true, laidKinds := [.data, .data], laidTests := true, laidLooks := .later }
def CoreStepsUptoCardSaid : Prop := Claim7.holds Tryz.pinned (.plain (OpenSpec.upto coreStepsSpec)) coreStepsUptoCard

/-- THE SECOND FORM's CARD OF 'remontoirelaw07.CoreOne'. -/
def coreOneUptoCard : Claim7 := { stood := { row := coreOneUptoRow, standIns := [], harness := (true, "db16353e7cd0dd7be024812dbfe4832328e4e9c970c85d96d91434716c195614"), looks := false }, kinds := [], alts := [], laidByText := true, laidKinds := [.data, .data], laidTests := true, laidLooks := .later }
def CoreOneUptoCardSaid : Prop := Claim7.holds Tryz.pinned (.plain (OpenSpec.upto coreOneSpec)) coreOneUptoCard
end Rows
end Go.Proofs.YtnbngokbamifbaaGreatDoor

/-
  DERIVED. GIVEN WITH THE SEED: THE CARDS: each row of YtnbhdacpogplgaaGreatDoorRows.lean that lists a variable, with what it lists TIED to the program's text (the seventh form; the later family's looks); each row that meets fmt, with fmt's text TOLD by the authors' own Lean function (tested against real Go, not proved from fmt's source: count such statements apart). THE CARD IS WHAT COUNTS. Prove the row's statement (the work); the ties are given (YtnbhdacpogplgaaGreatDoorTie.lean); close each card by the builder's one call (the guide's Derived/Test/ToyasCard.lean, 'card_holds'). Laid BY PROGRAM, IN A SANDBOX (cutbox-door.mjs). By AI agents, Wed Nov 11 2026. No macro, syntax, notation, axiom, sorry.
-/
import Derived.Test.YtnbhdacpogplgaaGreatDoorRows
import GoSem.ClaimSeven
namespace Go.Proofs.YtnbhdacpogplgaaGreatDoor
namespace Rows

/-- THE TIED CARD OF 'remontoirelaw22.PlanPlain'. -/
def planPlainCard : Claim7 := { stood := { row := planPlainRow, standIns := [], harness := (true, "e76e26918701cd4de4143461a389fd69fbf16fe873c3679efed237eb01e4244e"), looks := false }, kinds := [], alts := [], laidByText := true, laidKinds := [.data, .data, .data], laidTests := true, laidLooks := .later }
def PlanPlainCardSaid : Prop := Claim7.holds Tryz.pinned (.plain (OpenSpec.ofChange planPlainSpec)) planPlainCard

/-- THE TIED CARD OF 'remontoirelaw22.PlanDepths'. -/
def planDepthsCard : Claim7 := { stood := { row := planDepthsRow, standIns := [], harness := (true, "e76e26918701cd4de4143461a389fd69fbf16fe873c3679efed237eb01e4244e"), looks := false }, kinds := [], alts := [], laidByText := true, laidKinds := [.data, .data, .data], laidTests := true, laidLooks := .later }
def PlanDepthsCardSaid : Prop := Claim7.holds Tryz.pinned (.plain (OpenSpec.ofChange planDepthsSpec)) planDepthsCard

/-- THE TIED CARD OF 'remontoirelaw22.PlanWays'. -/
def planWaysCard : Claim7 := { stood := { row := planWaysRow, standIns := [], harness := (true, "e76e26918701cd4de4143461a389fd69fbf16fe873c3679efed237eb01e4244e"), looks := false }, kinds := [], alts := [], laidByText := true, laidKinds := [.data, .data, .data], laidTests := true, laidLooks := .later }
def PlanWaysCardSaid : Prop := Claim7.holds Tryz.pinned (.plain (OpenSpec.ofChange planWaysSpec)) planWaysCard

/-- THE SECOND FORM's CARD OF 'remontoirelaw22.PlanPlain'. -/
def planPlainUptoCard : Claim7 := { stood := { row := planPlainUptoRow, standIns := [], harness := (true, "e76e26918701cd4de4143461a389fd69fbf16fe873c3679efed237eb01e4244e"), looks := false }, kinds := [], alts := [], laidByText := true, laidKinds := [.data, .data, .data], laidTests := true, laidLooks := .later }
def PlanPlainUptoCardSaid : Prop := Claim7.holds Tryz.pinned (.plain (OpenSpec.upto planPlainSpec)) planPlainUptoCard

/-- THE SECOND FORM's CARD OF 'remontoirelaw22.PlanDepths'. -/
def planDepthsUptoCard : Claim7 := { stood := { row := planDepthsUptoRow, standIns := [], harness := (true, "e76e26918701cd4de4143461a389fd69fbf16fe873c3679efed237eb01e4244e"), looks := false }, kinds := [], alts := [], laidByText := true, laidKinds := [.data, .data, .data], laidTests := true, laidLooks := .later }
def PlanDepthsUptoCardSaid : Prop := Claim7.holds Tryz.pinned (.plain (OpenSpec.upto planDepthsSpec)) planDepthsUptoCard

/-- THE SECOND FORM's CARD OF 'remontoirelaw22.PlanWays'. -/
def planWaysUptoCard : Claim7 := { stood := { row := planWaysUptoRow, standIns := [], harness := (true, "e76e26918701cd4de4143461a389fd69fbf16fe873c3679efed237eb01e4244e"), looks := false }, kinds := [], alts := [], laidByText := true, laidKinds := [.data, .data, .data], laidTests := true, laidLooks := .later }
def PlanWaysUptoCardSaid : Prop := Claim7.holds Tryz.pinned (.plain (OpenSpec.upto planWaysSpec)) planWaysUptoCard
end Rows
end Go.Proofs.YtnbhdacpogplgaaGreatDoor

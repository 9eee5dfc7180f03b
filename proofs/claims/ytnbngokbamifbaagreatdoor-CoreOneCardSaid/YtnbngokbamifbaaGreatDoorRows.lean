/-
  NARROWER THAN 'FOR EVERY INPUT', by the rows' own cells (each row's printed sentence says how): AsmLays: laid · CoreHolds: laid · CoreRuns: laid · CoreSteps: laid · CoreOne: laid.
  DERIVED. THE GIVEN ROWS OF THIS SEAT. 5 by the template 'for every input the law returns true; each argument reads behind the call as it read before'; 0 by the template 'total and deterministic' (their statements: YtnbngokbamifbaaGreatDoorTotals.lean).
  GIVEN WITH THE SEED: the statements are not yours to turn. If you find one false, say at which input.
  Laid BY PROGRAM, IN A SANDBOX (cutbox-rows.mjs): the forced cells as the released guide's own fill.sh prints them over the translation cebb7fa8e86879b8… (all of the seat's roots in one cut). By AI agents, Wed Nov 11 2026. No macro, syntax, notation, axiom, sorry.
-/
import Derived.Test.YtnbngokbamifbaaGreatDoorChecked
import GoSem.Claim
import GoSem.ClaimJoined
import GoSem.ClaimMapViews
import Derived.JoinedTies
import Derived.KernelRfl
namespace Go.Proofs.YtnbngokbamifbaaGreatDoor
/- THE CELL 'sum', in the pinned program and in every row, IS THE sha256 OF THE DUMP (.gsa) THAT YtnbngokbamifbaaGreatDoorProg.lean LOADS. Nothing in Lean hashes anything: it is a label: what it is worth is what the hold of that sum in a sandbox is worth. -/
noncomputable def Tryz.pinned : Pinned := { name := "ytnbngokbamifbaagreatdoor", sum := "cebb7fa8e86879b85af55292cfc0492d632913991e0f46221697600288eb2b6f", checked := Tryz.checked }
namespace Rows
def none {H : Type} : Left H := { results := [], args := [] }

/- WHAT THE LISTED PACKAGE-LEVEL VARIABLES READ AS WHEN THE CALL BEGINS. Each datum BY PROGRAM (the guide's laid-datum.mjs) off the statement by which the dump's own 'gosem.cut.vars' lays the variable. In a bare row this is a premise. The card (YtnbngokbamifbaaGreatDoorCards.lean) ties it to the program's text. -/
def laid_remontoire_imm_factors {H : Type} : DataW H := .agg [.lit (.int .u32 1), .lit (.int .u32 65537), .lit (.int .u32 16777472), .lit (.int .u32 16843009)]
def laid_remontoire_inst_shapes {H : Type} : DataW H := .agg [.lit (.int .i64 0), .lit (.int .i64 1), .lit (.int .i64 1), .lit (.int .i64 1), .lit (.int .i64 2), .lit (.int .i64 2), .lit (.int .i64 3), .lit (.int .i64 3), .lit (.int .i64 4), .lit (.int .i64 4), .lit (.int .i64 4), .lit (.int .i64 4), .lit (.int .i64 5), .lit (.int .i64 5), .lit (.int .i64 5), .lit (.int .i64 5), .lit (.int .i64 5), .lit (.int .i64 5), .lit (.int .i64 5), .lit (.int .i64 5), .lit (.int .i64 5), .lit (.int .i64 5), .lit (.int .i64 5), .lit (.int .i64 5), .lit (.int .i64 5), .lit (.int .i64 5), .lit (.int .i64 5), .lit (.int .i64 5), .lit (.int .i64 6), .lit (.int .i64 6), .lit (.int .i64 6), .lit (.int .i64 7), .lit (.int .i64 8), .lit (.int .i64 2), .lit (.int .i64 2), .lit (.int .i64 9), .lit (.int .i64 9), .lit (.int .i64 8), .lit (.int .i64 8), .lit (.int .i64 8), .lit (.int .i64 10), .lit (.int .i64 10), .lit (.int .i64 11), .lit (.int .i64 12), .lit (.int .i64 13), .lit (.int .i64 14), .lit (.int .i64 15), .lit (.int .i64 16), .lit (.int .i64 17), .lit (.int .i64 17), .lit (.int .i64 18), .lit (.int .i64 18), .lit (.int .i64 18), .lit (.int .i64 18), .lit (.int .i64 18), .lit (.int .i64 18), .lit (.int .i64 18), .lit (.int .i64 18), .lit (.int .i64 18), .lit (.int .i64 18), .lit (.int .i64 19), .lit (.int .i64 19), .lit (.int .i64 20), .lit (.int .i64 20), .lit (.int .i64 20), .lit (.int .i64 20), .lit (.int .i64 21), .lit (.int .i64 21), .lit (.int .i64 21), .lit (.int .i64 21), .lit (.int .i64 21), .lit (.int .i64 21), .lit (.int .i64 21), .lit (.int .i64 21), .lit (.int .i64 21), .lit (.int .i64 21), .lit (.int .i64 22), .lit (.int .i64 22), .lit (.int .i64 23), .lit (.int .i64 23), .lit (.int .i64 23), .lit (.int .i64 23), .lit (.int .i64 24), .lit (.int .i64 24), .lit (.int .i64 25), .lit (.int .i64 25), .lit (.int .i64 26), .lit (.int .i64 26), .lit (.int .i64 27), .lit (.int .i64 27), .lit (.int .i64 27), .lit (.int .i64 27), .lit (.int .i64 28), .lit (.int .i64 29), .lit (.int .i64 30), .lit (.int .i64 31), .lit (.int .i64 31), .lit (.int .i64 28), .lit (.int .i64 32), .lit (.int .i64 33), .lit (.int .i64 34)]

/-- 'remontoirelaw08.AsmLays': WHATEVER THE INPUT: true; the input reads as it did. -/
def asmLaysSpec : ChangeSpec := { name := "asmLays", fn := fun _ => fun
  | [d1, d2] => { results := [.lit (.bool true)], args := [d1, d2] }
  | _ => none }
def asmLaysRow : OpenClaim := { program := "ytnbngokbamifbaagreatdoor", sum := "cebb7fa8e86879b85af55292cfc0492d632913991e0f46221697600288eb2b6f", func := "remontoire/remontoirelaw08.AsmLays", spec := "asmLays", named := ["remontoire/inst.shapes", "remontoire/imm.factors"], apart := false, laid := [("remontoire/imm.factors", laid_remontoire_imm_factors), ("remontoire/inst.shapes", laid_remontoire_inst_shapes)] }
def AsmLaysSaid : Prop := asmLaysRow.holds Tryz.pinned (OpenSpec.ofChange asmLaysSpec)

/-- ITS FALSE NEIGHBOUR: 'it returns false'. Refute it at one input. -/
def asmLaysWrong : ChangeSpec := { name := "asmLays", fn := fun _ => fun
  | [d1, d2] => { results := [.lit (.bool false)], args := [d1, d2] }
  | _ => none }
def AsmLaysWrongFalsely : Prop := asmLaysRow.holds Tryz.pinned (OpenSpec.ofChange asmLaysWrong)

/-- 'remontoirelaw07.CoreHolds': WHATEVER THE INPUT: true; the input reads as it did. -/
def coreHoldsSpec : ChangeSpec := { name := "coreHolds", fn := fun _ => fun
  | [d1, d2] => { results := [.lit (.bool true)], args := [d1, d2] }
  | _ => none }
def coreHoldsRow : OpenClaim := { program := "ytnbngokbamifbaagreatdoor", sum := "cebb7fa8e86879b85af55292cfc0492d632913991e0f46221697600288eb2b6f", func := "remontoire/remontoirelaw07.CoreHolds", spec := "coreHolds", unfollowed := true, recurses := true, named := ["remontoire/inst.shapes", "remontoire/imm.factors"], apart := false, laid := [("remontoire/imm.factors", laid_remontoire_imm_factors), ("remontoire/inst.shapes", laid_remontoire_inst_shapes)] }
def CoreHoldsSaid : Prop := coreHoldsRow.holds Tryz.pinned (OpenSpec.ofChange coreHoldsSpec)

/-- ITS FALSE NEIGHBOUR: 'it returns false'. Refute it at one input. -/
def coreHoldsWrong : ChangeSpec := { name := "coreHolds", fn := fun _ => fun
  | [d1, d2] => { results := [.lit (.bool false)], args := [d1, d2] }
  | _ => none }
def CoreHoldsWrongFalsely : Prop := coreHoldsRow.holds Tryz.pinned (OpenSpec.ofChange coreHoldsWrong)

/-- 'remontoirelaw07.CoreRuns': WHATEVER THE INPUT: true; the input reads as it did. -/
def coreRunsSpec : ChangeSpec := { name := "coreRuns", fn := fun _ => fun
  | [d1, d2, d3, d4] => { results := [.lit (.bool true)], args := [d1, d2, d3, d4] }
  | _ => none }
def coreRunsRow : OpenClaim := { program := "ytnbngokbamifbaagreatdoor", sum := "cebb7fa8e86879b85af55292cfc0492d632913991e0f46221697600288eb2b6f", func := "remontoire/remontoirelaw07.CoreRuns", spec := "coreRuns", unfollowed := true, recurses := true, named := ["remontoire/inst.shapes", "remontoire/imm.factors"], apart := false, laid := [("remontoire/imm.factors", laid_remontoire_imm_factors), ("remontoire/inst.shapes", laid_remontoire_inst_shapes)] }
def CoreRunsSaid : Prop := coreRunsRow.holds Tryz.pinned (OpenSpec.ofChange coreRunsSpec)

/-- ITS FALSE NEIGHBOUR: 'it returns false'. Refute it at one input. -/
def coreRunsWrong : ChangeSpec := { name := "coreRuns", fn := fun _ => fun
  | [d1, d2, d3, d4] => { results := [.lit (.bool false)], args := [d1, d2, d3, d4] }
  | _ => none }
def CoreRunsWrongFalsely : Prop := coreRunsRow.holds Tryz.pinned (OpenSpec.ofChange coreRunsWrong)

/-- 'remontoirelaw07.CoreSteps': WHATEVER THE INPUT: true; the input reads as it did. -/
def coreStepsSpec : ChangeSpec := { name := "coreSteps", fn := fun _ => fun
  | [d1, d2, d3, d4, d5] => { results := [.lit (.bool true)], args := [d1, d2, d3, d4, d5] }
  | _ => none }
def coreStepsRow : OpenClaim := { program := "ytnbngokbamifbaagreatdoor", sum := "cebb7fa8e86879b85af55292cfc0492d632913991e0f46221697600288eb2b6f", func := "remontoire/remontoirelaw07.CoreSteps", spec := "coreSteps", unfollowed := true, recurses := true, named := ["remontoire/inst.shapes", "remontoire/imm.factors"], apart := false, laid := [("remontoire/imm.factors", laid_remontoire_imm_factors), ("remontoire/inst.shapes", laid_remontoire_inst_shapes)] }
def CoreStepsSaid : Prop := coreStepsRow.holds Tryz.pinned (OpenSpec.ofChange coreStepsSpec)

/-- ITS FALSE NEIGHBOUR: 'it returns false'. Refute it at one input. -/
def coreStepsWrong : ChangeSpec := { name := "coreSteps", fn := fun _ => fun
  | [d1, d2, d3, d4, d5] => { results := [.lit (.bool false)], args := [d1, d2, d3, d4, d5] }
  | _ => none }
def CoreStepsWrongFalsely : Prop := coreStepsRow.holds Tryz.pinned (OpenSpec.ofChange coreStepsWrong)

/-- 'remontoirelaw07.CoreOne': WHATEVER THE INPUT: true; the input reads as it did. -/
def coreOneSpec : ChangeSpec := { name := "coreOne", fn := fun _ => fun
  | [d1, d2, d3] => { results := [.lit (.bool true)], args := [d1, d2, d3] }
  | _ => none }
def coreOneRow : OpenClaim := { program := "ytnbngokbamifbaagreatdoor", sum := "cebb7fa8e86879b85af55292cfc0492d632913991e0f46221697600288eb2b6f", func := "remontoire/remontoirelaw07.CoreOne", spec := "coreOne", unfollowed := true, recurses := true, named := ["remontoire/inst.shapes", "remontoire/imm.factors"], apart := false, laid := [("remontoire/imm.factors", laid_remontoire_imm_factors), ("remontoire/inst.shapes", laid_remontoire_inst_shapes)] }
def CoreOneSaid : Prop := coreOneRow.holds Tryz.pinned (OpenSpec.ofChange coreOneSpec)

/-- ITS FALSE NEIGHBOUR: 'it returns false'. Refute it at one input. -/
def coreOneWrong : ChangeSpec := { name := "coreOne", fn := fun _ => fun
  | [d1, d2, d3] => { results := [.lit (.bool false)], args := [d1, d2, d3] }
  | _ => none }
def CoreOneWrongFalsely : Prop := coreOneRow.holds Tryz.pinned (OpenSpec.ofChange coreOneWrong)

/- THE SECOND FORM. 'bulk': how many values and letters a reading holds, each counted each time it is reached (what is shared counts as often as it is met; a slice's spare places count too). A statement '..UptoSaid' is the law's where the arguments, and the package variables that the reading takes, are together of bulk at most 1048576: NARROWER than '..Said'. Prove '..Said' where nothing that the law and all that it calls make is longer than what came in: it says more and counts as full. Else prove '..UptoSaid'. A law counts once. -/
mutual
def uptoBulk {H : Type} : DataW H → Nat
  | .lit (.string bytes) => bytes.length + 1
  | .lit _ => 1
  | .nil => 1
  | .ptr d => uptoBulk d + 1
  | .slice elems spare => uptoBulkAll elems + uptoBulkAll spare + 1
  | .agg parts => uptoBulkAll parts + 1
  | .iface _ d => uptoBulk d + 1
  | .map entries => uptoBulkEntries entries + 1
  | .held _ => 1
def uptoBulkAll {H : Type} : List (DataW H) → Nat
  | [] => 0
  | d :: r => uptoBulk d + uptoBulkAll r
def uptoBulkEntries {H : Type} : List (Lit × DataW H) → Nat
  | [] => 0
  | x :: r => uptoBulkEntry x + uptoBulkEntries r
def uptoBulkEntry {H : Type} : Lit × DataW H → Nat
  | (.string bytes, d) => bytes.length + uptoBulk d + 1
  | (_, d) => uptoBulk d + 1
 end
def uptoSmall : (H : Type) → List (DataW H) → Bool := fun _ ds => decide (uptoBulkAll ds ≤ 1048576)
def OpenSpec.upto (s : _root_.Go.ChangeSpec) : _root_.Go.OpenSpec := { _root_.Go.OpenSpec.ofChange s with cond := some uptoSmall }

/-- 'remontoirelaw08.AsmLays', WHERE WHAT IT READS IS OF BULK AT MOST 1048576: true; the input reads as it did. -/
def asmLaysUptoRow : OpenClaim := { program := "ytnbngokbamifbaagreatdoor", sum := "cebb7fa8e86879b85af55292cfc0492d632913991e0f46221697600288eb2b6f", func := "remontoire/remontoirelaw08.AsmLays", spec := "asmLays", named := ["remontoire/inst.shapes", "remontoire/imm.factors"], apart := false, laid := [("remontoire/imm.factors", laid_remontoire_imm_factors), ("remontoire/inst.shapes", laid_remontoire_inst_shapes)], narrowed := true }
def AsmLaysUptoSaid : Prop := asmLaysUptoRow.holds Tryz.pinned (OpenSpec.upto asmLaysSpec)

/-- 'remontoirelaw07.CoreHolds', WHERE WHAT IT READS IS OF BULK AT MOST 1048576: true; the input reads as it did. -/
def coreHoldsUptoRow : OpenClaim := { program := "ytnbngokbamifbaagreatdoor", sum := "cebb7fa8e86879b85af55292cfc0492d632913991e0f46221697600288eb2b6f", func := "remontoire/remontoirelaw07.CoreHolds", spec := "coreHolds", unfollowed := true, recurses := true, named := ["remontoire/inst.shapes", "remontoire/imm.factors"], apart := false, laid := [("remontoire/imm.factors", laid_remontoire_imm_factors), ("remontoire/inst.shapes", laid_remontoire_inst_shapes)], narrowed := true }
def CoreHoldsUptoSaid : Prop := coreHoldsUptoRow.holds Tryz.pinned (OpenSpec.upto coreHoldsSpec)

/-- 'remontoirelaw07.CoreRuns', WHERE WHAT IT READS IS OF BULK AT MOST 1048576: true; the input reads as it did. -/
def coreRunsUptoRow : OpenClaim := { program := "ytnbngokbamifbaagreatdoor", sum := "cebb7fa8e86879b85af55292cfc0492d632913991e0f46221697600288eb2b6f", func := "remontoire/remontoirelaw07.CoreRuns", spec := "coreRuns", unfollowed := true, recurses := true, named := ["remontoire/inst.shapes", "remontoire/imm.factors"], apart := false, laid := [("remontoire/imm.factors", laid_remontoire_imm_factors), ("remontoire/inst.shapes", laid_remontoire_inst_shapes)], narrowed := true }
def CoreRunsUptoSaid : Prop := coreRunsUptoRow.holds Tryz.pinned (OpenSpec.upto coreRunsSpec)

/-- 'remontoirelaw07.CoreSteps', WHERE WHAT IT READS IS OF BULK AT MOST 1048576: true; the input reads as it did. -/
def coreStepsUptoRow : OpenClaim := { program := "ytnbngokbamifbaagreatdoor", sum := "cebb7fa8e86879b85af55292cfc0492d632913991e0f46221697600288eb2b6f", func := "remontoire/remontoirelaw07.CoreSteps", spec := "coreSteps", unfollowed := true, recurses := true, named := ["remontoire/inst.shapes", "remontoire/imm.factors"], apart := false, laid := [("remontoire/imm.factors", laid_remontoire_imm_factors), ("remontoire/inst.shapes", laid_remontoire_inst_shapes)], narrowed := true }
def CoreStepsUptoSaid : Prop := coreStepsUptoRow.holds Tryz.pinned (OpenSpec.upto coreStepsSpec)

/-- 'remontoirelaw07.CoreOne', WHERE WHAT IT READS IS OF BULK AT MOST 1048576: true; the input reads as it did. -/
def coreOneUptoRow : OpenClaim := { program := "ytnbngokbamifbaagreatdoor", sum := "cebb7fa8e86879b85af55292cfc0492d632913991e0f46221697600288eb2b6f", func := "remontoire/remontoirelaw07.CoreOne", spec := "coreOne", unfollowed := true, recurses := true, named := ["remontoire/inst.shapes", "remontoire/imm.factors"], apart := false, laid := [("remontoire/imm.factors", laid_remontoire_imm_factors), ("remontoire/inst.shapes", laid_remontoire_inst_shapes)], narrowed := true }
def CoreOneUptoSaid : Prop := coreOneUptoRow.holds Tryz.pinned (OpenSpec.upto coreOneSpec)

end Rows
end Go.Proofs.YtnbngokbamifbaaGreatDoor

/-
  NARROWER THAN 'FOR EVERY INPUT', by the rows' own cells (each row's printed sentence says how): PlanPlain: laid · PlanDepths: loops, laid · PlanWays: loops, laid.
  DERIVED. THE GIVEN ROWS OF THIS SEAT. 3 by the template 'for every input the law returns true; each argument reads behind the call as it read before'; 0 by the template 'total and deterministic' (their statements: YtnbhdacpogplgaaGreatDoorTotals.lean).
  GIVEN WITH THE SEED: the statements are not yours to turn. If you find one false, say at which input.
  Laid BY PROGRAM, IN A SANDBOX (cutbox-rows.mjs): the forced cells as the released guide's own fill.sh prints them over the translation 1d3f620bb161b731… (all of the seat's roots in one cut). By AI agents, Wed Nov 11 2026. No macro, syntax, notation, axiom, sorry.
-/
import Derived.Test.YtnbhdacpogplgaaGreatDoorChecked
import GoSem.Claim
import GoSem.ClaimJoined
import GoSem.ClaimMapViews
import Derived.JoinedTies
import Derived.KernelRfl
namespace Go.Proofs.YtnbhdacpogplgaaGreatDoor
/- THE CELL 'sum', in the pinned program and in every row, IS THE sha256 OF THE DUMP (.gsa) THAT YtnbhdacpogplgaaGreatDoorProg.lean LOADS. Nothing in Lean hashes anything: it is a label: what it is worth is what the hold of that sum in a sandbox is worth. -/
noncomputable def Tryz.pinned : Pinned := { name := "ytnbhdacpogplgaagreatdoor", sum := "1d3f620bb161b7313d935d437b9e2665ef04a6c66abf3e5bd48d793ea06051a5", checked := Tryz.checked }
namespace Rows
def none {H : Type} : Left H := { results := [], args := [] }

/- WHAT THE LISTED PACKAGE-LEVEL VARIABLES READ AS WHEN THE CALL BEGINS. Each datum BY PROGRAM (the guide's laid-datum.mjs) off the statement by which the dump's own 'gosem.cut.vars' lays the variable. In a bare row this is a premise. The card (YtnbhdacpogplgaaGreatDoorCards.lean) ties it to the program's text. -/
def laid_remontoire_imm_factors {H : Type} : DataW H := .agg [.lit (.int .u32 1), .lit (.int .u32 65537), .lit (.int .u32 16777472), .lit (.int .u32 16843009)]
def laid_remontoire_inst_shapes {H : Type} : DataW H := .agg [.lit (.int .i64 0), .lit (.int .i64 1), .lit (.int .i64 1), .lit (.int .i64 1), .lit (.int .i64 2), .lit (.int .i64 2), .lit (.int .i64 3), .lit (.int .i64 3), .lit (.int .i64 4), .lit (.int .i64 4), .lit (.int .i64 4), .lit (.int .i64 4), .lit (.int .i64 5), .lit (.int .i64 5), .lit (.int .i64 5), .lit (.int .i64 5), .lit (.int .i64 5), .lit (.int .i64 5), .lit (.int .i64 5), .lit (.int .i64 5), .lit (.int .i64 5), .lit (.int .i64 5), .lit (.int .i64 5), .lit (.int .i64 5), .lit (.int .i64 5), .lit (.int .i64 5), .lit (.int .i64 5), .lit (.int .i64 5), .lit (.int .i64 6), .lit (.int .i64 6), .lit (.int .i64 6), .lit (.int .i64 7), .lit (.int .i64 8), .lit (.int .i64 2), .lit (.int .i64 2), .lit (.int .i64 9), .lit (.int .i64 9), .lit (.int .i64 8), .lit (.int .i64 8), .lit (.int .i64 8), .lit (.int .i64 10), .lit (.int .i64 10), .lit (.int .i64 11), .lit (.int .i64 12), .lit (.int .i64 13), .lit (.int .i64 14), .lit (.int .i64 15), .lit (.int .i64 16), .lit (.int .i64 17), .lit (.int .i64 17), .lit (.int .i64 18), .lit (.int .i64 18), .lit (.int .i64 18), .lit (.int .i64 18), .lit (.int .i64 18), .lit (.int .i64 18), .lit (.int .i64 18), .lit (.int .i64 18), .lit (.int .i64 18), .lit (.int .i64 18), .lit (.int .i64 19), .lit (.int .i64 19), .lit (.int .i64 20), .lit (.int .i64 20), .lit (.int .i64 20), .lit (.int .i64 20), .lit (.int .i64 21), .lit (.int .i64 21), .lit (.int .i64 21), .lit (.int .i64 21), .lit (.int .i64 21), .lit (.int .i64 21), .lit (.int .i64 21), .lit (.int .i64 21), .lit (.int .i64 21), .lit (.int .i64 21), .lit (.int .i64 22), .lit (.int .i64 22), .lit (.int .i64 23), .lit (.int .i64 23), .lit (.int .i64 23), .lit (.int .i64 23), .lit (.int .i64 24), .lit (.int .i64 24), .lit (.int .i64 25), .lit (.int .i64 25), .lit (.int .i64 26), .lit (.int .i64 26), .lit (.int .i64 27), .lit (.int .i64 27), .lit (.int .i64 27), .lit (.int .i64 27), .lit (.int .i64 28), .lit (.int .i64 29), .lit (.int .i64 30), .lit (.int .i64 31), .lit (.int .i64 31), .lit (.int .i64 28), .lit (.int .i64 32), .lit (.int .i64 33), .lit (.int .i64 34)]
def laid_remontoire_cost_rules {H : Type} : DataW H := .agg [.agg [.lit (.bool false), .lit (.bool false), .lit (.bool false), .lit (.bool false), .lit (.bool false), .lit (.int .i64 0), .lit (.int .i64 0)], .agg [.lit (.bool false), .lit (.bool false), .lit (.bool false), .lit (.bool false), .lit (.bool true), .lit (.int .i64 0), .lit (.int .i64 0)], .agg [.lit (.bool false), .lit (.bool false), .lit (.bool false), .lit (.bool false), .lit (.bool false), .lit (.int .i64 0), .lit (.int .i64 2147483647)], .agg [.lit (.bool true), .lit (.bool false), .lit (.bool false), .lit (.bool false), .lit (.bool false), .lit (.int .i64 2), .lit (.int .i64 2)], .agg [.lit (.bool true), .lit (.bool true), .lit (.bool true), .lit (.bool false), .lit (.bool false), .lit (.int .i64 1), .lit (.int .i64 1)], .agg [.lit (.bool true), .lit (.bool false), .lit (.bool false), .lit (.bool true), .lit (.bool false), .lit (.int .i64 1), .lit (.int .i64 1)], .agg [.lit (.bool true), .lit (.bool true), .lit (.bool false), .lit (.bool false), .lit (.bool false), .lit (.int .i64 0), .lit (.int .i64 0)]]

/-- 'remontoirelaw22.PlanPlain': WHATEVER THE INPUT: true; the input reads as it did. -/
def planPlainSpec : ChangeSpec := { name := "planPlain", fn := fun _ => fun
  | [d1, d2, d3] => { results := [.lit (.bool true)], args := [d1, d2, d3] }
  | _ => none }
def planPlainRow : OpenClaim := { program := "ytnbhdacpogplgaagreatdoor", sum := "1d3f620bb161b7313d935d437b9e2665ef04a6c66abf3e5bd48d793ea06051a5", func := "remontoire/remontoirelaw22.PlanPlain", spec := "planPlain", unfollowed := true, recurses := true, named := ["remontoire/inst.shapes", "remontoire/imm.factors", "remontoire/cost.rules"], apart := false, laid := [("remontoire/imm.factors", laid_remontoire_imm_factors), ("remontoire/inst.shapes", laid_remontoire_inst_shapes), ("remontoire/cost.rules", laid_remontoire_cost_rules)] }
def PlanPlainSaid : Prop := planPlainRow.holds Tryz.pinned (OpenSpec.ofChange planPlainSpec)

/-- ITS FALSE NEIGHBOUR: 'it returns false'. Refute it at one input. -/
def planPlainWrong : ChangeSpec := { name := "planPlain", fn := fun _ => fun
  | [d1, d2, d3] => { results := [.lit (.bool false)], args := [d1, d2, d3] }
  | _ => none }
def PlanPlainWrongFalsely : Prop := planPlainRow.holds Tryz.pinned (OpenSpec.ofChange planPlainWrong)

/-- 'remontoirelaw22.PlanDepths': WHATEVER THE INPUT: true; the input reads as it did. -/
def planDepthsSpec : ChangeSpec := { name := "planDepths", fn := fun _ => fun
  | [d1, d2, d3] => { results := [.lit (.bool true)], args := [d1, d2, d3] }
  | _ => none }
def planDepthsRow : OpenClaim := { program := "ytnbhdacpogplgaagreatdoor", sum := "1d3f620bb161b7313d935d437b9e2665ef04a6c66abf3e5bd48d793ea06051a5", func := "remontoire/remontoirelaw22.PlanDepths", spec := "planDepths", unfollowed := true, recurses := true, named := ["remontoire/inst.shapes", "remontoire/imm.factors", "remontoire/cost.rules"], loops := true, apart := false, laid := [("remontoire/imm.factors", laid_remontoire_imm_factors), ("remontoire/inst.shapes", laid_remontoire_inst_shapes), ("remontoire/cost.rules", laid_remontoire_cost_rules)] }
def PlanDepthsSaid : Prop := planDepthsRow.holds Tryz.pinned (OpenSpec.ofChange planDepthsSpec)

/-- ITS FALSE NEIGHBOUR: 'it returns false'. Refute it at one input. -/
def planDepthsWrong : ChangeSpec := { name := "planDepths", fn := fun _ => fun
  | [d1, d2, d3] => { results := [.lit (.bool false)], args := [d1, d2, d3] }
  | _ => none }
def PlanDepthsWrongFalsely : Prop := planDepthsRow.holds Tryz.pinned (OpenSpec.ofChange planDepthsWrong)

/-- 'remontoirelaw22.PlanWays': WHATEVER THE INPUT: true; the input reads as it did. -/
def planWaysSpec : ChangeSpec := { name := "planWays", fn := fun _ => fun
  | [d1, d2, d3, d4, d5] => { results := [.lit (.bool true)], args := [d1, d2, d3, d4, d5] }
  | _ => none }
def planWaysRow : OpenClaim := { program := "ytnbhdacpogplgaagreatdoor", sum := "1d3f620bb161b7313d935d437b9e2665ef04a6c66abf3e5bd48d793ea06051a5", func := "remontoire/remontoirelaw22.PlanWays", spec := "planWays", inPlace := ["math/bits.Add64"], unfollowed := true, recurses := true, named := ["remontoire/inst.shapes", "remontoire/imm.factors", "remontoire/cost.rules"], loops := true, apart := false, laid := [("remontoire/imm.factors", laid_remontoire_imm_factors), ("remontoire/inst.shapes", laid_remontoire_inst_shapes), ("remontoire/cost.rules", laid_remontoire_cost_rules)] }
def PlanWaysSaid : Prop := planWaysRow.holds Tryz.pinned (OpenSpec.ofChange planWaysSpec)

/-- ITS FALSE NEIGHBOUR: 'it returns false'. Refute it at one input. -/
def planWaysWrong : ChangeSpec := { name := "planWays", fn := fun _ => fun
  | [d1, d2, d3, d4, d5] => { results := [.lit (.bool false)], args := [d1, d2, d3, d4, d5] }
  | _ => none }
def PlanWaysWrongFalsely : Prop := planWaysRow.holds Tryz.pinned (OpenSpec.ofChange planWaysWrong)

/- THE SECOND FORM. 'bulk': how many values and letters a reading holds, each counted each time it is reached (what is shared counts as often as it is met; a slice's spare places count too). A statement '..UptoSaid' is the law's where the arguments, and the package variables that the reading takes, are together of bulk at most 1048576: NARROWER than '..Said'. Prove '..Said' where nothing that the law and all that it calls make is longer than what came in: it says more and counts as full. Else prove '..UptoSaid'. A law counts once. -/
mutual
def uptoBulk {H : Type} : DataW H → Nat
  | .lit (.string bytes) => bytes.length + 1
  | .lit _ => 1
  | .nil => 1
  | .ptr d => uptoBulk d + 1
  | .slice elems spare => uptoBulkAll elems + uptoBulkAll spare + 1
  | .agg parts => uptoBulkAll parts + 1
  | .iface _ d => uptoBulk d + 1
  | .map entries => uptoBulkEntries entries + 1
  | .held _ => 1
def uptoBulkAll {H : Type} : List (DataW H) → Nat
  | [] => 0
  | d :: r => uptoBulk d + uptoBulkAll r
def uptoBulkEntries {H : Type} : List (Lit × DataW H) → Nat
  | [] => 0
  | x :: r => uptoBulkEntry x + uptoBulkEntries r
def uptoBulkEntry {H : Type} : Lit × DataW H → Nat
  | (.string bytes, d) => bytes.length + uptoBulk d + 1
  | (_, d) => uptoBulk d + 1
 end
def uptoSmall : (H : Type) → List (DataW H) → Bool := fun _ ds => decide (uptoBulkAll ds ≤ 1048576)
def OpenSpec.upto (s : _root_.Go.ChangeSpec) : _root_.Go.OpenSpec := { _root_.Go.OpenSpec.ofChange s with cond := some uptoSmall }

/-- 'remontoirelaw22.PlanPlain', WHERE WHAT IT READS IS OF BULK AT MOST 1048576: true; the input reads as it did. -/
def planPlainUptoRow : OpenClaim := { program := "ytnbhdacpogplgaagreatdoor", sum := "1d3f620bb161b7313d935d437b9e2665ef04a6c66abf3e5bd48d793ea06051a5", func := "remontoire/remontoirelaw22.PlanPlain", spec := "planPlain", unfollowed := true, recurses := true, named := ["remontoire/inst.shapes", "remontoire/imm.factors", "remontoire/cost.rules"], apart := false, laid := [("remontoire/imm.factors", laid_remontoire_imm_factors), ("remontoire/inst.shapes", laid_remontoire_inst_shapes), ("remontoire/cost.rules", laid_remontoire_cost_rules)], narrowed := true }
def PlanPlainUptoSaid : Prop := planPlainUptoRow.holds Tryz.pinned (OpenSpec.upto planPlainSpec)

/-- 'remontoirelaw22.PlanDepths', WHERE WHAT IT READS IS OF BULK AT MOST 1048576: true; the input reads as it did. -/
def planDepthsUptoRow : OpenClaim := { program := "ytnbhdacpogplgaagreatdoor", sum := "1d3f620bb161b7313d935d437b9e2665ef04a6c66abf3e5bd48d793ea06051a5", func := "remontoire/remontoirelaw22.PlanDepths", spec := "planDepths", unfollowed := true, recurses := true, named := ["remontoire/inst.shapes", "remontoire/imm.factors", "remontoire/cost.rules"], loops := true, apart := false, laid := [("remontoire/imm.factors", laid_remontoire_imm_factors), ("remontoire/inst.shapes", laid_remontoire_inst_shapes), ("remontoire/cost.rules", laid_remontoire_cost_rules)], narrowed := true }
def PlanDepthsUptoSaid : Prop := planDepthsUptoRow.holds Tryz.pinned (OpenSpec.upto planDepthsSpec)

/-- 'remontoirelaw22.PlanWays', WHERE WHAT IT READS IS OF BULK AT MOST 1048576: true; the input reads as it did. -/
def planWaysUptoRow : OpenClaim := { program := "ytnbhdacpogplgaagreatdoor", sum := "1d3f620bb161b7313d935d437b9e2665ef04a6c66abf3e5bd48d793ea06051a5", func := "remontoire/remontoirelaw22.PlanWays", spec := "planWays", inPlace := ["math/bits.Add64"], unfollowed := true, recurses := true, named := ["remontoire/inst.shapes", "remontoire/imm.factors", "remontoire/cost.rules"], loops := true, apart := false, laid := [("remontoire/imm.factors", laid_remontoire_imm_factors), ("remontoire/inst.shapes", laid_remontoire_inst_shapes), ("remontoire/cost.rules", laid_remontoire_cost_rules)], narrowed := true }
def PlanWaysUptoSaid : Prop := planWaysUptoRow.holds Tryz.pinned (OpenSpec.upto planWaysSpec)

end Rows
end Go.Proofs.YtnbhdacpogplgaaGreatDoor

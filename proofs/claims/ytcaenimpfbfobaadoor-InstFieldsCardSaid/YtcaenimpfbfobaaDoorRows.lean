/-
  NARROWER THAN 'FOR EVERY INPUT', by the rows' own cells (each row's printed sentence says how): ImmOnce: laid · ImmTurns: laid · ImmFinds: laid · ImmRepeats: laid · ImmAll: laid · ImmWords: laid · InstRight: laid · InstFields: laid · InstBranches: laid · InstSizes: laid · InstForms: laid.
  DERIVED. THE GIVEN ROWS OF THIS SEAT. 11 by the template 'for every input the law returns true; each argument reads behind the call as it read before'; 0 by the template 'total and deterministic' (their statements: YtcaenimpfbfobaaDoorTotals.lean).
  GIVEN WITH THE SEED: the statements are not yours to turn. If you find one false, say at which input.
  Laid BY PROGRAM, IN A SANDBOX (cutbox-rows.mjs): the forced cells as the released guide's own fill.sh prints them over the translation 49f1763b6d44b09e… (all of the seat's roots in one cut). By AI agents, Wed Nov 11 2026. No macro, syntax, notation, axiom, sorry.
-/
import Derived.Test.YtcaenimpfbfobaaDoorChecked
import GoSem.Claim
import GoSem.ClaimJoined
import GoSem.ClaimMapViews
import Derived.JoinedTies
import Derived.KernelRfl
namespace Go.Proofs.YtcaenimpfbfobaaDoor
/- THE CELL 'sum', in the pinned program and in every row, IS THE sha256 OF THE DUMP (.gsa) THAT YtcaenimpfbfobaaDoorProg.lean LOADS. Nothing in Lean hashes anything: it is a label: what it is worth is what the hold of that sum in a sandbox is worth. -/
noncomputable def Tryd.pinned : Pinned := { name := "ytcaenimpfbfobaadoor", sum := "49f1763b6d44b09e261f80e0d8d88c861462cbb6862938bf74a31db70a2f0894", checked := Tryd.checked }
namespace Rows
def none {H : Type} : Left H := { results := [], args := [] }

/- WHAT THE LISTED PACKAGE-LEVEL VARIABLES READ AS WHEN THE CALL BEGINS. Each datum BY PROGRAM (the guide's laid-datum.mjs) off the statement by which the dump's own 'gosem.cut.vars' lays the variable. In a bare row this is a premise. The card (YtcaenimpfbfobaaDoorCards.lean) ties it to the program's text. -/
def laid_remontoire_imm_factors {H : Type} : DataW H := .agg [.lit (.int .u32 1), .lit (.int .u32 65537), .lit (.int .u32 16777472), .lit (.int .u32 16843009)]
def laid_remontoire_inst_shapes {H : Type} : DataW H := .agg [.lit (.int .i64 0), .lit (.int .i64 1), .lit (.int .i64 1), .lit (.int .i64 1), .lit (.int .i64 2), .lit (.int .i64 2), .lit (.int .i64 3), .lit (.int .i64 3), .lit (.int .i64 4), .lit (.int .i64 4), .lit (.int .i64 4), .lit (.int .i64 4), .lit (.int .i64 5), .lit (.int .i64 5), .lit (.int .i64 5), .lit (.int .i64 5), .lit (.int .i64 5), .lit (.int .i64 5), .lit (.int .i64 5), .lit (.int .i64 5), .lit (.int .i64 5), .lit (.int .i64 5), .lit (.int .i64 5), .lit (.int .i64 5), .lit (.int .i64 5), .lit (.int .i64 5), .lit (.int .i64 5), .lit (.int .i64 5), .lit (.int .i64 6), .lit (.int .i64 6), .lit (.int .i64 6), .lit (.int .i64 7), .lit (.int .i64 8), .lit (.int .i64 2), .lit (.int .i64 2), .lit (.int .i64 9), .lit (.int .i64 9), .lit (.int .i64 8), .lit (.int .i64 8), .lit (.int .i64 8), .lit (.int .i64 10), .lit (.int .i64 10), .lit (.int .i64 11), .lit (.int .i64 12), .lit (.int .i64 13), .lit (.int .i64 14), .lit (.int .i64 15), .lit (.int .i64 16), .lit (.int .i64 17), .lit (.int .i64 17), .lit (.int .i64 18), .lit (.int .i64 18), .lit (.int .i64 18), .lit (.int .i64 18), .lit (.int .i64 18), .lit (.int .i64 18), .lit (.int .i64 18), .lit (.int .i64 18), .lit (.int .i64 18), .lit (.int .i64 18), .lit (.int .i64 19), .lit (.int .i64 19), .lit (.int .i64 20), .lit (.int .i64 20), .lit (.int .i64 20), .lit (.int .i64 20), .lit (.int .i64 21), .lit (.int .i64 21), .lit (.int .i64 21), .lit (.int .i64 21), .lit (.int .i64 21), .lit (.int .i64 21), .lit (.int .i64 21), .lit (.int .i64 21), .lit (.int .i64 21), .lit (.int .i64 21), .lit (.int .i64 22), .lit (.int .i64 22), .lit (.int .i64 23), .lit (.int .i64 23), .lit (.int .i64 23), .lit (.int .i64 23), .lit (.int .i64 24), .lit (.int .i64 24), .lit (.int .i64 25), .lit (.int .i64 25), .lit (.int .i64 26), .lit (.int .i64 26), .lit (.int .i64 27), .lit (.int .i64 27), .lit (.int .i64 27), .lit (.int .i64 27), .lit (.int .i64 28), .lit (.int .i64 29), .lit (.int .i64 30), .lit (.int .i64 31), .lit (.int .i64 31), .lit (.int .i64 28), .lit (.int .i64 32), .lit (.int .i64 33), .lit (.int .i64 34)]

/-- 'remontoirelaw02.ImmOnce': WHATEVER THE INPUT: true; the input reads as it did. -/
def immOnceSpec : ChangeSpec := { name := "immOnce", fn := fun _ => fun
  | [d1, d2] => { results := [.lit (.bool true)], args := [d1, d2] }
  | _ => none }
def immOnceRow : OpenClaim := { program := "ytcaenimpfbfobaadoor", sum := "49f1763b6d44b09e261f80e0d8d88c861462cbb6862938bf74a31db70a2f0894", func := "remontoire/remontoirelaw02.ImmOnce", spec := "immOnce", named := ["remontoire/imm.factors"], apart := false, laid := [("remontoire/imm.factors", laid_remontoire_imm_factors)] }
def ImmOnceSaid : Prop := immOnceRow.holds Tryd.pinned (OpenSpec.ofChange immOnceSpec)

/-- ITS FALSE NEIGHBOUR: 'it returns false'. Refute it at one input. -/
def immOnceWrong : ChangeSpec := { name := "immOnce", fn := fun _ => fun
  | [d1, d2] => { results := [.lit (.bool false)], args := [d1, d2] }
  | _ => none }
def ImmOnceWrongFalsely : Prop := immOnceRow.holds Tryd.pinned (OpenSpec.ofChange immOnceWrong)

/-- 'remontoirelaw02.ImmTurns': WHATEVER THE INPUT: true; the input reads as it did. -/
def immTurnsSpec : ChangeSpec := { name := "immTurns", fn := fun _ => fun
  | [d1, d2] => { results := [.lit (.bool true)], args := [d1, d2] }
  | _ => none }
def immTurnsRow : OpenClaim := { program := "ytcaenimpfbfobaadoor", sum := "49f1763b6d44b09e261f80e0d8d88c861462cbb6862938bf74a31db70a2f0894", func := "remontoire/remontoirelaw02.ImmTurns", spec := "immTurns", named := ["remontoire/imm.factors"], apart := false, laid := [("remontoire/imm.factors", laid_remontoire_imm_factors)] }
def ImmTurnsSaid : Prop := immTurnsRow.holds Tryd.pinned (OpenSpec.ofChange immTurnsSpec)

/-- ITS FALSE NEIGHBOUR: 'it returns false'. Refute it at one input. -/
def immTurnsWrong : ChangeSpec := { name := "immTurns", fn := fun _ => fun
  | [d1, d2] => { results := [.lit (.bool false)], args := [d1, d2] }
  | _ => none }
def ImmTurnsWrongFalsely : Prop := immTurnsRow.holds Tryd.pinned (OpenSpec.ofChange immTurnsWrong)

/-- 'remontoirelaw02.ImmFinds': WHATEVER THE INPUT: true; the input reads as it did. -/
def immFindsSpec : ChangeSpec := { name := "immFinds", fn := fun _ => fun
  | [d] => { results := [.lit (.bool true)], args := [d] }
  | _ => none }
def immFindsRow : OpenClaim := { program := "ytcaenimpfbfobaadoor", sum := "49f1763b6d44b09e261f80e0d8d88c861462cbb6862938bf74a31db70a2f0894", func := "remontoire/remontoirelaw02.ImmFinds", spec := "immFinds", named := ["remontoire/imm.factors"], apart := false, laid := [("remontoire/imm.factors", laid_remontoire_imm_factors)] }
def ImmFindsSaid : Prop := immFindsRow.holds Tryd.pinned (OpenSpec.ofChange immFindsSpec)

/-- ITS FALSE NEIGHBOUR: 'it returns false'. Refute it at one input. -/
def immFindsWrong : ChangeSpec := { name := "immFinds", fn := fun _ => fun
  | [d] => { results := [.lit (.bool false)], args := [d] }
  | _ => none }
def ImmFindsWrongFalsely : Prop := immFindsRow.holds Tryd.pinned (OpenSpec.ofChange immFindsWrong)

/-- 'remontoirelaw02.ImmRepeats': WHATEVER THE INPUT: true; the input reads as it did. -/
def immRepeatsSpec : ChangeSpec := { name := "immRepeats", fn := fun _ => fun
  | [d] => { results := [.lit (.bool true)], args := [d] }
  | _ => none }
def immRepeatsRow : OpenClaim := { program := "ytcaenimpfbfobaadoor", sum := "49f1763b6d44b09e261f80e0d8d88c861462cbb6862938bf74a31db70a2f0894", func := "remontoire/remontoirelaw02.ImmRepeats", spec := "immRepeats", named := ["remontoire/imm.factors"], apart := false, laid := [("remontoire/imm.factors", laid_remontoire_imm_factors)] }
def ImmRepeatsSaid : Prop := immRepeatsRow.holds Tryd.pinned (OpenSpec.ofChange immRepeatsSpec)

/-- ITS FALSE NEIGHBOUR: 'it returns false'. Refute it at one input. -/
def immRepeatsWrong : ChangeSpec := { name := "immRepeats", fn := fun _ => fun
  | [d] => { results := [.lit (.bool false)], args := [d] }
  | _ => none }
def ImmRepeatsWrongFalsely : Prop := immRepeatsRow.holds Tryd.pinned (OpenSpec.ofChange immRepeatsWrong)

/-- 'remontoirelaw02.ImmAll': WHATEVER THE INPUT: true; the input reads as it did. -/
def immAllSpec : ChangeSpec := { name := "immAll", fn := fun _ => fun
  | [d] => { results := [.lit (.bool true)], args := [d] }
  | _ => none }
def immAllRow : OpenClaim := { program := "ytcaenimpfbfobaadoor", sum := "49f1763b6d44b09e261f80e0d8d88c861462cbb6862938bf74a31db70a2f0894", func := "remontoire/remontoirelaw02.ImmAll", spec := "immAll", unfollowed := true, recurses := true, named := ["remontoire/imm.factors"], apart := false, laid := [("remontoire/imm.factors", laid_remontoire_imm_factors)] }
def ImmAllSaid : Prop := immAllRow.holds Tryd.pinned (OpenSpec.ofChange immAllSpec)

/-- ITS FALSE NEIGHBOUR: 'it returns false'. Refute it at one input. -/
def immAllWrong : ChangeSpec := { name := "immAll", fn := fun _ => fun
  | [d] => { results := [.lit (.bool false)], args := [d] }
  | _ => none }
def ImmAllWrongFalsely : Prop := immAllRow.holds Tryd.pinned (OpenSpec.ofChange immAllWrong)

/-- 'remontoirelaw02.ImmWords': WHATEVER THE INPUT: true; the input reads as it did. -/
def immWordsSpec : ChangeSpec := { name := "immWords", fn := fun _ => fun
  | [d1, d2] => { results := [.lit (.bool true)], args := [d1, d2] }
  | _ => none }
def immWordsRow : OpenClaim := { program := "ytcaenimpfbfobaadoor", sum := "49f1763b6d44b09e261f80e0d8d88c861462cbb6862938bf74a31db70a2f0894", func := "remontoire/remontoirelaw02.ImmWords", spec := "immWords", named := ["remontoire/imm.factors"], apart := false, laid := [("remontoire/imm.factors", laid_remontoire_imm_factors)] }
def ImmWordsSaid : Prop := immWordsRow.holds Tryd.pinned (OpenSpec.ofChange immWordsSpec)

/-- ITS FALSE NEIGHBOUR: 'it returns false'. Refute it at one input. -/
def immWordsWrong : ChangeSpec := { name := "immWords", fn := fun _ => fun
  | [d1, d2] => { results := [.lit (.bool false)], args := [d1, d2] }
  | _ => none }
def ImmWordsWrongFalsely : Prop := immWordsRow.holds Tryd.pinned (OpenSpec.ofChange immWordsWrong)

/-- 'remontoirelaw03.InstRight': WHATEVER THE INPUT: true; the input reads as it did. -/
def instRightSpec : ChangeSpec := { name := "instRight", fn := fun _ => fun
  | [d] => { results := [.lit (.bool true)], args := [d] }
  | _ => none }
def instRightRow : OpenClaim := { program := "ytcaenimpfbfobaadoor", sum := "49f1763b6d44b09e261f80e0d8d88c861462cbb6862938bf74a31db70a2f0894", func := "remontoire/remontoirelaw03.InstRight", spec := "instRight", named := ["remontoire/inst.shapes", "remontoire/imm.factors"], apart := false, laid := [("remontoire/imm.factors", laid_remontoire_imm_factors), ("remontoire/inst.shapes", laid_remontoire_inst_shapes)] }
def InstRightSaid : Prop := instRightRow.holds Tryd.pinned (OpenSpec.ofChange instRightSpec)

/-- ITS FALSE NEIGHBOUR: 'it returns false'. Refute it at one input. -/
def instRightWrong : ChangeSpec := { name := "instRight", fn := fun _ => fun
  | [d] => { results := [.lit (.bool false)], args := [d] }
  | _ => none }
def InstRightWrongFalsely : Prop := instRightRow.holds Tryd.pinned (OpenSpec.ofChange instRightWrong)

/-- 'remontoirelaw03.InstFields': WHATEVER THE INPUT: true; the input reads as it did. -/
def instFieldsSpec : ChangeSpec := { name := "instFields", fn := fun _ => fun
  | [d1, d2, d3] => { results := [.lit (.bool true)], args := [d1, d2, d3] }
  | _ => none }
def instFieldsRow : OpenClaim := { program := "ytcaenimpfbfobaadoor", sum := "49f1763b6d44b09e261f80e0d8d88c861462cbb6862938bf74a31db70a2f0894", func := "remontoire/remontoirelaw03.InstFields", spec := "instFields", named := ["remontoire/inst.shapes", "remontoire/imm.factors"], apart := false, laid := [("remontoire/imm.factors", laid_remontoire_imm_factors), ("remontoire/inst.shapes", laid_remontoire_inst_shapes)] }
def InstFieldsSaid : Prop := instFieldsRow.holds Tryd.pinned (OpenSpec.ofChange instFieldsSpec)

/-- ITS FALSE NEIGHBOUR: 'it returns false'. Refute it at one input. -/
def instFieldsWrong : ChangeSpec := { name := "instFields", fn := fun _ => fun
  | [d1, d2, d3] => { results := [.lit (.bool false)], args := [d1, d2, d3] }
  | _ => none }
def InstFieldsWrongFalsely : Prop := instFieldsRow.holds Tryd.pinned (OpenSpec.ofChange instFieldsWrong)

/-- 'remontoirelaw03.InstBranches': WHATEVER THE INPUT: true; the input reads as it did. -/
def instBranchesSpec : ChangeSpec := { name := "instBranches", fn := fun _ => fun
  | [d1, d2] => { results := [.lit (.bool true)], args := [d1, d2] }
  | _ => none }
def instBranchesRow : OpenClaim := { program := "ytcaenimpfbfobaadoor", sum := "49f1763b6d44b09e261f80e0d8d88c861462cbb6862938bf74a31db70a2f0894", func := "remontoire/remontoirelaw03.InstBranches", spec := "instBranches", named := ["remontoire/inst.shapes", "remontoire/imm.factors"], apart := false, laid := [("remontoire/imm.factors", laid_remontoire_imm_factors), ("remontoire/inst.shapes", laid_remontoire_inst_shapes)] }
def InstBranchesSaid : Prop := instBranchesRow.holds Tryd.pinned (OpenSpec.ofChange instBranchesSpec)

/-- ITS FALSE NEIGHBOUR: 'it returns false'. Refute it at one input. -/
def instBranchesWrong : ChangeSpec := { name := "instBranches", fn := fun _ => fun
  | [d1, d2] => { results := [.lit (.bool false)], args := [d1, d2] }
  | _ => none }
def InstBranchesWrongFalsely : Prop := instBranchesRow.holds Tryd.pinned (OpenSpec.ofChange instBranchesWrong)

/-- 'remontoirelaw03.InstSizes': WHATEVER THE INPUT: true; the input reads as it did. -/
def instSizesSpec : ChangeSpec := { name := "instSizes", fn := fun _ => fun
  | [d] => { results := [.lit (.bool true)], args := [d] }
  | _ => none }
def instSizesRow : OpenClaim := { program := "ytcaenimpfbfobaadoor", sum := "49f1763b6d44b09e261f80e0d8d88c861462cbb6862938bf74a31db70a2f0894", func := "remontoire/remontoirelaw03.InstSizes", spec := "instSizes", named := ["remontoire/inst.shapes", "remontoire/imm.factors"], apart := false, laid := [("remontoire/imm.factors", laid_remontoire_imm_factors), ("remontoire/inst.shapes", laid_remontoire_inst_shapes)] }
def InstSizesSaid : Prop := instSizesRow.holds Tryd.pinned (OpenSpec.ofChange instSizesSpec)

/-- ITS FALSE NEIGHBOUR: 'it returns false'. Refute it at one input. -/
def instSizesWrong : ChangeSpec := { name := "instSizes", fn := fun _ => fun
  | [d] => { results := [.lit (.bool false)], args := [d] }
  | _ => none }
def InstSizesWrongFalsely : Prop := instSizesRow.holds Tryd.pinned (OpenSpec.ofChange instSizesWrong)

/-- 'remontoirelaw03.InstForms': WHATEVER THE INPUT: true; the input reads as it did. -/
def instFormsSpec : ChangeSpec := { name := "instForms", fn := fun _ => fun
  | [d] => { results := [.lit (.bool true)], args := [d] }
  | _ => none }
def instFormsRow : OpenClaim := { program := "ytcaenimpfbfobaadoor", sum := "49f1763b6d44b09e261f80e0d8d88c861462cbb6862938bf74a31db70a2f0894", func := "remontoire/remontoirelaw03.InstForms", spec := "instForms", named := ["remontoire/inst.shapes", "remontoire/imm.factors"], apart := false, laid := [("remontoire/imm.factors", laid_remontoire_imm_factors), ("remontoire/inst.shapes", laid_remontoire_inst_shapes)] }
def InstFormsSaid : Prop := instFormsRow.holds Tryd.pinned (OpenSpec.ofChange instFormsSpec)

/-- ITS FALSE NEIGHBOUR: 'it returns false'. Refute it at one input. -/
def instFormsWrong : ChangeSpec := { name := "instForms", fn := fun _ => fun
  | [d] => { results := [.lit (.bool false)], args := [d] }
  | _ => none }
def InstFormsWrongFalsely : Prop := instFormsRow.holds Tryd.pinned (OpenSpec.ofChange instFormsWrong)

/- THE SECOND FORM. 'bulk': how many values and letters a reading holds, each counted each time it is reached (what is shared counts as often as it is met; a slice's spare places count too). A statement '..UptoSaid' is the law's where the arguments, and the package variables that the reading takes, are together of bulk at most 1048576: NARROWER than '..Said'. Prove '..Said' where nothing that the law and all that it calls make is longer than what came in: it says more and counts as full. Else prove '..UptoSaid'. A law counts once. -/
mutual
def uptoBulk {H : Type} : DataW H → Nat
  | .lit (.string bytes) => bytes.length + 1
  | .lit _ => 1
  | .nil => 1
  | .ptr d => uptoBulk d + 1
  | .slice elems spare => uptoBulkAll elems + uptoBulkAll spare + 1
  | .agg parts => uptoBulkAll parts + 1
  | .iface _ d => uptoBulk d + 1
  | .map entries => uptoBulkEntries entries + 1
  | .held _ => 1
def uptoBulkAll {H : Type} : List (DataW H) → Nat
  | [] => 0
  | d :: r => uptoBulk d + uptoBulkAll r
def uptoBulkEntries {H : Type} : List (Lit × DataW H) → Nat
  | [] => 0
  | x :: r => uptoBulkEntry x + uptoBulkEntries r
def uptoBulkEntry {H : Type} : Lit × DataW H → Nat
  | (.string bytes, d) => bytes.length + uptoBulk d + 1
  | (_, d) => uptoBulk d + 1
 end
def uptoSmall : (H : Type) → List (DataW H) → Bool := fun _ ds => decide (uptoBulkAll ds ≤ 1048576)
def OpenSpec.upto (s : _root_.Go.ChangeSpec) : _root_.Go.OpenSpec := { _root_.Go.OpenSpec.ofChange s with cond := some uptoSmall }

/-- 'remontoirelaw02.ImmOnce', WHERE WHAT IT READS IS OF BULK AT MOST 1048576: true; the input reads as it did. -/
def immOnceUptoRow : OpenClaim := { program := "ytcaenimpfbfobaadoor", sum := "49f1763b6d44b09e261f80e0d8d88c861462cbb6862938bf74a31db70a2f0894", func := "remontoire/remontoirelaw02.ImmOnce", spec := "immOnce", named := ["remontoire/imm.factors"], apart := false, laid := [("remontoire/imm.factors", laid_remontoire_imm_factors)], narrowed := true }
def ImmOnceUptoSaid : Prop := immOnceUptoRow.holds Tryd.pinned (OpenSpec.upto immOnceSpec)

/-- 'remontoirelaw02.ImmTurns', WHERE WHAT IT READS IS OF BULK AT MOST 1048576: true; the input reads as it did. -/
def immTurnsUptoRow : OpenClaim := { program := "ytcaenimpfbfobaadoor", sum := "49f1763b6d44b09e261f80e0d8d88c861462cbb6862938bf74a31db70a2f0894", func := "remontoire/remontoirelaw02.ImmTurns", spec := "immTurns", named := ["remontoire/imm.factors"], apart := false, laid := [("remontoire/imm.factors", laid_remontoire_imm_factors)], narrowed := true }
def ImmTurnsUptoSaid : Prop := immTurnsUptoRow.holds Tryd.pinned (OpenSpec.upto immTurnsSpec)

/-- 'remontoirelaw02.ImmFinds', WHERE WHAT IT READS IS OF BULK AT MOST 1048576: true; the input reads as it did. -/
def immFindsUptoRow : OpenClaim := { program := "ytcaenimpfbfobaadoor", sum := "49f1763b6d44b09e261f80e0d8d88c861462cbb6862938bf74a31db70a2f0894", func := "remontoire/remontoirelaw02.ImmFinds", spec := "immFinds", named := ["remontoire/imm.factors"], apart := false, laid := [("remontoire/imm.factors", laid_remontoire_imm_factors)], narrowed := true }
def ImmFindsUptoSaid : Prop := immFindsUptoRow.holds Tryd.pinned (OpenSpec.upto immFindsSpec)

/-- 'remontoirelaw02.ImmRepeats', WHERE WHAT IT READS IS OF BULK AT MOST 1048576: true; the input reads as it did. -/
def immRepeatsUptoRow : OpenClaim := { program := "ytcaenimpfbfobaadoor", sum := "49f1763b6d44b09e261f80e0d8d88c861462cbb6862938bf74a31db70a2f0894", func := "remontoire/remontoirelaw02.ImmRepeats", spec := "immRepeats", named := ["remontoire/imm.factors"], apart := false, laid := [("remontoire/imm.factors", laid_remontoire_imm_factors)], narrowed := true }
def ImmRepeatsUptoSaid : Prop := immRepeatsUptoRow.holds Tryd.pinned (OpenSpec.upto immRepeatsSpec)

/-- 'remontoirelaw02.ImmAll', WHERE WHAT IT READS IS OF BULK AT MOST 1048576: true; the input reads as it did. -/
def immAllUptoRow : OpenClaim := { program := "ytcaenimpfbfobaadoor", sum := "49f1763b6d44b09e261f80e0d8d88c861462cbb6862938bf74a31db70a2f0894", func := "remontoire/remontoirelaw02.ImmAll", spec := "immAll", unfollowed := true, recurses := true, named := ["remontoire/imm.factors"], apart := false, laid := [("remontoire/imm.factors", laid_remontoire_imm_factors)], narrowed := true }
def ImmAllUptoSaid : Prop := immAllUptoRow.holds Tryd.pinned (OpenSpec.upto immAllSpec)

/-- 'remontoirelaw02.ImmWords', WHERE WHAT IT READS IS OF BULK AT MOST 1048576: true; the input reads as it did. -/
def immWordsUptoRow : OpenClaim := { program := "ytcaenimpfbfobaadoor", sum := "49f1763b6d44b09e261f80e0d8d88c861462cbb6862938bf74a31db70a2f0894", func := "remontoire/remontoirelaw02.ImmWords", spec := "immWords", named := ["remontoire/imm.factors"], apart := false, laid := [("remontoire/imm.factors", laid_remontoire_imm_factors)], narrowed := true }
def ImmWordsUptoSaid : Prop := immWordsUptoRow.holds Tryd.pinned (OpenSpec.upto immWordsSpec)

/-- 'remontoirelaw03.InstRight', WHERE WHAT IT READS IS OF BULK AT MOST 1048576: true; the input reads as it did. -/
def instRightUptoRow : OpenClaim := { program := "ytcaenimpfbfobaadoor", sum := "49f1763b6d44b09e261f80e0d8d88c861462cbb6862938bf74a31db70a2f0894", func := "remontoire/remontoirelaw03.InstRight", spec := "instRight", named := ["remontoire/inst.shapes", "remontoire/imm.factors"], apart := false, laid := [("remontoire/imm.factors", laid_remontoire_imm_factors), ("remontoire/inst.shapes", laid_remontoire_inst_shapes)], narrowed := true }
def InstRightUptoSaid : Prop := instRightUptoRow.holds Tryd.pinned (OpenSpec.upto instRightSpec)

/-- 'remontoirelaw03.InstFields', WHERE WHAT IT READS IS OF BULK AT MOST 1048576: true; the input reads as it did. -/
def instFieldsUptoRow : OpenClaim := { program := "ytcaenimpfbfobaadoor", sum := "49f1763b6d44b09e261f80e0d8d88c861462cbb6862938bf74a31db70a2f0894", func := "remontoire/remontoirelaw03.InstFields", spec := "instFields", named := ["remontoire/inst.shapes", "remontoire/imm.factors"], apart := false, laid := [("remontoire/imm.factors", laid_remontoire_imm_factors), ("remontoire/inst.shapes", laid_remontoire_inst_shapes)], narrowed := true }
def InstFieldsUptoSaid : Prop := instFieldsUptoRow.holds Tryd.pinned (OpenSpec.upto instFieldsSpec)

/-- 'remontoirelaw03.InstBranches', WHERE WHAT IT READS IS OF BULK AT MOST 1048576: true; the input reads as it did. -/
def instBranchesUptoRow : OpenClaim := { program := "ytcaenimpfbfobaadoor", sum := "49f1763b6d44b09e261f80e0d8d88c861462cbb6862938bf74a31db70a2f0894", func := "remontoire/remontoirelaw03.InstBranches", spec := "instBranches", named := ["remontoire/inst.shapes", "remontoire/imm.factors"], apart := false, laid := [("remontoire/imm.factors", laid_remontoire_imm_factors), ("remontoire/inst.shapes", laid_remontoire_inst_shapes)], narrowed := true }
def InstBranchesUptoSaid : Prop := instBranchesUptoRow.holds Tryd.pinned (OpenSpec.upto instBranchesSpec)

/-- 'remontoirelaw03.InstSizes', WHERE WHAT IT READS IS OF BULK AT MOST 1048576: true; the input reads as it did. -/
def instSizesUptoRow : OpenClaim := { program := "ytcaenimpfbfobaadoor", sum := "49f1763b6d44b09e261f80e0d8d88c861462cbb6862938bf74a31db70a2f0894", func := "remontoire/remontoirelaw03.InstSizes", spec := "instSizes", named := ["remontoire/inst.shapes", "remontoire/imm.factors"], apart := false, laid := [("remontoire/imm.factors", laid_remontoire_imm_factors), ("remontoire/inst.shapes", laid_remontoire_inst_shapes)], narrowed := true }
def InstSizesUptoSaid : Prop := instSizesUptoRow.holds Tryd.pinned (OpenSpec.upto instSizesSpec)

/-- 'remontoirelaw03.InstForms', WHERE WHAT IT READS IS OF BULK AT MOST 1048576: true; the input reads as it did. -/
def instFormsUptoRow : OpenClaim := { program := "ytcaenimpfbfobaadoor", sum := "49f1763b6d44b09e261f80e0d8d88c861462cbb6862938bf74a31db70a2f0894", func := "remontoire/remontoirelaw03.InstForms", spec := "instForms", named := ["remontoire/inst.shapes", "remontoire/imm.factors"], apart := false, laid := [("remontoire/imm.factors", laid_remontoire_imm_factors), ("remontoire/inst.shapes", laid_remontoire_inst_shapes)], narrowed := true }
def InstFormsUptoSaid : Prop := instFormsUptoRow.holds Tryd.pinned (OpenSpec.upto instFormsSpec)

end Rows
end Go.Proofs.YtcaenimpfbfobaaDoor

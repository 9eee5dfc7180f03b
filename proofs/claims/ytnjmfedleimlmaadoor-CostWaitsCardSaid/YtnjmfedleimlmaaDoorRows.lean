/-
  NARROWER THAN 'FOR EVERY INPUT', by the rows' own cells (each row's printed sentence says how): TermRanges: laid · TermSpans: laid · TermPuts: laid · TermSame: laid · TermFoldsTo: laid · TermEvals: laid · TermFolds: laid · CostWaits: laid · CostRight: laid · CostJoins: laid · CostWords: laid.
  DERIVED. THE GIVEN ROWS OF THIS SEAT. 11 by the template 'for every input the law returns true; each argument reads behind the call as it read before'; 0 by the template 'total and deterministic' (their statements: YtnjmfedleimlmaaDoorTotals.lean).
  GIVEN WITH THE SEED: the statements are not yours to turn. If you find one false, say at which input.
  Laid BY PROGRAM, IN A SANDBOX (cutbox-rows.mjs): the forced cells as the released guide's own fill.sh prints them over the translation 3fbca0de58b630d8… (all of the seat's roots in one cut). By AI agents, Wed Nov 11 2026. No macro, syntax, notation, axiom, sorry.
-/
import Derived.Test.YtnjmfedleimlmaaDoorChecked
import GoSem.Claim
import GoSem.ClaimJoined
import GoSem.ClaimMapViews
import Derived.JoinedTies
import Derived.KernelRfl
namespace Go.Proofs.YtnjmfedleimlmaaDoor
/- THE CELL 'sum', in the pinned program and in every row, IS THE sha256 OF THE DUMP (.gsa) THAT YtnjmfedleimlmaaDoorProg.lean LOADS. Nothing in Lean hashes anything: it is a label: what it is worth is what the hold of that sum in a sandbox is worth. -/
noncomputable def Tryd.pinned : Pinned := { name := "ytnjmfedleimlmaadoor", sum := "3fbca0de58b630d8d645098c1fd545dbdd7185be4dd22d0207a11e9a7c40e2b5", checked := Tryd.checked }
namespace Rows
def none {H : Type} : Left H := { results := [], args := [] }

/- WHAT THE LISTED PACKAGE-LEVEL VARIABLES READ AS WHEN THE CALL BEGINS. Each datum BY PROGRAM (the guide's laid-datum.mjs) off the statement by which the dump's own 'gosem.cut.vars' lays the variable. In a bare row this is a premise. The card (YtnjmfedleimlmaaDoorCards.lean) ties it to the program's text. -/
def laid_remontoire_term_all {H : Type} : DataW H := .agg [.lit (.int .u32 0), .lit (.int .u32 4294967295)]
def laid_remontoire_cost_rules {H : Type} : DataW H := .agg [.agg [.lit (.bool false), .lit (.bool false), .lit (.bool false), .lit (.bool false), .lit (.bool false), .lit (.int .i64 0), .lit (.int .i64 0)], .agg [.lit (.bool false), .lit (.bool false), .lit (.bool false), .lit (.bool false), .lit (.bool true), .lit (.int .i64 0), .lit (.int .i64 0)], .agg [.lit (.bool false), .lit (.bool false), .lit (.bool false), .lit (.bool false), .lit (.bool false), .lit (.int .i64 0), .lit (.int .i64 2147483647)], .agg [.lit (.bool true), .lit (.bool false), .lit (.bool false), .lit (.bool false), .lit (.bool false), .lit (.int .i64 2), .lit (.int .i64 2)], .agg [.lit (.bool true), .lit (.bool true), .lit (.bool true), .lit (.bool false), .lit (.bool false), .lit (.int .i64 1), .lit (.int .i64 1)], .agg [.lit (.bool true), .lit (.bool false), .lit (.bool false), .lit (.bool true), .lit (.bool false), .lit (.int .i64 1), .lit (.int .i64 1)], .agg [.lit (.bool true), .lit (.bool true), .lit (.bool false), .lit (.bool false), .lit (.bool false), .lit (.int .i64 0), .lit (.int .i64 0)]]

/-- 'remontoirelaw11.TermRanges': WHATEVER THE INPUT: true; the input reads as it did. -/
def termRangesSpec : ChangeSpec := { name := "termRanges", fn := fun _ => fun
  | [d1, d2, d3, d4] => { results := [.lit (.bool true)], args := [d1, d2, d3, d4] }
  | _ => none }
def termRangesRow : OpenClaim := { program := "ytnjmfedleimlmaadoor", sum := "3fbca0de58b630d8d645098c1fd545dbdd7185be4dd22d0207a11e9a7c40e2b5", func := "remontoire/remontoirelaw11.TermRanges", spec := "termRanges", recurses := true, named := ["remontoire/term.all"], apart := false, laid := [("remontoire/term.all", laid_remontoire_term_all)] }
def TermRangesSaid : Prop := termRangesRow.holds Tryd.pinned (OpenSpec.ofChange termRangesSpec)

/-- ITS FALSE NEIGHBOUR: 'it returns false'. Refute it at one input. -/
def termRangesWrong : ChangeSpec := { name := "termRanges", fn := fun _ => fun
  | [d1, d2, d3, d4] => { results := [.lit (.bool false)], args := [d1, d2, d3, d4] }
  | _ => none }
def TermRangesWrongFalsely : Prop := termRangesRow.holds Tryd.pinned (OpenSpec.ofChange termRangesWrong)

/-- 'remontoirelaw11.TermSpans': WHATEVER THE INPUT: true; the input reads as it did. -/
def termSpansSpec : ChangeSpec := { name := "termSpans", fn := fun _ => fun
  | [d1, d2, d3] => { results := [.lit (.bool true)], args := [d1, d2, d3] }
  | _ => none }
def termSpansRow : OpenClaim := { program := "ytnjmfedleimlmaadoor", sum := "3fbca0de58b630d8d645098c1fd545dbdd7185be4dd22d0207a11e9a7c40e2b5", func := "remontoire/remontoirelaw11.TermSpans", spec := "termSpans", recurses := true, named := ["remontoire/term.all"], apart := false, laid := [("remontoire/term.all", laid_remontoire_term_all)] }
def TermSpansSaid : Prop := termSpansRow.holds Tryd.pinned (OpenSpec.ofChange termSpansSpec)

/-- ITS FALSE NEIGHBOUR: 'it returns false'. Refute it at one input. -/
def termSpansWrong : ChangeSpec := { name := "termSpans", fn := fun _ => fun
  | [d1, d2, d3] => { results := [.lit (.bool false)], args := [d1, d2, d3] }
  | _ => none }
def TermSpansWrongFalsely : Prop := termSpansRow.holds Tryd.pinned (OpenSpec.ofChange termSpansWrong)

/-- 'remontoirelaw11.TermPuts': WHATEVER THE INPUT: true; the input reads as it did. -/
def termPutsSpec : ChangeSpec := { name := "termPuts", fn := fun _ => fun
  | [d1, d2, d3, d4] => { results := [.lit (.bool true)], args := [d1, d2, d3, d4] }
  | _ => none }
def termPutsRow : OpenClaim := { program := "ytnjmfedleimlmaadoor", sum := "3fbca0de58b630d8d645098c1fd545dbdd7185be4dd22d0207a11e9a7c40e2b5", func := "remontoire/remontoirelaw11.TermPuts", spec := "termPuts", recurses := true, named := ["remontoire/term.all"], apart := false, laid := [("remontoire/term.all", laid_remontoire_term_all)] }
def TermPutsSaid : Prop := termPutsRow.holds Tryd.pinned (OpenSpec.ofChange termPutsSpec)

/-- ITS FALSE NEIGHBOUR: 'it returns false'. Refute it at one input. -/
def termPutsWrong : ChangeSpec := { name := "termPuts", fn := fun _ => fun
  | [d1, d2, d3, d4] => { results := [.lit (.bool false)], args := [d1, d2, d3, d4] }
  | _ => none }
def TermPutsWrongFalsely : Prop := termPutsRow.holds Tryd.pinned (OpenSpec.ofChange termPutsWrong)

/-- 'remontoirelaw11.TermSame': WHATEVER THE INPUT: true; the input reads as it did. -/
def termSameSpec : ChangeSpec := { name := "termSame", fn := fun _ => fun
  | [d1, d2] => { results := [.lit (.bool true)], args := [d1, d2] }
  | _ => none }
def termSameRow : OpenClaim := { program := "ytnjmfedleimlmaadoor", sum := "3fbca0de58b630d8d645098c1fd545dbdd7185be4dd22d0207a11e9a7c40e2b5", func := "remontoire/remontoirelaw11.TermSame", spec := "termSame", unfollowed := true, recurses := true, named := ["remontoire/term.all"], apart := false, laid := [("remontoire/term.all", laid_remontoire_term_all)] }
def TermSameSaid : Prop := termSameRow.holds Tryd.pinned (OpenSpec.ofChange termSameSpec)

/-- ITS FALSE NEIGHBOUR: 'it returns false'. Refute it at one input. -/
def termSameWrong : ChangeSpec := { name := "termSame", fn := fun _ => fun
  | [d1, d2] => { results := [.lit (.bool false)], args := [d1, d2] }
  | _ => none }
def TermSameWrongFalsely : Prop := termSameRow.holds Tryd.pinned (OpenSpec.ofChange termSameWrong)

/-- 'remontoirelaw11.TermFoldsTo': WHATEVER THE INPUT: true; the input reads as it did. -/
def termFoldsToSpec : ChangeSpec := { name := "termFoldsTo", fn := fun _ => fun
  | [d] => { results := [.lit (.bool true)], args := [d] }
  | _ => none }
def termFoldsToRow : OpenClaim := { program := "ytnjmfedleimlmaadoor", sum := "3fbca0de58b630d8d645098c1fd545dbdd7185be4dd22d0207a11e9a7c40e2b5", func := "remontoire/remontoirelaw11.TermFoldsTo", spec := "termFoldsTo", recurses := true, named := ["remontoire/term.all"], apart := false, laid := [("remontoire/term.all", laid_remontoire_term_all)] }
def TermFoldsToSaid : Prop := termFoldsToRow.holds Tryd.pinned (OpenSpec.ofChange termFoldsToSpec)

/-- ITS FALSE NEIGHBOUR: 'it returns false'. Refute it at one input. -/
def termFoldsToWrong : ChangeSpec := { name := "termFoldsTo", fn := fun _ => fun
  | [d] => { results := [.lit (.bool false)], args := [d] }
  | _ => none }
def TermFoldsToWrongFalsely : Prop := termFoldsToRow.holds Tryd.pinned (OpenSpec.ofChange termFoldsToWrong)

/-- 'remontoirelaw11.TermEvals': WHATEVER THE INPUT: true; the input reads as it did. -/
def termEvalsSpec : ChangeSpec := { name := "termEvals", fn := fun _ => fun
  | [d1, d2] => { results := [.lit (.bool true)], args := [d1, d2] }
  | _ => none }
def termEvalsRow : OpenClaim := { program := "ytnjmfedleimlmaadoor", sum := "3fbca0de58b630d8d645098c1fd545dbdd7185be4dd22d0207a11e9a7c40e2b5", func := "remontoire/remontoirelaw11.TermEvals", spec := "termEvals", unfollowed := true, recurses := true, named := ["remontoire/term.all"], apart := false, laid := [("remontoire/term.all", laid_remontoire_term_all)] }
def TermEvalsSaid : Prop := termEvalsRow.holds Tryd.pinned (OpenSpec.ofChange termEvalsSpec)

/-- ITS FALSE NEIGHBOUR: 'it returns false'. Refute it at one input. -/
def termEvalsWrong : ChangeSpec := { name := "termEvals", fn := fun _ => fun
  | [d1, d2] => { results := [.lit (.bool false)], args := [d1, d2] }
  | _ => none }
def TermEvalsWrongFalsely : Prop := termEvalsRow.holds Tryd.pinned (OpenSpec.ofChange termEvalsWrong)

/-- 'remontoirelaw11.TermFolds': WHATEVER THE INPUT: true; the input reads as it did. -/
def termFoldsSpec : ChangeSpec := { name := "termFolds", fn := fun _ => fun
  | [d1, d2] => { results := [.lit (.bool true)], args := [d1, d2] }
  | _ => none }
def termFoldsRow : OpenClaim := { program := "ytnjmfedleimlmaadoor", sum := "3fbca0de58b630d8d645098c1fd545dbdd7185be4dd22d0207a11e9a7c40e2b5", func := "remontoire/remontoirelaw11.TermFolds", spec := "termFolds", unfollowed := true, recurses := true, named := ["remontoire/term.all"], apart := false, laid := [("remontoire/term.all", laid_remontoire_term_all)] }
def TermFoldsSaid : Prop := termFoldsRow.holds Tryd.pinned (OpenSpec.ofChange termFoldsSpec)

/-- ITS FALSE NEIGHBOUR: 'it returns false'. Refute it at one input. -/
def termFoldsWrong : ChangeSpec := { name := "termFolds", fn := fun _ => fun
  | [d1, d2] => { results := [.lit (.bool false)], args := [d1, d2] }
  | _ => none }
def TermFoldsWrongFalsely : Prop := termFoldsRow.holds Tryd.pinned (OpenSpec.ofChange termFoldsWrong)

/-- 'remontoirelaw21.CostWaits': WHATEVER THE INPUT: true; the input reads as it did. -/
def costWaitsSpec : ChangeSpec := { name := "costWaits", fn := fun _ => fun
  | [d1, d2] => { results := [.lit (.bool true)], args := [d1, d2] }
  | _ => none }
def costWaitsRow : OpenClaim := { program := "ytnjmfedleimlmaadoor", sum := "3fbca0de58b630d8d645098c1fd545dbdd7185be4dd22d0207a11e9a7c40e2b5", func := "remontoire/remontoirelaw21.CostWaits", spec := "costWaits", inPlace := ["math/bits.Add64"], unfollowed := true, recurses := true, named := ["remontoire/cost.rules"], apart := false, laid := [("remontoire/cost.rules", laid_remontoire_cost_rules)] }
def CostWaitsSaid : Prop := costWaitsRow.holds Tryd.pinned (OpenSpec.ofChange costWaitsSpec)

/-- ITS FALSE NEIGHBOUR: 'it returns false'. Refute it at one input. -/
def costWaitsWrong : ChangeSpec := { name := "costWaits", fn := fun _ => fun
  | [d1, d2] => { results := [.lit (.bool false)], args := [d1, d2] }
  | _ => none }
def CostWaitsWrongFalsely : Prop := costWaitsRow.holds Tryd.pinned (OpenSpec.ofChange costWaitsWrong)

/-- 'remontoirelaw21.CostRight': WHATEVER THE INPUT: true; the input reads as it did. -/
def costRightSpec : ChangeSpec := { name := "costRight", fn := fun _ => fun
  | [d] => { results := [.lit (.bool true)], args := [d] }
  | _ => none }
def costRightRow : OpenClaim := { program := "ytnjmfedleimlmaadoor", sum := "3fbca0de58b630d8d645098c1fd545dbdd7185be4dd22d0207a11e9a7c40e2b5", func := "remontoire/remontoirelaw21.CostRight", spec := "costRight", inPlace := ["math/bits.Add64"], unfollowed := true, recurses := true, named := ["remontoire/cost.rules"], apart := false, laid := [("remontoire/cost.rules", laid_remontoire_cost_rules)] }
def CostRightSaid : Prop := costRightRow.holds Tryd.pinned (OpenSpec.ofChange costRightSpec)

/-- ITS FALSE NEIGHBOUR: 'it returns false'. Refute it at one input. -/
def costRightWrong : ChangeSpec := { name := "costRight", fn := fun _ => fun
  | [d] => { results := [.lit (.bool false)], args := [d] }
  | _ => none }
def CostRightWrongFalsely : Prop := costRightRow.holds Tryd.pinned (OpenSpec.ofChange costRightWrong)

/-- 'remontoirelaw21.CostJoins': WHATEVER THE INPUT: true; the input reads as it did. -/
def costJoinsSpec : ChangeSpec := { name := "costJoins", fn := fun _ => fun
  | [d1, d2, d3, d4, d5] => { results := [.lit (.bool true)], args := [d1, d2, d3, d4, d5] }
  | _ => none }
def costJoinsRow : OpenClaim := { program := "ytnjmfedleimlmaadoor", sum := "3fbca0de58b630d8d645098c1fd545dbdd7185be4dd22d0207a11e9a7c40e2b5", func := "remontoire/remontoirelaw21.CostJoins", spec := "costJoins", inPlace := ["math/bits.Add64"], unfollowed := true, recurses := true, named := ["remontoire/cost.rules"], apart := false, laid := [("remontoire/cost.rules", laid_remontoire_cost_rules)] }
def CostJoinsSaid : Prop := costJoinsRow.holds Tryd.pinned (OpenSpec.ofChange costJoinsSpec)

/-- ITS FALSE NEIGHBOUR: 'it returns false'. Refute it at one input. -/
def costJoinsWrong : ChangeSpec := { name := "costJoins", fn := fun _ => fun
  | [d1, d2, d3, d4, d5] => { results := [.lit (.bool false)], args := [d1, d2, d3, d4, d5] }
  | _ => none }
def CostJoinsWrongFalsely : Prop := costJoinsRow.holds Tryd.pinned (OpenSpec.ofChange costJoinsWrong)

/-- 'remontoirelaw21.CostWords': WHATEVER THE INPUT: true; the input reads as it did. -/
def costWordsSpec : ChangeSpec := { name := "costWords", fn := fun _ => fun
  | [d1, d2, d3, d4] => { results := [.lit (.bool true)], args := [d1, d2, d3, d4] }
  | _ => none }
def costWordsRow : OpenClaim := { program := "ytnjmfedleimlmaadoor", sum := "3fbca0de58b630d8d645098c1fd545dbdd7185be4dd22d0207a11e9a7c40e2b5", func := "remontoire/remontoirelaw21.CostWords", spec := "costWords", inPlace := ["math/bits.Add64"], unfollowed := true, recurses := true, named := ["remontoire/cost.rules"], apart := false, laid := [("remontoire/cost.rules", laid_remontoire_cost_rules)] }
def CostWordsSaid : Prop := costWordsRow.holds Tryd.pinned (OpenSpec.ofChange costWordsSpec)

/-- ITS FALSE NEIGHBOUR: 'it returns false'. Refute it at one input. -/
def costWordsWrong : ChangeSpec := { name := "costWords", fn := fun _ => fun
  | [d1, d2, d3, d4] => { results := [.lit (.bool false)], args := [d1, d2, d3, d4] }
  | _ => none }
def CostWordsWrongFalsely : Prop := costWordsRow.holds Tryd.pinned (OpenSpec.ofChange costWordsWrong)

/- THE SECOND FORM. 'bulk': how many values and letters a reading holds, each counted each time it is reached (what is shared counts as often as it is met; a slice's spare places count too). A statement '..UptoSaid' is the law's where the arguments, and the package variables that the reading takes, are together of bulk at most 1048576: NARROWER than '..Said'. Prove '..Said' where nothing that the law and all that it calls make is longer than what came in: it says more and counts as full. Else prove '..UptoSaid'. A law counts once. -/
mutual
def uptoBulk {H : Type} : DataW H → Nat
  | .lit (.string bytes) => bytes.length + 1
  | .lit _ => 1
  | .nil => 1
  | .ptr d => uptoBulk d + 1
  | .slice elems spare => uptoBulkAll elems + uptoBulkAll spare + 1
  | .agg parts => uptoBulkAll parts + 1
  | .iface _ d => uptoBulk d + 1
  | .map entries => uptoBulkEntries entries + 1
  | .held _ => 1
def uptoBulkAll {H : Type} : List (DataW H) → Nat
  | [] => 0
  | d :: r => uptoBulk d + uptoBulkAll r
def uptoBulkEntries {H : Type} : List (Lit × DataW H) → Nat
  | [] => 0
  | x :: r => uptoBulkEntry x + uptoBulkEntries r
def uptoBulkEntry {H : Type} : Lit × DataW H → Nat
  | (.string bytes, d) => bytes.length + uptoBulk d + 1
  | (_, d) => uptoBulk d + 1
 end
def uptoSmall : (H : Type) → List (DataW H) → Bool := fun _ ds => decide (uptoBulkAll ds ≤ 1048576)
def OpenSpec.upto (s : _root_.Go.ChangeSpec) : _root_.Go.OpenSpec := { _root_.Go.OpenSpec.ofChange s with cond := some uptoSmall }

/-- 'remontoirelaw11.TermRanges', WHERE WHAT IT READS IS OF BULK AT MOST 1048576: true; the input reads as it did. -/
def termRangesUptoRow : OpenClaim := { program := "ytnjmfedleimlmaadoor", sum := "3fbca0de58b630d8d645098c1fd545dbdd7185be4dd22d0207a11e9a7c40e2b5", func := "remontoire/remontoirelaw11.TermRanges", spec := "termRanges", recurses := true, named := ["remontoire/term.all"], apart := false, laid := [("remontoire/term.all", laid_remontoire_term_all)], narrowed := true }
def TermRangesUptoSaid : Prop := termRangesUptoRow.holds Tryd.pinned (OpenSpec.upto termRangesSpec)

/-- 'remontoirelaw11.TermSpans', WHERE WHAT IT READS IS OF BULK AT MOST 1048576: true; the input reads as it did. -/
def termSpansUptoRow : OpenClaim := { program := "ytnjmfedleimlmaadoor", sum := "3fbca0de58b630d8d645098c1fd545dbdd7185be4dd22d0207a11e9a7c40e2b5", func := "remontoire/remontoirelaw11.TermSpans", spec := "termSpans", recurses := true, named := ["remontoire/term.all"], apart := false, laid := [("remontoire/term.all", laid_remontoire_term_all)], narrowed := true }
def TermSpansUptoSaid : Prop := termSpansUptoRow.holds Tryd.pinned (OpenSpec.upto termSpansSpec)

/-- 'remontoirelaw11.TermPuts', WHERE WHAT IT READS IS OF BULK AT MOST 1048576: true; the input reads as it did. -/
def termPutsUptoRow : OpenClaim := { program := "ytnjmfedleimlmaadoor", sum := "3fbca0de58b630d8d645098c1fd545dbdd7185be4dd22d0207a11e9a7c40e2b5", func := "remontoire/remontoirelaw11.TermPuts", spec := "termPuts", recurses := true, named := ["remontoire/term.all"], apart := false, laid := [("remontoire/term.all", laid_remontoire_term_all)], narrowed := true }
def TermPutsUptoSaid : Prop := termPutsUptoRow.holds Tryd.pinned (OpenSpec.upto termPutsSpec)

/-- 'remontoirelaw11.TermSame', WHERE WHAT IT READS IS OF BULK AT MOST 1048576: true; the input reads as it did. -/
def termSameUptoRow : OpenClaim := { program := "ytnjmfedleimlmaadoor", sum := "3fbca0de58b630d8d645098c1fd545dbdd7185be4dd22d0207a11e9a7c40e2b5", func := "remontoire/remontoirelaw11.TermSame", spec := "termSame", unfollowed := true, recurses := true, named := ["remontoire/term.all"], apart := false, laid := [("remontoire/term.all", laid_remontoire_term_all)], narrowed := true }
def TermSameUptoSaid : Prop := termSameUptoRow.holds Tryd.pinned (OpenSpec.upto termSameSpec)

/-- 'remontoirelaw11.TermFoldsTo', WHERE WHAT IT READS IS OF BULK AT MOST 1048576: true; the input reads as it did. -/
def termFoldsToUptoRow : OpenClaim := { program := "ytnjmfedleimlmaadoor", sum := "3fbca0de58b630d8d645098c1fd545dbdd7185be4dd22d0207a11e9a7c40e2b5", func := "remontoire/remontoirelaw11.TermFoldsTo", spec := "termFoldsTo", recurses := true, named := ["remontoire/term.all"], apart := false, laid := [("remontoire/term.all", laid_remontoire_term_all)], narrowed := true }
def TermFoldsToUptoSaid : Prop := termFoldsToUptoRow.holds Tryd.pinned (OpenSpec.upto termFoldsToSpec)

/-- 'remontoirelaw11.TermEvals', WHERE WHAT IT READS IS OF BULK AT MOST 1048576: true; the input reads as it did. -/
def termEvalsUptoRow : OpenClaim := { program := "ytnjmfedleimlmaadoor", sum := "3fbca0de58b630d8d645098c1fd545dbdd7185be4dd22d0207a11e9a7c40e2b5", func := "remontoire/remontoirelaw11.TermEvals", spec := "termEvals", unfollowed := true, recurses := true, named := ["remontoire/term.all"], apart := false, laid := [("remontoire/term.all", laid_remontoire_term_all)], narrowed := true }
def TermEvalsUptoSaid : Prop := termEvalsUptoRow.holds Tryd.pinned (OpenSpec.upto termEvalsSpec)

/-- 'remontoirelaw11.TermFolds', WHERE WHAT IT READS IS OF BULK AT MOST 1048576: true; the input reads as it did. -/
def termFoldsUptoRow : OpenClaim := { program := "ytnjmfedleimlmaadoor", sum := "3fbca0de58b630d8d645098c1fd545dbdd7185be4dd22d0207a11e9a7c40e2b5", func := "remontoire/remontoirelaw11.TermFolds", spec := "termFolds", unfollowed := true, recurses := true, named := ["remontoire/term.all"], apart := false, laid := [("remontoire/term.all", laid_remontoire_term_all)], narrowed := true }
def TermFoldsUptoSaid : Prop := termFoldsUptoRow.holds Tryd.pinned (OpenSpec.upto termFoldsSpec)

/-- 'remontoirelaw21.CostWaits', WHERE WHAT IT READS IS OF BULK AT MOST 1048576: true; the input reads as it did. -/
def costWaitsUptoRow : OpenClaim := { program := "ytnjmfedleimlmaadoor", sum := "3fbca0de58b630d8d645098c1fd545dbdd7185be4dd22d0207a11e9a7c40e2b5", func := "remontoire/remontoirelaw21.CostWaits", spec := "costWaits", inPlace := ["math/bits.Add64"], unfollowed := true, recurses := true, named := ["remontoire/cost.rules"], apart := false, laid := [("remontoire/cost.rules", laid_remontoire_cost_rules)], narrowed := true }
def CostWaitsUptoSaid : Prop := costWaitsUptoRow.holds Tryd.pinned (OpenSpec.upto costWaitsSpec)

/-- 'remontoirelaw21.CostRight', WHERE WHAT IT READS IS OF BULK AT MOST 1048576: true; the input reads as it did. -/
def costRightUptoRow : OpenClaim := { program := "ytnjmfedleimlmaadoor", sum := "3fbca0de58b630d8d645098c1fd545dbdd7185be4dd22d0207a11e9a7c40e2b5", func := "remontoire/remontoirelaw21.CostRight", spec := "costRight", inPlace := ["math/bits.Add64"], unfollowed := true, recurses := true, named := ["remontoire/cost.rules"], apart := false, laid := [("remontoire/cost.rules", laid_remontoire_cost_rules)], narrowed := true }
def CostRightUptoSaid : Prop := costRightUptoRow.holds Tryd.pinned (OpenSpec.upto costRightSpec)

/-- 'remontoirelaw21.CostJoins', WHERE WHAT IT READS IS OF BULK AT MOST 1048576: true; the input reads as it did. -/
def costJoinsUptoRow : OpenClaim := { program := "ytnjmfedleimlmaadoor", sum := "3fbca0de58b630d8d645098c1fd545dbdd7185be4dd22d0207a11e9a7c40e2b5", func := "remontoire/remontoirelaw21.CostJoins", spec := "costJoins", inPlace := ["math/bits.Add64"], unfollowed := true, recurses := true, named := ["remontoire/cost.rules"], apart := false, laid := [("remontoire/cost.rules", laid_remontoire_cost_rules)], narrowed := true }
def CostJoinsUptoSaid : Prop := costJoinsUptoRow.holds Tryd.pinned (OpenSpec.upto costJoinsSpec)

/-- 'remontoirelaw21.CostWords', WHERE WHAT IT READS IS OF BULK AT MOST 1048576: true; the input reads as it did. -/
def costWordsUptoRow : OpenClaim := { program := "ytnjmfedleimlmaadoor", sum := "3fbca0de58b630d8d645098c1fd545dbdd7185be4dd22d0207a11e9a7c40e2b5", func := "remontoire/remontoirelaw21.CostWords", spec := "costWords", inPlace := ["math/bits.Add64"], unfollowed := true, recurses := true, named := ["remontoire/cost.rules"], apart := false, laid := [("remontoire/cost.rules", laid_remontoire_cost_rules)], narrowed := true }
def CostWordsUptoSaid : Prop := costWordsUptoRow.holds Tryd.pinned (OpenSpec.upto costWordsSpec)

end Rows
end Go.Proofs.YtnjmfedleimlmaaDoor

/-
  NARROWER THAN 'FOR EVERY INPUT', by the rows' own cells (each row's printed sentence says how): ClockBases: laid · ClockConstant: laid · SelExact: laid · SelSome: laid · CodeBegins: laid · CodeOnce: laid · CodeReads: laid · CodeWords: laid · SelForms: laid · CodeBytes: laid.
  DERIVED. THE GIVEN ROWS OF THIS SEAT. 10 by the template 'for every input the law returns true; each argument reads behind the call as it read before'; 0 by the template 'total and deterministic' (their statements: YthpkejlmelednaaDoorTotals.lean).
  GIVEN WITH THE SEED: the statements are not yours to turn. If you find one false, say at which input.
  Laid BY PROGRAM, IN A SANDBOX (cutbox-rows.mjs): the forced cells as the released guide's own fill.sh prints them over the translation f83c3ca0628b8277… (all of the seat's roots in one cut). By AI agents, Wed Nov 11 2026. No macro, syntax, notation, axiom, sorry.
-/
import Derived.Test.YthpkejlmelednaaDoorChecked
import GoSem.Claim
import GoSem.ClaimJoined
import GoSem.ClaimMapViews
import Derived.JoinedTies
import Derived.KernelRfl
namespace Go.Proofs.YthpkejlmelednaaDoor
/- THE CELL 'sum', in the pinned program and in every row, IS THE sha256 OF THE DUMP (.gsa) THAT YthpkejlmelednaaDoorProg.lean LOADS. Nothing in Lean hashes anything: it is a label: what it is worth is what the hold of that sum in a sandbox is worth. -/
noncomputable def Tryd.pinned : Pinned := { name := "ythpkejlmelednaadoor", sum := "f83c3ca0628b82777b286f6f9517889d2099ca0cbd0fe03c38b6a17c5797f3ca", checked := Tryd.checked }
namespace Rows
def none {H : Type} : Left H := { results := [], args := [] }

/- WHAT THE LISTED PACKAGE-LEVEL VARIABLES READ AS WHEN THE CALL BEGINS. Each datum BY PROGRAM (the guide's laid-datum.mjs) off the statement by which the dump's own 'gosem.cut.vars' lays the variable. In a bare row this is a premise. The card (YthpkejlmelednaaDoorCards.lean) ties it to the program's text. -/
def laid_remontoire_imm_factors {H : Type} : DataW H := .agg [.lit (.int .u32 1), .lit (.int .u32 65537), .lit (.int .u32 16777472), .lit (.int .u32 16843009)]
def laid_remontoire_inst_shapes {H : Type} : DataW H := .agg [.lit (.int .i64 0), .lit (.int .i64 1), .lit (.int .i64 1), .lit (.int .i64 1), .lit (.int .i64 2), .lit (.int .i64 2), .lit (.int .i64 3), .lit (.int .i64 3), .lit (.int .i64 4), .lit (.int .i64 4), .lit (.int .i64 4), .lit (.int .i64 4), .lit (.int .i64 5), .lit (.int .i64 5), .lit (.int .i64 5), .lit (.int .i64 5), .lit (.int .i64 5), .lit (.int .i64 5), .lit (.int .i64 5), .lit (.int .i64 5), .lit (.int .i64 5), .lit (.int .i64 5), .lit (.int .i64 5), .lit (.int .i64 5), .lit (.int .i64 5), .lit (.int .i64 5), .lit (.int .i64 5), .lit (.int .i64 5), .lit (.int .i64 6), .lit (.int .i64 6), .lit (.int .i64 6), .lit (.int .i64 7), .lit (.int .i64 8), .lit (.int .i64 2), .lit (.int .i64 2), .lit (.int .i64 9), .lit (.int .i64 9), .lit (.int .i64 8), .lit (.int .i64 8), .lit (.int .i64 8), .lit (.int .i64 10), .lit (.int .i64 10), .lit (.int .i64 11), .lit (.int .i64 12), .lit (.int .i64 13), .lit (.int .i64 14), .lit (.int .i64 15), .lit (.int .i64 16), .lit (.int .i64 17), .lit (.int .i64 17), .lit (.int .i64 18), .lit (.int .i64 18), .lit (.int .i64 18), .lit (.int .i64 18), .lit (.int .i64 18), .lit (.int .i64 18), .lit (.int .i64 18), .lit (.int .i64 18), .lit (.int .i64 18), .lit (.int .i64 18), .lit (.int .i64 19), .lit (.int .i64 19), .lit (.int .i64 20), .lit (.int .i64 20), .lit (.int .i64 20), .lit (.int .i64 20), .lit (.int .i64 21), .lit (.int .i64 21), .lit (.int .i64 21), .lit (.int .i64 21), .lit (.int .i64 21), .lit (.int .i64 21), .lit (.int .i64 21), .lit (.int .i64 21), .lit (.int .i64 21), .lit (.int .i64 21), .lit (.int .i64 22), .lit (.int .i64 22), .lit (.int .i64 23), .lit (.int .i64 23), .lit (.int .i64 23), .lit (.int .i64 23), .lit (.int .i64 24), .lit (.int .i64 24), .lit (.int .i64 25), .lit (.int .i64 25), .lit (.int .i64 26), .lit (.int .i64 26), .lit (.int .i64 27), .lit (.int .i64 27), .lit (.int .i64 27), .lit (.int .i64 27), .lit (.int .i64 28), .lit (.int .i64 29), .lit (.int .i64 30), .lit (.int .i64 31), .lit (.int .i64 31), .lit (.int .i64 28), .lit (.int .i64 32), .lit (.int .i64 33), .lit (.int .i64 34)]
def laid_remontoire_vop_rows {H : Type} : DataW H := .agg [.agg [.lit (.int .i64 0), .lit (.int .i64 0)], .agg [.lit (.int .i64 1), .lit (.int .i64 0)], .agg [.lit (.int .i64 1), .lit (.int .i64 0)], .agg [.lit (.int .i64 0), .lit (.int .i64 1)], .agg [.lit (.int .i64 1), .lit (.int .i64 0)], .agg [.lit (.int .i64 1), .lit (.int .i64 2)], .agg [.lit (.int .i64 0), .lit (.int .i64 3)], .agg [.lit (.int .i64 1), .lit (.int .i64 2)], .agg [.lit (.int .i64 1), .lit (.int .i64 2)], .agg [.lit (.int .i64 1), .lit (.int .i64 2)], .agg [.lit (.int .i64 1), .lit (.int .i64 2)], .agg [.lit (.int .i64 1), .lit (.int .i64 2)], .agg [.lit (.int .i64 1), .lit (.int .i64 2)], .agg [.lit (.int .i64 1), .lit (.int .i64 2)], .agg [.lit (.int .i64 1), .lit (.int .i64 2)], .agg [.lit (.int .i64 1), .lit (.int .i64 2)], .agg [.lit (.int .i64 1), .lit (.int .i64 1)], .agg [.lit (.int .i64 1), .lit (.int .i64 1)], .agg [.lit (.int .i64 1), .lit (.int .i64 1)], .agg [.lit (.int .i64 1), .lit (.int .i64 1)], .agg [.lit (.int .i64 1), .lit (.int .i64 1)], .agg [.lit (.int .i64 1), .lit (.int .i64 2)], .agg [.lit (.int .i64 1), .lit (.int .i64 2)], .agg [.lit (.int .i64 2), .lit (.int .i64 4)], .agg [.lit (.int .i64 2), .lit (.int .i64 4)], .agg [.lit (.int .i64 1), .lit (.int .i64 4)], .agg [.lit (.int .i64 2), .lit (.int .i64 2)], .agg [.lit (.int .i64 1), .lit (.int .i64 1)], .agg [.lit (.int .i64 1), .lit (.int .i64 2)], .agg [.lit (.int .i64 1), .lit (.int .i64 3)], .agg [.lit (.int .i64 0), .lit (.int .i64 1)], .agg [.lit (.int .i64 0), .lit (.int .i64 1)]]

/-- 'remontoirelaw05.ClockBases': WHATEVER THE INPUT: true; the input reads as it did. -/
def clockBasesSpec : ChangeSpec := { name := "clockBases", fn := fun _ => fun
  | [d1, d2, d3, d4] => { results := [.lit (.bool true)], args := [d1, d2, d3, d4] }
  | _ => none }
def clockBasesRow : OpenClaim := { program := "ythpkejlmelednaadoor", sum := "f83c3ca0628b82777b286f6f9517889d2099ca0cbd0fe03c38b6a17c5797f3ca", func := "remontoire/remontoirelaw05.ClockBases", spec := "clockBases", named := ["remontoire/inst.shapes", "remontoire/imm.factors"], apart := false, laid := [("remontoire/imm.factors", laid_remontoire_imm_factors), ("remontoire/inst.shapes", laid_remontoire_inst_shapes)] }
def ClockBasesSaid : Prop := clockBasesRow.holds Tryd.pinned (OpenSpec.ofChange clockBasesSpec)

/-- ITS FALSE NEIGHBOUR: 'it returns false'. Refute it at one input. -/
def clockBasesWrong : ChangeSpec := { name := "clockBases", fn := fun _ => fun
  | [d1, d2, d3, d4] => { results := [.lit (.bool false)], args := [d1, d2, d3, d4] }
  | _ => none }
def ClockBasesWrongFalsely : Prop := clockBasesRow.holds Tryd.pinned (OpenSpec.ofChange clockBasesWrong)

/-- 'remontoirelaw05.ClockConstant': WHATEVER THE INPUT: true; the input reads as it did. -/
def clockConstantSpec : ChangeSpec := { name := "clockConstant", fn := fun _ => fun
  | [d1, d2, d3, d4, d5] => { results := [.lit (.bool true)], args := [d1, d2, d3, d4, d5] }
  | _ => none }
def clockConstantRow : OpenClaim := { program := "ythpkejlmelednaadoor", sum := "f83c3ca0628b82777b286f6f9517889d2099ca0cbd0fe03c38b6a17c5797f3ca", func := "remontoire/remontoirelaw05.ClockConstant", spec := "clockConstant", named := ["remontoire/inst.shapes", "remontoire/imm.factors"], apart := false, laid := [("remontoire/imm.factors", laid_remontoire_imm_factors), ("remontoire/inst.shapes", laid_remontoire_inst_shapes)] }
def ClockConstantSaid : Prop := clockConstantRow.holds Tryd.pinned (OpenSpec.ofChange clockConstantSpec)

/-- ITS FALSE NEIGHBOUR: 'it returns false'. Refute it at one input. -/
def clockConstantWrong : ChangeSpec := { name := "clockConstant", fn := fun _ => fun
  | [d1, d2, d3, d4, d5] => { results := [.lit (.bool false)], args := [d1, d2, d3, d4, d5] }
  | _ => none }
def ClockConstantWrongFalsely : Prop := clockConstantRow.holds Tryd.pinned (OpenSpec.ofChange clockConstantWrong)

/-- 'remontoirelaw18.SelExact': WHATEVER THE INPUT: true; the input reads as it did. -/
def selExactSpec : ChangeSpec := { name := "selExact", fn := fun _ => fun
  | [d] => { results := [.lit (.bool true)], args := [d] }
  | _ => none }
def selExactRow : OpenClaim := { program := "ythpkejlmelednaadoor", sum := "f83c3ca0628b82777b286f6f9517889d2099ca0cbd0fe03c38b6a17c5797f3ca", func := "remontoire/remontoirelaw18.SelExact", spec := "selExact", unfollowed := true, recurses := true, named := ["remontoire/vop.rows", "remontoire/imm.factors"], apart := false, laid := [("remontoire/imm.factors", laid_remontoire_imm_factors), ("remontoire/vop.rows", laid_remontoire_vop_rows)] }
def SelExactSaid : Prop := selExactRow.holds Tryd.pinned (OpenSpec.ofChange selExactSpec)

/-- ITS FALSE NEIGHBOUR: 'it returns false'. Refute it at one input. -/
def selExactWrong : ChangeSpec := { name := "selExact", fn := fun _ => fun
  | [d] => { results := [.lit (.bool false)], args := [d] }
  | _ => none }
def SelExactWrongFalsely : Prop := selExactRow.holds Tryd.pinned (OpenSpec.ofChange selExactWrong)

/-- 'remontoirelaw18.SelSome': WHATEVER THE INPUT: true; the input reads as it did. -/
def selSomeSpec : ChangeSpec := { name := "selSome", fn := fun _ => fun
  | [d] => { results := [.lit (.bool true)], args := [d] }
  | _ => none }
def selSomeRow : OpenClaim := { program := "ythpkejlmelednaadoor", sum := "f83c3ca0628b82777b286f6f9517889d2099ca0cbd0fe03c38b6a17c5797f3ca", func := "remontoire/remontoirelaw18.SelSome", spec := "selSome", unfollowed := true, recurses := true, named := ["remontoire/vop.rows", "remontoire/imm.factors"], apart := false, laid := [("remontoire/imm.factors", laid_remontoire_imm_factors), ("remontoire/vop.rows", laid_remontoire_vop_rows)] }
def SelSomeSaid : Prop := selSomeRow.holds Tryd.pinned (OpenSpec.ofChange selSomeSpec)

/-- ITS FALSE NEIGHBOUR: 'it returns false'. Refute it at one input. -/
def selSomeWrong : ChangeSpec := { name := "selSome", fn := fun _ => fun
  | [d] => { results := [.lit (.bool false)], args := [d] }
  | _ => none }
def SelSomeWrongFalsely : Prop := selSomeRow.holds Tryd.pinned (OpenSpec.ofChange selSomeWrong)

/-- 'remontoirelaw04.CodeBegins': WHATEVER THE INPUT: true; the input reads as it did. -/
def codeBeginsSpec : ChangeSpec := { name := "codeBegins", fn := fun _ => fun
  | [d1, d2] => { results := [.lit (.bool true)], args := [d1, d2] }
  | _ => none }
def codeBeginsRow : OpenClaim := { program := "ythpkejlmelednaadoor", sum := "f83c3ca0628b82777b286f6f9517889d2099ca0cbd0fe03c38b6a17c5797f3ca", func := "remontoire/remontoirelaw04.CodeBegins", spec := "codeBegins", named := ["remontoire/inst.shapes", "remontoire/imm.factors"], apart := false, laid := [("remontoire/imm.factors", laid_remontoire_imm_factors), ("remontoire/inst.shapes", laid_remontoire_inst_shapes)] }
def CodeBeginsSaid : Prop := codeBeginsRow.holds Tryd.pinned (OpenSpec.ofChange codeBeginsSpec)

/-- ITS FALSE NEIGHBOUR: 'it returns false'. Refute it at one input. -/
def codeBeginsWrong : ChangeSpec := { name := "codeBegins", fn := fun _ => fun
  | [d1, d2] => { results := [.lit (.bool false)], args := [d1, d2] }
  | _ => none }
def CodeBeginsWrongFalsely : Prop := codeBeginsRow.holds Tryd.pinned (OpenSpec.ofChange codeBeginsWrong)

/-- 'remontoirelaw04.CodeOnce': WHATEVER THE INPUT: true; the input reads as it did. -/
def codeOnceSpec : ChangeSpec := { name := "codeOnce", fn := fun _ => fun
  | [d1, d2] => { results := [.lit (.bool true)], args := [d1, d2] }
  | _ => none }
def codeOnceRow : OpenClaim := { program := "ythpkejlmelednaadoor", sum := "f83c3ca0628b82777b286f6f9517889d2099ca0cbd0fe03c38b6a17c5797f3ca", func := "remontoire/remontoirelaw04.CodeOnce", spec := "codeOnce", named := ["remontoire/inst.shapes", "remontoire/imm.factors"], apart := false, laid := [("remontoire/imm.factors", laid_remontoire_imm_factors), ("remontoire/inst.shapes", laid_remontoire_inst_shapes)] }
def CodeOnceSaid : Prop := codeOnceRow.holds Tryd.pinned (OpenSpec.ofChange codeOnceSpec)

/-- ITS FALSE NEIGHBOUR: 'it returns false'. Refute it at one input. -/
def codeOnceWrong : ChangeSpec := { name := "codeOnce", fn := fun _ => fun
  | [d1, d2] => { results := [.lit (.bool false)], args := [d1, d2] }
  | _ => none }
def CodeOnceWrongFalsely : Prop := codeOnceRow.holds Tryd.pinned (OpenSpec.ofChange codeOnceWrong)

/-- 'remontoirelaw04.CodeReads': WHATEVER THE INPUT: true; the input reads as it did. -/
def codeReadsSpec : ChangeSpec := { name := "codeReads", fn := fun _ => fun
  | [d1, d2] => { results := [.lit (.bool true)], args := [d1, d2] }
  | _ => none }
def codeReadsRow : OpenClaim := { program := "ythpkejlmelednaadoor", sum := "f83c3ca0628b82777b286f6f9517889d2099ca0cbd0fe03c38b6a17c5797f3ca", func := "remontoire/remontoirelaw04.CodeReads", spec := "codeReads", named := ["remontoire/inst.shapes", "remontoire/imm.factors"], apart := false, laid := [("remontoire/imm.factors", laid_remontoire_imm_factors), ("remontoire/inst.shapes", laid_remontoire_inst_shapes)] }
def CodeReadsSaid : Prop := codeReadsRow.holds Tryd.pinned (OpenSpec.ofChange codeReadsSpec)

/-- ITS FALSE NEIGHBOUR: 'it returns false'. Refute it at one input. -/
def codeReadsWrong : ChangeSpec := { name := "codeReads", fn := fun _ => fun
  | [d1, d2] => { results := [.lit (.bool false)], args := [d1, d2] }
  | _ => none }
def CodeReadsWrongFalsely : Prop := codeReadsRow.holds Tryd.pinned (OpenSpec.ofChange codeReadsWrong)

/-- 'remontoirelaw04.CodeWords': WHATEVER THE INPUT: true; the input reads as it did. -/
def codeWordsSpec : ChangeSpec := { name := "codeWords", fn := fun _ => fun
  | [d] => { results := [.lit (.bool true)], args := [d] }
  | _ => none }
def codeWordsRow : OpenClaim := { program := "ythpkejlmelednaadoor", sum := "f83c3ca0628b82777b286f6f9517889d2099ca0cbd0fe03c38b6a17c5797f3ca", func := "remontoire/remontoirelaw04.CodeWords", spec := "codeWords", named := ["remontoire/inst.shapes", "remontoire/imm.factors"], apart := false, laid := [("remontoire/imm.factors", laid_remontoire_imm_factors), ("remontoire/inst.shapes", laid_remontoire_inst_shapes)] }
def CodeWordsSaid : Prop := codeWordsRow.holds Tryd.pinned (OpenSpec.ofChange codeWordsSpec)

/-- ITS FALSE NEIGHBOUR: 'it returns false'. Refute it at one input. -/
def codeWordsWrong : ChangeSpec := { name := "codeWords", fn := fun _ => fun
  | [d] => { results := [.lit (.bool false)], args := [d] }
  | _ => none }
def CodeWordsWrongFalsely : Prop := codeWordsRow.holds Tryd.pinned (OpenSpec.ofChange codeWordsWrong)

/-- 'remontoirelaw18.SelForms': WHATEVER THE INPUT: true; the input reads as it did. -/
def selFormsSpec : ChangeSpec := { name := "selForms", fn := fun _ => fun
  | [d] => { results := [.lit (.bool true)], args := [d] }
  | _ => none }
def selFormsRow : OpenClaim := { program := "ythpkejlmelednaadoor", sum := "f83c3ca0628b82777b286f6f9517889d2099ca0cbd0fe03c38b6a17c5797f3ca", func := "remontoire/remontoirelaw18.SelForms", spec := "selForms", unfollowed := true, recurses := true, named := ["remontoire/vop.rows", "remontoire/imm.factors", "remontoire/inst.shapes"], apart := false, laid := [("remontoire/imm.factors", laid_remontoire_imm_factors), ("remontoire/inst.shapes", laid_remontoire_inst_shapes), ("remontoire/vop.rows", laid_remontoire_vop_rows)] }
def SelFormsSaid : Prop := selFormsRow.holds Tryd.pinned (OpenSpec.ofChange selFormsSpec)

/-- ITS FALSE NEIGHBOUR: 'it returns false'. Refute it at one input. -/
def selFormsWrong : ChangeSpec := { name := "selForms", fn := fun _ => fun
  | [d] => { results := [.lit (.bool false)], args := [d] }
  | _ => none }
def SelFormsWrongFalsely : Prop := selFormsRow.holds Tryd.pinned (OpenSpec.ofChange selFormsWrong)

/-- 'remontoirelaw04.CodeBytes': WHATEVER THE INPUT: true; the input reads as it did. -/
def codeBytesSpec : ChangeSpec := { name := "codeBytes", fn := fun _ => fun
  | [d1, d2, d3] => { results := [.lit (.bool true)], args := [d1, d2, d3] }
  | _ => none }
def codeBytesRow : OpenClaim := { program := "ythpkejlmelednaadoor", sum := "f83c3ca0628b82777b286f6f9517889d2099ca0cbd0fe03c38b6a17c5797f3ca", func := "remontoire/remontoirelaw04.CodeBytes", spec := "codeBytes", named := ["remontoire/inst.shapes", "remontoire/imm.factors"], apart := false, laid := [("remontoire/imm.factors", laid_remontoire_imm_factors), ("remontoire/inst.shapes", laid_remontoire_inst_shapes)] }
def CodeBytesSaid : Prop := codeBytesRow.holds Tryd.pinned (OpenSpec.ofChange codeBytesSpec)

/-- ITS FALSE NEIGHBOUR: 'it returns false'. Refute it at one input. -/
def codeBytesWrong : ChangeSpec := { name := "codeBytes", fn := fun _ => fun
  | [d1, d2, d3] => { results := [.lit (.bool false)], args := [d1, d2, d3] }
  | _ => none }
def CodeBytesWrongFalsely : Prop := codeBytesRow.holds Tryd.pinned (OpenSpec.ofChange codeBytesWrong)

/- THE SECOND FORM. 'bulk': how many values and letters a reading holds, each counted each time it is reached (what is shared counts as often as it is met; a slice's spare places count too). A statement '..UptoSaid' is the law's where the arguments, and the package variables that the reading takes, are together of bulk at most 1048576: NARROWER than '..Said'. Prove '..Said' where nothing that the law and all that it calls make is longer than what came in: it says more and counts as full. Else prove '..UptoSaid'. A law counts once. -/
mutual
def uptoBulk {H : Type} : DataW H → Nat
  | .lit (.string bytes) => bytes.length + 1
  | .lit _ => 1
  | .nil => 1
  | .ptr d => uptoBulk d + 1
  | .slice elems spare => uptoBulkAll elems + uptoBulkAll spare + 1
  | .agg parts => uptoBulkAll parts + 1
  | .iface _ d => uptoBulk d + 1
  | .map entries => uptoBulkEntries entries + 1
  | .held _ => 1
def uptoBulkAll {H : Type} : List (DataW H) → Nat
  | [] => 0
  | d :: r => uptoBulk d + uptoBulkAll r
def uptoBulkEntries {H : Type} : List (Lit × DataW H) → Nat
  | [] => 0
  | x :: r => uptoBulkEntry x + uptoBulkEntries r
def uptoBulkEntry {H : Type} : Lit × DataW H → Nat
  | (.string bytes, d) => bytes.length + uptoBulk d + 1
  | (_, d) => uptoBulk d + 1
 end
def uptoSmall : (H : Type) → List (DataW H) → Bool := fun _ ds => decide (uptoBulkAll ds ≤ 1048576)
def OpenSpec.upto (s : _root_.Go.ChangeSpec) : _root_.Go.OpenSpec := { _root_.Go.OpenSpec.ofChange s with cond := some uptoSmall }

/-- 'remontoirelaw05.ClockBases', WHERE WHAT IT READS IS OF BULK AT MOST 1048576: true; the input reads as it did. -/
def clockBasesUptoRow : OpenClaim := { program := "ythpkejlmelednaadoor", sum := "f83c3ca0628b82777b286f6f9517889d2099ca0cbd0fe03c38b6a17c5797f3ca", func := "remontoire/remontoirelaw05.ClockBases", spec := "clockBases", named := ["remontoire/inst.shapes", "remontoire/imm.factors"], apart := false, laid := [("remontoire/imm.factors", laid_remontoire_imm_factors), ("remontoire/inst.shapes", laid_remontoire_inst_shapes)], narrowed := true }
def ClockBasesUptoSaid : Prop := clockBasesUptoRow.holds Tryd.pinned (OpenSpec.upto clockBasesSpec)

/-- 'remontoirelaw05.ClockConstant', WHERE WHAT IT READS IS OF BULK AT MOST 1048576: true; the input reads as it did. -/
def clockConstantUptoRow : OpenClaim := { program := "ythpkejlmelednaadoor", sum := "f83c3ca0628b82777b286f6f9517889d2099ca0cbd0fe03c38b6a17c5797f3ca", func := "remontoire/remontoirelaw05.ClockConstant", spec := "clockConstant", named := ["remontoire/inst.shapes", "remontoire/imm.factors"], apart := false, laid := [("remontoire/imm.factors", laid_remontoire_imm_factors), ("remontoire/inst.shapes", laid_remontoire_inst_shapes)], narrowed := true }
def ClockConstantUptoSaid : Prop := clockConstantUptoRow.holds Tryd.pinned (OpenSpec.upto clockConstantSpec)

/-- 'remontoirelaw18.SelExact', WHERE WHAT IT READS IS OF BULK AT MOST 1048576: true; the input reads as it did. -/
def selExactUptoRow : OpenClaim := { program := "ythpkejlmelednaadoor", sum := "f83c3ca0628b82777b286f6f9517889d2099ca0cbd0fe03c38b6a17c5797f3ca", func := "remontoire/remontoirelaw18.SelExact", spec := "selExact", unfollowed := true, recurses := true, named := ["remontoire/vop.rows", "remontoire/imm.factors"], apart := false, laid := [("remontoire/imm.factors", laid_remontoire_imm_factors), ("remontoire/vop.rows", laid_remontoire_vop_rows)], narrowed := true }
def SelExactUptoSaid : Prop := selExactUptoRow.holds Tryd.pinned (OpenSpec.upto selExactSpec)

/-- 'remontoirelaw18.SelSome', WHERE WHAT IT READS IS OF BULK AT MOST 1048576: true; the input reads as it did. -/
def selSomeUptoRow : OpenClaim := { program := "ythpkejlmelednaadoor", sum := "f83c3ca0628b82777b286f6f9517889d2099ca0cbd0fe03c38b6a17c5797f3ca", func := "remontoire/remontoirelaw18.SelSome", spec := "selSome", unfollowed := true, recurses := true, named := ["remontoire/vop.rows", "remontoire/imm.factors"], apart := false, laid := [("remontoire/imm.factors", laid_remontoire_imm_factors), ("remontoire/vop.rows", laid_remontoire_vop_rows)], narrowed := true }
def SelSomeUptoSaid : Prop := selSomeUptoRow.holds Tryd.pinned (OpenSpec.upto selSomeSpec)

/-- 'remontoirelaw04.CodeBegins', WHERE WHAT IT READS IS OF BULK AT MOST 1048576: true; the input reads as it did. -/
def codeBeginsUptoRow : OpenClaim := { program := "ythpkejlmelednaadoor", sum := "f83c3ca0628b82777b286f6f9517889d2099ca0cbd0fe03c38b6a17c5797f3ca", func := "remontoire/remontoirelaw04.CodeBegins", spec := "codeBegins", named := ["remontoire/inst.shapes", "remontoire/imm.factors"], apart := false, laid := [("remontoire/imm.factors", laid_remontoire_imm_factors), ("remontoire/inst.shapes", laid_remontoire_inst_shapes)], narrowed := true }
def CodeBeginsUptoSaid : Prop := codeBeginsUptoRow.holds Tryd.pinned (OpenSpec.upto codeBeginsSpec)

/-- 'remontoirelaw04.CodeOnce', WHERE WHAT IT READS IS OF BULK AT MOST 1048576: true; the input reads as it did. -/
def codeOnceUptoRow : OpenClaim := { program := "ythpkejlmelednaadoor", sum := "f83c3ca0628b82777b286f6f9517889d2099ca0cbd0fe03c38b6a17c5797f3ca", func := "remontoire/remontoirelaw04.CodeOnce", spec := "codeOnce", named := ["remontoire/inst.shapes", "remontoire/imm.factors"], apart := false, laid := [("remontoire/imm.factors", laid_remontoire_imm_factors), ("remontoire/inst.shapes", laid_remontoire_inst_shapes)], narrowed := true }
def CodeOnceUptoSaid : Prop := codeOnceUptoRow.holds Tryd.pinned (OpenSpec.upto codeOnceSpec)

/-- 'remontoirelaw04.CodeReads', WHERE WHAT IT READS IS OF BULK AT MOST 1048576: true; the input reads as it did. -/
def codeReadsUptoRow : OpenClaim := { program := "ythpkejlmelednaadoor", sum := "f83c3ca0628b82777b286f6f9517889d2099ca0cbd0fe03c38b6a17c5797f3ca", func := "remontoire/remontoirelaw04.CodeReads", spec := "codeReads", named := ["remontoire/inst.shapes", "remontoire/imm.factors"], apart := false, laid := [("remontoire/imm.factors", laid_remontoire_imm_factors), ("remontoire/inst.shapes", laid_remontoire_inst_shapes)], narrowed := true }
def CodeReadsUptoSaid : Prop := codeReadsUptoRow.holds Tryd.pinned (OpenSpec.upto codeReadsSpec)

/-- 'remontoirelaw04.CodeWords', WHERE WHAT IT READS IS OF BULK AT MOST 1048576: true; the input reads as it did. -/
def codeWordsUptoRow : OpenClaim := { program := "ythpkejlmelednaadoor", sum := "f83c3ca0628b82777b286f6f9517889d2099ca0cbd0fe03c38b6a17c5797f3ca", func := "remontoire/remontoirelaw04.CodeWords", spec := "codeWords", named := ["remontoire/inst.shapes", "remontoire/imm.factors"], apart := false, laid := [("remontoire/imm.factors", laid_remontoire_imm_factors), ("remontoire/inst.shapes", laid_remontoire_inst_shapes)], narrowed := true }
def CodeWordsUptoSaid : Prop := codeWordsUptoRow.holds Tryd.pinned (OpenSpec.upto codeWordsSpec)

/-- 'remontoirelaw18.SelForms', WHERE WHAT IT READS IS OF BULK AT MOST 1048576: true; the input reads as it did. -/
def selFormsUptoRow : OpenClaim := { program := "ythpkejlmelednaadoor", sum := "f83c3ca0628b82777b286f6f9517889d2099ca0cbd0fe03c38b6a17c5797f3ca", func := "remontoire/remontoirelaw18.SelForms", spec := "selForms", unfollowed := true, recurses := true, named := ["remontoire/vop.rows", "remontoire/imm.factors", "remontoire/inst.shapes"], apart := false, laid := [("remontoire/imm.factors", laid_remontoire_imm_factors), ("remontoire/inst.shapes", laid_remontoire_inst_shapes), ("remontoire/vop.rows", laid_remontoire_vop_rows)], narrowed := true }
def SelFormsUptoSaid : Prop := selFormsUptoRow.holds Tryd.pinned (OpenSpec.upto selFormsSpec)

/-- 'remontoirelaw04.CodeBytes', WHERE WHAT IT READS IS OF BULK AT MOST 1048576: true; the input reads as it did. -/
def codeBytesUptoRow : OpenClaim := { program := "ythpkejlmelednaadoor", sum := "f83c3ca0628b82777b286f6f9517889d2099ca0cbd0fe03c38b6a17c5797f3ca", func := "remontoire/remontoirelaw04.CodeBytes", spec := "codeBytes", named := ["remontoire/inst.shapes", "remontoire/imm.factors"], apart := false, laid := [("remontoire/imm.factors", laid_remontoire_imm_factors), ("remontoire/inst.shapes", laid_remontoire_inst_shapes)], narrowed := true }
def CodeBytesUptoSaid : Prop := codeBytesUptoRow.holds Tryd.pinned (OpenSpec.upto codeBytesSpec)

end Rows
end Go.Proofs.YthpkejlmelednaaDoor

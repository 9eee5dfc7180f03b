/-
  NARROWER THAN 'FOR EVERY INPUT', by the rows' own cells (each row's printed sentence says how): AsmRight: laid · AsmSlides: laid · AsmReaches: laid · AsmWide: laid.
  DERIVED. THE GIVEN ROWS OF THIS SEAT. 4 by the template 'for every input the law returns true; each argument reads behind the call as it read before'; 0 by the template 'total and deterministic' (their statements: YtjcacjeoddnmhaaDoorTotals.lean).
  GIVEN WITH THE SEED: the statements are not yours to turn. If you find one false, say at which input.
  Laid BY PROGRAM, IN A SANDBOX (cutbox-rows.mjs): the forced cells as the released guide's own fill.sh prints them over the translation 0a4c41b50f634d65… (all of the seat's roots in one cut). By AI agents, Wed Nov 11 2026. No macro, syntax, notation, axiom, sorry.
-/
import Derived.Test.YtjcacjeoddnmhaaDoorChecked
import GoSem.Claim
import GoSem.ClaimJoined
import GoSem.ClaimMapViews
import Derived.JoinedTies
import Derived.KernelRfl
namespace Go.Proofs.YtjcacjeoddnmhaaDoor
/- THE CELL 'sum', in the pinned program and in every row, IS THE sha256 OF THE DUMP (.gsa) THAT YtjcacjeoddnmhaaDoorProg.lean LOADS. Nothing in Lean hashes anything: it is a label: what it is worth is what the hold of that sum in a sandbox is worth. -/
noncomputable def Tryd.pinned : Pinned := { name := "ytjcacjeoddnmhaadoor", sum := "0a4c41b50f634d65669f3fdb8422b3ab7ea255452b4eca4d7863e61c18878451", checked := Tryd.checked }
namespace Rows
def none {H : Type} : Left H := { results := [], args := [] }

/- WHAT THE LISTED PACKAGE-LEVEL VARIABLES READ AS WHEN THE CALL BEGINS. Each datum BY PROGRAM (the guide's laid-datum.mjs) off the statement by which the dump's own 'gosem.cut.vars' lays the variable. In a bare row this is a premise. The card (YtjcacjeoddnmhaaDoorCards.lean) ties it to the program's text. -/
def laid_remontoire_imm_factors {H : Type} : DataW H := .agg [.lit (.int .u32 1), .lit (.int .u32 65537), .lit (.int .u32 16777472), .lit (.int .u32 16843009)]
def laid_remontoire_inst_shapes {H : Type} : DataW H := .agg [.lit (.int .i64 0), .lit (.int .i64 1), .lit (.int .i64 1), .lit (.int .i64 1), .lit (.int .i64 2), .lit (.int .i64 2), .lit (.int .i64 3), .lit (.int .i64 3), .lit (.int .i64 4), .lit (.int .i64 4), .lit (.int .i64 4), .lit (.int .i64 4), .lit (.int .i64 5), .lit (.int .i64 5), .lit (.int .i64 5), .lit (.int .i64 5), .lit (.int .i64 5), .lit (.int .i64 5), .lit (.int .i64 5), .lit (.int .i64 5), .lit (.int .i64 5), .lit (.int .i64 5), .lit (.int .i64 5), .lit (.int .i64 5), .lit (.int .i64 5), .lit (.int .i64 5), .lit (.int .i64 5), .lit (.int .i64 5), .lit (.int .i64 6), .lit (.int .i64 6), .lit (.int .i64 6), .lit (.int .i64 7), .lit (.int .i64 8), .lit (.int .i64 2), .lit (.int .i64 2), .lit (.int .i64 9), .lit (.int .i64 9), .lit (.int .i64 8), .lit (.int .i64 8), .lit (.int .i64 8), .lit (.int .i64 10), .lit (.int .i64 10), .lit (.int .i64 11), .lit (.int .i64 12), .lit (.int .i64 13), .lit (.int .i64 14), .lit (.int .i64 15), .lit (.int .i64 16), .lit (.int .i64 17), .lit (.int .i64 17), .lit (.int .i64 18), .lit (.int .i64 18), .lit (.int .i64 18), .lit (.int .i64 18), .lit (.int .i64 18), .lit (.int .i64 18), .lit (.int .i64 18), .lit (.int .i64 18), .lit (.int .i64 18), .lit (.int .i64 18), .lit (.int .i64 19), .lit (.int .i64 19), .lit (.int .i64 20), .lit (.int .i64 20), .lit (.int .i64 20), .lit (.int .i64 20), .lit (.int .i64 21), .lit (.int .i64 21), .lit (.int .i64 21), .lit (.int .i64 21), .lit (.int .i64 21), .lit (.int .i64 21), .lit (.int .i64 21), .lit (.int .i64 21), .lit (.int .i64 21), .lit (.int .i64 21), .lit (.int .i64 22), .lit (.int .i64 22), .lit (.int .i64 23), .lit (.int .i64 23), .lit (.int .i64 23), .lit (.int .i64 23), .lit (.int .i64 24), .lit (.int .i64 24), .lit (.int .i64 25), .lit (.int .i64 25), .lit (.int .i64 26), .lit (.int .i64 26), .lit (.int .i64 27), .lit (.int .i64 27), .lit (.int .i64 27), .lit (.int .i64 27), .lit (.int .i64 28), .lit (.int .i64 29), .lit (.int .i64 30), .lit (.int .i64 31), .lit (.int .i64 31), .lit (.int .i64 28), .lit (.int .i64 32), .lit (.int .i64 33), .lit (.int .i64 34)]

/-- 'remontoirelaw08.AsmRight': WHATEVER THE INPUT: true; the input reads as it did. -/
def asmRightSpec : ChangeSpec := { name := "asmRight", fn := fun _ => fun
  | [d] => { results := [.lit (.bool true)], args := [d] }
  | _ => none }
def asmRightRow : OpenClaim := { program := "ytjcacjeoddnmhaadoor", sum := "0a4c41b50f634d65669f3fdb8422b3ab7ea255452b4eca4d7863e61c18878451", func := "remontoire/remontoirelaw08.AsmRight", spec := "asmRight", named := ["remontoire/inst.shapes", "remontoire/imm.factors"], apart := false, laid := [("remontoire/imm.factors", laid_remontoire_imm_factors), ("remontoire/inst.shapes", laid_remontoire_inst_shapes)] }
def AsmRightSaid : Prop := asmRightRow.holds Tryd.pinned (OpenSpec.ofChange asmRightSpec)

/-- ITS FALSE NEIGHBOUR: 'it returns false'. Refute it at one input. -/
def asmRightWrong : ChangeSpec := { name := "asmRight", fn := fun _ => fun
  | [d] => { results := [.lit (.bool false)], args := [d] }
  | _ => none }
def AsmRightWrongFalsely : Prop := asmRightRow.holds Tryd.pinned (OpenSpec.ofChange asmRightWrong)

/-- 'remontoirelaw08.AsmSlides': WHATEVER THE INPUT: true; the input reads as it did. -/
def asmSlidesSpec : ChangeSpec := { name := "asmSlides", fn := fun _ => fun
  | [d1, d2] => { results := [.lit (.bool true)], args := [d1, d2] }
  | _ => none }
def asmSlidesRow : OpenClaim := { program := "ytjcacjeoddnmhaadoor", sum := "0a4c41b50f634d65669f3fdb8422b3ab7ea255452b4eca4d7863e61c18878451", func := "remontoire/remontoirelaw08.AsmSlides", spec := "asmSlides", named := ["remontoire/inst.shapes", "remontoire/imm.factors"], apart := false, laid := [("remontoire/imm.factors", laid_remontoire_imm_factors), ("remontoire/inst.shapes", laid_remontoire_inst_shapes)] }
def AsmSlidesSaid : Prop := asmSlidesRow.holds Tryd.pinned (OpenSpec.ofChange asmSlidesSpec)

/-- ITS FALSE NEIGHBOUR: 'it returns false'. Refute it at one input. -/
def asmSlidesWrong : ChangeSpec := { name := "asmSlides", fn := fun _ => fun
  | [d1, d2] => { results := [.lit (.bool false)], args := [d1, d2] }
  | _ => none }
def AsmSlidesWrongFalsely : Prop := asmSlidesRow.holds Tryd.pinned (OpenSpec.ofChange asmSlidesWrong)

/-- 'remontoirelaw08.AsmReaches': WHATEVER THE INPUT: true; the input reads as it did. -/
def asmReachesSpec : ChangeSpec := { name := "asmReaches", fn := fun _ => fun
  | [d1, d2] => { results := [.lit (.bool true)], args := [d1, d2] }
  | _ => none }
def asmReachesRow : OpenClaim := { program := "ytjcacjeoddnmhaadoor", sum := "0a4c41b50f634d65669f3fdb8422b3ab7ea255452b4eca4d7863e61c18878451", func := "remontoire/remontoirelaw08.AsmReaches", spec := "asmReaches", named := ["remontoire/inst.shapes", "remontoire/imm.factors"], apart := false, laid := [("remontoire/imm.factors", laid_remontoire_imm_factors), ("remontoire/inst.shapes", laid_remontoire_inst_shapes)] }
def AsmReachesSaid : Prop := asmReachesRow.holds Tryd.pinned (OpenSpec.ofChange asmReachesSpec)

/-- ITS FALSE NEIGHBOUR: 'it returns false'. Refute it at one input. -/
def asmReachesWrong : ChangeSpec := { name := "asmReaches", fn := fun _ => fun
  | [d1, d2] => { results := [.lit (.bool false)], args := [d1, d2] }
  | _ => none }
def AsmReachesWrongFalsely : Prop := asmReachesRow.holds Tryd.pinned (OpenSpec.ofChange asmReachesWrong)

/-- 'remontoirelaw08.AsmWide': WHATEVER THE INPUT: true; the input reads as it did. -/
def asmWideSpec : ChangeSpec := { name := "asmWide", fn := fun _ => fun
  | [d1, d2] => { results := [.lit (.bool true)], args := [d1, d2] }
  | _ => none }
def asmWideRow : OpenClaim := { program := "ytjcacjeoddnmhaadoor", sum := "0a4c41b50f634d65669f3fdb8422b3ab7ea255452b4eca4d7863e61c18878451", func := "remontoire/remontoirelaw08.AsmWide", spec := "asmWide", named := ["remontoire/inst.shapes", "remontoire/imm.factors"], apart := false, laid := [("remontoire/imm.factors", laid_remontoire_imm_factors), ("remontoire/inst.shapes", laid_remontoire_inst_shapes)] }
def AsmWideSaid : Prop := asmWideRow.holds Tryd.pinned (OpenSpec.ofChange asmWideSpec)

/-- ITS FALSE NEIGHBOUR: 'it returns false'. Refute it at one input. -/
def asmWideWrong : ChangeSpec := { name := "asmWide", fn := fun _ => fun
  | [d1, d2] => { results := [.lit (.bool false)], args := [d1, d2] }
  | _ => none }
def AsmWideWrongFalsely : Prop := asmWideRow.holds Tryd.pinned (OpenSpec.ofChange asmWideWrong)

/- THE SECOND FORM. 'bulk': how many values and letters a reading holds, each counted each time it is reached (what is shared counts as often as it is met; a slice's spare places count too). A statement '..UptoSaid' is the law's where the arguments, and the package variables that the reading takes, are together of bulk at most 1048576: NARROWER than '..Said'. Prove '..Said' where nothing that the law and all that it calls make is longer than what came in: it says more and counts as full. Else prove '..UptoSaid'. A law counts once. -/
mutual
def uptoBulk {H : Type} : DataW H → Nat
  | .lit (.string bytes) => bytes.length + 1
  | .lit _ => 1
  | .nil => 1
  | .ptr d => uptoBulk d + 1
  | .slice elems spare => uptoBulkAll elems + uptoBulkAll spare + 1
  | .agg parts => uptoBulkAll parts + 1
  | .iface _ d => uptoBulk d + 1
  | .map entries => uptoBulkEntries entries + 1
  | .held _ => 1
def uptoBulkAll {H : Type} : List (DataW H) → Nat
  | [] => 0
  | d :: r => uptoBulk d + uptoBulkAll r
def uptoBulkEntries {H : Type} : List (Lit × DataW H) → Nat
  | [] => 0
  | x :: r => uptoBulkEntry x + uptoBulkEntries r
def uptoBulkEntry {H : Type} : Lit × DataW H → Nat
  | (.string bytes, d) => bytes.length + uptoBulk d + 1
  | (_, d) => uptoBulk d + 1
 end
def uptoSmall : (H : Type) → List (DataW H) → Bool := fun _ ds => decide (uptoBulkAll ds ≤ 1048576)
def OpenSpec.upto (s : _root_.Go.ChangeSpec) : _root_.Go.OpenSpec := { _root_.Go.OpenSpec.ofChange s with cond := some uptoSmall }

/-- 'remontoirelaw08.AsmRight', WHERE WHAT IT READS IS OF BULK AT MOST 1048576: true; the input reads as it did. -/
def asmRightUptoRow : OpenClaim := { program := "ytjcacjeoddnmhaadoor", sum := "0a4c41b50f634d65669f3fdb8422b3ab7ea255452b4eca4d7863e61c18878451", func := "remontoire/remontoirelaw08.AsmRight", spec := "asmRight", named := ["remontoire/inst.shapes", "remontoire/imm.factors"], apart := false, laid := [("remontoire/imm.factors", laid_remontoire_imm_factors), ("remontoire/inst.shapes", laid_remontoire_inst_shapes)], narrowed := true }
def AsmRightUptoSaid : Prop := asmRightUptoRow.holds Tryd.pinned (OpenSpec.upto asmRightSpec)

/-- 'remontoirelaw08.AsmSlides', WHERE WHAT IT READS IS OF BULK AT MOST 1048576: true; the input reads as it did. -/
def asmSlidesUptoRow : OpenClaim := { program := "ytjcacjeoddnmhaadoor", sum := "0a4c41b50f634d65669f3fdb8422b3ab7ea255452b4eca4d7863e61c18878451", func := "remontoire/remontoirelaw08.AsmSlides", spec := "asmSlides", named := ["remontoire/inst.shapes", "remontoire/imm.factors"], apart := false, laid := [("remontoire/imm.factors", laid_remontoire_imm_factors), ("remontoire/inst.shapes", laid_remontoire_inst_shapes)], narrowed := true }
def AsmSlidesUptoSaid : Prop := asmSlidesUptoRow.holds Tryd.pinned (OpenSpec.upto asmSlidesSpec)

/-- 'remontoirelaw08.AsmReaches', WHERE WHAT IT READS IS OF BULK AT MOST 1048576: true; the input reads as it did. -/
def asmReachesUptoRow : OpenClaim := { program := "ytjcacjeoddnmhaadoor", sum := "0a4c41b50f634d65669f3fdb8422b3ab7ea255452b4eca4d7863e61c18878451", func := "remontoire/remontoirelaw08.AsmReaches", spec := "asmReaches", named := ["remontoire/inst.shapes", "remontoire/imm.factors"], apart := false, laid := [("remontoire/imm.factors", laid_remontoire_imm_factors), ("remontoire/inst.shapes", laid_remontoire_inst_shapes)], narrowed := true }
def AsmReachesUptoSaid : Prop := asmReachesUptoRow.holds Tryd.pinned (OpenSpec.upto asmReachesSpec)

/-- 'remontoirelaw08.AsmWide', WHERE WHAT IT READS IS OF BULK AT MOST 1048576: true; the input reads as it did. -/
def asmWideUptoRow : OpenClaim := { program := "ytjcacjeoddnmhaadoor", sum := "0a4c41b50f634d65669f3fdb8422b3ab7ea255452b4eca4d7863e61c18878451", func := "remontoire/remontoirelaw08.AsmWide", spec := "asmWide", named := ["remontoire/inst.shapes", "remontoire/imm.factors"], apart := false, laid := [("remontoire/imm.factors", laid_remontoire_imm_factors), ("remontoire/inst.shapes", laid_remontoire_inst_shapes)], narrowed := true }
def AsmWideUptoSaid : Prop := asmWideUptoRow.holds Tryd.pinned (OpenSpec.upto asmWideSpec)

end Rows
end Go.Proofs.YtjcacjeoddnmhaaDoor

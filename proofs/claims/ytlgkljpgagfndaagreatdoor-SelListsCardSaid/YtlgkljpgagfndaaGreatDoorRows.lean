/-
  NARROWER THAN 'FOR EVERY INPUT', by the rows' own cells (each row's printed sentence says how): SelConstant: laid · SelDoes: laid · SelLists: laid.
  DERIVED. THE GIVEN ROWS OF THIS SEAT. 3 by the template 'for every input the law returns true; each argument reads behind the call as it read before'; 0 by the template 'total and deterministic' (their statements: YtlgkljpgagfndaaGreatDoorTotals.lean).
  GIVEN WITH THE SEED: the statements are not yours to turn. If you find one false, say at which input.
  Laid BY PROGRAM, IN A SANDBOX (cutbox-rows.mjs): the forced cells as the released guide's own fill.sh prints them over the translation 05fcbb1adf8e69dd… (all of the seat's roots in one cut). By AI agents, Wed Nov 11 2026. No macro, syntax, notation, axiom, sorry.
-/
import Derived.Test.YtlgkljpgagfndaaGreatDoorChecked
import GoSem.Claim
import GoSem.ClaimJoined
import GoSem.ClaimMapViews
import Derived.JoinedTies
import Derived.KernelRfl
namespace Go.Proofs.YtlgkljpgagfndaaGreatDoor
/- THE CELL 'sum', in the pinned program and in every row, IS THE sha256 OF THE DUMP (.gsa) THAT YtlgkljpgagfndaaGreatDoorProg.lean LOADS. Nothing in Lean hashes anything: it is a label: what it is worth is what the hold of that sum in a sandbox is worth. -/
noncomputable def Tryz.pinned : Pinned := { name := "ytlgkljpgagfndaagreatdoor", sum := "05fcbb1adf8e69dde203e9cb0c7726e14930c81a10b7083a5eeec3176a0c314c", checked := Tryz.checked }
namespace Rows
def none {H : Type} : Left H := { results := [], args := [] }

/- WHAT THE LISTED PACKAGE-LEVEL VARIABLES READ AS WHEN THE CALL BEGINS. Each datum BY PROGRAM (the guide's laid-datum.mjs) off the statement by which the dump's own 'gosem.cut.vars' lays the variable. In a bare row this is a premise. The card (YtlgkljpgagfndaaGreatDoorCards.lean) ties it to the program's text. -/
def laid_remontoire_imm_factors {H : Type} : DataW H := .agg [.lit (.int .u32 1), .lit (.int .u32 65537), .lit (.int .u32 16777472), .lit (.int .u32 16843009)]
def laid_remontoire_inst_shapes {H : Type} : DataW H := .agg [.lit (.int .i64 0), .lit (.int .i64 1), .lit (.int .i64 1), .lit (.int .i64 1), .lit (.int .i64 2), .lit (.int .i64 2), .lit (.int .i64 3), .lit (.int .i64 3), .lit (.int .i64 4), .lit (.int .i64 4), .lit (.int .i64 4), .lit (.int .i64 4), .lit (.int .i64 5), .lit (.int .i64 5), .lit (.int .i64 5), .lit (.int .i64 5), .lit (.int .i64 5), .lit (.int .i64 5), .lit (.int .i64 5), .lit (.int .i64 5), .lit (.int .i64 5), .lit (.int .i64 5), .lit (.int .i64 5), .lit (.int .i64 5), .lit (.int .i64 5), .lit (.int .i64 5), .lit (.int .i64 5), .lit (.int .i64 5), .lit (.int .i64 6), .lit (.int .i64 6), .lit (.int .i64 6), .lit (.int .i64 7), .lit (.int .i64 8), .lit (.int .i64 2), .lit (.int .i64 2), .lit (.int .i64 9), .lit (.int .i64 9), .lit (.int .i64 8), .lit (.int .i64 8), .lit (.int .i64 8), .lit (.int .i64 10), .lit (.int .i64 10), .lit (.int .i64 11), .lit (.int .i64 12), .lit (.int .i64 13), .lit (.int .i64 14), .lit (.int .i64 15), .lit (.int .i64 16), .lit (.int .i64 17), .lit (.int .i64 17), .lit (.int .i64 18), .lit (.int .i64 18), .lit (.int .i64 18), .lit (.int .i64 18), .lit (.int .i64 18), .lit (.int .i64 18), .lit (.int .i64 18), .lit (.int .i64 18), .lit (.int .i64 18), .lit (.int .i64 18), .lit (.int .i64 19), .lit (.int .i64 19), .lit (.int .i64 20), .lit (.int .i64 20), .lit (.int .i64 20), .lit (.int .i64 20), .lit (.int .i64 21), .lit (.int .i64 21), .lit (.int .i64 21), .lit (.int .i64 21), .lit (.int .i64 21), .lit (.int .i64 21), .lit (.int .i64 21), .lit (.int .i64 21), .lit (.int .i64 21), .lit (.int .i64 21), .lit (.int .i64 22), .lit (.int .i64 22), .lit (.int .i64 23), .lit (.int .i64 23), .lit (.int .i64 23), .lit (.int .i64 23), .lit (.int .i64 24), .lit (.int .i64 24), .lit (.int .i64 25), .lit (.int .i64 25), .lit (.int .i64 26), .lit (.int .i64 26), .lit (.int .i64 27), .lit (.int .i64 27), .lit (.int .i64 27), .lit (.int .i64 27), .lit (.int .i64 28), .lit (.int .i64 29), .lit (.int .i64 30), .lit (.int .i64 31), .lit (.int .i64 31), .lit (.int .i64 28), .lit (.int .i64 32), .lit (.int .i64 33), .lit (.int .i64 34)]
def laid_remontoire_vop_rows {H : Type} : DataW H := .agg [.agg [.lit (.int .i64 0), .lit (.int .i64 0)], .agg [.lit (.int .i64 1), .lit (.int .i64 0)], .agg [.lit (.int .i64 1), .lit (.int .i64 0)], .agg [.lit (.int .i64 0), .lit (.int .i64 1)], .agg [.lit (.int .i64 1), .lit (.int .i64 0)], .agg [.lit (.int .i64 1), .lit (.int .i64 2)], .agg [.lit (.int .i64 0), .lit (.int .i64 3)], .agg [.lit (.int .i64 1), .lit (.int .i64 2)], .agg [.lit (.int .i64 1), .lit (.int .i64 2)], .agg [.lit (.int .i64 1), .lit (.int .i64 2)], .agg [.lit (.int .i64 1), .lit (.int .i64 2)], .agg [.lit (.int .i64 1), .lit (.int .i64 2)], .agg [.lit (.int .i64 1), .lit (.int .i64 2)], .agg [.lit (.int .i64 1), .lit (.int .i64 2)], .agg [.lit (.int .i64 1), .lit (.int .i64 2)], .agg [.lit (.int .i64 1), .lit (.int .i64 2)], .agg [.lit (.int .i64 1), .lit (.int .i64 1)], .agg [.lit (.int .i64 1), .lit (.int .i64 1)], .agg [.lit (.int .i64 1), .lit (.int .i64 1)], .agg [.lit (.int .i64 1), .lit (.int .i64 1)], .agg [.lit (.int .i64 1), .lit (.int .i64 1)], .agg [.lit (.int .i64 1), .lit (.int .i64 2)], .agg [.lit (.int .i64 1), .lit (.int .i64 2)], .agg [.lit (.int .i64 2), .lit (.int .i64 4)], .agg [.lit (.int .i64 2), .lit (.int .i64 4)], .agg [.lit (.int .i64 1), .lit (.int .i64 4)], .agg [.lit (.int .i64 2), .lit (.int .i64 2)], .agg [.lit (.int .i64 1), .lit (.int .i64 1)], .agg [.lit (.int .i64 1), .lit (.int .i64 2)], .agg [.lit (.int .i64 1), .lit (.int .i64 3)], .agg [.lit (.int .i64 0), .lit (.int .i64 1)], .agg [.lit (.int .i64 0), .lit (.int .i64 1)]]

/-- 'remontoirelaw18.SelConstant': WHATEVER THE INPUT: true; the input reads as it did. -/
def selConstantSpec : ChangeSpec := { name := "selConstant", fn := fun _ => fun
  | [d1, d2, d3] => { results := [.lit (.bool true)], args := [d1, d2, d3] }
  | _ => none }
def selConstantRow : OpenClaim := { program := "ytlgkljpgagfndaagreatdoor", sum := "05fcbb1adf8e69dde203e9cb0c7726e14930c81a10b7083a5eeec3176a0c314c", func := "remontoire/remontoirelaw18.SelConstant", spec := "selConstant", unfollowed := true, recurses := true, named := ["remontoire/vop.rows", "remontoire/imm.factors", "remontoire/inst.shapes"], apart := false, laid := [("remontoire/imm.factors", laid_remontoire_imm_factors), ("remontoire/inst.shapes", laid_remontoire_inst_shapes), ("remontoire/vop.rows", laid_remontoire_vop_rows)] }
def SelConstantSaid : Prop := selConstantRow.holds Tryz.pinned (OpenSpec.ofChange selConstantSpec)

/-- ITS FALSE NEIGHBOUR: 'it returns false'. Refute it at one input. -/
def selConstantWrong : ChangeSpec := { name := "selConstant", fn := fun _ => fun
  | [d1, d2, d3] => { results := [.lit (.bool false)], args := [d1, d2, d3] }
  | _ => none }
def SelConstantWrongFalsely : Prop := selConstantRow.holds Tryz.pinned (OpenSpec.ofChange selConstantWrong)

/-- 'remontoirelaw18.SelDoes': WHATEVER THE INPUT: true; the input reads as it did. -/
def selDoesSpec : ChangeSpec := { name := "selDoes", fn := fun _ => fun
  | [d1, d2, d3] => { results := [.lit (.bool true)], args := [d1, d2, d3] }
  | _ => none }
def selDoesRow : OpenClaim := { program := "ytlgkljpgagfndaagreatdoor", sum := "05fcbb1adf8e69dde203e9cb0c7726e14930c81a10b7083a5eeec3176a0c314c", func := "remontoire/remontoirelaw18.SelDoes", spec := "selDoes", unfollowed := true, recurses := true, named := ["remontoire/vop.rows", "remontoire/imm.factors", "remontoire/inst.shapes"], apart := false, laid := [("remontoire/imm.factors", laid_remontoire_imm_factors), ("remontoire/inst.shapes", laid_remontoire_inst_shapes), ("remontoire/vop.rows", laid_remontoire_vop_rows)] }
def SelDoesSaid : Prop := selDoesRow.holds Tryz.pinned (OpenSpec.ofChange selDoesSpec)

/-- ITS FALSE NEIGHBOUR: 'it returns false'. Refute it at one input. -/
def selDoesWrong : ChangeSpec := { name := "selDoes", fn := fun _ => fun
  | [d1, d2, d3] => { results := [.lit (.bool false)], args := [d1, d2, d3] }
  | _ => none }
def SelDoesWrongFalsely : Prop := selDoesRow.holds Tryz.pinned (OpenSpec.ofChange selDoesWrong)

/-- 'remontoirelaw18.SelLists': WHATEVER THE INPUT: true; the input reads as it did. -/
def selListsSpec : ChangeSpec := { name := "selLists", fn := fun _ => fun
  | [d1, d2] => { results := [.lit (.bool true)], args := [d1, d2] }
  | _ => none }
def selListsRow : OpenClaim := { program := "ytlgkljpgagfndaagreatdoor", sum := "05fcbb1adf8e69dde203e9cb0c7726e14930c81a10b7083a5eeec3176a0c314c", func := "remontoire/remontoirelaw18.SelLists", spec := "selLists", unfollowed := true, recurses := true, named := ["remontoire/vop.rows", "remontoire/imm.factors", "remontoire/inst.shapes"], apart := false, laid := [("remontoire/imm.factors", laid_remontoire_imm_factors), ("remontoire/inst.shapes", laid_remontoire_inst_shapes), ("remontoire/vop.rows", laid_remontoire_vop_rows)] }
def SelListsSaid : Prop := selListsRow.holds Tryz.pinned (OpenSpec.ofChange selListsSpec)

/-- ITS FALSE NEIGHBOUR: 'it returns false'. Refute it at one input. -/
def selListsWrong : ChangeSpec := { name := "selLists", fn := fun _ => fun
  | [d1, d2] => { results := [.lit (.bool false)], args := [d1, d2] }
  | _ => none }
def SelListsWrongFalsely : Prop := selListsRow.holds Tryz.pinned (OpenSpec.ofChange selListsWrong)

/- THE SECOND FORM. 'bulk': how many values and letters a reading holds, each counted each time it is reached (what is shared counts as often as it is met; a slice's spare places count too). A statement '..UptoSaid' is the law's where the arguments, and the package variables that the reading takes, are together of bulk at most 1048576: NARROWER than '..Said'. Prove '..Said' where nothing that the law and all that it calls make is longer than what came in: it says more and counts as full. Else prove '..UptoSaid'. A law counts once. -/
mutual
def uptoBulk {H : Type} : DataW H → Nat
  | .lit (.string bytes) => bytes.length + 1
  | .lit _ => 1
  | .nil => 1
  | .ptr d => uptoBulk d + 1
  | .slice elems spare => uptoBulkAll elems + uptoBulkAll spare + 1
  | .agg parts => uptoBulkAll parts + 1
  | .iface _ d => uptoBulk d + 1
  | .map entries => uptoBulkEntries entries + 1
  | .held _ => 1
def uptoBulkAll {H : Type} : List (DataW H) → Nat
  | [] => 0
  | d :: r => uptoBulk d + uptoBulkAll r
def uptoBulkEntries {H : Type} : List (Lit × DataW H) → Nat
  | [] => 0
  | x :: r => uptoBulkEntry x + uptoBulkEntries r
def uptoBulkEntry {H : Type} : Lit × DataW H → Nat
  | (.string bytes, d) => bytes.length + uptoBulk d + 1
  | (_, d) => uptoBulk d + 1
 end
def uptoSmall : (H : Type) → List (DataW H) → Bool := fun _ ds => decide (uptoBulkAll ds ≤ 1048576)
def OpenSpec.upto (s : _root_.Go.ChangeSpec) : _root_.Go.OpenSpec := { _root_.Go.OpenSpec.ofChange s with cond := some uptoSmall }

/-- 'remontoirelaw18.SelConstant', WHERE WHAT IT READS IS OF BULK AT MOST 1048576: true; the input reads as it did. -/
def selConstantUptoRow : OpenClaim := { program := "ytlgkljpgagfndaagreatdoor", sum := "05fcbb1adf8e69dde203e9cb0c7726e14930c81a10b7083a5eeec3176a0c314c", func := "remontoire/remontoirelaw18.SelConstant", spec := "selConstant", unfollowed := true, recurses := true, named := ["remontoire/vop.rows", "remontoire/imm.factors", "remontoire/inst.shapes"], apart := false, laid := [("remontoire/imm.factors", laid_remontoire_imm_factors), ("remontoire/inst.shapes", laid_remontoire_inst_shapes), ("remontoire/vop.rows", laid_remontoire_vop_rows)], narrowed := true }
def SelConstantUptoSaid : Prop := selConstantUptoRow.holds Tryz.pinned (OpenSpec.upto selConstantSpec)

/-- 'remontoirelaw18.SelDoes', WHERE WHAT IT READS IS OF BULK AT MOST 1048576: true; the input reads as it did. -/
def selDoesUptoRow : OpenClaim := { program := "ytlgkljpgagfndaagreatdoor", sum := "05fcbb1adf8e69dde203e9cb0c7726e14930c81a10b7083a5eeec3176a0c314c", func := "remontoire/remontoirelaw18.SelDoes", spec := "selDoes", unfollowed := true, recurses := true, named := ["remontoire/vop.rows", "remontoire/imm.factors", "remontoire/inst.shapes"], apart := false, laid := [("remontoire/imm.factors", laid_remontoire_imm_factors), ("remontoire/inst.shapes", laid_remontoire_inst_shapes), ("remontoire/vop.rows", laid_remontoire_vop_rows)], narrowed := true }
def SelDoesUptoSaid : Prop := selDoesUptoRow.holds Tryz.pinned (OpenSpec.upto selDoesSpec)

/-- 'remontoirelaw18.SelLists', WHERE WHAT IT READS IS OF BULK AT MOST 1048576: true; the input reads as it did. -/
def selListsUptoRow : OpenClaim := { program := "ytlgkljpgagfndaagreatdoor", sum := "05fcbb1adf8e69dde203e9cb0c7726e14930c81a10b7083a5eeec3176a0c314c", func := "remontoire/remontoirelaw18.SelLists", spec := "selLists", unfollowed := true, recurses := true, named := ["remontoire/vop.rows", "remontoire/imm.factors", "remontoire/inst.shapes"], apart := false, laid := [("remontoire/imm.factors", laid_remontoire_imm_factors), ("remontoire/inst.shapes", laid_remontoire_inst_shapes), ("remontoire/vop.rows", laid_remontoire_vop_rows)], narrowed := true }
def SelListsUptoSaid : Prop := selListsUptoRow.holds Tryz.pinned (OpenSpec.upto selListsSpec)

end Rows
end Go.Proofs.YtlgkljpgagfndaaGreatDoor

/-
  No cell of these rows narrows 'for every input' (looked for: loops, veiled, ifaces, maps, wideKeys, modest, calm, conditions, laid).
  DERIVED. THE GIVEN ROWS OF THIS SEAT. 11 by the template 'for every input the law returns true; each argument reads behind the call as it read before'; 0 by the template 'total and deterministic' (their statements: YtcpalglmnondmaaTotals.lean).
  GIVEN WITH THE SEED: the statements are not yours to turn. If you find one false, say at which input.
  Laid BY PROGRAM, IN A SANDBOX (cutbox-rows.mjs): the forced cells as the released guide's own fill.sh prints them over the translation e9151cba1ddbb685… (all of the seat's roots in one cut). By AI agents, Wed Nov 11 2026. No macro, syntax, notation, axiom, sorry.
-/
import Derived.Test.YtcpalglmnondmaaChecked
import GoSem.Claim
import GoSem.ClaimJoined
import GoSem.ClaimMapViews
import Derived.JoinedTies
import Derived.KernelRfl
namespace Go.Proofs.Ytcpalglmnondmaa
/- THE CELL 'sum', in the pinned program and in every row, IS THE sha256 OF THE DUMP (.gsa) THAT YtcpalglmnondmaaProg.lean LOADS. Nothing in Lean hashes anything: it is a label: what it is worth is what the hold of that sum in a sandbox is worth. -/
noncomputable def Try.pinned : Pinned := { name := "ytcpalglmnondmaa", sum := "e9151cba1ddbb68514394722929db1477f498af81bcca53fe8bb8fd3633c7477", checked := Try.checked }
namespace Rows
def none {H : Type} : Left H := { results := [], args := [] }

/-- 'remontoirelaw05.ClockFetches': WHATEVER THE INPUT: true; the input reads as it did. -/
def clockFetchesSpec : ChangeSpec := { name := "clockFetches", fn := fun _ => fun
  | [d1, d2, d3, d4] => { results := [.lit (.bool true)], args := [d1, d2, d3, d4] }
  | _ => none }
def clockFetchesRow : OpenClaim := { program := "ytcpalglmnondmaa", sum := "e9151cba1ddbb68514394722929db1477f498af81bcca53fe8bb8fd3633c7477", func := "remontoire/remontoirelaw05.ClockFetches", spec := "clockFetches", apart := false }
def ClockFetchesSaid : Prop := clockFetchesRow.holds Try.pinned (OpenSpec.ofChange clockFetchesSpec)

/-- ITS FALSE NEIGHBOUR: 'it returns false'. Refute it at one input. -/
def clockFetchesWrong : ChangeSpec := { name := "clockFetches", fn := fun _ => fun
  | [d1, d2, d3, d4] => { results := [.lit (.bool false)], args := [d1, d2, d3, d4] }
  | _ => none }
def ClockFetchesWrongFalsely : Prop := clockFetchesRow.holds Try.pinned (OpenSpec.ofChange clockFetchesWrong)

/-- 'remontoirelaw05.ClockRuns': WHATEVER THE INPUT: true; the input reads as it did. -/
def clockRunsSpec : ChangeSpec := { name := "clockRuns", fn := fun _ => fun
  | [d1, d2] => { results := [.lit (.bool true)], args := [d1, d2] }
  | _ => none }
def clockRunsRow : OpenClaim := { program := "ytcpalglmnondmaa", sum := "e9151cba1ddbb68514394722929db1477f498af81bcca53fe8bb8fd3633c7477", func := "remontoire/remontoirelaw05.ClockRuns", spec := "clockRuns", apart := false }
def ClockRunsSaid : Prop := clockRunsRow.holds Try.pinned (OpenSpec.ofChange clockRunsSpec)

/-- ITS FALSE NEIGHBOUR: 'it returns false'. Refute it at one input. -/
def clockRunsWrong : ChangeSpec := { name := "clockRuns", fn := fun _ => fun
  | [d1, d2] => { results := [.lit (.bool false)], args := [d1, d2] }
  | _ => none }
def ClockRunsWrongFalsely : Prop := clockRunsRow.holds Try.pinned (OpenSpec.ofChange clockRunsWrong)

/-- 'remontoirelaw05.ClockDivs': WHATEVER THE INPUT: true; the input reads as it did. -/
def clockDivsSpec : ChangeSpec := { name := "clockDivs", fn := fun _ => fun
  | [d1, d2, d3] => { results := [.lit (.bool true)], args := [d1, d2, d3] }
  | _ => none }
def clockDivsRow : OpenClaim := { program := "ytcpalglmnondmaa", sum := "e9151cba1ddbb68514394722929db1477f498af81bcca53fe8bb8fd3633c7477", func := "remontoire/remontoirelaw05.ClockDivs", spec := "clockDivs", apart := false }
def ClockDivsSaid : Prop := clockDivsRow.holds Try.pinned (OpenSpec.ofChange clockDivsSpec)

/-- ITS FALSE NEIGHBOUR: 'it returns false'. Refute it at one input. -/
def clockDivsWrong : ChangeSpec := { name := "clockDivs", fn := fun _ => fun
  | [d1, d2, d3] => { results := [.lit (.bool false)], args := [d1, d2, d3] }
  | _ => none }
def ClockDivsWrongFalsely : Prop := clockDivsRow.holds Try.pinned (OpenSpec.ofChange clockDivsWrong)

/-- 'remontoirelaw01.AluAdds': WHATEVER THE INPUT: true; the input reads as it did. -/
def aluAddsSpec : ChangeSpec := { name := "aluAdds", fn := fun _ => fun
  | [d1, d2, d3] => { results := [.lit (.bool true)], args := [d1, d2, d3] }
  | _ => none }
def aluAddsRow : OpenClaim := { program := "ytcpalglmnondmaa", sum := "e9151cba1ddbb68514394722929db1477f498af81bcca53fe8bb8fd3633c7477", func := "remontoire/remontoirelaw01.AluAdds", spec := "aluAdds", apart := false }
def AluAddsSaid : Prop := aluAddsRow.holds Try.pinned (OpenSpec.ofChange aluAddsSpec)

/-- ITS FALSE NEIGHBOUR: 'it returns false'. Refute it at one input. -/
def aluAddsWrong : ChangeSpec := { name := "aluAdds", fn := fun _ => fun
  | [d1, d2, d3] => { results := [.lit (.bool false)], args := [d1, d2, d3] }
  | _ => none }
def AluAddsWrongFalsely : Prop := aluAddsRow.holds Try.pinned (OpenSpec.ofChange aluAddsWrong)

/-- 'remontoirelaw01.AluShifts': WHATEVER THE INPUT: true; the input reads as it did. -/
def aluShiftsSpec : ChangeSpec := { name := "aluShifts", fn := fun _ => fun
  | [d1, d2, d3, d4] => { results := [.lit (.bool true)], args := [d1, d2, d3, d4] }
  | _ => none }
def aluShiftsRow : OpenClaim := { program := "ytcpalglmnondmaa", sum := "e9151cba1ddbb68514394722929db1477f498af81bcca53fe8bb8fd3633c7477", func := "remontoire/remontoirelaw01.AluShifts", spec := "aluShifts", apart := false }
def AluShiftsSaid : Prop := aluShiftsRow.holds Try.pinned (OpenSpec.ofChange aluShiftsSpec)

/-- ITS FALSE NEIGHBOUR: 'it returns false'. Refute it at one input. -/
def aluShiftsWrong : ChangeSpec := { name := "aluShifts", fn := fun _ => fun
  | [d1, d2, d3, d4] => { results := [.lit (.bool false)], args := [d1, d2, d3, d4] }
  | _ => none }
def AluShiftsWrongFalsely : Prop := aluShiftsRow.holds Try.pinned (OpenSpec.ofChange aluShiftsWrong)

/-- 'remontoirelaw01.AluTakes': WHATEVER THE INPUT: true; the input reads as it did. -/
def aluTakesSpec : ChangeSpec := { name := "aluTakes", fn := fun _ => fun
  | [d1, d2] => { results := [.lit (.bool true)], args := [d1, d2] }
  | _ => none }
def aluTakesRow : OpenClaim := { program := "ytcpalglmnondmaa", sum := "e9151cba1ddbb68514394722929db1477f498af81bcca53fe8bb8fd3633c7477", func := "remontoire/remontoirelaw01.AluTakes", spec := "aluTakes", apart := false }
def AluTakesSaid : Prop := aluTakesRow.holds Try.pinned (OpenSpec.ofChange aluTakesSpec)

/-- ITS FALSE NEIGHBOUR: 'it returns false'. Refute it at one input. -/
def aluTakesWrong : ChangeSpec := { name := "aluTakes", fn := fun _ => fun
  | [d1, d2] => { results := [.lit (.bool false)], args := [d1, d2] }
  | _ => none }
def AluTakesWrongFalsely : Prop := aluTakesRow.holds Try.pinned (OpenSpec.ofChange aluTakesWrong)

/-- 'remontoirelaw01.AluLogic': WHATEVER THE INPUT: true; the input reads as it did. -/
def aluLogicSpec : ChangeSpec := { name := "aluLogic", fn := fun _ => fun
  | [d1, d2] => { results := [.lit (.bool true)], args := [d1, d2] }
  | _ => none }
def aluLogicRow : OpenClaim := { program := "ytcpalglmnondmaa", sum := "e9151cba1ddbb68514394722929db1477f498af81bcca53fe8bb8fd3633c7477", func := "remontoire/remontoirelaw01.AluLogic", spec := "aluLogic", apart := false }
def AluLogicSaid : Prop := aluLogicRow.holds Try.pinned (OpenSpec.ofChange aluLogicSpec)

/-- ITS FALSE NEIGHBOUR: 'it returns false'. Refute it at one input. -/
def aluLogicWrong : ChangeSpec := { name := "aluLogic", fn := fun _ => fun
  | [d1, d2] => { results := [.lit (.bool false)], args := [d1, d2] }
  | _ => none }
def AluLogicWrongFalsely : Prop := aluLogicRow.holds Try.pinned (OpenSpec.ofChange aluLogicWrong)

/-- 'remontoirelaw01.AluCarries': WHATEVER THE INPUT: true; the input reads as it did. -/
def aluCarriesSpec : ChangeSpec := { name := "aluCarries", fn := fun _ => fun
  | [d1, d2, d3, d4] => { results := [.lit (.bool true)], args := [d1, d2, d3, d4] }
  | _ => none }
def aluCarriesRow : OpenClaim := { program := "ytcpalglmnondmaa", sum := "e9151cba1ddbb68514394722929db1477f498af81bcca53fe8bb8fd3633c7477", func := "remontoire/remontoirelaw01.AluCarries", spec := "aluCarries", apart := false }
def AluCarriesSaid : Prop := aluCarriesRow.holds Try.pinned (OpenSpec.ofChange aluCarriesSpec)

/-- ITS FALSE NEIGHBOUR: 'it returns false'. Refute it at one input. -/
def aluCarriesWrong : ChangeSpec := { name := "aluCarries", fn := fun _ => fun
  | [d1, d2, d3, d4] => { results := [.lit (.bool false)], args := [d1, d2, d3, d4] }
  | _ => none }
def AluCarriesWrongFalsely : Prop := aluCarriesRow.holds Try.pinned (OpenSpec.ofChange aluCarriesWrong)

/-- 'remontoirelaw05.ClockBetween': WHATEVER THE INPUT: true; the input reads as it did. -/
def clockBetweenSpec : ChangeSpec := { name := "clockBetween", fn := fun _ => fun
  | [d1, d2] => { results := [.lit (.bool true)], args := [d1, d2] }
  | _ => none }
def clockBetweenRow : OpenClaim := { program := "ytcpalglmnondmaa", sum := "e9151cba1ddbb68514394722929db1477f498af81bcca53fe8bb8fd3633c7477", func := "remontoire/remontoirelaw05.ClockBetween", spec := "clockBetween", apart := false }
def ClockBetweenSaid : Prop := clockBetweenRow.holds Try.pinned (OpenSpec.ofChange clockBetweenSpec)

/-- ITS FALSE NEIGHBOUR: 'it returns false'. Refute it at one input. -/
def clockBetweenWrong : ChangeSpec := { name := "clockBetween", fn := fun _ => fun
  | [d1, d2] => { results := [.lit (.bool false)], args := [d1, d2] }
  | _ => none }
def ClockBetweenWrongFalsely : Prop := clockBetweenRow.holds Try.pinned (OpenSpec.ofChange clockBetweenWrong)

/-- 'remontoirelaw01.AluTurns': WHATEVER THE INPUT: true; the input reads as it did. -/
def aluTurnsSpec : ChangeSpec := { name := "aluTurns", fn := fun _ => fun
  | [d1, d2] => { results := [.lit (.bool true)], args := [d1, d2] }
  | _ => none }
def aluTurnsRow : OpenClaim := { program := "ytcpalglmnondmaa", sum := "e9151cba1ddbb68514394722929db1477f498af81bcca53fe8bb8fd3633c7477", func := "remontoire/remontoirelaw01.AluTurns", spec := "aluTurns", apart := false }
def AluTurnsSaid : Prop := aluTurnsRow.holds Try.pinned (OpenSpec.ofChange aluTurnsSpec)

/-- ITS FALSE NEIGHBOUR: 'it returns false'. Refute it at one input. -/
def aluTurnsWrong : ChangeSpec := { name := "aluTurns", fn := fun _ => fun
  | [d1, d2] => { results := [.lit (.bool false)], args := [d1, d2] }
  | _ => none }
def AluTurnsWrongFalsely : Prop := aluTurnsRow.holds Try.pinned (OpenSpec.ofChange aluTurnsWrong)

/-- 'remontoirelaw01.AluParts': WHATEVER THE INPUT: true; the input reads as it did. -/
def aluPartsSpec : ChangeSpec := { name := "aluParts", fn := fun _ => fun
  | [d1, d2, d3] => { results := [.lit (.bool true)], args := [d1, d2, d3] }
  | _ => none }
def aluPartsRow : OpenClaim := { program := "ytcpalglmnondmaa", sum := "e9151cba1ddbb68514394722929db1477f498af81bcca53fe8bb8fd3633c7477", func := "remontoire/remontoirelaw01.AluParts", spec := "aluParts", apart := false }
def AluPartsSaid : Prop := aluPartsRow.holds Try.pinned (OpenSpec.ofChange aluPartsSpec)

/-- ITS FALSE NEIGHBOUR: 'it returns false'. Refute it at one input. -/
def aluPartsWrong : ChangeSpec := { name := "aluParts", fn := fun _ => fun
  | [d1, d2, d3] => { results := [.lit (.bool false)], args := [d1, d2, d3] }
  | _ => none }
def AluPartsWrongFalsely : Prop := aluPartsRow.holds Try.pinned (OpenSpec.ofChange aluPartsWrong)

/- THE SECOND FORM. 'bulk': how many values and letters a reading holds, each counted each time it is reached (what is shared counts as often as it is met; a slice's spare places count too). A statement '..UptoSaid' is the law's where the arguments, and the package variables that the reading takes, are together of bulk at most 1048576: NARROWER than '..Said'. Prove '..Said' where nothing that the law and all that it calls make is longer than what came in: it says more and counts as full. Else prove '..UptoSaid'. A law counts once. -/
mutual
def uptoBulk {H : Type} : DataW H → Nat
  | .lit (.string bytes) => bytes.length + 1
  | .lit _ => 1
  | .nil => 1
  | .ptr d => uptoBulk d + 1
  | .slice elems spare => uptoBulkAll elems + uptoBulkAll spare + 1
  | .agg parts => uptoBulkAll parts + 1
  | .iface _ d => uptoBulk d + 1
  | .map entries => uptoBulkEntries entries + 1
  | .held _ => 1
def uptoBulkAll {H : Type} : List (DataW H) → Nat
  | [] => 0
  | d :: r => uptoBulk d + uptoBulkAll r
def uptoBulkEntries {H : Type} : List (Lit × DataW H) → Nat
  | [] => 0
  | x :: r => uptoBulkEntry x + uptoBulkEntries r
def uptoBulkEntry {H : Type} : Lit × DataW H → Nat
  | (.string bytes, d) => bytes.length + uptoBulk d + 1
  | (_, d) => uptoBulk d + 1
 end
def uptoSmall : (H : Type) → List (DataW H) → Bool := fun _ ds => decide (uptoBulkAll ds ≤ 1048576)
def OpenSpec.upto (s : _root_.Go.ChangeSpec) : _root_.Go.OpenSpec := { _root_.Go.OpenSpec.ofChange s with cond := some uptoSmall }

/-- 'remontoirelaw05.ClockFetches', WHERE WHAT IT READS IS OF BULK AT MOST 1048576: true; the input reads as it did. -/
def clockFetchesUptoRow : OpenClaim := { program := "ytcpalglmnondmaa", sum := "e9151cba1ddbb68514394722929db1477f498af81bcca53fe8bb8fd3633c7477", func := "remontoire/remontoirelaw05.ClockFetches", spec := "clockFetches", apart := false, narrowed := true }
def ClockFetchesUptoSaid : Prop := clockFetchesUptoRow.holds Try.pinned (OpenSpec.upto clockFetchesSpec)

/-- 'remontoirelaw05.ClockRuns', WHERE WHAT IT READS IS OF BULK AT MOST 1048576: true; the input reads as it did. -/
def clockRunsUptoRow : OpenClaim := { program := "ytcpalglmnondmaa", sum := "e9151cba1ddbb68514394722929db1477f498af81bcca53fe8bb8fd3633c7477", func := "remontoire/remontoirelaw05.ClockRuns", spec := "clockRuns", apart := false, narrowed := true }
def ClockRunsUptoSaid : Prop := clockRunsUptoRow.holds Try.pinned (OpenSpec.upto clockRunsSpec)

/-- 'remontoirelaw05.ClockDivs', WHERE WHAT IT READS IS OF BULK AT MOST 1048576: true; the input reads as it did. -/
def clockDivsUptoRow : OpenClaim := { program := "ytcpalglmnondmaa", sum := "e9151cba1ddbb68514394722929db1477f498af81bcca53fe8bb8fd3633c7477", func := "remontoire/remontoirelaw05.ClockDivs", spec := "clockDivs", apart := false, narrowed := true }
def ClockDivsUptoSaid : Prop := clockDivsUptoRow.holds Try.pinned (OpenSpec.upto clockDivsSpec)

/-- 'remontoirelaw01.AluAdds', WHERE WHAT IT READS IS OF BULK AT MOST 1048576: true; the input reads as it did. -/
def aluAddsUptoRow : OpenClaim := { program := "ytcpalglmnondmaa", sum := "e9151cba1ddbb68514394722929db1477f498af81bcca53fe8bb8fd3633c7477", func := "remontoire/remontoirelaw01.AluAdds", spec := "aluAdds", apart := false, narrowed := true }
def AluAddsUptoSaid : Prop := aluAddsUptoRow.holds Try.pinned (OpenSpec.upto aluAddsSpec)

/-- 'remontoirelaw01.AluShifts', WHERE WHAT IT READS IS OF BULK AT MOST 1048576: true; the input reads as it did. -/
def aluShiftsUptoRow : OpenClaim := { program := "ytcpalglmnondmaa", sum := "e9151cba1ddbb68514394722929db1477f498af81bcca53fe8bb8fd3633c7477", func := "remontoire/remontoirelaw01.AluShifts", spec := "aluShifts", apart := false, narrowed := true }
def AluShiftsUptoSaid : Prop := aluShiftsUptoRow.holds Try.pinned (OpenSpec.upto aluShiftsSpec)

/-- 'remontoirelaw01.AluTakes', WHERE WHAT IT READS IS OF BULK AT MOST 1048576: true; the input reads as it did. -/
def aluTakesUptoRow : OpenClaim := { program := "ytcpalglmnondmaa", sum := "e9151cba1ddbb68514394722929db1477f498af81bcca53fe8bb8fd3633c7477", func := "remontoire/remontoirelaw01.AluTakes", spec := "aluTakes", apart := false, narrowed := true }
def AluTakesUptoSaid : Prop := aluTakesUptoRow.holds Try.pinned (OpenSpec.upto aluTakesSpec)

/-- 'remontoirelaw01.AluLogic', WHERE WHAT IT READS IS OF BULK AT MOST 1048576: true; the input reads as it did. -/
def aluLogicUptoRow : OpenClaim := { program := "ytcpalglmnondmaa", sum := "e9151cba1ddbb68514394722929db1477f498af81bcca53fe8bb8fd3633c7477", func := "remontoire/remontoirelaw01.AluLogic", spec := "aluLogic", apart := false, narrowed := true }
def AluLogicUptoSaid : Prop := aluLogicUptoRow.holds Try.pinned (OpenSpec.upto aluLogicSpec)

/-- 'remontoirelaw01.AluCarries', WHERE WHAT IT READS IS OF BULK AT MOST 1048576: true; the input reads as it did. -/
def aluCarriesUptoRow : OpenClaim := { program := "ytcpalglmnondmaa", sum := "e9151cba1ddbb68514394722929db1477f498af81bcca53fe8bb8fd3633c7477", func := "remontoire/remontoirelaw01.AluCarries", spec := "aluCarries", apart := false, narrowed := true }
def AluCarriesUptoSaid : Prop := aluCarriesUptoRow.holds Try.pinned (OpenSpec.upto aluCarriesSpec)

/-- 'remontoirelaw05.ClockBetween', WHERE WHAT IT READS IS OF BULK AT MOST 1048576: true; the input reads as it did. -/
def clockBetweenUptoRow : OpenClaim := { program := "ytcpalglmnondmaa", sum := "e9151cba1ddbb68514394722929db1477f498af81bcca53fe8bb8fd3633c7477", func := "remontoire/remontoirelaw05.ClockBetween", spec := "clockBetween", apart := false, narrowed := true }
def ClockBetweenUptoSaid : Prop := clockBetweenUptoRow.holds Try.pinned (OpenSpec.upto clockBetweenSpec)

/-- 'remontoirelaw01.AluTurns', WHERE WHAT IT READS IS OF BULK AT MOST 1048576: true; the input reads as it did. -/
def aluTurnsUptoRow : OpenClaim := { program := "ytcpalglmnondmaa", sum := "e9151cba1ddbb68514394722929db1477f498af81bcca53fe8bb8fd3633c7477", func := "remontoire/remontoirelaw01.AluTurns", spec := "aluTurns", apart := false, narrowed := true }
def AluTurnsUptoSaid : Prop := aluTurnsUptoRow.holds Try.pinned (OpenSpec.upto aluTurnsSpec)

/-- 'remontoirelaw01.AluParts', WHERE WHAT IT READS IS OF BULK AT MOST 1048576: true; the input reads as it did. -/
def aluPartsUptoRow : OpenClaim := { program := "ytcpalglmnondmaa", sum := "e9151cba1ddbb68514394722929db1477f498af81bcca53fe8bb8fd3633c7477", func := "remontoire/remontoirelaw01.AluParts", spec := "aluParts", apart := false, narrowed := true }
def AluPartsUptoSaid : Prop := aluPartsUptoRow.holds Try.pinned (OpenSpec.upto aluPartsSpec)

end Rows
end Go.Proofs.Ytcpalglmnondmaa

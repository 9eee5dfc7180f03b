/- What the two listed tables give the walks of chapter 3's laws, and a heap that meets the condition; an instruction by value, opened. -/
import Derived.Test.YthpkejlmelednaaDoorRows
import Derived.Test.YthpkejlmelednaaDoorInstO
import Derived.Test.YthpkejlmelednaaDoorOpenS
import Derived.LaidMore
import Derived.Stop.Joined
import Derived.Stop.LaidErr
import Derived.Lib.LaidTab
namespace Go.Proofs.YthpkejlmelednaaDoor.instLaid
open Go.ChangeShapes Go.WideShapes Go.ChangeAt Go.RowKit Go.Joins Go.Deep

def laidList : List (String × DataW Unit) := [("remontoire/imm.factors", Rows.laid_remontoire_imm_factors), ("remontoire/inst.shapes", Rows.laid_remontoire_inst_shapes)]
def fuel : Nat := 3000

theorem door_met (os : Os) (args : Array Value) : laidMetH Tryd.prog laidList ((World.doorLaid Tryd.prog fuel os).forCall (fun _ _ => 0) ⟨#[], args, []⟩).memory :=
  laidMetH_of_parts3 (fuel := 8) (laidMet_of_run' 8 (by kernel_rfl) (by kernel_rfl)) (by kernel_rfl) (by kernel_rfl)

def facTab : Ev.Tab := (2, .u32, [1, 65537, 16777472, 16843009])
theorem of_laid2 {W : World} (h : laidMetH Tryd.prog laidList W) : Ev.TabOk W facTab ∧ Ev.TabOk W Ev.shTab := by
  rw [MakeChecks.laidMetH_plain _ _ _ (by kernel_rfl)] at h
  constructor
  · have t : Lib.TabIs Tryd.prog W "remontoire/imm.factors" .u32 [1, 65537, 16777472, 16843009] :=
      Lib.tabIs_of_head (g := 2) (t := 156) (e := 25) (n := 4) (by kernel_rfl) (by kernel_rfl) Tryd.underlying156 Tryd.underlying25 (by kernel_rfl) (by kernel_rfl) h
    unfold Lib.TabIs World.var? at t
    rw [show Tryd.prog.globalNamed "remontoire/imm.factors" = some 2 by kernel_rfl] at t
    simp only [Option.bind_some] at t
    split at t
    · rename_i cs ty fr hh
      cases t
      exact ⟨ty, fr, hh⟩
    · cases t
  · have t : Lib.TabIs Tryd.prog W "remontoire/inst.shapes" .i64 Rm.shapesL :=
      Lib.tabIs_of_head (g := 0) (t := 137) (e := 106) (n := 101) (rest := []) (by kernel_rfl) (by kernel_rfl) Tryd.underlying137 Tryd.underlying106 (by kernel_rfl) (by kernel_rfl) (laidMet.tail h)
    unfold Lib.TabIs World.var? at t
    rw [show Tryd.prog.globalNamed "remontoire/inst.shapes" = some 0 by kernel_rfl] at t
    simp only [Option.bind_some] at t
    split at t
    · rename_i cs ty fr hh
      cases t
      exact ⟨ty, fr, hh⟩
    · cases t
theorem of_laid {W : World} (h : laidMetH Tryd.prog laidList W) : Ev.TabOk W Ev.shTab := (of_laid2 h).2

section
variable {H : Type} {enc : TypeId × Value → H} {w : World} {base : Nat} {spare : Nat → Bool} {held : Bool}
set_option maxRecDepth 100000 in
theorem open_inst {r : Reach} {b0 : Nat} {v : Value} {d : DataW H} {p : List MemPlace} (hv : Value.okWide Tryd.prog w r b0 24 v) (h : DataW.Trod enc Tryd.prog w base spare held 24 v d p) :
    ∃ l : List Int, v = Ev.instVals l ∧ l.length = 11 ∧ ∀ x ∈ l, -9223372036854775808 ≤ x ∧ x ≤ 9223372036854775807 := by
  obtain ⟨l, h1, h2, h3⟩ := open_ints_struct (P := Tryd.prog) (w := w) (k := .i64) Tryd.underlying24 (by kernel_rfl) (by kernel_rfl) (fun i f hf => by
    have hi : i < 11 := (Array.getElem?_eq_some_iff.1 hf).1
    have hm := Array.mem_of_getElem? hf
    simp only [List.mem_toArray, List.mem_cons, List.not_mem_nil, or_false] at hm
    rcases hm with rfl | rfl | rfl | rfl | rfl | rfl | rfl | rfl | rfl | rfl | rfl <;> (show Tryd.prog.underlying _ = some (.int .i64); kernel_rfl)) hv h
  exact ⟨l, h2, h1, fun x hx => Go.bounds_i64 (h3 x hx)⟩
end

end Go.Proofs.YthpkejlmelednaaDoor.instLaid

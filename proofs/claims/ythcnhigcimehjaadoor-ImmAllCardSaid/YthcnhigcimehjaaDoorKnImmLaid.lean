/- What the listed table gives the walks of chapter 2's laws, and a heap that meets the condition. -/
import Derived.Test.YthcnhigcimehjaaDoorRows
import Derived.Test.YthcnhigcimehjaaDoorKnImmA
import Derived.ProofKit
import Derived.LaidMore
import Derived.OpenShut
import Derived.Stop.Joined
import Derived.Lib.LaidTab
namespace Go.Proofs.YthcnhigcimehjaaDoor.immLaid
open Go.ChangeShapes Go.WideShapes Go.ChangeAt Go.RowKit

def laidList : List (String × DataW Unit) := [("remontoire/imm.factors", Rows.laid_remontoire_imm_factors)]
def fuel : Nat := 2000

theorem door_met (os : Os) (args : Array Value) : laidMetH Tryd.prog laidList ((World.doorLaid Tryd.prog fuel os).forCall (fun _ _ => 0) ⟨#[], args, []⟩).memory :=
  laidMetH_of_parts3 (fuel := 8) (laidMet_of_run' 8 (by kernel_rfl) (by kernel_rfl)) (by kernel_rfl) (by kernel_rfl)

theorem of_laid {W : World} (h : laidMetH Tryd.prog laidList W) : Fac W := by
  rw [MakeChecks.laidMetH_plain _ _ _ (by kernel_rfl)] at h
  have t : Lib.TabIs Tryd.prog W "remontoire/imm.factors" .u32 [1, 65537, 16777472, 16843009] :=
    Lib.tabIs_of_head (g := 0) (t := 39) (e := 26) (n := 4) (rest := []) (by kernel_rfl) (by kernel_rfl) Tryd.underlying39 Tryd.underlying26 (by kernel_rfl) (by kernel_rfl) h
  unfold Lib.TabIs World.var? at t
  rw [show Tryd.prog.globalNamed "remontoire/imm.factors" = some 0 by kernel_rfl] at t
  simp only [Option.bind_some] at t
  split at t
  · rename_i cs ty fr hh
    cases t
    exact ⟨ty, fr, hh⟩
  · cases t

end Go.Proofs.YthcnhigcimehjaaDoor.immLaid

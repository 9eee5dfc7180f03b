/- Lists of nodes that come in, opened; a heap that meets the condition of chapter 11's laws. -/
import Derived.Test.YtnjmfedleimlmaaDoorRows
import Derived.Test.YtnjmfedleimlmaaDoorJdTermA
import Derived.ProofKit
import Derived.LaidMore
import Derived.OpenShut
import Derived.Stop.Joined
import Derived.Lib.LaidTab
import Derived.Deep.SlicePairs
namespace Go.Proofs.YtnjmfedleimlmaaDoor.termLaid
open Go.ChangeShapes Go.WideShapes Go.ChangeAt Go.RowKit Go.Deep

def laidList : List (String × DataW Unit) := [("remontoire/term.all", Rows.laid_remontoire_term_all)]
def fuel : Nat := 2000

theorem door_met (os : Os) (args : Array Value) : laidMetH Tryd.prog laidList ((World.doorLaid Tryd.prog fuel os).forCall (fun _ _ => 0) ⟨#[], args, []⟩).memory :=
  laidMetH_of_parts3 (fuel := 8) (laidMet_of_run' 8 (by kernel_rfl) (by kernel_rfl)) (by kernel_rfl) (by kernel_rfl)
theorem of_laid {W : World} (_ : laidMetH Tryd.prog laidList W) : True := trivial

/-- nodes that came in: the list, where it lies, its capacity -/
abbrev In := List (Int × Int) × Option Addr × Nat
def InOk (x : In) : Prop := x.1.length ≤ 9223372036854775807 ∧ ∀ y ∈ x.1, (-9223372036854775808 ≤ y.1 ∧ y.1 ≤ 9223372036854775807) ∧ 0 ≤ y.2 ∧ y.2 ≤ 4294967295
section
variable {H : Type} {enc : TypeId × Value → H} {w : World} {base : Nat} {held : Bool}
set_option maxRecDepth 100000 in
theorem open_nodes {r : Reach} {b0 : Nat} {v : Value} {d : DataW H} {p : List MemPlace} (hv : Value.okWide Tryd.prog w r b0 22 v) (h : DataW.Trod enc Tryd.prog w base (fun _ => true) held 22 v d p) :
    ∃ x : In, v = .slice x.2.1 x.1.length x.2.2 ∧ InOk x ∧ NodesAt w x.2.1 x.1 w.heap.size := by
  obtain ⟨a0, len0, cap0, rfl⟩ := okWide_slice Tryd.underlying22 hv
  obtain ⟨fuel, hf⟩ := h
  rcases open_slice_pairs Tryd.underlying22 Tryd.underlying115 (by kernel_rfl) rfl rfl (by kernel_rfl) (by kernel_rfl) hf with ⟨hcs, _⟩ | ⟨a, len, cap, m, n, V0, V1, D0, D1, P0, P1, hcs, _, hl, hm, hmm, _, hx⟩
  · simp [Value.cells] at hcs
    obtain ⟨rfl, rfl, rfl⟩ := hcs
    exact ⟨([], none, 0), rfl, ⟨by simp, by simp⟩, fun i x hx => by simp at hx⟩
  · simp [Value.cells] at hcs
    obtain ⟨rfl, rfl, rfl⟩ := hcs
    simp only [if_true] at hmm
    subst hmm
    have hi : ∀ i, i < len0 → ∃ y : Int × Int, w.cell? (a.add (i * 2)) = some (.int .i64 y.1) ∧ w.cell? (a.add (i * 2 + 1)) = some (.int .u32 y.2) ∧ (-9223372036854775808 ≤ y.1 ∧ y.1 ≤ 9223372036854775807) ∧ 0 ≤ y.2 ∧ y.2 ≤ 4294967295 := fun i hi => by
      obtain ⟨h1, h2, h3, h4⟩ := hx i (by omega)
      obtain ⟨z, hz, _, hw⟩ := DataW.trod_int (show Tryd.prog.underlying _ = some (.int .i64) from Tryd.underlying3) h3
      obtain ⟨z', hz', _, hw'⟩ := DataW.trod_int (show Tryd.prog.underlying _ = some (.int .u32) from Tryd.underlying25) h4
      simp only [List.cons.injEq, and_true] at hz hz'
      exact ⟨(z, z'), hz ▸ h1, hz' ▸ h2, Go.bounds_i64 hw, Go.bounds_u32 hw'⟩
    obtain ⟨f, hf⟩ : ∃ f : Nat → Int × Int, ∀ i, i < len0 → w.cell? (a.add (i * 2)) = some (.int .i64 (f i).1) ∧ w.cell? (a.add (i * 2 + 1)) = some (.int .u32 (f i).2) ∧ (-9223372036854775808 ≤ (f i).1 ∧ (f i).1 ≤ 9223372036854775807) ∧ 0 ≤ (f i).2 ∧ (f i).2 ≤ 4294967295 := by
      classical
      exact ⟨fun i => if h : i < len0 then (hi i h).choose else (0, 0), fun i h => by dsimp only; rw [dif_pos h]; exact (hi i h).choose_spec⟩
    refine ⟨((List.range len0).map f, some a, m), by simp, ⟨by rw [List.length_map, List.length_range]; exact Nat.le_trans hl hm, fun y hy => ?_⟩, fun i x hx => ?_⟩
    · obtain ⟨i, hi, rfl⟩ := List.mem_map.1 hy
      exact (hf i (List.mem_range.1 hi)).2.2
    · simp only [List.getElem?_map, Option.map_eq_some_iff] at hx
      obtain ⟨j, hj, rfl⟩ := hx
      obtain ⟨hj1, rfl⟩ := List.getElem?_eq_some_iff.1 hj
      simp only [List.length_range] at hj1
      rw [List.getElem_range]
      have hf0 := hf 0 (by omega)
      have hfi := hf i hj1
      obtain ⟨b, off, spot⟩ := a
      have hs : spot = none := by simpa [Addr.add] using World.cell?_spot hf0.1
      subst hs
      have e : ∀ k, (⟨b, off, none⟩ : Addr).add k = ⟨b, off + k, none⟩ := fun k => by unfold Addr.add; split <;> simp_all
      rw [e, e] at hfi
      have hlt := World.block_lt_of_cell? w _ hfi.1
      exact ⟨b, off, rfl, hlt, hlt, hfi.1, by have := hfi.2.1; rwa [← Nat.add_assoc] at this⟩
end

end Go.Proofs.YtnjmfedleimlmaaDoor.termLaid

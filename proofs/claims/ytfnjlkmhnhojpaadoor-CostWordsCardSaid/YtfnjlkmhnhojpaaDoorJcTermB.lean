/- The term that a list of nodes begins with: the walk of built. -/
import Derived.Test.YtfnjlkmhnhojpaaDoorJcTermA
namespace Go.Proofs.YtfnjlkmhnhojpaaDoor
open Go Go.RowKit

/-- what built leaves -/
def BuiltPost (w : World) (B : Nat) (r : T × Nat) (e : Ending) (w' : World) : Prop :=
  ∃ s bl, e = .returned (.agg #[.int .i64 r.1.op, .int .u32 r.1.num, s]) ∧ r.1.IsS w' s bl ∧ (∀ b ∈ bl, w.heap.size ≤ b ∧ b < w'.heap.size) ∧ Kept B w w' ∧ Blk w' B 3 #[.int .i64 r.2]

section
variable (l : List (Int × Int)) (pl : Option Addr) (cap M B : Nat)

theorem built_close_one {w W0 wa w1 : World} {B gg cp : Nat} {o : Int} {A : T} {sa q : Value} {bla : List Nat} {o1 : Obj} {u0 u1 u2 u3 : Value} (hK0 : Kept B w W0) (hZ0 : W0.heap.size = w.heap.size + 1 + 1 + 1) (hlt : B < w.heap.size) (hKa : Kept B W0.drew wa) (hBa : Blk wa B 3 #[q])
    (hSa : A.IsS wa sa bla) (hLa : ∀ b ∈ bla, W0.drew.heap.size ≤ b ∧ b < wa.heap.size) (hgrow : (wa.alloc o1).grownBy w1 (Value.slice none 0 0).ownBlock) (hown : w1.ownsRow 0 28 3 (.slice (some ⟨gg, 0, none⟩) (0 + 1) cp) (0 + 1) ([] ++ [.int .i64 A.op, .int .u32 A.num, sa]))
    (hat : (Value.slice none 0 0).ownBlock = some gg ∨ gg = wa.heap.size + 1) (hg1 : gg < w1.heap.size) :
    let wf := (((w1.setCell ⟨w.heap.size + 1 + 1, 2, none⟩ u0).setCell ⟨w.heap.size, 0, none⟩ u1).setCell ⟨w.heap.size, 1, none⟩ u2).setCell ⟨w.heap.size, 2, none⟩ u3
    (T.one o 0 A).IsS wf (.slice (some ⟨gg, 0, none⟩) 1 cp) (gg :: bla) ∧ (∀ b ∈ gg :: bla, w.heap.size ≤ b ∧ b < wf.heap.size) ∧ Kept B w wf ∧ Blk wf B 3 #[q] := by
  intro wf
  have hgg : gg = wa.heap.size + 1 := by
    rcases hat with h | h
    · simp [Value.ownBlock] at h
    · exact h
  have z1 : W0.drew.heap.size = W0.heap.size := rfl
  have z2 := hKa.size
  have z3 : (wa.alloc o1).heap.size = wa.heap.size + 1 := by simp
  have z4 := hgrow.size
  have hK : Kept B w wf := (((((((hK0.trans (Kept.drew W0)).trans hKa).trans (Kept.alloc wa o1)).grown hgrow (fun r e => by simp [Value.ownBlock] at e)).setNew _ (by simp; omega)).setNew _ (by simp)).setNew _ (by simp)).setNew _ (by simp)
  have hf : ∀ k, k ≠ w.heap.size + 1 + 1 → k ≠ w.heap.size → wf.heap[k]? = w1.heap[k]? := fun k h1 h2 =>
    (Below.heap_setCell _ _ _ k h2).trans ((Below.heap_setCell _ _ _ k h2).trans ((Below.heap_setCell _ _ _ k h2).trans (Below.heap_setCell _ _ _ k h1)))
  have hw : ∀ k, k < wa.heap.size → w1.heap[k]? = wa.heap[k]? := fun k hk => (hgrow.block k (by omega) (by simp [Value.ownBlock])).trans (Below.heap_alloc wa o1 k hk)
  have hz : wf.heap.size = w1.heap.size := by simp [wf, World.setCell]
  refine ⟨T.IsS.mk_one hown (hf gg (by omega) (by omega)) (hSa.keep fun b hb => ?_), ?_, hK, ?_⟩
  · obtain ⟨h1, h2⟩ := hLa b hb
    exact (hf b (by omega) (by omega)).trans (hw b h2)
  · intro b hb
    rcases List.mem_cons.1 hb with rfl | hb
    · omega
    · obtain ⟨h1, h2⟩ := hLa b hb
      omega
  · exact ((hf B (by omega) (by omega)).trans (hw B hBa.lt)).trans hBa
theorem termInfo : (Tryd.prog.info? 28).map (fun i => (i.zero, i.size, i.bytes)) = some (some (.agg #[.int .i64 0, .int .u32 0, .slice none 0 0]), 3, 40) := by kernel_rfl
end

end Go.Proofs.YtfnjlkmhnhojpaaDoor

/- The term that a list of nodes begins with: the walk of built where there are two terms; and all of it. -/
import Derived.Test.YtfnjlkmhnhojpaaDoorJcTermB
namespace Go.Proofs.YtfnjlkmhnhojpaaDoor
open Go Go.RowKit

/-- behind the first term -/
structure Mid (w V : World) (B gg : Nat) (o : Int) (A : T) (s sa q : Value) (bla : List Nat) : Prop where
  kept : Kept B w V
  size : w.heap.size + 3 ≤ gg ∧ gg < V.heap.size
  at_ : Blk V B 3 #[q]
  loc : Blk V (w.heap.size + 1 + 1) 28 #[.int .i64 o, .int .u32 0, s]
  res : Blk V w.heap.size 28 #[.int .i64 0, .int .u32 0, .slice none 0 0]
  own : V.ownsRow 0 28 3 s 1 [.int .i64 A.op, .int .u32 A.num, sa]
  sub : A.IsS V sa bla
  lie : ∀ b ∈ bla, w.heap.size + 3 ≤ b ∧ b < gg
theorem mid_mk {w W0 wa w1 : World} {B gg cp : Nat} {o : Int} {A : T} {sa q : Value} {bla : List Nat} {o1 : Obj} (hK0 : Kept B w W0) (hZ0 : W0.heap.size = w.heap.size + 1 + 1 + 1) (hlt : B < w.heap.size) (hKa : Kept B W0.drew wa) (hBa : Blk wa B 3 #[q])
    (hSa : A.IsS wa sa bla) (hLa : ∀ b ∈ bla, W0.drew.heap.size ≤ b ∧ b < wa.heap.size) (hgrow : (wa.alloc o1).grownBy w1 (Value.slice none 0 0).ownBlock) (hown : w1.ownsRow 0 28 3 (.slice (some ⟨gg, 0, none⟩) (0 + 1) cp) (0 + 1) ([] ++ [.int .i64 A.op, .int .u32 A.num, sa]))
    (hat : (Value.slice none 0 0).ownBlock = some gg ∨ gg = wa.heap.size + 1) (hg1 : gg < w1.heap.size)
    (hTg : Blk w1 (w.heap.size + 1 + 1) 28 #[.int .i64 o, .int .u32 0, .slice none 0 0]) (hRg : Blk w1 w.heap.size 28 #[.int .i64 0, .int .u32 0, .slice none 0 0]) :
    Mid w (w1.setCell ⟨w.heap.size + 1 + 1, 2, none⟩ (.slice (some ⟨gg, 0, none⟩) 1 cp)) B gg o A (.slice (some ⟨gg, 0, none⟩) 1 cp) sa q bla := by
  have hgg : gg = wa.heap.size + 1 := by
    rcases hat with h | h
    · simp [Value.ownBlock] at h
    · exact h
  have z1 : W0.drew.heap.size = W0.heap.size := rfl
  have z2 := hKa.size
  have z3 : (wa.alloc o1).heap.size = wa.heap.size + 1 := by simp
  have z4 := hgrow.size
  have hf : ∀ k, k ≠ w.heap.size + 1 + 1 → (w1.setCell ⟨w.heap.size + 1 + 1, 2, none⟩ (.slice (some ⟨gg, 0, none⟩) 1 cp)).heap[k]? = w1.heap[k]? := fun k h1 => Below.heap_setCell _ _ _ k h1
  have hw : ∀ k, k < wa.heap.size → w1.heap[k]? = wa.heap[k]? := fun k hk => (hgrow.block k (by omega) (by simp [Value.ownBlock])).trans (Below.heap_alloc wa o1 k hk)
  refine ⟨(((((hK0.trans (Kept.drew W0)).trans hKa).trans (Kept.alloc wa o1)).grown hgrow (fun r e => by simp [Value.ownBlock] at e)).setNew _ (by simp; omega)), ⟨by omega, by simpa [World.setCell] using hg1⟩, ((hf B (by omega)).trans (hw B hBa.lt)).trans hBa, hTg.set_ 2 _, hRg.far (by show w.heap.size ≠ w.heap.size + 1 + 1; omega) _, ?_, hSa.keep fun b hb => ?_, fun b hb => ?_⟩
  · exact World.ownsRow.kept hown (grown_set _ _ _) (.inr (by simp [Value.ownBlock]; omega))
  · obtain ⟨h1, h2⟩ := hLa b hb
    by_cases hb2 : b = w.heap.size + 1 + 1
    · omega
    · exact (hf b hb2).trans (hw b h2)
  · obtain ⟨h1, h2⟩ := hLa b hb
    omega
theorem built_close_two {w V wb w2 : World} {B gg cp g2 cp2 : Nat} {o : Int} {A C : T} {sa sb q q2 : Value} {bla blb : List Nat} {o1 : Obj} {u0 u1 u2 u3 : Value} (hM : Mid w V B gg o A (.slice (some ⟨gg, 0, none⟩) 1 cp) sa q bla) (hlt : B < w.heap.size) (hKb : Kept B V.drew wb) (hBb : Blk wb B 3 #[q2])
    (hSb : C.IsS wb sb blb) (hLb : ∀ b ∈ blb, V.drew.heap.size ≤ b ∧ b < wb.heap.size) (hgrow : (wb.alloc o1).grownBy w2 (Value.slice (some ⟨gg, 0, none⟩) 1 cp).ownBlock)
    (hown : w2.ownsRow 0 28 3 (.slice (some ⟨g2, 0, none⟩) (1 + 1) cp2) (1 + 1) ([.int .i64 A.op, .int .u32 A.num, sa] ++ [.int .i64 C.op, .int .u32 C.num, sb]))
    (hat : (Value.slice (some ⟨gg, 0, none⟩) 1 cp).ownBlock = some g2 ∨ g2 = wb.heap.size + 1) (hg1 : g2 < w2.heap.size) :
    let wf := (((w2.setCell ⟨w.heap.size + 1 + 1, 2, none⟩ u0).setCell ⟨w.heap.size, 0, none⟩ u1).setCell ⟨w.heap.size, 1, none⟩ u2).setCell ⟨w.heap.size, 2, none⟩ u3
    (T.two o 0 A C).IsS wf (.slice (some ⟨g2, 0, none⟩) 2 cp2) (g2 :: (bla ++ blb)) ∧ (∀ b ∈ g2 :: (bla ++ blb), w.heap.size ≤ b ∧ b < wf.heap.size) ∧ Kept B w wf ∧ Blk wf B 3 #[q2] := by
  intro wf
  have hgg : g2 = gg ∨ g2 = wb.heap.size + 1 := by
    rcases hat with h | h
    · simp [Value.ownBlock] at h; exact .inl h.symm
    · exact .inr h
  have z0 := hM.size
  have z1 : V.drew.heap.size = V.heap.size := rfl
  have z2 := hKb.size
  have z3 : (wb.alloc o1).heap.size = wb.heap.size + 1 := by simp
  have z4 := hgrow.size
  have hrow : ∀ r, (Value.slice (some ⟨gg, 0, none⟩) 1 cp).ownBlock = some r → w.heap.size ≤ r := fun r e => by simp [Value.ownBlock] at e; omega
  have hK : Kept B w wf := (((((((hM.kept.trans (Kept.drew V)).trans hKb).trans (Kept.alloc wb o1)).grown hgrow hrow).setNew _ (by simp; omega)).setNew _ (by simp)).setNew _ (by simp)).setNew _ (by simp)
  have hf : ∀ k, k ≠ w.heap.size + 1 + 1 → k ≠ w.heap.size → wf.heap[k]? = w2.heap[k]? := fun k h1 h2 =>
    (Below.heap_setCell _ _ _ k h2).trans ((Below.heap_setCell _ _ _ k h2).trans ((Below.heap_setCell _ _ _ k h2).trans (Below.heap_setCell _ _ _ k h1)))
  have hw : ∀ k, k < wb.heap.size → k ≠ gg → w2.heap[k]? = wb.heap[k]? := fun k hk hg => (hgrow.block k (by omega) (by simpa [Value.ownBlock] using hg)).trans (Below.heap_alloc wb o1 k hk)
  have hz : wf.heap.size = w2.heap.size := by simp [wf, World.setCell]
  refine ⟨T.IsS.mk_two hown (hf g2 (by omega) (by omega)) (hM.sub.keep fun b hb => ?_) (hSb.keep fun b hb => ?_), ?_, hK, ?_⟩
  · obtain ⟨h1, h2⟩ := hM.lie b hb
    exact ((hf b (by omega) (by omega)).trans (hw b (by omega) (by omega))).trans (hKb.block b (by omega) (by omega))
  · obtain ⟨h1, h2⟩ := hLb b hb
    exact (hf b (by omega) (by omega)).trans (hw b h2 (by omega))
  · intro b hb
    rcases List.mem_cons.1 hb with rfl | hb
    · omega
    · rcases List.mem_append.1 hb with hb | hb
      · obtain ⟨h1, h2⟩ := hM.lie b hb
        omega
      · obtain ⟨h1, h2⟩ := hLb b hb
        omega
  · exact ((hf B (by omega) (by omega)).trans (hw B hBb.lt (by omega))).trans hBb

section
variable (l : List (Int × Int)) (pl : Option Addr) (cap M B : Nat)
end

end Go.Proofs.YtfnjlkmhnhojpaaDoor

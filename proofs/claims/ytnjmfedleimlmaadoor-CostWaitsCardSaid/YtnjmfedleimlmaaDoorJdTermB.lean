/- The term that a list of nodes begins with: the walk of built. -/
import Derived.Test.YtnjmfedleimlmaaDoorJdTermA
namespace Go.Proofs.YtnjmfedleimlmaaDoor
open Go Go.RowKit

/-- what built leaves -/
def BuiltPost (w : World) (B : Nat) (r : T × Nat) (e : Ending) (w' : World) : Prop :=
  ∃ s bl, e = .returned (.agg #[.int .i64 r.1.op, .int .u32 r.1.num, s]) ∧ r.1.IsS w' s bl ∧ (∀ b ∈ bl, w.heap.size ≤ b ∧ b < w'.heap.size) ∧ Kept B w w' ∧ Blk w' B 3 #[.int .i64 r.2]

section
variable (l : List (Int × Int)) (pl : Option Addr) (cap M B : Nat)
set_option maxHeartbeats 4000000 in
set_option maxRecDepth 100000 in
theorem built_end (hl : l.length ≤ 60) (i d : Nat) (w : World) (h : l.length ≤ i ∨ 41 ≤ d) (hd : d ≤ 41) (hi : i ≤ 60) (hB : Blk w B 3 #[.int .i64 i]) :
    Calls Tryd.prog 40 #[.slice pl l.length cap, .pointer (some ⟨B, 0, none⟩), .int .i64 d] w (BuiltPost w B (.leaf 1 0, i)) := by
  have hc : w.cell? ⟨B, 0, none⟩ = some (.int .i64 i) := hB.cell 0
  have hlt := hB.lt
  go_enter Tryd.func40, Tryd.ntmps40
  go_wp2_with (go_at_call 39; refine (termOf_any _ _).mono ?_; rintro e w1 ⟨rfl, rfl⟩)
  all_goals
    exact bodyPost_ret (v := .agg #[.int .i64 1, .int .u32 0, .slice none 0 0]) (by simp [results, Tryd.results40, go_sem]) rfl ⟨.slice none 0 0, [], rfl, ⟨rfl, rfl⟩, by simp, (Kept.alloc _ _).trans (Kept.alloc _ _), (hB.alloc _).alloc _⟩

set_option maxHeartbeats 4000000 in
set_option maxRecDepth 100000 in
theorem built_leaf (hl : l.length ≤ 60) (i d : Nat) (x : Int × Int) (w : World) (hx : l[i]? = some x) (hd : d ≤ 40) (hop : ¬ (3 ≤ x.1 ∧ x.1 ≤ 17)) (hB : Blk w B 3 #[.int .i64 i]) (hN : NodesAt w pl l M) (hM : M ≤ B) :
    Calls Tryd.prog 40 #[.slice pl l.length cap, .pointer (some ⟨B, 0, none⟩), .int .i64 d] w (BuiltPost w B (.leaf x.1 x.2, i + 1)) := by
  have hc : w.cell? ⟨B, 0, none⟩ = some (.int .i64 i) := hB.cell 0
  have hlt := hB.lt
  have hf := hB.frozen 0
  have hi : i < l.length := (List.getElem?_eq_some_iff.1 hx).1
  obtain ⟨b, off, rfl, hb1, hb2, hc1, hc2⟩ := hN i x hx
  obtain ⟨o, n⟩ := x
  dsimp only at hop hc1 hc2
  go_enter Tryd.func40, Tryd.ntmps40
  go_wp2
  all_goals
    refine wp_loop_rounds 1 ?_
    iterate 1 (rw [rounds_succ]; go_wp2)
  all_goals
    exact bodyPost_ret (v := .agg #[.int .i64 o, .int .u32 n, .slice none 0 0]) (by simp [results, Tryd.results40, go_sem]) rfl ⟨.slice none 0 0, [], rfl, ⟨rfl, rfl⟩, by simp, (((Kept.set_ w ⟨B, 0, none⟩ _ (.inl rfl)).trans (Kept.alloc _ _)).trans (Kept.alloc _ _)).trans (Kept.alloc _ _), (((hB.set_ 0 _).alloc _).alloc _).alloc _⟩

theorem built_close_one {w W0 wa w1 : World} {B gg cp : Nat} {o : Int} {A : T} {sa q : Value} {bla : List Nat} {o1 : Obj} {u0 u1 u2 u3 : Value} (hK0 : Kept B w W0) (hZ0 : W0.heap.size = w.heap.size + 1 + 1 + 1) (hlt : B < w.heap.size) (hKa : Kept B W0.drew wa) (hBa : Blk wa B 3 #[q])
    (hSa : A.IsS wa sa bla) (hLa : ∀ b ∈ bla, W0.drew.heap.size ≤ b ∧ b < wa.heap.size) (hgrow : (wa.alloc o1).grownBy w1 (Value.slice none 0 0).ownBlock) (hown : w1.ownsRow 0 28 3 (.slice (some ⟨gg, 0, none⟩) (0 + 1) cp) (0 + 1) ([] ++ [.int .i64 A.op, .int .u32 A.num, sa]))
    (hat : (Value.slice none 0 0).ownBlock = some gg ∨ gg = wa.heap.size + 1) (hg1 : gg < w1.heap.size) :
    let wf := (((w1.setCell ⟨w.heap.size + 1 + 1, 2, none⟩ u0).setCell ⟨w.heap.size, 0, none⟩ u1).setCell ⟨w.heap.size, 1, none⟩ u2).setCell ⟨w.heap.size, 2, none⟩ u3
    (T.one o 0 A).IsS wf (.slice (some ⟨gg, 0, none⟩) 1 cp) (gg :: bla) ∧ (∀ b ∈ gg :: bla, w.heap.size ≤ b ∧ b < wf.heap.size) ∧ Kept B w wf ∧ Blk wf B 3 #[q] := by
  intro wf
  have hgg : gg = wa.heap.size + 1 := by
    rcases hat with h | h
    · simp [Value.ownBlock] at h
    · exact h
  have z1 : W0.drew.heap.size = W0.heap.size := rfl
  have z2 := hKa.size
  have z3 : (wa.alloc o1).heap.size = wa.heap.size + 1 := by simp
  have z4 := hgrow.size
  have hK : Kept B w wf := (((((((hK0.trans (Kept.drew W0)).trans hKa).trans (Kept.alloc wa o1)).grown hgrow (fun r e => by simp [Value.ownBlock] at e)).setNew _ (by simp; omega)).setNew _ (by simp)).setNew _ (by simp)).setNew _ (by simp)
  have hf : ∀ k, k ≠ w.heap.size + 1 + 1 → k ≠ w.heap.size → wf.heap[k]? = w1.heap[k]? := fun k h1 h2 =>
    (Below.heap_setCell _ _ _ k h2).trans ((Below.heap_setCell _ _ _ k h2).trans ((Below.heap_setCell _ _ _ k h2).trans (Below.heap_setCell _ _ _ k h1)))
  have hw : ∀ k, k < wa.heap.size → w1.heap[k]? = wa.heap[k]? := fun k hk => (hgrow.block k (by omega) (by simp [Value.ownBlock])).trans (Below.heap_alloc wa o1 k hk)
  have hz : wf.heap.size = w1.heap.size := by simp [wf, World.setCell]
  refine ⟨T.IsS.mk_one hown (hf gg (by omega) (by omega)) (hSa.keep fun b hb => ?_), ?_, hK, ?_⟩
  · obtain ⟨h1, h2⟩ := hLa b hb
    exact (hf b (by omega) (by omega)).trans (hw b h2)
  · intro b hb
    rcases List.mem_cons.1 hb with rfl | hb
    · omega
    · obtain ⟨h1, h2⟩ := hLa b hb
      omega
  · exact ((hf B (by omega) (by omega)).trans (hw B hBa.lt)).trans hBa
theorem termInfo : (Tryd.prog.info? 28).map (fun i => (i.zero, i.size, i.bytes)) = some (some (.agg #[.int .i64 0, .int .u32 0, .slice none 0 0]), 3, 40) := by kernel_rfl
set_option maxHeartbeats 4000000 in
set_option maxRecDepth 100000 in
theorem built_one (hl : l.length ≤ 60) (i d k : Nat) (x : Int × Int) (w : World) (hx : l[i]? = some x) (hd : d ≤ 40) (hop : 3 ≤ x.1 ∧ x.1 ≤ 4) (hB : Blk w B 3 #[.int .i64 i]) (hN : NodesAt w pl l M) (hM : M ≤ B)
    (ih : ∀ (j : Nat) (w : World), j ≤ l.length → Blk w B 3 #[.int .i64 j] → NodesAt w pl l M → Calls Tryd.prog 40 #[.slice pl l.length cap, .pointer (some ⟨B, 0, none⟩), .int .i64 (d + 1)] w (BuiltPost w B (builtT k l j))) :
    Calls Tryd.prog 40 #[.slice pl l.length cap, .pointer (some ⟨B, 0, none⟩), .int .i64 d] w (BuiltPost w B (.one x.1 0 (builtT k l (i + 1)).1, (builtT k l (i + 1)).2)) := by
  have hc : w.cell? ⟨B, 0, none⟩ = some (.int .i64 i) := hB.cell 0
  have hlt := hB.lt
  have hf := hB.frozen 0
  have hi : i < l.length := (List.getElem?_eq_some_iff.1 hx).1
  obtain ⟨b, off, rfl, hb1, hb2, hc1, hc2⟩ := hN i x hx
  obtain ⟨i0, hi0, hz0, hz1, hz2⟩ := info_parts termInfo
  obtain ⟨o, n⟩ := x
  dsimp only at hop hc1 hc2
  go_enter Tryd.func40, Tryd.ntmps40
  go_wp2
  obtain ⟨W0, hW0⟩ : ∃ W0, (((w.setCell ⟨B, 0, none⟩ (.int .i64 (i + 1))).alloc (.cells #[.int .i64 0, .int .u32 0, .slice none 0 0] 28)).alloc (.cells #[.int .i64 o, .int .u32 n] 115)).alloc (.cells #[.int .i64 o, .int .u32 0, .slice none 0 0] 28) = W0 := ⟨_, rfl⟩
  have hK0 : Kept B w W0 := hW0 ▸ (((Kept.set_ w ⟨B, 0, none⟩ _ (.inl rfl)).trans (Kept.alloc _ _)).trans (Kept.alloc _ _)).trans (Kept.alloc _ _)
  have hB0 : Blk W0 B 3 #[.int .i64 ((i + 1 : Nat) : Int)] := hW0 ▸ (((hB.set_ 0 _).alloc _).alloc _).alloc _
  have hZ0 : W0.heap.size = w.heap.size + 1 + 1 + 1 := by rw [← hW0]; simp
  have hR0 : Blk W0 w.heap.size 28 #[.int .i64 0, .int .u32 0, .slice none 0 0] := by
    have := ((Blk.new (w.setCell ⟨B, 0, none⟩ (.int .i64 (i + 1))) 28 #[.int .i64 0, .int .u32 0, .slice none 0 0]).alloc (.cells #[.int .i64 o, .int .u32 n] 115)).alloc (.cells #[.int .i64 o, .int .u32 0, .slice none 0 0] 28)
    rw [hW0] at this; simpa using this
  have hT0 : Blk W0 (w.heap.size + 1 + 1) 28 #[.int .i64 o, .int .u32 0, .slice none 0 0] := by
    have := Blk.new (((w.setCell ⟨B, 0, none⟩ (.int .i64 (i + 1))).alloc (.cells #[.int .i64 0, .int .u32 0, .slice none 0 0] 28)).alloc (.cells #[.int .i64 o, .int .u32 n] 115)) 28 #[.int .i64 o, .int .u32 0, .slice none 0 0]
    rw [hW0] at this; simpa using this
  have hN0 := hN.kept hK0 hM
  rw [hW0]
  clear hc1 hc2 hc hf hW0
  refine wp_loop_rounds 2 ?_
  rw [rounds_succ]
  go_wp2
  have hw : IntKind.i64.wrap ((d : Int) + 1) = d + 1 := by simp only [IntKind.wrap, IntKind.signed, IntKind.bits] <;> simp <;> omega
  have hTd : Blk W0.drew (w.heap.size + 1 + 1) 28 #[.int .i64 o, .int .u32 0, .slice none 0 0] := hT0
  have hRd : Blk W0.drew w.heap.size 28 #[.int .i64 0, .int .u32 0, .slice none 0 0] := hR0
  obtain ⟨hc0, hc1, hc2⟩ := hT0.c3
  obtain ⟨hd0, hd1, hd2⟩ := hTd.c3
  go_region_law
    (first
      | (rw [if_pos (by rfl)]; go_simp; go_at_call 40; refine (ih (i + 1) W0.drew (by omega) hB0.drew (hN0.kept (Kept.drew W0) hM)).mono ?_; rintro e wa ⟨sa, bla, rfl, hSa, hLa, hKa, hBa⟩
         have hTa := hTd.kept hKa (by omega)
         have hRa := hRd.kept hKa (by omega)
         obtain ⟨hca0, hca1, hca2⟩ := hTa.c3
         obtain ⟨hcb0, hcb1, hcb2⟩ := (hTa.alloc (.cells #[.int .i64 (builtT k l (i + 1)).1.op, .int .u32 (builtT k l (i + 1)).1.num, sa] 28)).c3)
      | (refine step_append_lies _ (by rfl) _ _ _ (by rfl) 0 28 i0 _ 3 40 Tryd.underlying26 hi0 hz0 hz1 hz2 rfl (by omega) (.slice none 0 0) 0 [] (by rfl) (World.ownsRow_nil _ _ _ _)
          ⟨wa.heap.size, 0, none⟩ 1 1 [.int .i64 (builtT k l (i + 1)).1.op, .int .u32 (builtT k l (i + 1)).1.num, sa] (by rfl) (by rfl) (World.news_of_block (cs := #[.int .i64 (builtT k l (i + 1)).1.op, .int .u32 (builtT k l (i + 1)).1.num, sa]) (t := 28) (fr := (0, 0)) (heap_alloc_new wa _)) (cells3_one hSa.one)
          (by omega) (by decide) (by omega) (by simp) (wa.heap.size + 1) (by simp) ?_; intro gg cp w1 hown1 hgrow hat hlt1
         have hTg := (hTa.alloc _).grown hgrow (by simp [Value.ownBlock])
         have hRg := (hRa.alloc _).grown hgrow (by simp [Value.ownBlock])
         obtain ⟨hg0, hg1, hg2⟩ := hTg.c3
         obtain ⟨hr0, hr1, hr2⟩ := hRg.c3
         obtain ⟨hq0, hq1, hq2⟩ := hTg.f3
         obtain ⟨hs0, hs1, hs2⟩ := hRg.f3))
  all_goals go_wp2
  all_goals (rw [rounds_succ]; go_wp2)
  all_goals
    obtain ⟨hf1, hf2, hf3, hf4⟩ := built_close_one (o := o) (u0 := .slice (some ⟨gg, 0, none⟩) 1 cp) (u1 := .int .i64 o) (u2 := .int .u32 0) (u3 := .slice (some ⟨gg, 0, none⟩) 1 cp) hK0 hZ0 hlt hKa hBa hSa hLa hgrow hown1 hat hlt1
    exact bodyPost_ret (v := .agg #[.int .i64 o, .int .u32 0, .slice (some ⟨gg, 0, none⟩) 1 cp]) (by simp [results, Tryd.results40, go_sem, *]) rfl ⟨_, _, rfl, hf1, hf2, hf3, hf4⟩
end

end Go.Proofs.YtnjmfedleimlmaaDoor

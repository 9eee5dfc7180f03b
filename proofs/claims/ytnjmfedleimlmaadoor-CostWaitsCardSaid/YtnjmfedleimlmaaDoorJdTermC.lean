/- The term that a list of nodes begins with: the walk of built where there are two terms; and all of it. -/
import Derived.Test.YtnjmfedleimlmaaDoorJdTermB
namespace Go.Proofs.YtnjmfedleimlmaaDoor
open Go Go.RowKit

/-- behind the first term -/
structure Mid (w V : World) (B gg : Nat) (o : Int) (A : T) (s sa q : Value) (bla : List Nat) : Prop where
  kept : Kept B w V
  size : w.heap.size + 3 ≤ gg ∧ gg < V.heap.size
  at_ : Blk V B 3 #[q]
  loc : Blk V (w.heap.size + 1 + 1) 28 #[.int .i64 o, .int .u32 0, s]
  res : Blk V w.heap.size 28 #[.int .i64 0, .int .u32 0, .slice none 0 0]
  own : V.ownsRow 0 28 3 s 1 [.int .i64 A.op, .int .u32 A.num, sa]
  sub : A.IsS V sa bla
  lie : ∀ b ∈ bla, w.heap.size + 3 ≤ b ∧ b < gg
theorem mid_mk {w W0 wa w1 : World} {B gg cp : Nat} {o : Int} {A : T} {sa q : Value} {bla : List Nat} {o1 : Obj} (hK0 : Kept B w W0) (hZ0 : W0.heap.size = w.heap.size + 1 + 1 + 1) (hlt : B < w.heap.size) (hKa : Kept B W0.drew wa) (hBa : Blk wa B 3 #[q])
    (hSa : A.IsS wa sa bla) (hLa : ∀ b ∈ bla, W0.drew.heap.size ≤ b ∧ b < wa.heap.size) (hgrow : (wa.alloc o1).grownBy w1 (Value.slice none 0 0).ownBlock) (hown : w1.ownsRow 0 28 3 (.slice (some ⟨gg, 0, none⟩) (0 + 1) cp) (0 + 1) ([] ++ [.int .i64 A.op, .int .u32 A.num, sa]))
    (hat : (Value.slice none 0 0).ownBlock = some gg ∨ gg = wa.heap.size + 1) (hg1 : gg < w1.heap.size)
    (hTg : Blk w1 (w.heap.size + 1 + 1) 28 #[.int .i64 o, .int .u32 0, .slice none 0 0]) (hRg : Blk w1 w.heap.size 28 #[.int .i64 0, .int .u32 0, .slice none 0 0]) :
    Mid w (w1.setCell ⟨w.heap.size + 1 + 1, 2, none⟩ (.slice (some ⟨gg, 0, none⟩) 1 cp)) B gg o A (.slice (some ⟨gg, 0, none⟩) 1 cp) sa q bla := by
  have hgg : gg = wa.heap.size + 1 := by
    rcases hat with h | h
    · simp [Value.ownBlock] at h
    · exact h
  have z1 : W0.drew.heap.size = W0.heap.size := rfl
  have z2 := hKa.size
  have z3 : (wa.alloc o1).heap.size = wa.heap.size + 1 := by simp
  have z4 := hgrow.size
  have hf : ∀ k, k ≠ w.heap.size + 1 + 1 → (w1.setCell ⟨w.heap.size + 1 + 1, 2, none⟩ (.slice (some ⟨gg, 0, none⟩) 1 cp)).heap[k]? = w1.heap[k]? := fun k h1 => Below.heap_setCell _ _ _ k h1
  have hw : ∀ k, k < wa.heap.size → w1.heap[k]? = wa.heap[k]? := fun k hk => (hgrow.block k (by omega) (by simp [Value.ownBlock])).trans (Below.heap_alloc wa o1 k hk)
  refine ⟨(((((hK0.trans (Kept.drew W0)).trans hKa).trans (Kept.alloc wa o1)).grown hgrow (fun r e => by simp [Value.ownBlock] at e)).setNew _ (by simp; omega)), ⟨by omega, by simpa [World.setCell] using hg1⟩, ((hf B (by omega)).trans (hw B hBa.lt)).trans hBa, hTg.set_ 2 _, hRg.far (by show w.heap.size ≠ w.heap.size + 1 + 1; omega) _, ?_, hSa.keep fun b hb => ?_, fun b hb => ?_⟩
  · exact World.ownsRow.kept hown (grown_set _ _ _) (.inr (by simp [Value.ownBlock]; omega))
  · obtain ⟨h1, h2⟩ := hLa b hb
    by_cases hb2 : b = w.heap.size + 1 + 1
    · omega
    · exact (hf b hb2).trans (hw b h2)
  · obtain ⟨h1, h2⟩ := hLa b hb
    omega
theorem built_close_two {w V wb w2 : World} {B gg cp g2 cp2 : Nat} {o : Int} {A C : T} {sa sb q q2 : Value} {bla blb : List Nat} {o1 : Obj} {u0 u1 u2 u3 : Value} (hM : Mid w V B gg o A (.slice (some ⟨gg, 0, none⟩) 1 cp) sa q bla) (hlt : B < w.heap.size) (hKb : Kept B V.drew wb) (hBb : Blk wb B 3 #[q2])
    (hSb : C.IsS wb sb blb) (hLb : ∀ b ∈ blb, V.drew.heap.size ≤ b ∧ b < wb.heap.size) (hgrow : (wb.alloc o1).grownBy w2 (Value.slice (some ⟨gg, 0, none⟩) 1 cp).ownBlock)
    (hown : w2.ownsRow 0 28 3 (.slice (some ⟨g2, 0, none⟩) (1 + 1) cp2) (1 + 1) ([.int .i64 A.op, .int .u32 A.num, sa] ++ [.int .i64 C.op, .int .u32 C.num, sb]))
    (hat : (Value.slice (some ⟨gg, 0, none⟩) 1 cp).ownBlock = some g2 ∨ g2 = wb.heap.size + 1) (hg1 : g2 < w2.heap.size) :
    let wf := (((w2.setCell ⟨w.heap.size + 1 + 1, 2, none⟩ u0).setCell ⟨w.heap.size, 0, none⟩ u1).setCell ⟨w.heap.size, 1, none⟩ u2).setCell ⟨w.heap.size, 2, none⟩ u3
    (T.two o 0 A C).IsS wf (.slice (some ⟨g2, 0, none⟩) 2 cp2) (g2 :: (bla ++ blb)) ∧ (∀ b ∈ g2 :: (bla ++ blb), w.heap.size ≤ b ∧ b < wf.heap.size) ∧ Kept B w wf ∧ Blk wf B 3 #[q2] := by
  intro wf
  have hgg : g2 = gg ∨ g2 = wb.heap.size + 1 := by
    rcases hat with h | h
    · simp [Value.ownBlock] at h; exact .inl h.symm
    · exact .inr h
  have z0 := hM.size
  have z1 : V.drew.heap.size = V.heap.size := rfl
  have z2 := hKb.size
  have z3 : (wb.alloc o1).heap.size = wb.heap.size + 1 := by simp
  have z4 := hgrow.size
  have hrow : ∀ r, (Value.slice (some ⟨gg, 0, none⟩) 1 cp).ownBlock = some r → w.heap.size ≤ r := fun r e => by simp [Value.ownBlock] at e; omega
  have hK : Kept B w wf := (((((((hM.kept.trans (Kept.drew V)).trans hKb).trans (Kept.alloc wb o1)).grown hgrow hrow).setNew _ (by simp; omega)).setNew _ (by simp)).setNew _ (by simp)).setNew _ (by simp)
  have hf : ∀ k, k ≠ w.heap.size + 1 + 1 → k ≠ w.heap.size → wf.heap[k]? = w2.heap[k]? := fun k h1 h2 =>
    (Below.heap_setCell _ _ _ k h2).trans ((Below.heap_setCell _ _ _ k h2).trans ((Below.heap_setCell _ _ _ k h2).trans (Below.heap_setCell _ _ _ k h1)))
  have hw : ∀ k, k < wb.heap.size → k ≠ gg → w2.heap[k]? = wb.heap[k]? := fun k hk hg => (hgrow.block k (by omega) (by simpa [Value.ownBlock] using hg)).trans (Below.heap_alloc wb o1 k hk)
  have hz : wf.heap.size = w2.heap.size := by simp [wf, World.setCell]
  refine ⟨T.IsS.mk_two hown (hf g2 (by omega) (by omega)) (hM.sub.keep fun b hb => ?_) (hSb.keep fun b hb => ?_), ?_, hK, ?_⟩
  · obtain ⟨h1, h2⟩ := hM.lie b hb
    exact ((hf b (by omega) (by omega)).trans (hw b (by omega) (by omega))).trans (hKb.block b (by omega) (by omega))
  · obtain ⟨h1, h2⟩ := hLb b hb
    exact (hf b (by omega) (by omega)).trans (hw b h2 (by omega))
  · intro b hb
    rcases List.mem_cons.1 hb with rfl | hb
    · omega
    · rcases List.mem_append.1 hb with hb | hb
      · obtain ⟨h1, h2⟩ := hM.lie b hb
        omega
      · obtain ⟨h1, h2⟩ := hLb b hb
        omega
  · exact ((hf B (by omega) (by omega)).trans (hw B hBb.lt (by omega))).trans hBb

section
variable (l : List (Int × Int)) (pl : Option Addr) (cap M B : Nat)
set_option maxHeartbeats 4000000 in
set_option maxRecDepth 100000 in
theorem built_two (hl : l.length ≤ 60) (i d k : Nat) (x : Int × Int) (w : World) (hx : l[i]? = some x) (hd : d ≤ 40) (hop : 5 ≤ x.1 ∧ x.1 ≤ 17) (hB : Blk w B 3 #[.int .i64 i]) (hN : NodesAt w pl l M) (hM : M ≤ B)
    (ih : ∀ (j : Nat) (w : World), j ≤ l.length → Blk w B 3 #[.int .i64 j] → NodesAt w pl l M → Calls Tryd.prog 40 #[.slice pl l.length cap, .pointer (some ⟨B, 0, none⟩), .int .i64 (d + 1)] w (BuiltPost w B (builtT k l j))) :
    Calls Tryd.prog 40 #[.slice pl l.length cap, .pointer (some ⟨B, 0, none⟩), .int .i64 d] w (BuiltPost w B (.two x.1 0 (builtT k l (i + 1)).1 (builtT k l (builtT k l (i + 1)).2).1, (builtT k l (builtT k l (i + 1)).2).2)) := by
  have hc : w.cell? ⟨B, 0, none⟩ = some (.int .i64 i) := hB.cell 0
  have hlt := hB.lt
  have hf := hB.frozen 0
  have hi : i < l.length := (List.getElem?_eq_some_iff.1 hx).1
  obtain ⟨b, off, rfl, hb1, hb2, hc1, hc2⟩ := hN i x hx
  obtain ⟨i0, hi0, hz0, hz1, hz2⟩ := info_parts termInfo
  obtain ⟨o, n⟩ := x
  dsimp only at hop hc1 hc2
  go_enter Tryd.func40, Tryd.ntmps40
  go_wp2
  obtain ⟨W0, hW0⟩ : ∃ W0, (((w.setCell ⟨B, 0, none⟩ (.int .i64 (i + 1))).alloc (.cells #[.int .i64 0, .int .u32 0, .slice none 0 0] 28)).alloc (.cells #[.int .i64 o, .int .u32 n] 115)).alloc (.cells #[.int .i64 o, .int .u32 0, .slice none 0 0] 28) = W0 := ⟨_, rfl⟩
  have hK0 : Kept B w W0 := hW0 ▸ (((Kept.set_ w ⟨B, 0, none⟩ _ (.inl rfl)).trans (Kept.alloc _ _)).trans (Kept.alloc _ _)).trans (Kept.alloc _ _)
  have hB0 : Blk W0 B 3 #[.int .i64 ((i + 1 : Nat) : Int)] := hW0 ▸ (((hB.set_ 0 _).alloc _).alloc _).alloc _
  have hZ0 : W0.heap.size = w.heap.size + 1 + 1 + 1 := by rw [← hW0]; simp
  have hR0 : Blk W0 w.heap.size 28 #[.int .i64 0, .int .u32 0, .slice none 0 0] := by
    have := ((Blk.new (w.setCell ⟨B, 0, none⟩ (.int .i64 (i + 1))) 28 #[.int .i64 0, .int .u32 0, .slice none 0 0]).alloc (.cells #[.int .i64 o, .int .u32 n] 115)).alloc (.cells #[.int .i64 o, .int .u32 0, .slice none 0 0] 28)
    rw [hW0] at this; simpa using this
  have hT0 : Blk W0 (w.heap.size + 1 + 1) 28 #[.int .i64 o, .int .u32 0, .slice none 0 0] := by
    have := Blk.new (((w.setCell ⟨B, 0, none⟩ (.int .i64 (i + 1))).alloc (.cells #[.int .i64 0, .int .u32 0, .slice none 0 0] 28)).alloc (.cells #[.int .i64 o, .int .u32 n] 115)) 28 #[.int .i64 o, .int .u32 0, .slice none 0 0]
    rw [hW0] at this; simpa using this
  have hN0 := hN.kept hK0 hM
  rw [hW0]
  clear hc1 hc2 hc hf hW0
  refine wp_loop_rounds 3 ?_
  rw [rounds_succ]
  go_wp2
  have hw : IntKind.i64.wrap ((d : Int) + 1) = d + 1 := by simp only [IntKind.wrap, IntKind.signed, IntKind.bits] <;> simp <;> omega
  have hTd : Blk W0.drew (w.heap.size + 1 + 1) 28 #[.int .i64 o, .int .u32 0, .slice none 0 0] := hT0
  have hRd : Blk W0.drew w.heap.size 28 #[.int .i64 0, .int .u32 0, .slice none 0 0] := hR0
  obtain ⟨hc0, hc1, hc2⟩ := hT0.c3
  obtain ⟨hd0, hd1, hd2⟩ := hTd.c3
  go_region_law
    (first
      | (rw [if_pos (by rfl)]; go_simp; go_at_call 40; refine (ih (i + 1) W0.drew (by omega) hB0.drew (hN0.kept (Kept.drew W0) hM)).mono ?_; rintro e wa ⟨sa, bla, rfl, hSa, hLa, hKa, hBa⟩
         have hTa := hTd.kept hKa (by omega)
         have hRa := hRd.kept hKa (by omega)
         obtain ⟨hca0, hca1, hca2⟩ := hTa.c3
         obtain ⟨hcb0, hcb1, hcb2⟩ := (hTa.alloc (.cells #[.int .i64 (builtT k l (i + 1)).1.op, .int .u32 (builtT k l (i + 1)).1.num, sa] 28)).c3)
      | (refine step_append_lies _ (by rfl) _ _ _ (by rfl) 0 28 i0 _ 3 40 Tryd.underlying26 hi0 hz0 hz1 hz2 rfl (by omega) (.slice none 0 0) 0 [] (by rfl) (World.ownsRow_nil _ _ _ _)
          ⟨wa.heap.size, 0, none⟩ 1 1 [.int .i64 (builtT k l (i + 1)).1.op, .int .u32 (builtT k l (i + 1)).1.num, sa] (by rfl) (by rfl) (World.news_of_block (cs := #[.int .i64 (builtT k l (i + 1)).1.op, .int .u32 (builtT k l (i + 1)).1.num, sa]) (t := 28) (fr := (0, 0)) (heap_alloc_new wa _)) (cells3_one hSa.one)
          (by omega) (by decide) (by omega) (by simp) (wa.heap.size + 1) (by simp) ?_; intro gg cp w1 hown1 hgrow hat hlt1
         have hTg := (hTa.alloc _).grown hgrow (by simp [Value.ownBlock])
         have hRg := (hRa.alloc _).grown hgrow (by simp [Value.ownBlock])
         obtain ⟨hg0, hg1, hg2⟩ := hTg.c3
         obtain ⟨hr0, hr1, hr2⟩ := hRg.c3
         obtain ⟨hq0, hq1, hq2⟩ := hTg.f3
         obtain ⟨hs0, hs1, hs2⟩ := hRg.f3))
  all_goals go_wp2
  all_goals
    have hMid := mid_mk hK0 hZ0 hlt hKa hBa hSa hLa hgrow hown1 hat hlt1 hTg hRg
    obtain ⟨V, hV⟩ : ∃ V, w1.setCell ⟨w.heap.size + 1 + 1, 2, none⟩ (.slice (some ⟨gg, 0, none⟩) 1 cp) = V := ⟨_, rfl⟩
    rw [hV] at hMid ⊢
    have hVT : Blk V.drew (w.heap.size + 1 + 1) 28 #[.int .i64 o, .int .u32 0, .slice (some ⟨gg, 0, none⟩) 1 cp] := hMid.loc
    have hVR : Blk V.drew w.heap.size 28 #[.int .i64 0, .int .u32 0, .slice none 0 0] := hMid.res
    have hVB : Blk V.drew B 3 #[.int .i64 (builtT k l (i + 1)).2] := hMid.at_
    have hVN := (hN.kept hMid.kept hM).kept (Kept.drew V) hM
    have hVo : V.drew.ownsRow 0 28 3 (.slice (some ⟨gg, 0, none⟩) 1 cp) 1 [.int .i64 (builtT k l (i + 1)).1.op, .int .u32 (builtT k l (i + 1)).1.num, sa] := hMid.own
    have hVs := hMid.size
    have hle := (builtT_le k l (i + 1) (by omega)).2.1
    clear hTa hRa hca0 hca1 hca2 hcb0 hcb1 hcb2 hTg hRg hg0 hg1 hg2 hr0 hr1 hr2 hq0 hq1 hq2 hs0 hs1 hs2 hc0 hc1 hc2 hd0 hd1 hd2 hTd hRd hT0 hR0 hown1 hV hgrow hat hlt1
    obtain ⟨hc0, hc1, hc2⟩ := hMid.loc.c3
    obtain ⟨hd0, hd1, hd2⟩ := hVT.c3
    rw [rounds_succ]
    go_wp2
    go_region_law
      (first
        | (rw [if_pos (by rfl)]; go_simp; go_at_call 40; refine (ih (builtT k l (i + 1)).2 V.drew hle hVB hVN).mono ?_; rintro e wb ⟨sb, blb, rfl, hSb, hLb, hKb, hBb⟩
           have hTa := hVT.kept hKb (by omega)
           have hRa := hVR.kept hKb (by omega)
           have hob := (hVo.kept hKb.grownBy (.inr (by simp [Value.ownBlock]; omega))).alloc (.cells #[.int .i64 (builtT k l (builtT k l (i + 1)).2).1.op, .int .u32 (builtT k l (builtT k l (i + 1)).2).1.num, sb] 28)
           obtain ⟨hca0, hca1, hca2⟩ := hTa.c3
           obtain ⟨hcb0, hcb1, hcb2⟩ := (hTa.alloc (.cells #[.int .i64 (builtT k l (builtT k l (i + 1)).2).1.op, .int .u32 (builtT k l (builtT k l (i + 1)).2).1.num, sb] 28)).c3)
        | (refine step_append_lies _ (by rfl) _ _ _ (by rfl) 0 28 i0 _ 3 40 Tryd.underlying26 hi0 hz0 hz1 hz2 rfl (by omega) (.slice (some ⟨gg, 0, none⟩) 1 cp) 1 [.int .i64 (builtT k l (i + 1)).1.op, .int .u32 (builtT k l (i + 1)).1.num, sa] (by rfl) hob
            ⟨wb.heap.size, 0, none⟩ 1 1 [.int .i64 (builtT k l (builtT k l (i + 1)).2).1.op, .int .u32 (builtT k l (builtT k l (i + 1)).2).1.num, sb] (by rfl) (by rfl) (World.news_of_block (cs := #[.int .i64 (builtT k l (builtT k l (i + 1)).2).1.op, .int .u32 (builtT k l (builtT k l (i + 1)).2).1.num, sb]) (t := 28) (fr := (0, 0)) (heap_alloc_new wb _)) (cells3_one hSb.one)
            (by omega) (by decide) (by omega) (by simp) (wb.heap.size + 1) (by simp) ?_; intro g2 cp2 w2 hown2 hgrow2 hat2 hlt2
           have hTg := (hTa.alloc _).grown hgrow2 (by simp [Value.ownBlock]; omega)
           have hRg := (hRa.alloc _).grown hgrow2 (by simp [Value.ownBlock]; omega)
           obtain ⟨hg0, hg1, hg2⟩ := hTg.c3
           obtain ⟨hr0, hr1, hr2⟩ := hRg.c3
           obtain ⟨hq0, hq1, hq2⟩ := hTg.f3
           obtain ⟨hs0, hs1, hs2⟩ := hRg.f3))
    all_goals go_wp2
    all_goals (rw [rounds_succ]; go_wp2)
    all_goals
      obtain ⟨hf1, hf2, hf3, hf4⟩ := built_close_two (u0 := .slice (some ⟨g2, 0, none⟩) 2 cp2) (u1 := .int .i64 o) (u2 := .int .u32 0) (u3 := .slice (some ⟨g2, 0, none⟩) 2 cp2) hMid hlt hKb hBb hSb hLb hgrow2 hown2 hat2 hlt2
      exact bodyPost_ret (v := .agg #[.int .i64 o, .int .u32 0, .slice (some ⟨g2, 0, none⟩) 2 cp2]) (by simp [results, Tryd.results40, go_sem, *]) rfl ⟨_, _, rfl, hf1, hf2, hf3, hf4⟩
/-- what built yields -/
theorem built_calls (hl : l.length ≤ 60) (hM : M ≤ B) : ∀ (k d i : Nat) (w : World), d + k = 41 → i ≤ l.length → Blk w B 3 #[.int .i64 i] → NodesAt w pl l M →
    Calls Tryd.prog 40 #[.slice pl l.length cap, .pointer (some ⟨B, 0, none⟩), .int .i64 d] w (BuiltPost w B (builtT k l i))
  | 0, d, i, w, hd, hi, hB, hN => built_end l pl cap B hl i d w (.inr (by omega)) (by omega) (by omega) hB
  | k + 1, d, i, w, hd, hi, hB, hN => by
    have ih : ∀ (j : Nat) (w : World), j ≤ l.length → Blk w B 3 #[.int .i64 j] → NodesAt w pl l M → Calls Tryd.prog 40 #[.slice pl l.length cap, .pointer (some ⟨B, 0, none⟩), .int .i64 ((d : Int) + 1)] w (BuiltPost w B (builtT k l j)) := fun j w hj hB hN =>
      built_calls hl hM k (d + 1) j w (by omega) hj hB hN
    cases hx : l[i]? with
    | none =>
      have e : builtT (k + 1) l i = (.leaf 1 0, i) := by unfold builtT; rw [hx]
      rw [e]
      exact built_end l pl cap B hl i d w (.inl (by simpa using hx)) (by omega) (by omega) hB
    | some x =>
      by_cases h2 : 5 ≤ x.1 ∧ x.1 ≤ 17
      · have e : builtT (k + 1) l i = (.two x.1 0 (builtT k l (i + 1)).1 (builtT k l (builtT k l (i + 1)).2).1, (builtT k l (builtT k l (i + 1)).2).2) := by
          conv => lhs; unfold builtT
          rw [hx]; dsimp only; rw [if_pos h2]
        rw [e]
        exact built_two l pl cap M B hl i d k x w hx (by omega) h2 hB hN hM ih
      by_cases h1 : 3 ≤ x.1 ∧ x.1 ≤ 4
      · have e : builtT (k + 1) l i = (.one x.1 0 (builtT k l (i + 1)).1, (builtT k l (i + 1)).2) := by
          conv => lhs; unfold builtT
          rw [hx]; dsimp only; rw [if_neg h2, if_pos h1]
        rw [e]
        exact built_one l pl cap M B hl i d k x w hx (by omega) h1 hB hN hM ih
      · have e : builtT (k + 1) l i = (.leaf x.1 x.2, i + 1) := by
          conv => lhs; unfold builtT
          rw [hx]; dsimp only; rw [if_neg h2, if_neg h1]
        rw [e]
        exact built_leaf l pl cap M B hl i d x w hx (by omega) (by omega) hB hN hM
end

end Go.Proofs.YtnjmfedleimlmaaDoor

/- Chapter 2: ImmAll's walk. -/
import Derived.Test.YthcnhigcimehjaaDoorKnTnB
namespace Go.Proofs.YthcnhigcimehjaaDoor
open Go Go.RowKit Go.Shelf
attribute [local go_sem] Oper.semAt_some

theorem immAll_in (n : Nat) (w : World) : CallsIn Fence.wide n Tryd.prog 5 #[] w fun e w' => e = .returned (.func (.func 9) #[] #[]) ∧ w = w' := by
  refine callsIn_of_wp Tryd.func5 rfl trivial ?_ rfl
  simp only [Tryd.ntmps5, List.size_toArray, List.length_cons, List.length_nil, Nat.reduceAdd, Nat.reduceSub, Array.replicate_succ, Array.replicate_zero, List.push_toArray, List.append_toArray, List.nil_append, List.cons_append]
  gi_wp2
  go_ret
  exact ⟨rfl, rfl⟩
theorem cell_of_box_n {W : World} {B : Nat} {v : Value} {t : TypeId} (h : W.heap[B]? = some (.cells #[v] t (0, 0))) : W.cell? ⟨B, 0, none⟩ = some v ∧ W.frozen? ⟨B, 0, none⟩ = false := by
  constructor <;> simp [World.cell?, World.frozen?, h]
theorem cell_far_n (w : World) (b b' : Nat) (v : Value) (h : b ≠ b') : (w.setCell ⟨b, 0, none⟩ v).cell? ⟨b', 0, none⟩ = w.cell? ⟨b', 0, none⟩ :=
  World.cell?_setCell_other w _ _ v (fun e => h (by cases e; rfl))
theorem cell_new_n (W : World) (v : Value) (t : TypeId) : (W.alloc (.cells #[v] t)).cell? ⟨W.heap.size, 0, none⟩ = some v ∧ (W.alloc (.cells #[v] t)).frozen? ⟨W.heap.size, 0, none⟩ = false :=
  cell_of_box_n (World.alloc_heap_new W _)
theorem cell_alloc_n {W : World} {a : Addr} {v : Value} (o : Obj) (h : W.cell? a = some v) : (W.alloc o).cell? a = some v := cell_kept h (World.grownBy_alloc W o none) (fun r e => by cases e)
theorem frozen_alloc_n {W : World} {a : Addr} {v : Value} (o : Obj) (h : W.cell? a = some v) (hf : W.frozen? a = false) : (W.alloc o).frozen? a = false := (frozen_kept h (World.grownBy_alloc W o none) (fun r e => by cases e)).trans hf
/-- what the loop's own cells hold, l having come -/
def CA (a0 : Int) (b : Nat) (pre : List WN) (V : World) : Prop :=
  V.cell? ⟨b, 0, none⟩ = some (.int .i64 a0) ∧ (V.cell? ⟨b + 1, 0, none⟩ = some (.bool false) ∧ V.frozen? ⟨b + 1, 0, none⟩ = false) ∧
    (V.cell? ⟨b + 1 + 1, 0, none⟩ = some (.int .i64 (lastW pre)) ∧ V.frozen? ⟨b + 1 + 1, 0, none⟩ = false) ∧ (V.cell? ⟨b + 1 + 1 + 1, 0, none⟩ = some (.int .i64 (pre.length : Int)) ∧ V.frozen? ⟨b + 1 + 1 + 1, 0, none⟩ = false)
def CX (b : Nat) (c : Code) (pre : List WN) (V : World) : Prop :=
  c = .ret ∧ (V.cell? ⟨b + 1, 0, none⟩ = some (.bool true) ∨ (V.cell? ⟨b + 1, 0, none⟩ = some (.bool false) ∧ ¬ pre <+: allW))
set_option maxRecDepth 100000 in
set_option maxHeartbeats 4000000 in
theorem ImmAll_walk (a0 : Int) (b0 : -9223372036854775808 ≤ a0 ∧ a0 ≤ 9223372036854775807) (W : World) (hF : Fac W) :
    Calls Tryd.prog 3 #[.int .i64 a0] W fun e w' => e = .returned (.bool true) ∧ Below W.heap.size W w' := by
  have hgl : 0 < W.heap.size := by
    obtain ⟨t, fr, h⟩ := hF
    exact (Array.getElem?_eq_some_iff.1 h).1
  have hFB : ∀ V, Below W.heap.size W V → Fac V := fun V h => hF.belowN hgl h
  have hB1 : Below W.heap.size W ((W.alloc (.cells #[.int .i64 a0] 3)).alloc (.cells #[.bool false] 4)) := ((Below.refl _ W).alloc (Nat.le_refl _) _).alloc (by simp) _
  refine (callsIn_wide (n := 6)).1 ?_
  refine callsIn_of_wp_marks Tryd.func3 rfl trivial ?_ rfl
  simp only [Tryd.ntmps3, List.size_toArray, List.length_cons, List.length_nil, Nat.reduceAdd, Nat.reduceSub, Array.replicate_succ, Array.replicate_zero, List.push_toArray, List.append_toArray, List.nil_append, List.cons_append]
  gi_wp2_with (first | (refine ⟨trivial, ?_⟩; gi_at_call 4; refine (callsIn_wide.2 (anchor02_any _ (hFB _ hB1))).mono ?_; rintro e w' ⟨rfl, rfl⟩) | (refine ⟨trivial, ?_⟩; gi_at_call 5; refine (immAll_in _ _).mono ?_; rintro e w' ⟨rfl, rfl⟩))
  obtain ⟨b, hb⟩ : ∃ b, b = W.heap.size := ⟨_, rfl⟩
  have c1 := cell_new_n W (.int .i64 a0) 3
  have c2 := cell_new_n (W.alloc (.cells #[.int .i64 a0] 3)) (.bool false) 4
  have c3 := cell_new_n ((W.alloc (.cells #[.int .i64 a0] 3)).alloc (.cells #[.bool false] 4)) (.int .i64 (-1)) 3
  have c4 := cell_new_n (((W.alloc (.cells #[.int .i64 a0] 3)).alloc (.cells #[.bool false] 4)).alloc (.cells #[.int .i64 (-1)] 3)) (.int .i64 0) 3
  simp only [World.size_alloc] at c2 c3 c4
  obtain ⟨V0, hV0⟩ : ∃ V0, (((W.alloc (.cells #[.int .i64 a0] 3)).alloc (.cells #[.bool false] 4)).alloc (.cells #[.int .i64 (-1)] 3)).alloc (.cells #[.int .i64 0] 3) = V0 := ⟨_, rfl⟩
  have hsz : V0.heap.size = W.heap.size + 1 + 1 + 1 + 1 := by rw [← hV0]; simp
  have hB4 : Below W.heap.size W V0 := by rw [← hV0]; exact (hB1.alloc (by simp; omega) _).alloc (by simp; omega) _
  have hC0 : CA a0 W.heap.size [] V0 := by
    rw [← hV0]
    exact ⟨cell_alloc_n _ (cell_alloc_n _ (cell_alloc_n _ c1.1)), ⟨cell_alloc_n _ (cell_alloc_n _ c2.1), frozen_alloc_n _ (cell_alloc_n _ c2.1) (frozen_alloc_n _ c2.1 c2.2)⟩, ⟨cell_alloc_n _ c3.1, frozen_alloc_n _ c3.1 c3.2⟩, c4⟩
  rw [hV0]
  clear hV0 c1 c2 c3 c4
  refine wpIn_rangeFunc_ownF rfl (by omega) (gf := 9) (lb := #[]) rfl trivial (enters_of Tryd.func9 (by kernel_rfl) rfl) (all_stops (6 - 1) (by omega) W.heap.size V0 (hFB _ hB4) hgl (by omega)) belowK_t (belowK_b (by omega)) (Below.refl _ _) (fun _ => rfl)
    (fun pre V => CA a0 W.heap.size pre V ∧ Below W.heap.size W V)
    (fun c pre V => CX W.heap.size c pre V ∧ Below W.heap.size W V)
    (OwnFrom.and (Own.from (fun s A B row hs hg hr => ⟨cell_kept hs.1 hg hr, ⟨cell_kept hs.2.1.1 hg hr, (frozen_kept hs.2.1.1 hg hr).trans hs.2.1.2⟩, ⟨cell_kept hs.2.2.1.1 hg hr, (frozen_kept hs.2.2.1.1 hg hr).trans hs.2.2.1.2⟩, ⟨cell_kept hs.2.2.2.1 hg hr, (frozen_kept hs.2.2.2.1 hg hr).trans hs.2.2.2.2⟩⟩) _) (ownFrom_below (Nat.le_refl _) (by omega)))
    (fun c => OwnFrom.and (Own.from (fun s A B row hs hg hr => ⟨hs.1, hs.2.imp (fun h => cell_kept h hg hr) (fun h => ⟨cell_kept h.1 hg hr, h.2⟩)⟩) _) (ownFrom_below (Nat.le_refl _) (by omega)))
    ⟨hC0, hB4⟩
    (fun x => { tmps := #[.int .i64 a0, .pointer (some ⟨W.heap.size, 0, none⟩), .pointer (some ⟨W.heap.size + 1, 0, none⟩), .pointer (some ⟨W.heap.size + 1 + 1, 0, none⟩), .pointer (some ⟨W.heap.size + 1 + 1 + 1, 0, none⟩), .int .i64 x.1, .int .u32 (Rm.wordX x.1), undef, undef, undef, undef, undef, .bool true, .bool false, .func (.func 9) #[] #[], .int .i64 x.1, .int .u32 (Rm.wordX x.1), undef, undef, undef, undef, undef, undef, undef, undef, undef, undef, undef, undef, undef, undef, undef, undef, undef, undef, undef, undef, undef, undef, undef, undef, undef, undef, undef, undef, undef, undef, undef, undef, undef, undef, undef, undef, undef, undef, undef, undef, undef, undef], defers := [] }) ?assign ?body ?done ?stop
  case assign =>
    intro l x V K hK
    gi_wp2
    exact hK
  case body =>
    rintro l pre x V ⟨⟨d1, ⟨d2, f2⟩, ⟨d3, f3⟩, ⟨d4, f4⟩⟩, hB⟩ hlen
    have hFV := hFB V hB
    have lb := lastW_bd pre
    have hx := x.2.1
    have hwe : Rm.wordE (x.1 : Int) = 0 := by
      obtain ⟨y, hy⟩ := Option.isSome_iff_exists.1 x.2.2
      exact Rm.wordE_some (x.1 : Int) y (by omega) (by omega) (by rw [Int.toNat_natCast]; exact hy)
    by_cases hle : (x.1 : Int) ≤ lastW pre
    · gi_wp2_with (refine ⟨trivial, ?_⟩; gi_at_call 6; refine (CallsIn.inRound l (word_in _ (x.1 : Int) _ hFV (by omega))).mono ?_; rintro e w' ⟨rfl, rfl⟩)
      exact ⟨KeepsOthers.setCell _ _ _, ⟨rfl, .inr ⟨World.cell?_setCell_same' _ _ _ (by rw [d2]; rfl), fun hp => by have := (next_ok hp).1; omega⟩⟩, hB.setCell (p := ⟨W.heap.size + 1, 0, none⟩) (by simp) _⟩
    · gi_wp2_with (refine ⟨trivial, ?_⟩; gi_at_call 6; refine (CallsIn.inRound l (word_in _ (x.1 : Int) _ hFV (by omega))).mono ?_; rintro e w' ⟨rfl, rfl⟩)
      gi_loopw [9] (fun p wr => ∃ m : Int, p = .int .i64 m ∧ lastW pre + 1 ≤ m ∧ m ≤ x.1 ∧ (∀ j : Nat, lastW pre < (j : Int) → (j : Int) < m → Rm.immW j = none) ∧ wr = V) (fun p _ => ((x.1 : Int) - Lib.intOf p).toNat)
      case atStart => exact ⟨lastW pre + 1, rfl, by omega, by omega, fun j h1 h2 => by omega, rfl⟩
      case round =>
        obtain ⟨m, rfl, hm1, hm2, hmn, rfl⟩ := hrel
        by_cases hlt : m < (x.1 : Int)
        · cases hi : Rm.immW m.toNat with
          | none =>
            have e1 : (Rm.immW m.toNat).isSome = false := by rw [hi]; rfl
            gi_wp2_with (refine ⟨trivial, ?_⟩; gi_at_call 7; refine (CallsIn.inRound l (callsIn_wide.2 (refword_any m _ (by omega) (by omega)))).mono ?_; rintro e w' ⟨rfl, rfl⟩)
            have hmn' : ∀ j : Nat, lastW pre < (j : Int) → (j : Int) < m + 1 → Rm.immW j = none := by
              intro j h1 h2
              by_cases e : (j : Int) = m
              · rw [show j = m.toNat by omega]; exact hi
              · exact hmn j h1 (by omega)
            exact ⟨⟨m + 1, rfl, by omega, by omega, hmn', trivial⟩, by simp [Lib.intOf]; omega⟩
          | some v =>
            have e1 : (Rm.immW m.toNat).isSome = true := by rw [hi]; rfl
            gi_wp2_with (refine ⟨trivial, ?_⟩; gi_at_call 7; refine (CallsIn.inRound l (callsIn_wide.2 (refword_any m _ (by omega) (by omega)))).mono ?_; rintro e w' ⟨rfl, rfl⟩)
            exact ⟨KeepsOthers.setCell _ _ _, ⟨rfl, .inr ⟨World.cell?_setCell_same' _ _ _ (by rw [d2]; rfl), fun hp => by have := (next_ok hp).2 m.toNat (by omega) (by omega); rw [hi] at this; cases this⟩⟩, hB.setCell (p := ⟨W.heap.size + 1, 0, none⟩) (by simp) _⟩
        · have hmx : m = x.1 := by omega
          have e34 : ∀ v u : Value, ((wr.setCell ⟨W.heap.size + 1 + 1, 0, none⟩ v).setCell ⟨W.heap.size + 1 + 1 + 1, 0, none⟩ u).cell? ⟨W.heap.size + 1, 0, none⟩ = wr.cell? ⟨W.heap.size + 1, 0, none⟩ := by
            intro v u
            rw [cell_far_n _ _ _ _ (show W.heap.size + 1 + 1 + 1 ≠ W.heap.size + 1 by omega), cell_far_n _ _ _ _ (show W.heap.size + 1 + 1 ≠ W.heap.size + 1 by omega)]
          have bel : ∀ v u : Value, Below W.heap.size wr ((wr.setCell ⟨W.heap.size + 1 + 1, 0, none⟩ v).setCell ⟨W.heap.size + 1 + 1 + 1, 0, none⟩ u) := by
            intro v u
            exact ((Below.refl _ wr).setCell (p := ⟨W.heap.size + 1 + 1, 0, none⟩) (by simp; omega) _).setCell (p := ⟨W.heap.size + 1 + 1 + 1, 0, none⟩) (by simp; omega) _
          gi_wp2
          · refine ⟨((KeepsOthers.setCell _ _ _).trans (KeepsOthers.setCell _ _ _)).trans (KeepsOthers.setCell _ _ _), ⟨rfl, .inl (World.cell?_setCell_same' _ _ _ (by rw [e34, d2]; rfl))⟩, (hB.trans (bel _ _)).setCell (p := ⟨W.heap.size + 1, 0, none⟩) (by simp) _⟩
          · refine ⟨(KeepsOthers.setCell _ _ _).trans (KeepsOthers.setCell _ _ _), bel _ _, ⟨?_, ⟨by rw [e34]; exact d2, by simpa using f2⟩, ⟨?_, by simpa using f3⟩, ⟨?_, by simpa using f4⟩⟩, hB.trans (bel _ _)⟩
            · rw [cell_far_n _ _ _ _ (show W.heap.size + 1 + 1 + 1 ≠ W.heap.size by omega), cell_far_n _ _ _ _ (show W.heap.size + 1 + 1 ≠ W.heap.size by omega)]; exact d1
            · rw [cell_far_n _ _ _ _ (show W.heap.size + 1 + 1 + 1 ≠ W.heap.size + 1 + 1 by omega), lastW_snoc]; exact World.cell?_setCell_same' _ _ _ (by rw [d3]; rfl)
            · rw [List.length_append]; exact World.cell?_setCell_same' _ _ _ (by rw [cell_far_n _ _ _ _ (show W.heap.size + 1 + 1 ≠ W.heap.size + 1 + 1 + 1 by omega), d4]; rfl)
  case done =>
    rintro D xs V hD rfl ⟨⟨d1, ⟨d2, f2⟩, ⟨d3, f3⟩, ⟨d4, f4⟩⟩, hB⟩ hK
    rw [all_end.1] at d3
    rw [all_end.2] at d4
    gi_wp2
    have hK' := (KeepsOthers.setCell V ⟨W.heap.size + 1, 0, none⟩ (.bool true)).same D _ hK rfl
    refine ⟨by simp, .inl ⟨_, _, rfl, run_takeDeferred hK', ?_⟩⟩
    have hc5 := cell_kept (World.cell?_setCell_same' V ⟨W.heap.size + 1, 0, none⟩ (.bool true) (by rw [d2]; rfl)) (grownBy_putObj' _ D (.deferred none)) (fun r e => by cases e; exact ⟨_, hK', rfl⟩)
    refine ⟨.bool true, ?_, rfl, (hB.setCell (p := ⟨W.heap.size + 1, 0, none⟩) (by simp) _).trans (belowK_b (w := W) (Nat.le_refl _) _ D _ _ (by omega) hK' rfl rfl)⟩
    simp [results, Tryd.f3, go_sem, hc5]
  case stop =>
    rintro D c pre V hD hpre ⟨⟨rfl, h⟩, hB⟩ hK
    have hcr := h.elim id (fun h => absurd hpre h.2)
    gi_wp2
    refine ⟨by simp, .inl ⟨_, _, rfl, run_takeDeferred hK, ?_⟩⟩
    have hc5 := cell_kept hcr (grownBy_putObj' _ D (.deferred none)) (fun r e => by cases e; exact ⟨_, hK, rfl⟩)
    refine ⟨.bool true, ?_, rfl, hB.trans (belowK_b (w := W) (Nat.le_refl _) V D _ _ (by omega) hK rfl rfl)⟩
    simp [results, Tryd.f3, go_sem, hc5]

end Go.Proofs.YthcnhigcimehjaaDoor

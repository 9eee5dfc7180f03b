/- A right term of nodes: the walk of of. -/
import Derived.Test.YtnjmfedleimlmaaDoorJdTermE
namespace Go.Proofs.YtnjmfedleimlmaaDoor
open Go Go.RowKit

/-- the term that nodes give -/
def ofT (l : List (Int × Int)) : T := (builtT 41 l 0).1
theorem ofT_size (l : List (Int × Int)) (h : l.length ≤ 60) : (ofT l).size ≤ 121 := by
  have := builtT_le 41 l 0 (by omega)
  unfold ofT; omega
/-- may it be? -/
def ofB (l : List (Int × Int)) : Bool := (ofT l).nodes.all goodN

set_option maxRecDepth 100000 in
theorem of_long (l : List (Int × Int)) (pl : Option Addr) (cap : Nat) (w : World) (h : 60 < l.length) (hm : l.length ≤ 9223372036854775807) :
    Calls Tryd.prog 15 #[.slice pl l.length cap] w fun e w' => e = .returned (.tuple #[.agg #[.int .i64 0, .int .u32 0, .slice none 0 0], .bool false]) ∧ Below w.heap.size w w' := by
  go_enter Tryd.func15, Tryd.ntmps15
  go_wp2
  exact bodyPost_ret (v := .tuple #[.agg #[.int .i64 0, .int .u32 0, .slice none 0 0], .bool false]) (by simp [results, Tryd.results15, go_sem]) rfl ⟨rfl, (Below.refl _ w).alloc (Nat.le_refl _) _⟩

def OfPost (w : World) (l : List (Int × Int)) (e : Ending) (w' : World) : Prop :=
  ∃ s bl, e = .returned (.tuple #[.agg #[.int .i64 (ofT l).op, .int .u32 (ofT l).num, s], .bool (ofB l)]) ∧ (ofT l).IsS w' s bl ∧ (∀ b ∈ bl, w.heap.size ≤ b ∧ b < w'.heap.size) ∧ Below w.heap.size w w'

set_option maxHeartbeats 4000000 in
set_option maxRecDepth 100000 in
theorem of_short (l : List (Int × Int)) (pl : Option Addr) (cap : Nat) (w : World) (h : l.length ≤ 60) (hN : NodesAt w pl l w.heap.size) :
    Calls Tryd.prog 15 #[.slice pl l.length cap] w (OfPost w l) := by
  have hsz := ofT_size l h
  go_enter Tryd.func15, Tryd.ntmps15
  go_wp2_with fail
  have hW0 : Blk ((w.alloc (.cells #[.int .i64 0, .int .u32 0, .slice none 0 0] 28)).alloc (.cells #[.int .i64 0] 3)) w.heap.size 28 #[.int .i64 0, .int .u32 0, .slice none 0 0] := (Blk.new w _ _).alloc _
  have hA0 : Blk ((w.alloc (.cells #[.int .i64 0, .int .u32 0, .slice none 0 0] 28)).alloc (.cells #[.int .i64 0] 3)) (w.heap.size + 1) 3 #[.int .i64 ((0 : Nat) : Int)] := by
    have := Blk.new (w.alloc (.cells #[.int .i64 0, .int .u32 0, .slice none 0 0] 28)) 3 #[.int .i64 0]
    simpa using this
  obtain ⟨W2, hW2⟩ : ∃ W2, (w.alloc (.cells #[.int .i64 0, .int .u32 0, .slice none 0 0] 28)).alloc (.cells #[.int .i64 0] 3) = W2 := ⟨_, rfl⟩
  have hB2 : Below w.heap.size w W2 := hW2 ▸ ((Below.refl _ w).alloc (Nat.le_refl _) _).alloc (by simp) _
  have hZ2 : W2.heap.size = w.heap.size + 1 + 1 := by rw [← hW2]; simp
  rw [hW2] at hW0 hA0 ⊢
  have hN2 : NodesAt W2 pl l w.heap.size := hN.kept (B := w.heap.size + 1) (.of_below hB2) (by omega)
  refine (built_calls l pl cap w.heap.size (w.heap.size + 1) h (by omega) 41 0 0 W2 rfl (by omega) hA0 hN2).mono ?_
  rintro e w3 ⟨s, bl, rfl, hS, hL, hK, _⟩
  change (ofT l).IsS w3 s bl at hS
  have hop : (builtT 41 l 0).1 = ofT l := rfl
  rw [hop]
  obtain ⟨ps, cs, rfl⟩ := hS.form
  have hR3 := hW0.kept hK (by omega)
  have hZ3 := hK.size
  have hB3 : Below w.heap.size w w3 := hB2.trans ⟨hK.os, hK.tape, hK.output, hK.size, fun k hk => hK.block k (by omega) (by omega)⟩
  go_wp2_with fail
  obtain ⟨W4, hW4⟩ : ∃ W4, w3.alloc (.cells #[.int .i64 (ofT l).op, .int .u32 (ofT l).num, .slice ps (ofT l).kids cs] 28) = W4 := ⟨_, rfl⟩
  have hP4 : Blk W4.drew w3.heap.size 28 #[.int .i64 (ofT l).op, .int .u32 (ofT l).num, .slice ps (ofT l).kids cs] := hW4 ▸ Blk.new w3 _ _
  have hR4 : Blk W4.drew w.heap.size 28 #[.int .i64 0, .int .u32 0, .slice none 0 0] := hW4 ▸ hR3.alloc _
  have hZ4 : W4.drew.heap.size = w3.heap.size + 1 := by show W4.heap.size = _; rw [← hW4]; simp
  have hB4 : Below w3.heap.size w3 W4.drew := (hW4 ▸ (Below.refl _ w3).alloc (Nat.le_refl _) _ : Below w3.heap.size w3 W4).drew
  have hS4 : (ofT l).IsS W4.drew (.slice ps (ofT l).kids cs) bl := hS.keep fun b hb => hB4.block b (hL b hb).2
  rw [hW4]
  obtain ⟨hp0, hp1, hp2⟩ := hP4.c3
  obtain ⟨hv0, hv1, hv2⟩ := (show Blk W4 w3.heap.size 28 #[.int .i64 (ofT l).op, .int .u32 (ofT l).num, .slice ps (ofT l).kids cs] from hP4).c3
  go_region_law
    (first
      | (rw [if_pos (by rfl)]; go_simp; go_at_call 19; refine (flat_calls (ofT l) _ bl W4.drew hS4 (fun b hb => by have := (hL b hb).2; omega) (by omega)).mono ?_; rintro e w5 ⟨g5, cap5, rfl, hO5, hB5⟩
         have hP5 := hP4.below hB5 (by omega)
         have hR5 := hR4.below hB5 (by omega)
         obtain ⟨hq0, hq1, hq2⟩ := hP5.c3)
      | (rw [if_pos (by rfl)]; go_simp; go_at_call 41; refine (refright_at (ofT l).nodes (ofT l).size g5 cap5 w5 (T.nodes_length _) (by omega) (row_cap hO5).1 (row_cap hO5).2 (NAt.of_row hO5 (T.nodes_length _))).mono ?_; rintro e w6 ⟨rfl, hB6⟩
         have hZ5 := hB5.size
         have hP6 := hP5.below hB6 (by omega)
         have hR6 := hR5.below hB6 (by omega)
         obtain ⟨hr0, hr1, hr2⟩ := hP6.c3
         obtain ⟨hs0, hs1, hs2⟩ := hR6.c3
         obtain ⟨ht0, ht1, ht2⟩ := hR6.f3))
  all_goals go_wp2
  all_goals
    have hZ5 := hB5.size
    have hZ6 := hB6.size
    have hBf : Below w.heap.size w w6 := ((hB3.trans (hB4.mono (by omega))).trans (hB5.mono (by omega))).trans (hB6.mono (by omega))
    have hSf : (ofT l).IsS w6 (.slice ps (ofT l).kids cs) bl := (hS4.keep fun b hb => hB5.block b (by have := (hL b hb).2; omega)).keep fun b hb => hB6.block b (by have := (hL b hb).2; omega)
    refine bodyPost_ret (v := .tuple #[.agg #[.int .i64 (ofT l).op, .int .u32 (ofT l).num, .slice ps (ofT l).kids cs], .bool (ofB l)]) (by simp [results, Tryd.results15, go_sem, ofB, *]) rfl ⟨_, _, rfl, hSf.keep fun b hb => ?_, fun b hb => ?_, ((hBf.setCell (by simp) _).setCell (by simp) _).setCell (by simp) _⟩
    · have := (hL b hb).1
      exact (Below.heap_setCell _ _ _ b (by show b ≠ w.heap.size; omega)).trans ((Below.heap_setCell _ _ _ b (by show b ≠ w.heap.size; omega)).trans (Below.heap_setCell _ _ _ b (by show b ≠ w.heap.size; omega)))
    · have := hL b hb
      simp only [World.setCell, Array.size_modify]
      omega

/-- the term that of yields, and whether it may be -/
def ofX (l : List (Int × Int)) : T := if l.length ≤ 60 then ofT l else .leaf 0 0
def ofOk (l : List (Int × Int)) : Bool := decide (l.length ≤ 60) && ofB l
theorem ofX_size (l : List (Int × Int)) : (ofX l).size ≤ 121 := by
  unfold ofX
  split
  · exact ofT_size l (by assumption)
  · simp [T.size]
def OfAny (w : World) (l : List (Int × Int)) (e : Ending) (w' : World) : Prop :=
  ∃ p c bl, e = .returned (.tuple #[.agg #[.int .i64 (ofX l).op, .int .u32 (ofX l).num, .slice p (ofX l).kids c], .bool (ofOk l)]) ∧ (ofX l).IsS w' (.slice p (ofX l).kids c) bl ∧ (∀ b ∈ bl, w.heap.size ≤ b ∧ b < w'.heap.size) ∧ Below w.heap.size w w'
theorem of_any (l : List (Int × Int)) (pl : Option Addr) (cap : Nat) (w : World) (hm : l.length ≤ 9223372036854775807) (hN : NodesAt w pl l w.heap.size) :
    Calls Tryd.prog 15 #[.slice pl l.length cap] w (OfAny w l) := by
  by_cases h : l.length ≤ 60
  · refine (of_short l pl cap w h hN).mono ?_
    rintro e w' ⟨s, bl, rfl, hS, hL, hB⟩
    have e1 : ofX l = ofT l := by unfold ofX; rw [if_pos h]
    have e2 : ofOk l = ofB l := by unfold ofOk; rw [decide_eq_true h, Bool.true_and]
    obtain ⟨p, c, rfl⟩ := hS.form
    unfold OfAny
    rw [e1, e2]
    exact ⟨p, c, bl, rfl, hS, hL, hB⟩
  · refine (of_long l pl cap w (by omega) hm).mono ?_
    rintro e w' ⟨rfl, hB⟩
    have e1 : ofX l = .leaf 0 0 := by unfold ofX; rw [if_neg h]
    have e2 : ofOk l = false := by unfold ofOk; rw [decide_eq_false h, Bool.false_and]
    unfold OfAny
    rw [e1, e2]
    exact ⟨none, 0, [], rfl, ⟨rfl, rfl⟩, by simp, hB⟩

end Go.Proofs.YtnjmfedleimlmaaDoor

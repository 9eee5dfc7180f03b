/- The walk of TermEvals. -/
import Derived.Test.YtnjmfedleimlmaaDoorTermU
import Derived.Test.YtnjmfedleimlmaaDoorTermI
import Derived.Deep.RegionHeld3
namespace Go.Proofs.YtnjmfedleimlmaaDoor
open Go Go.RowKit

theorem builtT_wf : ∀ (k : Nat) (l : List (Int × Int)) (i : Nat), (∀ y ∈ l, 0 ≤ y.2 ∧ y.2 ≤ 4294967295) → (builtT k l i).1.Wf
  | 0, l, i, _ => by simp only [builtT, T.Wf]; omega
  | k + 1, l, i, h => by
    unfold builtT
    cases hx : l[i]? with
    | none => simp only [T.Wf]; omega
    | some x =>
      have h1 := builtT_wf k l (i + 1) h
      have h2 := builtT_wf k l (builtT k l (i + 1)).2 h
      dsimp only
      split
      · exact ⟨by omega, h1, h2⟩
      · split
        · exact ⟨by omega, h1⟩
        · exact h x (List.mem_of_getElem? hx)
theorem ofX_wf (l : List (Int × Int)) (h : ∀ y ∈ l, 0 ≤ y.2 ∧ y.2 ≤ 4294967295) : (ofX l).Wf := by
  unfold ofX
  split
  · exact builtT_wf 41 l 0 h
  · simp only [T.Wf]; omega
theorem ofOk_shaped {l : List (Int × Int)} (h : ofOk l = true) : l.length ≤ 60 ∧ (ofX l).shaped = true := by
  unfold ofOk at h
  simp only [Bool.and_eq_true, decide_eq_true_eq] at h
  refine ⟨h.1, ?_⟩
  have := h.2
  unfold ofB at this
  rw [T.shaped_nodes] at this
  unfold ofX; rw [if_pos h.1]; exact this
theorem ofOk_not {l : List (Int × Int)} (h : ofOk l = false) (hl : l.length ≤ 60) : (ofX l).shaped = false := by
  unfold ofOk at h
  rw [decide_eq_true hl, Bool.true_and] at h
  unfold ofB at h
  rw [T.shaped_nodes] at h
  unfold ofX; rw [if_pos hl]; exact h

set_option maxHeartbeats 40000000 in
set_option maxRecDepth 100000 in
theorem TermEvals_walk (la : List (Int × Int)) (pa : Option Addr) (ca : Nat) (ws : List Int) (pw : Option Addr) (cw : Nat) (W : World) (hma : la.length ≤ 9223372036854775807) (hra : ∀ y ∈ la, 0 ≤ y.2 ∧ y.2 ≤ 4294967295) (hNa : NodesAt W pa la W.heap.size) (hw : WordsOk ws) (hW : WordsAt W pw ws) :
    Calls Tryd.prog 8 #[.slice pa la.length ca, .slice pw ws.length cw] W fun e w' => e = .returned (.bool true) ∧ Below W.heap.size W w' := by
  have hsz := ofX_size la
  have hwf := ofX_wf la hra
  go_enter Tryd.func8, Tryd.ntmps8
  go_wp2_with fail
  refine (anchor11_calls _).mono ?_
  rintro e w1 ⟨rfl, hB1⟩
  have hZ1 := hB1.size
  have hNa1 : NodesAt w1 pa la w1.heap.size := (hNa.kept (B := W.heap.size) (.of_below hB1) (Nat.le_refl _)).mono hZ1
  go_wp2_with fail
  refine (of_any la pa ca w1 hma hNa1).mono ?_
  rintro e w2 ⟨qa, da, bla, rfl, hSa, hLa, hB2⟩
  have hZ2 := hB2.size
  obtain ⟨W3, hW3⟩ : ∃ W3, w2.alloc (.cells #[.int .i64 (ofX la).op, .int .u32 (ofX la).num, .slice qa (ofX la).kids da] 28) = W3 := ⟨_, rfl⟩
  have hP3 : Blk W3 w2.heap.size 28 #[.int .i64 (ofX la).op, .int .u32 (ofX la).num, .slice qa (ofX la).kids da] := hW3 ▸ Blk.new w2 _ _
  have hB3 : Below W.heap.size W W3 := hW3 ▸ (hB1.trans (hB2.mono hZ1)).alloc (by omega) _
  have hZ3 : W3.heap.size = w2.heap.size + 1 := by rw [← hW3]; simp
  have hS3 : (ofX la).IsS W3 (.slice qa (ofX la).kids da) bla := hSa.keep fun b hb => by rw [← hW3]; exact Below.heap_alloc _ _ b (hLa b hb).2
  have hL3 : ∀ b ∈ bla, b < W3.heap.size := fun b hb => by have := (hLa b hb).2; omega
  obtain ⟨p0, p1, p2⟩ := hP3.c3
  have keep : ∀ w', Below W3.heap.size W3 w' → (ofX la).IsS w' (.slice qa (ofX la).kids da) bla ∧ (∀ b ∈ bla, b < w'.heap.size) ∧ Below W.heap.size W w' := fun w' hB => ⟨hS3.keep fun b hb => hB.block b (hL3 b hb), fun b hb => Nat.lt_of_lt_of_le (hL3 b hb) hB.size, hB3.trans (hB.mono hB3.size)⟩
  cases hok : ofOk la with
  | false =>
    by_cases hl : 60 < la.length
    · go_wp2_with fail
      try rw [hW3]
      go_ret
      exact ⟨rfl, hB3⟩
    · have hsh := ofOk_not hok (by omega)
      go_wp2_with fail
      try rw [hW3]
      clear hW3
      refine (tright_calls (ofX la) _ bla W3 hS3 hL3 (by omega)).mono ?_
      rintro e w4 ⟨rfl, hB4⟩
      rw [hsh]
      go_wp2_with fail
      go_ret
      exact ⟨rfl, (keep w4 hB4).2.2⟩
  | true =>
    obtain ⟨hlen, hsh⟩ := ofOk_shaped hok
    have hW3' := hW.below hB3
    go_wp2_with fail
    try rw [hW3]
    clear hW3
    refine (eval_calls (ofX la) ws pw cw _ bla W3 hS3 hL3 hwf hw hW3').mono ?_
    rintro e w4 ⟨rfl, hB4⟩
    have hP4 := hP3.below hB4 hP3.lt
    obtain ⟨q0, q1, q2⟩ := hP4.c3
    have hk4 := keep w4 hB4
    go_wp2_with fail
    refine (flat_calls (ofX la) _ bla w4 hk4.1 hk4.2.1 (by omega)).mono ?_
    rintro e w5 ⟨ga, xa, rfl, hOa, hB5⟩
    have hB35 : Below W3.heap.size W3 w5 := hB4.trans (hB5.mono hB4.size)
    have hk5 := keep w5 hB35
    have hNA := NAt.of_row hOa (T.nodes_length _)
    go_wp2_with fail
    refine (refEval_calls (ofX la) (ofX la).size ga xa ws pw cw w5 (T.nodes_length _) hsh hwf hw (by omega) (row_cap hOa).1 hNA (row_cap hOa).2 (hW.below hk5.2.2)).mono ?_
    rintro e w6 ⟨rfl, hB6⟩
    have hB36 : Below W3.heap.size W3 w6 := hB35.trans (hB6.mono hB35.size)
    go_wp2_with fail
    have hB36d : Below W3.heap.size W3 w6.drew := hB36.drew
    have kk : ∀ w', Below W3.heap.size W3 w' → w'.cell? ⟨w2.heap.size, 0, none⟩ = some (.int .i64 (ofX la).op) ∧ w'.cell? ⟨w2.heap.size, 1, none⟩ = some (.int .u32 (ofX la).num) ∧ w'.cell? ⟨w2.heap.size, 2, none⟩ = some (.slice qa (ofX la).kids da) ∧ Below W3.heap.size W3 w' := fun w' hB => by
      obtain ⟨r0, r1, r2⟩ := (hP3.below hB hP3.lt).c3
      exact ⟨r0, r1, r2, hB⟩
    have hf1 := fun w' hB => tright_calls (ofX la) _ bla w' (keep w' hB).1 (keep w' hB).2.1 (by omega)
    have hf2 := fun w' hB => count_calls (ofX la) _ bla w' (keep w' hB).1 (keep w' hB).2.1 (by omega)
    have hf3 := fun w' hB => flat_calls (ofX la) _ bla w' (keep w' hB).1 (keep w' hB).2.1 (by omega)
    have hf4 := fun w' hB => same_calls (ofX la) (ofX la) _ _ bla bla w' (keep w' hB).1 (keep w' hB).1 (keep w' hB).2.1 (keep w' hB).2.1
    have ht := fun w' (hB : Below W3.heap.size W3 w') w'' (hC : Below w'.heap.size w' w'') => hB.trans (hC.mono hB.size)
    rw [hsh] at hf1
    have hk1 := Lib.hid kk
    have hk2 := Lib.hid hf1
    have hk3 := Lib.hid hf2
    have hk4 := Lib.hid hf3
    have hk8 := Lib.hid hf4
    have hk6 := Lib.hid ht
    have hk7 := Lib.hid keep
    clear kk hf1 hf2 hf3 hf4 ht keep hP3 hP4 q0 q1 q2 hNA hOa hS3 hL3 hSa hLa hNa hNa1 hB1 hB2 hB3 hB4 hB5 hB6 hB35 hB36 hW hW3' hw hwf
    go_region_held3 (fun w' => w'.cell? ⟨w2.heap.size, 0, none⟩ = some (.int .i64 (ofX la).op) ∧ w'.cell? ⟨w2.heap.size, 1, none⟩ = some (.int .u32 (ofX la).num) ∧ w'.cell? ⟨w2.heap.size, 2, none⟩ = some (.slice qa (ofX la).kids da) ∧ Below W3.heap.size W3 w') (exact hk1.out _ (by assumption))
      ((first
        | (go_at_call 25
           have hS := ‹_ ∧ _ ∧ _ ∧ Below W3.heap.size W3 _›
           refine (hk2.out _ hS.2.2.2).mono ?_; rintro e w7 ⟨rfl, hB7⟩
           have hB7' := hk6.out _ hS.2.2.2 _ hB7; clear hB7 hS)
        | (go_at_call 27
           have hS := ‹_ ∧ _ ∧ _ ∧ Below W3.heap.size W3 _›
           refine (hk3.out _ hS.2.2.2).mono ?_; rintro e w7 ⟨rfl, hB7⟩
           have hB7' := hk6.out _ hS.2.2.2 _ hB7; clear hB7 hS)
        | (go_at_call 19
           have hS := ‹_ ∧ _ ∧ _ ∧ Below W3.heap.size W3 _›
           refine (hk4.out _ hS.2.2.2).mono ?_; rintro e w7 ⟨gc, xc, rfl, hOc, hB7⟩
           have hB7' := hk6.out _ hS.2.2.2 _ hB7; clear hB7 hS hOc)
        | (go_at_call 21
           have hS := ‹_ ∧ _ ∧ _ ∧ Below W3.heap.size W3 _›
           refine (hk8.out _ hS.2.2.2).mono ?_; rintro e w7 ⟨rfl, hB7⟩
           have hB7' := hk6.out _ hS.2.2.2 _ hB7; clear hB7 hS)))
    go_wp2_with fail
    go_ret
    exact ⟨congrArg Ending.returned (congrArg Value.bool ((T.same_iff _ _).2 rfl)), (hk7.out _ (by assumption)).2.2⟩

end Go.Proofs.YtnjmfedleimlmaaDoor

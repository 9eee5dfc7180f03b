/- The walk of TermSame. -/
import Derived.Test.YtnjmfedleimlmaaDoorTermG
import Derived.Test.YtnjmfedleimlmaaDoorTermH
namespace Go.Proofs.YtnjmfedleimlmaaDoor
open Go Go.RowKit

namespace T
theorem same_iff : ∀ t u : T, t.same u = true ↔ t = u
  | .leaf o n, u => by cases u <;> simp [same]
  | .one o n a, u => by cases u <;> simp [same, same_iff a, and_assoc]
  | .two o n a b, u => by cases u <;> simp [same, same_iff a, same_iff b, and_assoc]
theorem nodes_inj : ∀ (t u : T) (r r' : List (Int × Int × Int)), t.nodes ++ r = u.nodes ++ r' → t = u ∧ r = r'
  | .leaf o n, u, r, r', h => by
    cases u <;> simp [nodes] at h
    exact ⟨by rw [h.1.1, h.1.2], h.2⟩
  | .one o n a, u, r, r', h => by
    cases u <;> simp [nodes] at h
    obtain ⟨h1, h2⟩ := h
    obtain ⟨rfl, h3⟩ := nodes_inj a _ r r' h2
    exact ⟨by rw [h1.1, h1.2], h3⟩
  | .two o n a b, u, r, r', h => by
    cases u <;> simp [nodes] at h
    obtain ⟨h1, h2⟩ := h
    obtain ⟨rfl, h3⟩ := nodes_inj a _ (b.nodes ++ r) _ h2
    obtain ⟨rfl, h4⟩ := nodes_inj b _ r r' h3
    exact ⟨by rw [h1.1, h1.2], h4⟩
theorem same_nodes (t u : T) : t.same u = decide (t.nodes = u.nodes) := by
  rw [Bool.eq_iff_iff, same_iff, decide_eq_true_eq]
  constructor
  · rintro rfl; rfl
  · intro h
    have := nodes_inj t u [] [] (by rw [h])
    exact this.1
end T

theorem T.same_comm (t u : T) : t.same u = u.same t := by
  rw [T.same_nodes, T.same_nodes, Bool.eq_iff_iff, decide_eq_true_eq, decide_eq_true_eq]; exact eq_comm
/-- two lists as far as a place -/
def sameTo (l m : List (Int × Int × Int)) (k : Nat) : Bool := decide (l.length = m.length) && decide (l.take k = m.take k)

theorem sameTo_zero {l m : List (Int × Int × Int)} {a b : Nat} (hl : l.length = a) (hm : m.length = b) : ((a : Int) == (b : Int)) = sameTo l m 0 := by
  unfold sameTo
  subst hl; subst hm
  by_cases h : l.length = m.length
  · simp [h]
  · have : ¬ ((l.length : Int) = (m.length : Int)) := by omega
    simp [h, this]
theorem sameTo_false {l m : List (Int × Int × Int)} {k : Nat} (h : sameTo l m k = false) : sameTo l m (k + 1) = false := by
  unfold sameTo at h ⊢
  by_cases hl : l.length = m.length
  · have hk : ¬ l.take k = m.take k := by intro e; simp [hl, e] at h
    have : ¬ l.take (k + 1) = m.take (k + 1) := fun e => hk (by have := congrArg (List.take k) e; simpa [List.take_take] using this)
    simp [this]
  · simp [hl]
theorem sameTo_step {l m : List (Int × Int × Int)} {k : Nat} {x y : Int × Int × Int} (hx : l[k]? = some x) (hy : m[k]? = some y) (h : sameTo l m k = true) : sameTo l m (k + 1) = decide (x = y) := by
  unfold sameTo at h ⊢
  simp only [Bool.and_eq_true, decide_eq_true_eq] at h
  rw [List.take_add_one, List.take_add_one, hx, hy, h.2]
  by_cases e : x = y
  · simp [h.1, e]
  · simp [e]
theorem sameTo_end {l m : List (Int × Int × Int)} {k : Nat} (hl : k ≤ l.length) (hm : k ≤ m.length) (h : k = l.length ∨ k = m.length) : sameTo l m k = decide (l = m) := by
  unfold sameTo
  by_cases e : l.length = m.length
  · rw [List.take_of_length_le (by omega), List.take_of_length_le (by omega)]; simp [e]
  · have : ¬ l = m := fun h => e (by rw [h])
    simp [e, this]

set_option maxHeartbeats 40000000 in
set_option maxRecDepth 100000 in
theorem TermSame_walk (la lb : List (Int × Int)) (pa pb : Option Addr) (ca cb : Nat) (W : World) (hma : la.length ≤ 9223372036854775807) (hmb : lb.length ≤ 9223372036854775807) (hNa : NodesAt W pa la W.heap.size) (hNb : NodesAt W pb lb W.heap.size) :
    Calls Tryd.prog 6 #[.slice pa la.length ca, .slice pb lb.length cb] W fun e w' => e = .returned (.bool true) ∧ Below W.heap.size W w' := by
  go_enter Tryd.func6, Tryd.ntmps6
  go_wp2_with fail
  refine (anchor11_calls _).mono ?_
  rintro e w1 ⟨rfl, hB1⟩
  have hZ1 := hB1.size
  have hNa1 : NodesAt w1 pa la w1.heap.size := (hNa.kept (B := W.heap.size) (.of_below hB1) (Nat.le_refl _)).mono hZ1
  have hNb1 : NodesAt w1 pb lb W.heap.size := hNb.kept (B := W.heap.size) (.of_below hB1) (Nat.le_refl _)
  go_wp2_with fail
  refine (of_any la pa ca w1 hma hNa1).mono ?_
  rintro e w2 ⟨qa, da, bla, rfl, hSa, hLa, hB2⟩
  have hZ2 := hB2.size
  go_wp2_with fail
  obtain ⟨W3, hW3⟩ : ∃ W3, w2.alloc (.cells #[.int .i64 (ofX la).op, .int .u32 (ofX la).num, .slice qa (ofX la).kids da] 28) = W3 := ⟨_, rfl⟩
  have hP3 : Blk W3 w2.heap.size 28 #[.int .i64 (ofX la).op, .int .u32 (ofX la).num, .slice qa (ofX la).kids da] := hW3 ▸ Blk.new w2 _ _
  have hB3 : Below W.heap.size W W3 := hW3 ▸ (hB1.trans (hB2.mono hZ1)).alloc (by omega) _
  have hZ3 : W3.heap.size = w2.heap.size + 1 := by rw [← hW3]; simp
  have hS3 : (ofX la).IsS W3 (.slice qa (ofX la).kids da) bla := hSa.keep fun b hb => by rw [← hW3]; exact Below.heap_alloc _ _ b (hLa b hb).2
  have hNb3 : NodesAt W3 pb lb W3.heap.size := (hNb.kept (B := W.heap.size) (.of_below hB3) (Nat.le_refl _)).mono (by omega)
  rw [hW3]
  refine (of_any lb pb cb W3 hmb hNb3).mono ?_
  rintro e w4 ⟨qb, db, blb, rfl, hSb, hLb, hB4⟩
  have hZ4 := hB4.size
  have hP4 := hP3.below hB4 (by omega)
  have hS4 : (ofX la).IsS w4 (.slice qa (ofX la).kids da) bla := hS3.keep fun b hb => hB4.block b (by have := (hLa b hb).2; omega)
  go_wp2_with fail
  all_goals
    obtain ⟨W5, hW5⟩ : ∃ W5, w4.alloc (.cells #[.int .i64 (ofX lb).op, .int .u32 (ofX lb).num, .slice qb (ofX lb).kids db] 28) = W5 := ⟨_, rfl⟩
    have hB5 : Below W.heap.size W W5 := hW5 ▸ (hB3.trans (hB4.mono (by omega))).alloc (by omega) _
  · go_ret
    exact ⟨rfl, hW5 ▸ hB5⟩
  · have hP5 : Blk W5.drew w2.heap.size 28 #[.int .i64 (ofX la).op, .int .u32 (ofX la).num, .slice qa (ofX la).kids da] := hW5 ▸ hP4.alloc _
    have hR5 : Blk W5.drew w4.heap.size 28 #[.int .i64 (ofX lb).op, .int .u32 (ofX lb).num, .slice qb (ofX lb).kids db] := hW5 ▸ Blk.new w4 _ _
    have hZ5 : W5.drew.heap.size = w4.heap.size + 1 := by show W5.heap.size = _; rw [← hW5]; simp
    have hS5 : (ofX la).IsS W5.drew (.slice qa (ofX la).kids da) bla := hS4.keep fun b hb => by rw [← hW5]; exact Below.heap_alloc _ _ b (by have := (hLa b hb).2; omega)
    have hV5 : (ofX lb).IsS W5.drew (.slice qb (ofX lb).kids db) blb := hSb.keep fun b hb => by rw [← hW5]; exact Below.heap_alloc _ _ b (hLb b hb).2
    have hfa := flat_calls (ofX la) _ bla W5.drew hS5 (fun b hb => by have := (hLa b hb).2; omega) (by have := ofX_size la; omega)
    have hBd : Below W.heap.size W W5.drew := hB5.drew
    rw [hW5]
    obtain ⟨hp0, hp1, hp2⟩ := hP5.c3
    obtain ⟨hr0, hr1, hr2⟩ := hR5.c3
    go_region_law
      (first
        | (rw [if_pos (by rfl)]; go_simp; go_at_call 19; refine hfa.mono ?_; clear hfa; rintro e w6 ⟨ga, xa, rfl, hOa, hB6⟩
           have hP6 := hP5.below hB6 (by omega)
           have hR6 := hR5.below hB6 (by omega)
           obtain ⟨hq0, hq1, hq2⟩ := hR6.c3
           have hfb := flat_calls (ofX lb) _ blb w6 (hV5.keep fun b hb => hB6.block b (by have := (hLb b hb).2; omega)) (fun b hb => by have := (hLb b hb).2; have := hB6.size; omega) (by have := ofX_size lb; omega))
        | (rw [if_pos (by rfl)]; go_simp; go_at_call 19; refine hfb.mono ?_; clear hfb; rintro e w7 ⟨gb, xb, rfl, hOb, hB7⟩
           have hP7 := hP6.below hB7 (by have := hB6.size; omega)
           have hR7 := hR6.below hB7 (by have := hB6.size; omega)))
    all_goals
      have hZ6 := hB6.size
      have hZ7 := hB7.size
      have hBe : Below W.heap.size W w7 := (hBd.trans (hB6.mono (by have := hBd.size; omega))).trans (hB7.mono (by have := hBd.size; omega))
      have hNA : NAt w7 ga (ofX la).nodes := (NAt.of_row hOa (T.nodes_length _)).below hB7 (row_cap hOa).2
      have hNB : NAt w7 gb (ofX lb).nodes := NAt.of_row hOb (T.nodes_length _)
      have hla := T.nodes_length (ofX la)
      have hlb := T.nodes_length (ofX lb)
      have hsa := ofX_size la
      have hsb := ofX_size lb
      have hca := (row_cap hOa).1
      have hcb := (row_cap hOb).1
      have hga : ga < w7.heap.size := Nat.lt_of_lt_of_le (row_cap hOa).2 hZ7
      have hgb : gb < w7.heap.size := (row_cap hOb).2
      go_wp2_with fail
    all_goals
      have hHe := Lib.hid hBe
      have hSA := Lib.hid ((hS5.keep fun b hb => hB6.block b (by have := (hLa b hb).2; omega)).keep fun b hb => hB7.block b (by have := (hLa b hb).2; omega))
      have hSB := Lib.hid ((hV5.keep fun b hb => hB6.block b (by have := (hLb b hb).2; omega)).keep fun b hb => hB7.block b (by have := (hLb b hb).2; omega))
      have hLA := Lib.hid (show ∀ b ∈ bla, b < w7.heap.size from fun b hb => by have := (hLa b hb).2; omega)
      have hLB := Lib.hid (show ∀ b ∈ blb, b < w7.heap.size from fun b hb => by have := (hLb b hb).2; omega)
      have hPP := Lib.hid hP7
      have hRR := Lib.hid hR7
      clear hP7 hR7
      clear hBe hB1 hB2 hB3 hB4 hB5 hBd hB6 hB7 hP3 hP4 hP5 hR5 hP6 hR6 hq0 hq1 hq2 hp0 hp1 hp2 hr0 hr1 hr2 hNa hNb hNa1 hNb1 hNb3 hSa hS3 hS4 hS5 hV5 hSb hLa hLb hOa hOb
      go_loopw [11, 45] (fun s i wr => ∃ k : Nat, i = .int .i64 k ∧ s = .bool (sameTo (ofX la).nodes (ofX lb).nodes k) ∧ k ≤ (ofX la).size ∧ k ≤ (ofX lb).size ∧ Hid (Below w7.heap.size w7 wr)) (fun _ i _ => (ofX la).size + (ofX lb).size - (intOf i).toNat)
      case atStart => exact ⟨0, rfl, congrArg Value.bool (sameTo_zero hla hlb), by omega, by omega, Below.refl _ _⟩
      case round =>
        obtain ⟨k, rfl, rfl, hka, hkb, hB⟩ := hrel
        by_cases hlt : k < (ofX la).size ∧ k < (ofX lb).size
        · obtain ⟨x, hx⟩ : ∃ x, (ofX la).nodes[k]? = some x := ⟨_, List.getElem?_eq_getElem (by omega)⟩
          obtain ⟨y, hy⟩ : ∃ y, (ofX lb).nodes[k]? = some y := ⟨_, List.getElem?_eq_getElem (by omega)⟩
          obtain ⟨hx1, hx2, hx3⟩ := hNA.below hB.out hga k x hx
          obtain ⟨hy1, hy2, hy3⟩ := hNB.below hB.out hgb k y hy
          obtain ⟨hlt1, hlt2⟩ := hlt
          have hmore : ∀ b, sameTo (ofX la).nodes (ofX lb).nodes (k + 1) = b → ∃ k' : Nat, Value.int .i64 ((k : Int) + 1) = .int .i64 k' ∧ Value.bool b = .bool (sameTo (ofX la).nodes (ofX lb).nodes k') ∧ k' ≤ (ofX la).size ∧ k' ≤ (ofX lb).size ∧ Hid (Below w7.heap.size w7 (wr.drewN 1)) := fun b hb => ⟨k + 1, rfl, by rw [hb], by omega, by omega, hB.out.trans (below_drewN _ _ _)⟩
          cases hs : sameTo (ofX la).nodes (ofX lb).nodes k with
          | false =>
            have hHs := Lib.hid (sameTo_false hs)
            clear hs hNA hNB hx hy hmore
            go_wp2
            go_quiet (fail)
            go_wp2
            go_roundw
            case rel => exact ⟨k + 1, by go_num, by rw [hHs.out], by omega, by omega, hB.out.trans (below_drewN _ _ _)⟩
            case measure => simp [intOf]; omega
          | true =>
            have hst := sameTo_step hx hy hs
            obtain ⟨x1, x2, x3⟩ := x
            obtain ⟨y1, y2, y3⟩ := y
            dsimp only at hx1 hx2 hx3 hy1 hy2 hy3
            by_cases e1 : x1 = y1
            · by_cases e2 : x2 = y2
              · by_cases e3 : x3 = y3
                · subst e1; subst e2; subst e3
                  have hHs := Lib.hid (show sameTo (ofX la).nodes (ofX lb).nodes (k + 1) = true by rw [hst]; simp)
                  clear hst hs hNA hNB hx hy hmore
                  go_wp2
                  go_quiet (fail)
                  go_wp2
                  go_roundw
                  case rel => exact ⟨k + 1, by go_num, by rw [hHs.out], by omega, by omega, hB.out.trans (below_drewN _ _ _)⟩
                  case measure => simp [intOf]; omega
                · subst e1; subst e2
                  have hHs := Lib.hid (show sameTo (ofX la).nodes (ofX lb).nodes (k + 1) = false by rw [hst]; simp [e3])
                  clear hst hs hNA hNB hx hy hmore
                  go_wp2
                  go_quiet (fail)
                  go_wp2
                  go_roundw
                  case rel => exact ⟨k + 1, by go_num, by rw [hHs.out], by omega, by omega, hB.out.trans (below_drewN _ _ _)⟩
                  case measure => simp [intOf]; omega
              · subst e1
                have hHs := Lib.hid (show sameTo (ofX la).nodes (ofX lb).nodes (k + 1) = false by rw [hst]; simp [e2])
                clear hst hs hNA hNB hx hy hmore
                go_wp2
                go_quiet (fail)
                go_wp2
                go_roundw
                case rel => exact ⟨k + 1, by go_num, by rw [hHs.out], by omega, by omega, hB.out.trans (below_drewN _ _ _)⟩
                case measure => simp [intOf]; omega
            · have hHs := Lib.hid (show sameTo (ofX la).nodes (ofX lb).nodes (k + 1) = false by rw [hst]; simp [e1])
              clear hst hs hNA hNB hx hy hmore
              go_wp2
              go_quiet (fail)
              go_wp2
              go_roundw
              case rel => exact ⟨k + 1, by go_num, by rw [hHs.out], by omega, by omega, hB.out.trans (below_drewN _ _ _)⟩
              case measure => simp [intOf]; omega
        · have hend : sameTo (ofX la).nodes (ofX lb).nodes k = (ofX la).same (ofX lb) := by rw [T.same_nodes]; exact sameTo_end (by omega) (by omega) (by omega)
          rw [hend]
          have hBr := hB.out
          have hZr := hBr.size
          have hPr := hPP.out.below hBr hPP.out.lt
          have hRr := hRR.out.below hBr hRR.out.lt
          obtain ⟨hp0, hp1, hp2⟩ := hPr.c3
          obtain ⟨hr0, hr1, hr2⟩ := hRr.c3
          have hSr := hSA.out.keep fun b hb => hBr.block b (hLA.out b hb)
          have hVr := hSB.out.keep fun b hb => hBr.block b (hLB.out b hb)
          have hcomm := T.same_comm (ofX lb) (ofX la)
          clear hend hNA hNB hB
          go_wp2_with fail
          refine (same_calls (ofX la) (ofX lb) _ _ bla blb wr hSr hVr (fun b hb => Nat.lt_of_lt_of_le (hLA.out b hb) hZr) (fun b hb => Nat.lt_of_lt_of_le (hLB.out b hb) hZr)).mono ?_
          rintro e w8 ⟨rfl, hB8⟩
          have hZ8 := hB8.size
          have hP8 := hPr.below hB8 hPr.lt
          have hR8 := hRr.below hB8 hRr.lt
          obtain ⟨hq0, hq1, hq2⟩ := hP8.c3
          obtain ⟨hs0, hs1, hs2⟩ := hR8.c3
          go_wp2_with fail
          refine (same_calls (ofX lb) (ofX la) _ _ blb bla w8 (hVr.keep fun b hb => hB8.block b (Nat.lt_of_lt_of_le (hLB.out b hb) hZr)) (hSr.keep fun b hb => hB8.block b (Nat.lt_of_lt_of_le (hLA.out b hb) hZr)) (fun b hb => by have := hLB.out b hb; omega) (fun b hb => by have := hLA.out b hb; omega)).mono ?_
          rintro e w9 ⟨rfl, hB9⟩
          go_wp2_with fail
          go_ret
          exact ⟨congrArg Ending.returned (congrArg Value.bool (by simp [hcomm])), ((hHe.out.trans (hBr.mono (by omega))).trans (hB8.mono (by omega))).trans (hB9.mono (by omega))⟩
  · go_ret
    exact ⟨rfl, hW5 ▸ hB5⟩

end Go.Proofs.YtnjmfedleimlmaaDoor

/- A term's nodes as a list: the walk of flat. -/
import Derived.Test.YtnjmfedleimlmaaDoorJdTermC
namespace Go.Proofs.YtnjmfedleimlmaaDoor
open Go Go.RowKit

namespace T
/-- the nodes, each ahead of its terms': operator, number, how many terms -/
def nodes : T → List (Int × Int × Int)
  | .leaf o n => [(o, n, 0)] | .one o n a => (o, n, 1) :: a.nodes | .two o n a b => (o, n, 2) :: (a.nodes ++ b.nodes)
theorem nodes_length : ∀ t : T, t.nodes.length = t.size
  | .leaf .. => rfl
  | .one _ _ a => by simp [nodes, size, a.nodes_length]; omega
  | .two _ _ a b => by simp [nodes, size, a.nodes_length, b.nodes_length]; omega
theorem size_pos (t : T) : 1 ≤ t.size := by cases t <;> simp [size] <;> omega
end T
/-- a node's cells -/
def ncells (l : List (Int × Int × Int)) : List Value := l.flatMap fun x => [.int .i64 x.1, .int .u32 x.2.1, .int .i64 x.2.2]
theorem ncells_length (l : List (Int × Int × Int)) : (ncells l).length = l.length * 3 := by
  induction l with
  | nil => rfl
  | cons x l ih => simp only [ncells, List.flatMap_cons, List.length_append, List.length_cons, List.length_nil] at *; omega
theorem ncells_one (l : List (Int × Int × Int)) : ∀ u ∈ ncells l, u.oneCell' = true := by
  intro u hu
  obtain ⟨x, _, hx⟩ := List.mem_flatMap.1 hu
  simp only [List.mem_cons, List.not_mem_nil, or_false] at hx
  rcases hx with rfl | rfl | rfl <;> rfl
theorem ncells_append (l m : List (Int × Int × Int)) : ncells (l ++ m) = ncells l ++ ncells m := List.flatMap_append
theorem nodeInfo : (Tryd.prog.info? 45).map (fun i => (i.zero, i.size, i.bytes)) = some (some (.agg #[.int .i64 0, .int .u32 0, .int .i64 0]), 3, 24) := by kernel_rfl
theorem _root_.Go.RowKit.Below.grownBy {w w' : World} (h : Below w.heap.size w w') : w.grownBy w' none := ⟨h.os, h.tape, h.output, h.size, fun k hk _ => h.block k hk⟩
def FlatPost (w : World) (t : T) (e : Ending) (w' : World) : Prop :=
  ∃ g cap, e = .returned (.slice (some ⟨g, 0, none⟩) t.size cap) ∧ w'.ownsRow w.heap.size 45 3 (.slice (some ⟨g, 0, none⟩) t.size cap) t.size (ncells t.nodes) ∧ Below w.heap.size w w'

set_option maxHeartbeats 4000000 in
set_option maxRecDepth 100000 in
theorem flat_leaf (o n : Int) (w : World) : Calls Tryd.prog 19 #[.agg #[.int .i64 o, .int .u32 n, .slice none 0 0], .int .i64 3000] w (FlatPost w (.leaf o n)) := by
  go_enter Tryd.func19, Tryd.ntmps19
  go_wp2
  refine wp_loop_rounds 1 ?_
  iterate 1 (rw [rounds_succ]; go_wp2)
  go_ret
  refine ⟨_, _, rfl, ?_, ((Below.refl _ w).alloc (Nat.le_refl _) _).alloc (by simp) _⟩
  have := World.ownsRow_lit (base := w.heap.size) (e := 45) (size := 3) (w.alloc (.cells #[.int .i64 o, .int .u32 n, .slice none 0 0] 28)) #[.int .i64 o, .int .u32 n, .int .i64 0] 1 (by simp) (by decide) rfl
  simpa [T.size, T.nodes, ncells] using this

set_option maxHeartbeats 4000000 in
set_option maxRecDepth 100000 in
theorem flat_one (o n : Int) (a : T) (s : Value) (bl : List Nat) (w : World) (h : (T.one o n a).IsS w s bl) (hbl : ∀ b ∈ bl, b < w.heap.size) (hz : a.size ≤ 2999)
    (ih : ∀ (s : Value) (bl : List Nat) (w : World), a.IsS w s bl → (∀ b ∈ bl, b < w.heap.size) → Calls Tryd.prog 19 #[.agg #[.int .i64 a.op, .int .u32 a.num, s], .int .i64 3000] w (FlatPost w a)) :
    Calls Tryd.prog 19 #[.agg #[.int .i64 o, .int .u32 n, s], .int .i64 3000] w (FlatPost w (.one o n a)) := by
  obtain ⟨g, cap, cur, fr, sa, bla, rfl, hcap, hh, h0, h1, h2, ha, rfl⟩ := h
  have hc0 : w.cell? ⟨g, 0, none⟩ = some (.int .i64 a.op) := by rw [cell_of_row w g 0 cur _ fr hh, h0]
  have hc1 : w.cell? ⟨g, 1, none⟩ = some (.int .u32 a.num) := by rw [cell_of_row w g 1 cur _ fr hh, h1]
  have hc2 : w.cell? ⟨g, 2, none⟩ = some sa := by rw [cell_of_row w g 2 cur _ fr hh, h2]
  obtain ⟨pa, ca, rfl⟩ := ha.form
  obtain ⟨i0, hi0, hz0, hz1, hz2⟩ := info_parts nodeInfo
  have hlt := World.block_lt_of_cell? w _ hc0
  go_enter Tryd.func19, Tryd.ntmps19
  go_wp2
  refine wp_loop_rounds 2 ?_
  rw [rounds_succ]
  go_wp2_with fail
  obtain ⟨W1, hW1⟩ : ∃ W1, ((w.alloc (.cells #[.int .i64 o, .int .u32 n, .slice (some ⟨g, 0, none⟩) 1 cap] 28)).alloc (.cells #[.int .i64 o, .int .u32 n, .int .i64 1] 45)).alloc (.cells #[.int .i64 a.op, .int .u32 a.num, .slice pa a.kids ca] 28) = W1 := ⟨_, rfl⟩
  have hB1 : Below w.heap.size w W1 := hW1 ▸ (((Below.refl _ w).alloc (Nat.le_refl _) _).alloc (by simp) _).alloc (by simp; omega) _
  have hZ1 : W1.heap.size = w.heap.size + 1 + 1 + 1 := by rw [← hW1]; simp
  have hO1 : W1.ownsRow w.heap.size 45 3 (.slice (some ⟨w.heap.size + 1, 0, none⟩) 1 1) 1 [.int .i64 o, .int .u32 n, .int .i64 1] := by
    have := (World.ownsRow_lit (base := w.heap.size) (e := 45) (size := 3) (w.alloc (.cells #[.int .i64 o, .int .u32 n, .slice (some ⟨g, 0, none⟩) 1 cap] 28)) #[.int .i64 o, .int .u32 n, .int .i64 1] 1 (by simp) (by decide) rfl).alloc (.cells #[.int .i64 a.op, .int .u32 a.num, .slice pa a.kids ca] 28)
    rw [hW1] at this
    simpa using this
  rw [hW1]
  refine (ih _ bla W1 (ha.keep fun b hb => hB1.block b (hbl b (by simp [hb]))) (fun b hb => by have := hbl b (by simp [hb]); omega)).mono ?_
  rintro e w2 ⟨g2, cap2, rfl, hO2, hB2⟩
  have hO1' := hO1.kept hB2.grownBy (.inr (by simp [Value.ownBlock]))
  go_wp2_with (at_builtin; refine wpList_append_lies _ rfl _ _ _ rfl w.heap.size 45 i0 _ 3 24 Tryd.underlying39 hi0 hz0 hz1 hz2 rfl (by omega) _ 1 _ rfl hO1' ⟨g2, 0, none⟩ a.size cap2 (ncells a.nodes) rfl (by rw [ncells_length, a.nodes_length]) (hO2.cells rfl) (ncells_one _) a.size_pos (by show 1 + a.size ≤ 9223372036854775807; omega) (by omega) (by have := hB2.size; omega) _ rfl ?_; intro g3 cap3 w3 hO3 hgrow hat hlt3)
  rw [rounds_succ]
  go_wp2
  go_ret
  refine ⟨g3, cap3, rfl, hO3, (hB1.trans (hB2.mono hB1.size)).grown hgrow (by have := hB2.size; omega) fun r e => by obtain rfl : w.heap.size + 1 = r := Option.some.inj e; omega⟩

set_option maxHeartbeats 4000000 in
set_option maxRecDepth 100000 in
theorem flat_two (o n : Int) (a b : T) (s : Value) (bl : List Nat) (w : World) (h : (T.two o n a b).IsS w s bl) (hbl : ∀ b ∈ bl, b < w.heap.size) (hz : a.size + b.size ≤ 2999)
    (iha : ∀ (s : Value) (bl : List Nat) (w : World), a.IsS w s bl → (∀ b ∈ bl, b < w.heap.size) → Calls Tryd.prog 19 #[.agg #[.int .i64 a.op, .int .u32 a.num, s], .int .i64 3000] w (FlatPost w a))
    (ihb : ∀ (s : Value) (bl : List Nat) (w : World), b.IsS w s bl → (∀ b ∈ bl, b < w.heap.size) → Calls Tryd.prog 19 #[.agg #[.int .i64 b.op, .int .u32 b.num, s], .int .i64 3000] w (FlatPost w b)) :
    Calls Tryd.prog 19 #[.agg #[.int .i64 o, .int .u32 n, s], .int .i64 3000] w (FlatPost w (.two o n a b)) := by
  obtain ⟨g, cap, cur, fr, sa, bla, sb, blb, rfl, hcap, hh, h0, h1, h2, h3, h4, h5, ha, hb, rfl⟩ := h
  have hc0 : w.cell? ⟨g, 0, none⟩ = some (.int .i64 a.op) := by rw [cell_of_row w g 0 cur _ fr hh, h0]
  have hc1 : w.cell? ⟨g, 1, none⟩ = some (.int .u32 a.num) := by rw [cell_of_row w g 1 cur _ fr hh, h1]
  have hc2 : w.cell? ⟨g, 2, none⟩ = some sa := by rw [cell_of_row w g 2 cur _ fr hh, h2]
  have hc3 : w.cell? ⟨g, 3, none⟩ = some (.int .i64 b.op) := by rw [cell_of_row w g 3 cur _ fr hh, h3]
  have hc4 : w.cell? ⟨g, 4, none⟩ = some (.int .u32 b.num) := by rw [cell_of_row w g 4 cur _ fr hh, h4]
  have hc5 : w.cell? ⟨g, 5, none⟩ = some sb := by rw [cell_of_row w g 5 cur _ fr hh, h5]
  obtain ⟨pa, ca, rfl⟩ := ha.form
  obtain ⟨pb, cb, rfl⟩ := hb.form
  obtain ⟨i0, hi0, hz0, hz1, hz2⟩ := info_parts nodeInfo
  have hlt := World.block_lt_of_cell? w _ hc0
  have hlt' : g < w.heap.size := hlt
  go_enter Tryd.func19, Tryd.ntmps19
  go_wp2
  refine wp_loop_rounds 3 ?_
  rw [rounds_succ]
  go_wp2_with fail
  obtain ⟨W1, hW1⟩ : ∃ W1, ((w.alloc (.cells #[.int .i64 o, .int .u32 n, .slice (some ⟨g, 0, none⟩) 2 cap] 28)).alloc (.cells #[.int .i64 o, .int .u32 n, .int .i64 2] 45)).alloc (.cells #[.int .i64 a.op, .int .u32 a.num, .slice pa a.kids ca] 28) = W1 := ⟨_, rfl⟩
  have hB1 : Below w.heap.size w W1 := hW1 ▸ (((Below.refl _ w).alloc (Nat.le_refl _) _).alloc (by simp) _).alloc (by simp; omega) _
  have hZ1 : W1.heap.size = w.heap.size + 1 + 1 + 1 := by rw [← hW1]; simp
  have hO1 : W1.ownsRow w.heap.size 45 3 (.slice (some ⟨w.heap.size + 1, 0, none⟩) 1 1) 1 [.int .i64 o, .int .u32 n, .int .i64 2] := by
    have := (World.ownsRow_lit (base := w.heap.size) (e := 45) (size := 3) (w.alloc (.cells #[.int .i64 o, .int .u32 n, .slice (some ⟨g, 0, none⟩) 2 cap] 28)) #[.int .i64 o, .int .u32 n, .int .i64 2] 1 (by simp) (by decide) rfl).alloc (.cells #[.int .i64 a.op, .int .u32 a.num, .slice pa a.kids ca] 28)
    rw [hW1] at this
    simpa using this
  rw [hW1]
  refine (iha _ bla W1 (ha.keep fun b hb => hB1.block b (hbl b (by simp [hb]))) (fun b hb => by have := hbl b (by simp [hb]); omega)).mono ?_
  rintro e w2 ⟨g2, cap2, rfl, hO2, hB2⟩
  have hO1' := hO1.kept hB2.grownBy (.inr (by simp [Value.ownBlock]))
  go_wp2_with (at_builtin; refine wpList_append_lies _ rfl _ _ _ rfl w.heap.size 45 i0 _ 3 24 Tryd.underlying39 hi0 hz0 hz1 hz2 rfl (by omega) _ 1 _ rfl hO1' ⟨g2, 0, none⟩ a.size cap2 (ncells a.nodes) rfl (by rw [ncells_length, a.nodes_length]) (hO2.cells rfl) (ncells_one _) a.size_pos (by show 1 + a.size ≤ 9223372036854775807; omega) (by omega) (by have := hB2.size; omega) _ rfl ?_; intro g3 cap3 w3 hO3 hgrow hat hlt3)
  have hB3 : Below w.heap.size w w3 := (hB1.trans (hB2.mono hB1.size)).grown hgrow (by have := hB2.size; omega) fun r e => by obtain rfl : w.heap.size + 1 = r := Option.some.inj e; omega
  have hd3 : w3.cell? ⟨g, 3, none⟩ = some (.int .i64 b.op) := (hB3.cell (p := ⟨g, 3, none⟩) hlt').trans hc3
  have hd4 : w3.cell? ⟨g, 4, none⟩ = some (.int .u32 b.num) := (hB3.cell (p := ⟨g, 4, none⟩) hlt').trans hc4
  have hd5 : w3.cell? ⟨g, 5, none⟩ = some (.slice pb b.kids cb) := (hB3.cell (p := ⟨g, 5, none⟩) hlt').trans hc5
  have hZ3 := hB3.size
  clear hc0 hc1 hc2 hc3 hc4 hc5 hO1' hO1 hW1 hO2
  rw [rounds_succ]
  go_wp2_with fail
  obtain ⟨W4, hW4⟩ : ∃ W4, w3.alloc (.cells #[.int .i64 b.op, .int .u32 b.num, .slice pb b.kids cb] 28) = W4 := ⟨_, rfl⟩
  have hB4 : Below w.heap.size w W4 := hW4 ▸ hB3.alloc hZ3 _
  have hO4 := hO3.alloc (.cells #[.int .i64 b.op, .int .u32 b.num, .slice pb b.kids cb] 28)
  rw [hW4] at hO4 ⊢
  have hZ4 := hB4.size
  refine (ihb _ blb W4 (hb.keep fun c hc => hB4.block c (hbl c (by simp [hc]))) (fun c hc => by have := hbl c (by simp [hc]); omega)).mono ?_
  rintro e w5 ⟨g5, cap5, rfl, hO5, hB5⟩
  have hO4' := hO4.kept hB5.grownBy (.inr (by simp [Value.ownBlock]))
  go_wp2_with (at_builtin; refine wpList_append_lies _ rfl _ _ _ rfl w.heap.size 45 i0 _ 3 24 Tryd.underlying39 hi0 hz0 hz1 hz2 rfl (by omega) _ (1 + a.size) _ rfl hO4' ⟨g5, 0, none⟩ b.size cap5 (ncells b.nodes) rfl (by rw [ncells_length, b.nodes_length]) (hO5.cells rfl) (ncells_one _) b.size_pos (by show 1 + a.size + b.size ≤ 9223372036854775807; omega) (by omega) (by have := hB5.size; omega) _ rfl ?_; intro g6 cap6 w6 hO6 hgrow6 hat6 hlt6)
  have hr3 : w.heap.size ≤ g3 := (hO4.lt g3 rfl).1
  rw [rounds_succ]
  go_wp2
  go_ret
  refine ⟨g6, cap6, rfl, ?_, (hB4.trans (hB5.mono hB4.size)).grown hgrow6 (by have := hB5.size; omega) fun r e => by obtain rfl : g3 = r := Option.some.inj e; omega⟩
  have e : ncells (T.two o n a b).nodes = [.int .i64 o, .int .u32 n, .int .i64 2] ++ ncells a.nodes ++ ncells b.nodes := by
    show _ :: _ :: _ :: ncells (a.nodes ++ b.nodes) = _
    rw [ncells_append]; rfl
  rw [e]
  exact hO6
/-- what flat yields -/
theorem flat_calls : ∀ (t : T) (s : Value) (bl : List Nat) (w : World), t.IsS w s bl → (∀ b ∈ bl, b < w.heap.size) → t.size ≤ 3000 → Calls Tryd.prog 19 #[.agg #[.int .i64 t.op, .int .u32 t.num, s], .int .i64 3000] w (FlatPost w t)
  | .leaf o n, s, bl, w, h, _, _ => by obtain ⟨rfl, _⟩ := h; exact flat_leaf o n w
  | .one o n a, s, bl, w, h, hbl, hz => flat_one o n a s bl w h hbl (by simp only [T.size] at hz; omega) fun s bl w h hb => flat_calls a s bl w h hb (by simp only [T.size] at hz; omega)
  | .two o n a b, s, bl, w, h, hbl, hz => flat_two o n a b s bl w h hbl (by simp only [T.size] at hz; omega) (fun s bl w h hb => flat_calls a s bl w h hb (by simp only [T.size] at hz; omega)) (fun s bl w h hb => flat_calls b s bl w h hb (by simp only [T.size] at hz; omega))

end Go.Proofs.YtnjmfedleimlmaaDoor

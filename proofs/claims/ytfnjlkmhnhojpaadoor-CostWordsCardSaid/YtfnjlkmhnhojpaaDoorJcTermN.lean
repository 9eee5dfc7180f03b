/- How many nodes a term has: the walk of Count. -/
import Derived.Test.YtfnjlkmhnhojpaaDoorJcTermD
namespace Go.Proofs.YtfnjlkmhnhojpaaDoor
open Go Go.RowKit

def CountPost (w : World) (n : Nat) (e : Ending) (w' : World) : Prop := e = .returned (.int .i64 n) ∧ Below w.heap.size w w'
def CountCalls (t : T) : Prop := ∀ (s : Value) (bl : List Nat) (w : World), t.IsS w s bl → (∀ b ∈ bl, b < w.heap.size) → t.size ≤ 20000 → Calls Tryd.prog 41 #[.agg #[.int .i64 t.op, .int .u32 t.num, s]] w (CountPost w t.size)

set_option maxHeartbeats 4000000 in
set_option maxRecDepth 100000 in
theorem count_leaf (o n : Int) : CountCalls (.leaf o n) := fun s bl w h hbl hz => by
  obtain ⟨rfl, _⟩ := h
  go_enter Tryd.func41, Tryd.ntmps41
  go_wp2
  refine wp_loop_rounds 1 ?_
  rw [rounds_succ]
  go_wp2
  go_ret
  exact ⟨rfl, (Below.refl _ w).alloc (Nat.le_refl _) _⟩

set_option maxHeartbeats 4000000 in
set_option maxRecDepth 100000 in
theorem count_one (o n : Int) (a : T) (ih : CountCalls a) : CountCalls (.one o n a) := fun s bl w h hbl hz => by
  obtain ⟨g, cap, p, c, bla, rfl, hcap, hg, c0, c1, c2, ha, hs⟩ := h.cells1
  have hz' : 1 + a.size ≤ 20000 := hz
  go_enter Tryd.func41, Tryd.ntmps41
  go_wp2
  refine wp_loop_rounds 2 ?_
  rw [rounds_succ]
  go_wp2_with fail
  obtain ⟨W1, hW1⟩ : ∃ W1, (w.alloc (.cells #[.int .i64 (T.one o n a).op, .int .u32 (T.one o n a).num, .slice (some ⟨g, 0, none⟩) 1 cap] 28)).alloc (.cells #[.int .i64 a.op, .int .u32 a.num, .slice p a.kids c] 28) = W1 := ⟨_, rfl⟩
  have hB1 : Below w.heap.size w W1 := hW1 ▸ ((Below.refl _ w).alloc (Nat.le_refl _) _).alloc (by simp) _
  have hZ1 := hB1.size
  rw [hW1]
  refine (ih _ bla W1 (ha.keep fun b hb => hB1.block b (hbl b (hs b hb))) (fun b hb => Nat.lt_of_lt_of_le (hbl b (hs b hb)) hZ1) (by omega)).mono ?_
  rintro e w2 ⟨rfl, hB2⟩
  have hBf := hB1.trans (hB2.mono hZ1)
  go_wp2_with fail
  rw [rounds_succ]
  go_wp2
  go_ret
  exact ⟨by simp [T.size], hBf⟩

set_option maxHeartbeats 4000000 in
set_option maxRecDepth 100000 in
theorem count_two (o n : Int) (a b : T) (iha : CountCalls a) (ihb : CountCalls b) : CountCalls (.two o n a b) := fun s bl w h hbl hz => by
  obtain ⟨g, cap, p, c, q, d, bla, blb, rfl, hcap, hg, ⟨c0, c1, c2⟩, ⟨c3, c4, c5⟩, ha, hb, hs, ht⟩ := h.cells2
  have hz' : 1 + a.size + b.size ≤ 20000 := hz
  go_enter Tryd.func41, Tryd.ntmps41
  go_wp2
  refine wp_loop_rounds 3 ?_
  rw [rounds_succ]
  go_wp2_with fail
  obtain ⟨W1, hW1⟩ : ∃ W1, (w.alloc (.cells #[.int .i64 (T.two o n a b).op, .int .u32 (T.two o n a b).num, .slice (some ⟨g, 0, none⟩) 2 cap] 28)).alloc (.cells #[.int .i64 a.op, .int .u32 a.num, .slice p a.kids c] 28) = W1 := ⟨_, rfl⟩
  have hB1 : Below w.heap.size w W1 := hW1 ▸ ((Below.refl _ w).alloc (Nat.le_refl _) _).alloc (by simp) _
  have hZ1 := hB1.size
  rw [hW1]
  refine (iha _ bla W1 (ha.keep fun b hb => hB1.block b (hbl b (hs b hb))) (fun b hb => Nat.lt_of_lt_of_le (hbl b (hs b hb)) hZ1) (by omega)).mono ?_
  rintro e w2 ⟨rfl, hB2⟩
  have hBf : Below w.heap.size w w2 := hB1.trans (hB2.mono hZ1)
  have hZ2 := hBf.size
  have e3 : w2.cell? ⟨g, 3, none⟩ = some (.int .i64 b.op) := (hBf.cell (p := ⟨g, 3, none⟩) hg).trans c3
  have e4 : w2.cell? ⟨g, 4, none⟩ = some (.int .u32 b.num) := (hBf.cell (p := ⟨g, 4, none⟩) hg).trans c4
  have e5 : w2.cell? ⟨g, 5, none⟩ = some (.slice q b.kids d) := (hBf.cell (p := ⟨g, 5, none⟩) hg).trans c5
  have hg2 : g < w2.heap.size := Nat.lt_of_lt_of_le hg hZ2
  clear c0 c1 c2 c3 c4 c5
  go_wp2_with fail
  rw [rounds_succ]
  go_wp2_with fail
  obtain ⟨W3, hW3⟩ : ∃ W3, w2.alloc (.cells #[.int .i64 b.op, .int .u32 b.num, .slice q b.kids d] 28) = W3 := ⟨_, rfl⟩
  have hB3 : Below w.heap.size w W3 := hW3 ▸ hBf.alloc hZ2 _
  have hZ3 := hB3.size
  rw [hW3]
  refine (ihb _ blb W3 (hb.keep fun b hb => hB3.block b (hbl b (ht b hb))) (fun b hb => Nat.lt_of_lt_of_le (hbl b (ht b hb)) hZ3) (by omega)).mono ?_
  rintro e w4 ⟨rfl, hB4⟩
  have hBg : Below w.heap.size w w4 := hB3.trans (hB4.mono hZ3)
  go_wp2_with fail
  rw [rounds_succ]
  go_wp2
  go_ret
  exact ⟨by simp [T.size], hBg⟩
theorem count_calls : ∀ t : T, CountCalls t
  | .leaf o n => count_leaf o n
  | .one o n a => count_one o n a (count_calls a)
  | .two o n a b => count_two o n a b (count_calls a) (count_calls b)

end Go.Proofs.YtfnjlkmhnhojpaaDoor

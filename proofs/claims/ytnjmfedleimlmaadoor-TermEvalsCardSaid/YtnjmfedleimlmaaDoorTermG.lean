/- Two terms are the same: the walks of Same and of the library's EqualFunc at terms. -/
import Derived.Test.YtnjmfedleimlmaaDoorTermF
namespace Go.Proofs.YtnjmfedleimlmaaDoor
open Go Go.RowKit

namespace T
def same : T → T → Bool
  | .leaf o n, .leaf o' n' => o == o' && n == n'
  | .one o n a, .one o' n' a' => o == o' && n == n' && a.same a'
  | .two o n a b, .two o' n' a' b' => o == o' && n == n' && (a.same a' && b.same b')
  | _, _ => false
/-- are the lists' terms the same? -/
def kidsSame : T → T → Bool
  | .leaf .., .leaf .. => true
  | .one _ _ a, .one _ _ a' => a.same a'
  | .two _ _ a b, .two _ _ a' b' => a.same a' && b.same b'
  | _, _ => false
theorem same_eq (t u : T) : t.same u = (t.op == u.op && t.num == u.num && t.kidsSame u) := by
  cases t <;> cases u <;> simp [same, kidsSame, op, num]
end T

/-- what Same says -/
def SamePost (w : World) (b : Bool) (e : Ending) (w' : World) : Prop := e = .returned (.bool b) ∧ Below w.heap.size w w'
def SameCalls (t u : T) : Prop := ∀ (s v : Value) (bl cl : List Nat) (w : World), t.IsS w s bl → u.IsS w v cl → (∀ b ∈ bl, b < w.heap.size) → (∀ b ∈ cl, b < w.heap.size) →
  Calls Tryd.prog 21 #[.agg #[.int .i64 t.op, .int .u32 t.num, s], .agg #[.int .i64 u.op, .int .u32 u.num, v]] w (SamePost w (t.same u))

set_option maxHeartbeats 4000000 in
set_option maxRecDepth 100000 in
theorem same_step (t u : T) (s v : Value) (bl cl : List Nat) (w : World) (h : t.IsS w s bl) (h' : u.IsS w v cl) (hbl : ∀ b ∈ bl, b < w.heap.size) (hcl : ∀ b ∈ cl, b < w.heap.size)
    (ih : ∀ w, t.IsS w s bl → u.IsS w v cl → (∀ b ∈ bl, b < w.heap.size) → (∀ b ∈ cl, b < w.heap.size) → Calls Tryd.prog 48 #[s, v, .func (.func 21) #[] #[]] w (SamePost w (t.kidsSame u))) :
    Calls Tryd.prog 21 #[.agg #[.int .i64 t.op, .int .u32 t.num, s], .agg #[.int .i64 u.op, .int .u32 u.num, v]] w (SamePost w (t.same u)) := by
  obtain ⟨ps, cs, rfl⟩ := h.form
  obtain ⟨pv, cv, rfl⟩ := h'.form
  have hB : Below w.heap.size w ((w.alloc (.cells #[.int .i64 t.op, .int .u32 t.num, .slice ps t.kids cs] 28)).alloc (.cells #[.int .i64 u.op, .int .u32 u.num, .slice pv u.kids cv] 28)) := ((Below.refl _ w).alloc (Nat.le_refl _) _).alloc (by simp) _
  have e := T.same_eq t u
  cases h1 : t.op == u.op with
  | false =>
    rw [h1] at e
    simp only [Bool.false_and] at e
    rw [e]
    go_enter Tryd.func21, Tryd.ntmps21
    go_wp2
    go_ret
    exact ⟨rfl, hB⟩
  | true =>
    cases h2 : t.num == u.num with
    | false =>
      rw [h1, h2] at e
      simp only [Bool.false_and, Bool.and_false] at e
      rw [e]
      go_enter Tryd.func21, Tryd.ntmps21
      go_wp2
      go_ret
      exact ⟨rfl, hB⟩
    | true =>
      rw [h1, h2] at e
      simp only [Bool.true_and] at e
      rw [e]
      go_enter Tryd.func21, Tryd.ntmps21
      go_wp2_with fail
      refine (ih _ (h.keep fun b hb => hB.block b (hbl b hb)) (h'.keep fun b hb => hB.block b (hcl b hb)) (fun b hb => Nat.lt_of_lt_of_le (hbl b hb) hB.size) (fun b hb => Nat.lt_of_lt_of_le (hcl b hb) hB.size)).mono ?_
      rintro e w2 ⟨rfl, hB2⟩
      go_wp2_with fail
      go_ret
      exact ⟨rfl, hB.trans (hB2.mono hB.size)⟩

theorem eqf_lens (p q : Option Addr) (m n c d : Nat) (w : World) (h : m ≠ n) : Calls Tryd.prog 48 #[.slice p m c, .slice q n d, .func (.func 21) #[] #[]] w (SamePost w false) := by
  have hd : ((m : Int) != (n : Int)) = true := by rw [bne_iff_ne]; omega
  go_enter Tryd.func48, Tryd.ntmps48
  go_wp2
  go_ret
  exact ⟨rfl, Below.refl _ _⟩
theorem eqf_none (p q : Option Addr) (c d : Nat) (w : World) : Calls Tryd.prog 48 #[.slice p 0 c, .slice q 0 d, .func (.func 21) #[] #[]] w (SamePost w true) := by
  go_enter Tryd.func48, Tryd.ntmps48
  go_wp2
  refine wp_loop_rounds 1 ?_
  rw [rounds_succ]
  go_wp2
  go_ret
  exact ⟨rfl, Below.refl _ _⟩

set_option maxHeartbeats 4000000 in
set_option maxRecDepth 100000 in
theorem eqf_one (o n o' n' : Int) (a a' : T) (s v : Value) (bl cl : List Nat) (w : World) (h : (T.one o n a).IsS w s bl) (h' : (T.one o' n' a').IsS w v cl) (hbl : ∀ b ∈ bl, b < w.heap.size) (hcl : ∀ b ∈ cl, b < w.heap.size) (ih : SameCalls a a') :
    Calls Tryd.prog 48 #[s, v, .func (.func 21) #[] #[]] w (SamePost w (a.same a')) := by
  obtain ⟨g, cap, p, c, bla, rfl, hcap, hg, c0, c1, c2, ha, hs⟩ := h.cells1
  obtain ⟨g', cap', p', c', cla, rfl, hcap', hg', d0, d1, d2, ha', hs'⟩ := h'.cells1
  go_enter Tryd.func48, Tryd.ntmps48
  go_wp2
  refine wp_loop_rounds 2 ?_
  rw [rounds_succ]
  go_wp2_with fail
  obtain ⟨W1, hW1⟩ : ∃ W1, (w.alloc (.cells #[.int .i64 a.op, .int .u32 a.num, .slice p a.kids c] 28)).alloc (.cells #[.int .i64 a'.op, .int .u32 a'.num, .slice p' a'.kids c'] 28) = W1 := ⟨_, rfl⟩
  have hB1 : Below w.heap.size w W1 := hW1 ▸ ((Below.refl _ w).alloc (Nat.le_refl _) _).alloc (by simp) _
  have hZ1 := hB1.size
  rw [hW1]
  refine (ih _ _ bla cla W1 (ha.keep fun b hb => hB1.block b (hbl b (hs b hb))) (ha'.keep fun b hb => hB1.block b (hcl b (hs' b hb))) (fun b hb => Nat.lt_of_lt_of_le (hbl b (hs b hb)) hZ1) (fun b hb => Nat.lt_of_lt_of_le (hcl b (hs' b hb)) hZ1)).mono ?_
  rintro e w2 ⟨rfl, hB2⟩
  have hBf := hB1.trans (hB2.mono hZ1)
  cases hx : a.same a' with
  | true =>
    go_wp2_with fail
    rw [rounds_succ]
    go_wp2
    exact bodyPost_ret (v := .bool true) (by simp [results, Tryd.results48, go_sem]) rfl ⟨by rw [hx], hBf⟩
  | false =>
    go_wp2_with fail
    exact bodyPost_ret (v := .bool false) (by simp [results, Tryd.results48, go_sem]) rfl ⟨by rw [hx], hBf⟩

set_option maxHeartbeats 4000000 in
set_option maxRecDepth 100000 in
theorem eqf_two (o n o' n' : Int) (a b a' b' : T) (s v : Value) (bl cl : List Nat) (w : World) (h : (T.two o n a b).IsS w s bl) (h' : (T.two o' n' a' b').IsS w v cl) (hbl : ∀ b ∈ bl, b < w.heap.size) (hcl : ∀ b ∈ cl, b < w.heap.size) (ih : SameCalls a a') (ih2 : SameCalls b b') :
    Calls Tryd.prog 48 #[s, v, .func (.func 21) #[] #[]] w (SamePost w (a.same a' && b.same b')) := by
  obtain ⟨g, cap, p, c, q, d, bla, blb, rfl, hcap, hg, ⟨c0, c1, c2⟩, ⟨c3, c4, c5⟩, ha, hb, hs, ht⟩ := h.cells2
  obtain ⟨g', cap', p', c', q', d', cla, clb, rfl, hcap', hg', ⟨d0, d1, d2⟩, ⟨d3, d4, d5⟩, ha', hb', hs', ht'⟩ := h'.cells2
  go_enter Tryd.func48, Tryd.ntmps48
  go_wp2
  refine wp_loop_rounds 3 ?_
  rw [rounds_succ]
  go_wp2_with fail
  obtain ⟨W1, hW1⟩ : ∃ W1, (w.alloc (.cells #[.int .i64 a.op, .int .u32 a.num, .slice p a.kids c] 28)).alloc (.cells #[.int .i64 a'.op, .int .u32 a'.num, .slice p' a'.kids c'] 28) = W1 := ⟨_, rfl⟩
  have hB1 : Below w.heap.size w W1 := hW1 ▸ ((Below.refl _ w).alloc (Nat.le_refl _) _).alloc (by simp) _
  have hZ1 := hB1.size
  rw [hW1]
  refine (ih _ _ bla cla W1 (ha.keep fun b hb => hB1.block b (hbl b (hs b hb))) (ha'.keep fun b hb => hB1.block b (hcl b (hs' b hb))) (fun b hb => Nat.lt_of_lt_of_le (hbl b (hs b hb)) hZ1) (fun b hb => Nat.lt_of_lt_of_le (hcl b (hs' b hb)) hZ1)).mono ?_
  rintro e w2 ⟨rfl, hB2⟩
  have hBf : Below w.heap.size w w2 := hB1.trans (hB2.mono hZ1)
  have hZ2 := hBf.size
  have e3 : w2.cell? ⟨g, 3, none⟩ = some (.int .i64 b.op) := (hBf.cell (p := ⟨g, 3, none⟩) hg).trans c3
  have e4 : w2.cell? ⟨g, 4, none⟩ = some (.int .u32 b.num) := (hBf.cell (p := ⟨g, 4, none⟩) hg).trans c4
  have e5 : w2.cell? ⟨g, 5, none⟩ = some (.slice q b.kids d) := (hBf.cell (p := ⟨g, 5, none⟩) hg).trans c5
  have f3 : w2.cell? ⟨g', 3, none⟩ = some (.int .i64 b'.op) := (hBf.cell (p := ⟨g', 3, none⟩) hg').trans d3
  have f4 : w2.cell? ⟨g', 4, none⟩ = some (.int .u32 b'.num) := (hBf.cell (p := ⟨g', 4, none⟩) hg').trans d4
  have f5 : w2.cell? ⟨g', 5, none⟩ = some (.slice q' b'.kids d') := (hBf.cell (p := ⟨g', 5, none⟩) hg').trans d5
  have hg2 : g < w2.heap.size := Nat.lt_of_lt_of_le hg hZ2
  have hg2' : g' < w2.heap.size := Nat.lt_of_lt_of_le hg' hZ2
  clear c0 c1 c2 c3 c4 c5 d0 d1 d2 d3 d4 d5
  cases hx : a.same a' with
  | true =>
    go_wp2_with fail
    rw [rounds_succ]
    go_wp2_with fail
    obtain ⟨W3, hW3⟩ : ∃ W3, (w2.alloc (.cells #[.int .i64 b.op, .int .u32 b.num, .slice q b.kids d] 28)).alloc (.cells #[.int .i64 b'.op, .int .u32 b'.num, .slice q' b'.kids d'] 28) = W3 := ⟨_, rfl⟩
    have hB3 : Below w.heap.size w W3 := hW3 ▸ (hBf.alloc hZ2 _).alloc (by simp; omega) _
    have hZ3 := hB3.size
    rw [hW3]
    refine (ih2 _ _ blb clb W3 (hb.keep fun b hb => hB3.block b (hbl b (ht b hb))) (hb'.keep fun b hb => hB3.block b (hcl b (ht' b hb))) (fun b hb => Nat.lt_of_lt_of_le (hbl b (ht b hb)) hZ3) (fun b hb => Nat.lt_of_lt_of_le (hcl b (ht' b hb)) hZ3)).mono ?_
    rintro e w4 ⟨rfl, hB4⟩
    have hBg : Below w.heap.size w w4 := hB3.trans (hB4.mono hZ3)
    cases hy : b.same b' with
    | true =>
      go_wp2_with fail
      rw [rounds_succ]
      go_wp2
      exact bodyPost_ret (v := .bool true) (by simp [results, Tryd.results48, go_sem]) rfl ⟨by rw [hx, hy]; rfl, hBg⟩
    | false =>
      go_wp2_with fail
      exact bodyPost_ret (v := .bool false) (by simp [results, Tryd.results48, go_sem]) rfl ⟨by rw [hx, hy]; rfl, hBg⟩
  | false =>
    go_wp2_with fail
    exact bodyPost_ret (v := .bool false) (by simp [results, Tryd.results48, go_sem]) rfl ⟨by rw [hx]; rfl, hBf⟩

theorem same_calls : ∀ t u : T, SameCalls t u
  | t, u => fun s v bl cl w h h' hbl hcl => same_step t u s v bl cl w h h' hbl hcl fun w h h' hbl hcl => by
    obtain ⟨ps, cs, rfl⟩ := h.form
    obtain ⟨pv, cv, rfl⟩ := h'.form
    match t, u, h, h' with
    | .leaf .., .leaf .., _, _ => exact eqf_none _ _ _ _ w
    | .leaf .., .one .., _, _ => exact eqf_lens _ _ 0 1 _ _ w (by decide)
    | .leaf .., .two .., _, _ => exact eqf_lens _ _ 0 2 _ _ w (by decide)
    | .one .., .leaf .., _, _ => exact eqf_lens _ _ 1 0 _ _ w (by decide)
    | .one o n a, .one o' n' a', h, h' => exact eqf_one o n o' n' a a' _ _ bl cl w h h' hbl hcl (same_calls a a')
    | .one .., .two .., _, _ => exact eqf_lens _ _ 1 2 _ _ w (by decide)
    | .two .., .leaf .., _, _ => exact eqf_lens _ _ 2 0 _ _ w (by decide)
    | .two .., .one .., _, _ => exact eqf_lens _ _ 2 1 _ _ w (by decide)
    | .two o n a b, .two o' n' a' b', h, h' => exact eqf_two o n o' n' a b a' b' _ _ bl cl w h h' hbl hcl (same_calls a a') (same_calls b b')

end Go.Proofs.YtnjmfedleimlmaaDoor

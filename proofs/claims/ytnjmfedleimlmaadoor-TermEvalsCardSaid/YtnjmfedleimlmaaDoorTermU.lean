/- The document's value of a term: the walks of eval and Eval. -/
import Derived.Test.YtnjmfedleimlmaaDoorTermS
import Derived.Test.YtnjmfedleimlmaaDoorTermO
namespace Go.Proofs.YtnjmfedleimlmaaDoor
open Go Go.RowKit

/-- what the document's eval yields -/
def RefPost (w : World) (v : Option Int) (n : Nat) (e : Ending) (w' : World) : Prop :=
  ∃ k : Int, e = .returned (.tuple #[.int .u32 (v.getD 0), .int .i64 k, .bool v.isSome]) ∧ (v.isSome = true → k = n) ∧ Below w.heap.size w w'
section
variable (L : List (Int × Int × Int)) (g cap : Nat) (ws : List Int) (pw : Option Addr) (cw : Nat)
def RefCalls (t : T) : Prop := ∀ (i : Nat) (w : World), (∃ pre post, L = pre ++ (t.nodes ++ post) ∧ pre.length = i) → NAt w g L → g < w.heap.size → WordsAt w pw ws →
  Calls Tryd.prog 51 #[.slice (some ⟨g, 0, none⟩) L.length cap, .int .i64 i, .slice pw ws.length cw] w (RefPost w (t.evalT ws) (i + t.size))

set_option maxRecDepth 100000 in
theorem ref_leaf (o n : Int) (hs : (T.leaf o n).shaped = true) (hf : (T.leaf o n).Wf) (hw : WordsOk ws) (hL : L.length ≤ 3000) (hc : L.length ≤ cap) : RefCalls L g cap ws pw cw (.leaf o n) := fun i w ⟨pre, post, he, hi⟩ hN hg hW => by
  have hx : L[i]? = some (o, n, 0) := by rw [he, ← hi, List.getElem?_append_right (Nat.le_refl _)]; simp [T.nodes]
  have hlt : i < L.length := (List.getElem?_eq_some_iff.1 hx).1
  obtain ⟨c0, c1, c2⟩ := hN i _ hx
  dsimp only at c0 c1 c2
  have hl := hw.1
  clear he hi
  have ho : o = 1 ∨ o = 2 := by
    simp only [T.shaped, goodN, decide_eq_true_eq] at hs
    have h := hs.2.2.1
    unfold needsN at h
    (repeat' split at h) <;> omega
  have hn : 0 ≤ n ∧ n ≤ 4294967295 := hf
  show Calls _ _ _ w (RefPost w (some (leafV o n ws)) (i + 1))
  rcases ho with rfl | rfl
  · go_enter Tryd.func51, Tryd.ntmps51
    go_wp2
    refine bodyPost_ret (v := .tuple #[.int .u32 n, .int .i64 ((i : Int) + 1), .bool true]) (by simp [results, Tryd.results51, go_sem]) rfl ⟨(i : Int) + 1, rfl, fun _ => by omega, Below.refl _ _⟩
  · cases hy : ws[n.toNat]? with
    | none =>
      have hge : ws.length ≤ n.toNat := by simpa using hy
      have HE := Lib.hid (show leafV 2 n ws = 0 by unfold leafV; rw [if_neg (by omega), hy]; rfl)
      clear hy
      go_enter Tryd.func51, Tryd.ntmps51
      go_wp2
      refine bodyPost_ret (v := .tuple #[.int .u32 0, .int .i64 ((i : Int) + 1), .bool true]) (by simp [results, Tryd.results51, go_sem]) rfl ⟨(i : Int) + 1, by rw [HE.out]; rfl, fun _ => by omega, Below.refl _ _⟩
    | some v =>
      have hlt2 : n.toNat < ws.length := (List.getElem?_eq_some_iff.1 hy).1
      obtain ⟨b, off, rfl, hb1, hb2⟩ := hW _ v hy
      have HE := Lib.hid (show leafV 2 n ws = v by unfold leafV; rw [if_neg (by omega), hy]; rfl)
      obtain ⟨m, rfl⟩ : ∃ m : Nat, n = m := ⟨n.toNat, by omega⟩
      rw [Int.toNat_natCast] at hb2 hlt2
      clear hy
      go_enter Tryd.func51, Tryd.ntmps51
      go_wp2
      refine bodyPost_ret (v := .tuple #[.int .u32 v, .int .i64 ((i : Int) + 1), .bool true]) (by simp [results, Tryd.results51, go_sem]) rfl ⟨(i : Int) + 1, by rw [HE.out]; rfl, fun _ => by omega, Below.refl _ _⟩

theorem shaped_one {o n : Int} {a : T} (h : (T.one o n a).shaped = true) : (3 ≤ o ∧ o ≤ 4) ∧ a.shaped = true := by
  simp only [T.shaped, goodN, Bool.and_eq_true, decide_eq_true_eq] at h
  refine ⟨?_, h.2⟩
  have h1 := h.1.2.2.1
  unfold needsN at h1
  (repeat' split at h1) <;> omega
theorem shaped_two {o n : Int} {a b : T} (h : (T.two o n a b).shaped = true) : (5 ≤ o ∧ o ≤ 17) ∧ a.shaped = true ∧ b.shaped = true := by
  simp only [T.shaped, goodN, Bool.and_eq_true, decide_eq_true_eq] at h
  refine ⟨?_, h.2⟩
  have h1 := h.1.2.2.1
  have h2 := h.1.2.1
  unfold needsN at h1
  (repeat' split at h1) <;> omega

set_option maxHeartbeats 4000000 in
set_option maxRecDepth 100000 in
theorem ref_one (o n : Int) (a : T) (hs : (T.one o n a).shaped = true) (hf : (T.one o n a).Wf) (hw : WordsOk ws) (hL : L.length ≤ 3000) (hc : L.length ≤ cap) (ih : RefCalls L g cap ws pw cw a) : RefCalls L g cap ws pw cw (.one o n a) := fun i w ⟨pre, post, he, hi⟩ hN hg hW => by
  have hx : L[i]? = some (o, n, 1) := by rw [he, ← hi, List.getElem?_append_right (Nat.le_refl _)]; simp [T.nodes]
  have hlt : i < L.length := (List.getElem?_eq_some_iff.1 hx).1
  obtain ⟨c0, c1, c2⟩ := hN i _ hx
  dsimp only at c0 c1 c2
  obtain ⟨ho, hsa⟩ := shaped_one hs
  have b1 : (o == 1) = false := by simpa using (show ¬ o = 1 by omega)
  have b2 : (o == 2) = false := by simpa using (show ¬ o = 2 by omega)
  have hih := ih (i + 1) w ⟨pre ++ [(o, n, 1)], post, by rw [he]; simp [T.nodes], by simp [hi]⟩ hN hg hW
  have hcast : ((i + 1 : Nat) : Int) = (i : Int) + 1 := rfl
  rw [hcast] at hih
  clear he hi hx
  go_enter Tryd.func51, Tryd.ntmps51
  go_wp2_with fail
  refine hih.mono ?_
  rintro e w2 ⟨k, rfl, hk, hB2⟩
  cases hv : a.evalT ws with
  | none =>
    have HE := Lib.hid (show (T.one o n a).evalT ws = none by simp only [T.evalT, hv, Option.map_none])
    simp only [Option.getD_none, Option.isSome_none]
    go_wp2_with fail
    refine bodyPost_ret (v := .tuple #[.int .u32 0, .int .i64 k, .bool false]) (by simp [results, Tryd.results51, go_sem]) rfl ⟨k, by rw [HE.out]; rfl, (by rw [HE.out]; intro h; cases h), hB2⟩
  | some x =>
    have hbx := T.evalT_bd hw hf.2 hv
    have HE := Lib.hid (show (T.one o n a).evalT ws = some (oneV o x) by simp only [T.evalT, hv, Option.map_some])
    have hk' := Lib.hid (show k = (i + 1 + a.size : Nat) from hk (by rw [hv]; rfl))
    clear hk
    simp only [Option.getD_some, Option.isSome_some]
    go_wp2_with fail
    refine (apply_any o x 0 w2 ⟨ho.1, by omega⟩ hbx.1 hbx.2 (by omega) (by omega)).mono ?_
    rw [if_pos (by omega)]
    rintro e w3 ⟨rfl, hB3⟩
    simp only [Option.getD_some, Option.isSome_some]
    go_wp2_with fail
    refine bodyPost_ret (v := .tuple #[.int .u32 (oneV o x), .int .i64 k, .bool true]) (by simp [results, Tryd.results51, go_sem]) rfl ⟨k, by rw [HE.out]; rfl, fun _ => by rw [hk'.out]; simp only [T.size]; omega, hB2.trans (hB3.mono hB2.size)⟩

set_option maxHeartbeats 4000000 in
set_option maxRecDepth 100000 in
theorem ref_two (o n : Int) (a b : T) (hs : (T.two o n a b).shaped = true) (hf : (T.two o n a b).Wf) (hw : WordsOk ws) (hL : L.length ≤ 3000) (hc : L.length ≤ cap) (iha : RefCalls L g cap ws pw cw a) (ihb : RefCalls L g cap ws pw cw b) : RefCalls L g cap ws pw cw (.two o n a b) := fun i w ⟨pre, post, he, hi⟩ hN hg hW => by
  have hx : L[i]? = some (o, n, 2) := by rw [he, ← hi, List.getElem?_append_right (Nat.le_refl _)]; simp [T.nodes]
  have hlt : i < L.length := (List.getElem?_eq_some_iff.1 hx).1
  obtain ⟨c0, c1, c2⟩ := hN i _ hx
  dsimp only at c0 c1 c2
  obtain ⟨ho, hsa, hsb⟩ := shaped_two hs
  have b1 : (o == 1) = false := by simpa using (show ¬ o = 1 by omega)
  have b2 : (o == 2) = false := by simpa using (show ¬ o = 2 by omega)
  have hih := iha (i + 1) w ⟨pre ++ [(o, n, 2)], b.nodes ++ post, by rw [he]; simp [T.nodes], by simp [hi]⟩ hN hg hW
  have hcast : ((i + 1 : Nat) : Int) = (i : Int) + 1 := rfl
  rw [hcast] at hih
  have HQ := Lib.hid he
  have HI := Lib.hid hi
  clear he hi hx
  go_enter Tryd.func51, Tryd.ntmps51
  go_wp2_with fail
  refine hih.mono ?_
  rintro e w2 ⟨k, rfl, hk, hB2⟩
  cases hv : a.evalT ws with
  | none =>
    have HE := Lib.hid (show (T.two o n a b).evalT ws = none by simp only [T.evalT, hv, Option.bind_none])
    simp only [Option.getD_none, Option.isSome_none]
    go_wp2_with fail
    refine bodyPost_ret (v := .tuple #[.int .u32 0, .int .i64 k, .bool false]) (by simp [results, Tryd.results51, go_sem]) rfl ⟨k, by rw [HE.out]; rfl, (by rw [HE.out]; intro h; cases h), hB2⟩
  | some x =>
    have hbx := T.evalT_bd hw hf.2.1 hv
    obtain rfl : k = (i + 1 + a.size : Nat) := hk (by rw [hv]; rfl)
    have hih2 := ihb (i + 1 + a.size) w2 ⟨pre ++ ((o, n, 2) :: a.nodes), post, by rw [HQ.out]; simp [T.nodes], by simp [HI.out, T.nodes_length]; omega⟩ (hN.below hB2 hg) (Nat.lt_of_lt_of_le hg hB2.size) (hW.below hB2)
    simp only [Option.getD_some, Option.isSome_some]
    go_wp2_with fail
    refine hih2.mono ?_
    rintro e w3 ⟨k2, rfl, hk2, hB3⟩
    have hBf : Below w.heap.size w w3 := hB2.trans (hB3.mono hB2.size)
    cases hu : b.evalT ws with
    | none =>
      have HE := Lib.hid (show (T.two o n a b).evalT ws = none by simp only [T.evalT, hv, hu, Option.bind_some, Option.bind_none])
      simp only [Option.getD_none, Option.isSome_none]
      go_wp2_with fail
      refine bodyPost_ret (v := .tuple #[.int .u32 0, .int .i64 k2, .bool false]) (by simp [results, Tryd.results51, go_sem]) rfl ⟨k2, by rw [HE.out]; rfl, (by rw [HE.out]; intro h; cases h), hBf⟩
    | some y =>
      have hby := T.evalT_bd hw hf.2.2 hu
      have HE := Lib.hid (show (T.two o n a b).evalT ws = twoV o x y by simp only [T.evalT, hv, hu, Option.bind_some])
      have hk2' := Lib.hid (show k2 = (i + 1 + a.size + b.size : Nat) from hk2 (by rw [hu]; rfl))
      clear hk2
      simp only [Option.getD_some, Option.isSome_some]
      go_wp2_with fail
      refine (apply_any o x y w3 ⟨by omega, ho.2⟩ hbx.1 hbx.2 hby.1 hby.2).mono ?_
      rw [if_neg (by omega)]
      rintro e w4 ⟨rfl, hB4⟩
      go_wp2_with fail
      refine bodyPost_ret (v := .tuple #[.int .u32 ((twoV o x y).getD 0), .int .i64 k2, .bool (twoV o x y).isSome]) (by simp [results, Tryd.results51, go_sem]) rfl ⟨k2, by rw [HE.out], fun _ => by rw [hk2'.out]; simp only [T.size]; omega, hBf.trans (hB4.mono hBf.size)⟩
theorem ref_calls (hw : WordsOk ws) (hL : L.length ≤ 3000) (hc : L.length ≤ cap) : ∀ t : T, t.shaped = true → t.Wf → RefCalls L g cap ws pw cw t
  | .leaf o n, hs, hf => ref_leaf L g cap ws pw cw o n hs hf hw hL hc
  | .one o n a, hs, hf => ref_one L g cap ws pw cw o n a hs hf hw hL hc (ref_calls hw hL hc a (shaped_one hs).2 hf.2)
  | .two o n a b, hs, hf => ref_two L g cap ws pw cw o n a b hs hf hw hL hc (ref_calls hw hL hc a (shaped_two hs).2.1 hf.2.1) (ref_calls hw hL hc b (shaped_two hs).2.2 hf.2.2)
end
/-- what the document's Eval yields -/
theorem refEval_calls (t : T) (n g cap : Nat) (ws : List Int) (pw : Option Addr) (cw : Nat) (w : World) (hn : t.nodes.length = n) (hs : t.shaped = true) (hf : t.Wf) (hw : WordsOk ws) (hL : n ≤ 3000) (hc : n ≤ cap) (hN : NAt w g t.nodes) (hg : g < w.heap.size) (hW : WordsAt w pw ws) :
    Calls Tryd.prog 26 #[.slice (some ⟨g, 0, none⟩) n cap, .slice pw ws.length cw] w (EvalPost w (t.evalT ws)) := by
  subst hn
  have h := ref_calls t.nodes g cap ws pw cw hw hL hc t hs hf 0 w ⟨[], [], by simp, rfl⟩ hN hg hW
  go_enter Tryd.func26, Tryd.ntmps26
  go_wp2_with fail
  refine h.mono ?_
  rintro e w2 ⟨k, rfl, hk, hB2⟩
  go_wp2_with fail
  exact bodyPost_ret (v := .tuple #[.int .u32 ((t.evalT ws).getD 0), .bool (t.evalT ws).isSome]) (by simp [results, Tryd.results26, go_sem]) rfl ⟨rfl, hB2⟩

end Go.Proofs.YtnjmfedleimlmaaDoor

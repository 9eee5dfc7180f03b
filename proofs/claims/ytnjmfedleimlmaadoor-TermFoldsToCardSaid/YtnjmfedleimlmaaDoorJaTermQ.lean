/- A term's value: the walk of Eval, for all terms. -/
import Derived.Test.YtnjmfedleimlmaaDoorJaTermP
namespace Go.Proofs.YtnjmfedleimlmaaDoor
open Go Go.RowKit

def EvalCalls (t : T) : Prop := ∀ (ws : List Int) (pw : Option Addr) (cw : Nat) (s : Value) (bl : List Nat) (w : World), t.IsS w s bl → (∀ b ∈ bl, b < w.heap.size) → t.Wf → WordsOk ws → WordsAt w pw ws →
  Calls Tryd.prog 17 #[.agg #[.int .i64 t.op, .int .u32 t.num, s], .slice pw ws.length cw] w (EvalPost w (t.evalT ws))

set_option maxRecDepth 100000 in
theorem eval_leaf (o n : Int) : EvalCalls (.leaf o n) := fun ws pw cw s bl w h hbl hf hw hW => by
  obtain ⟨rfl, _⟩ := h
  have hB : Below w.heap.size w (w.alloc (.cells #[.int .i64 (T.leaf o n).op, .int .u32 (T.leaf o n).num, .slice none 0 0] 28)) := (Below.refl _ w).alloc (Nat.le_refl _) _
  go_enter Tryd.func17, Tryd.ntmps17
  go_wp2_with fail
  refine (leaf_calls o n _ rfl ws pw cw _ hf hw (hW.below hB)).mono ?_
  rintro e w2 ⟨rfl, hB2⟩
  go_wp2_with fail
  go_ret2
  exact ⟨rfl, hB.trans (hB2.mono hB.size)⟩

set_option maxHeartbeats 4000000 in
set_option maxRecDepth 100000 in
theorem eval_one (o n : Int) (a : T) (ih : EvalCalls a) : EvalCalls (.one o n a) := fun ws pw cw s bl w h hbl hf hw hW => by
  obtain ⟨g, cap, p, c, bla, rfl, hcap, hg, c0, c1, c2, ha, hs⟩ := h.cells1
  show Calls Tryd.prog 17 #[.agg #[.int .i64 o, .int .u32 n, .slice (some ⟨g, 0, none⟩) 1 cap], .slice pw ws.length cw] w (EvalPost w ((T.one o n a).evalT ws))
  obtain ⟨W1, hW1⟩ : ∃ W1, w.alloc (.cells #[.int .i64 o, .int .u32 n, .slice (some ⟨g, 0, none⟩) 1 cap] 28) = W1 := ⟨_, rfl⟩
  have hB1 : Below w.heap.size w W1 := hW1 ▸ (Below.refl _ w).alloc (Nat.le_refl _) _
  have hP1 : Blk W1 w.heap.size 28 #[.int .i64 o, .int .u32 n, .slice (some ⟨g, 0, none⟩) 1 cap] := hW1 ▸ Blk.new w _ _
  have hZ1 := hB1.size
  obtain ⟨q0, q1, q2⟩ := hP1.c3
  have b0 : W1.cell? ⟨g, 0, none⟩ = some (.int .i64 a.op) := (hB1.cell (p := ⟨g, 0, none⟩) hg).trans c0
  have b1 : W1.cell? ⟨g, 1, none⟩ = some (.int .u32 a.num) := (hB1.cell (p := ⟨g, 1, none⟩) hg).trans c1
  have b2 : W1.cell? ⟨g, 2, none⟩ = some (.slice p a.kids c) := (hB1.cell (p := ⟨g, 2, none⟩) hg).trans c2
  go_enter Tryd.func17, Tryd.ntmps17
  go_wp2_with fail
  try rw [hW1]
  clear hW1
  refine (ih ws pw cw _ bla W1 (ha.keep fun b hb => hB1.block b (hbl b (hs b hb))) (fun b hb => Nat.lt_of_lt_of_le (hbl b (hs b hb)) hZ1) hf.2 hw (hW.below hB1)).mono ?_
  rintro e w2 ⟨rfl, hB2⟩
  have hP2 := hP1.below hB2 hP1.lt
  obtain ⟨d0, d1, d2⟩ := hP2.c3
  have hBf : Below w.heap.size w w2 := hB1.trans (hB2.mono hZ1)
  cases hx : a.evalT ws with
  | none =>
    have HE := Lib.hid (show (T.one o n a).evalT ws = none by simp only [T.evalT, hx, Option.map_none])
    have hb0 := oneV_bd (op := o) (x := 0) (by omega) (by omega)
    simp only [Option.getD_none, Option.isSome_none]
    go_wp2_with fail
    go_quiet (first | (go_at_call 44; exact Calls.quiet_of_same (ttruth_any _ _)) | (go_at_call 45; exact Calls.quiet_of_same (tone_any _ _ _ (by omega) (by omega))))
    go_wp2_with fail
    go_ret2
    exact ⟨by rw [HE.out]; rfl, hBf.trans (below_drewN _ _ _)⟩
  | some x =>
    have hbx := T.evalT_bd hw hf.2 hx
    have HE := Lib.hid (show (T.one o n a).evalT ws = some (oneV o x) by simp only [T.evalT, hx, Option.map_some])
    have hb0 := oneV_bd (op := o) hbx.1 hbx.2
    simp only [Option.getD_some, Option.isSome_some]
    go_wp2_with fail
    go_quiet (first | (go_at_call 44; exact Calls.quiet_of_same (ttruth_any _ _)) | (go_at_call 45; exact Calls.quiet_of_same (tone_any _ _ _ (by omega) (by omega))))
    go_wp2_with fail
    go_ret2
    exact ⟨by rw [HE.out]; rfl, hBf.trans (below_drewN _ _ _)⟩

set_option maxHeartbeats 4000000 in
set_option maxRecDepth 100000 in
theorem eval_two (o n : Int) (a b : T) (iha : EvalCalls a) (ihb : EvalCalls b) : EvalCalls (.two o n a b) := fun ws pw cw s bl w h hbl hf hw hW => by
  obtain ⟨g, cap, p, c, q, d, bla, blb, rfl, hcap, hg, ⟨c0, c1, c2⟩, ⟨c3, c4, c5⟩, ha, hb, hs, ht⟩ := h.cells2
  show Calls Tryd.prog 17 #[.agg #[.int .i64 o, .int .u32 n, .slice (some ⟨g, 0, none⟩) 2 cap], .slice pw ws.length cw] w (EvalPost w ((T.two o n a b).evalT ws))
  obtain ⟨W1, hW1⟩ : ∃ W1, w.alloc (.cells #[.int .i64 o, .int .u32 n, .slice (some ⟨g, 0, none⟩) 2 cap] 28) = W1 := ⟨_, rfl⟩
  have hB1 : Below w.heap.size w W1 := hW1 ▸ (Below.refl _ w).alloc (Nat.le_refl _) _
  have hP1 : Blk W1 w.heap.size 28 #[.int .i64 o, .int .u32 n, .slice (some ⟨g, 0, none⟩) 2 cap] := hW1 ▸ Blk.new w _ _
  have hZ1 := hB1.size
  obtain ⟨q0, q1, q2⟩ := hP1.c3
  have b0 : W1.cell? ⟨g, 0, none⟩ = some (.int .i64 a.op) := (hB1.cell (p := ⟨g, 0, none⟩) hg).trans c0
  have b1 : W1.cell? ⟨g, 1, none⟩ = some (.int .u32 a.num) := (hB1.cell (p := ⟨g, 1, none⟩) hg).trans c1
  have b2 : W1.cell? ⟨g, 2, none⟩ = some (.slice p a.kids c) := (hB1.cell (p := ⟨g, 2, none⟩) hg).trans c2
  go_enter Tryd.func17, Tryd.ntmps17
  go_wp2_with fail
  try rw [hW1]
  clear hW1
  refine (iha ws pw cw _ bla W1 (ha.keep fun b hb => hB1.block b (hbl b (hs b hb))) (fun b hb => Nat.lt_of_lt_of_le (hbl b (hs b hb)) hZ1) hf.2.1 hw (hW.below hB1)).mono ?_
  rintro e w2 ⟨rfl, hB2⟩
  have hP2 := hP1.below hB2 hP1.lt
  obtain ⟨d0, d1, d2⟩ := hP2.c3
  have hBf : Below w.heap.size w w2 := hB1.trans (hB2.mono hZ1)
  have hZ2 := hBf.size
  cases hx : a.evalT ws with
  | none =>
    have HE := Lib.hid (show (T.two o n a b).evalT ws = none by simp only [T.evalT, hx, Option.bind_none])
    have hb0 := oneV_bd (op := o) (x := 0) (by omega) (by omega)
    simp only [Option.getD_none, Option.isSome_none]
    go_wp2_with fail
    go_quiet (first | (go_at_call 44; exact Calls.quiet_of_same (ttruth_any _ _)) | (go_at_call 45; exact Calls.quiet_of_same (tone_any _ _ _ (by omega) (by omega))))
    go_wp2_with fail
    go_ret2
    exact ⟨by rw [HE.out]; rfl, hBf.trans (below_drewN _ _ _)⟩
  | some x =>
    have hbx := T.evalT_bd hw hf.2.1 hx
    have e3 : w2.cell? ⟨g, 3, none⟩ = some (.int .i64 b.op) := (hBf.cell (p := ⟨g, 3, none⟩) hg).trans c3
    have e4 : w2.cell? ⟨g, 4, none⟩ = some (.int .u32 b.num) := (hBf.cell (p := ⟨g, 4, none⟩) hg).trans c4
    have e5 : w2.cell? ⟨g, 5, none⟩ = some (.slice q b.kids d) := (hBf.cell (p := ⟨g, 5, none⟩) hg).trans c5
    have hg2 : g < w2.heap.size := Nat.lt_of_lt_of_le hg hZ2
    simp only [Option.getD_some, Option.isSome_some]
    go_wp2_with fail
    refine (ihb ws pw cw _ blb w2 (hb.keep fun b hb => hBf.block b (hbl b (ht b hb))) (fun b hb => Nat.lt_of_lt_of_le (hbl b (ht b hb)) hZ2) hf.2.2 hw (hW.below hBf)).mono ?_
    rintro e w3 ⟨rfl, hB3⟩
    have hP3 := hP2.below hB3 hP2.lt
    obtain ⟨f0, f1, f2⟩ := hP3.c3
    have hBg : Below w.heap.size w w3 := hBf.trans (hB3.mono hZ2)
    cases hy : b.evalT ws with
    | none =>
      have HE := Lib.hid (show (T.two o n a b).evalT ws = none by simp only [T.evalT, hx, hy, Option.bind_some, Option.bind_none])
      simp only [Option.getD_none, Option.isSome_none]
      go_wp2_with fail
      go_ret2
      exact ⟨by rw [HE.out]; rfl, hBg⟩
    | some y =>
      have hby := T.evalT_bd hw hf.2.2 hy
      have HE := Lib.hid (show (T.two o n a b).evalT ws = twoV o x y by simp only [T.evalT, hx, hy, Option.bind_some])
      simp only [Option.getD_some, Option.isSome_some]
      go_wp2_with fail
      refine (two_any o x y w3 hbx.1 hbx.2 hby.1 hby.2).mono ?_
      rintro e w4 ⟨rfl, rfl⟩
      go_wp2_with fail
      go_ret2
      exact ⟨by rw [HE.out]; rfl, hBg⟩
/-- what Eval yields -/
theorem eval_calls : ∀ t : T, EvalCalls t
  | .leaf o n => eval_leaf o n
  | .one o n a => eval_one o n a (eval_calls a)
  | .two o n a b => eval_two o n a b (eval_calls a) (eval_calls b)

end Go.Proofs.YtnjmfedleimlmaaDoor

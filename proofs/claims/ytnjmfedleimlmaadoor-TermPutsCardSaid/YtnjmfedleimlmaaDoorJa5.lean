/- What the laws of this claim are proved with, joined (join.py) of 25 texts: no condition. -/
import Derived.Test.YtnjmfedleimlmaaDoorJa4
import Derived.Deep.RegionLaw
import Derived.Test.YtnjmfedleimlmaaDoorJa2
import Derived.Deep.RegionHeld3
import Derived.Test.YtnjmfedleimlmaaDoorRows
import Derived.ProofKit
import Derived.LaidMore
import Derived.OpenShut
import Derived.Stop.Joined
import Derived.Lib.LaidTab
import Derived.Deep.SlicePairs
set_option linter.unusedVariables false

/- A term's value: the walk of Eval, for all terms. -/
namespace Go.Proofs.YtnjmfedleimlmaaDoor
open Go Go.RowKit

def EvalCalls (t : T) : Prop := ∀ (ws : List Int) (pw : Option Addr) (cw : Nat) (s : Value) (bl : List Nat) (w : World), t.IsS w s bl → (∀ b ∈ bl, b < w.heap.size) → t.Wf → WordsOk ws → WordsAt w pw ws →
  Calls Tryd.prog 17 #[.agg #[.int .i64 t.op, .int .u32 t.num, s], .slice pw ws.length cw] w (EvalPost w (t.evalT ws))

set_option maxRecDepth 100000 in
theorem eval_leaf (o n : Int) : EvalCalls (.leaf o n) := fun ws pw cw s bl w h hbl hf hw hW => by
  obtain ⟨rfl, _⟩ := h
  have hB : Below w.heap.size w (w.alloc (.cells #[.int .i64 (T.leaf o n).op, .int .u32 (T.leaf o n).num, .slice none 0 0] 28)) := (Below.refl _ w).alloc (Nat.le_refl _) _
  go_enter Tryd.func17, Tryd.ntmps17
  go_wp2_with fail
  refine (leaf_calls o n _ rfl ws pw cw _ hf hw (hW.below hB)).mono ?_
  rintro e w2 ⟨rfl, hB2⟩
  go_wp2_with fail
  go_ret2
  exact ⟨rfl, hB.trans (hB2.mono hB.size)⟩

set_option maxHeartbeats 4000000 in
set_option maxRecDepth 100000 in
theorem eval_one (o n : Int) (a : T) (ih : EvalCalls a) : EvalCalls (.one o n a) := fun ws pw cw s bl w h hbl hf hw hW => by
  obtain ⟨g, cap, p, c, bla, rfl, hcap, hg, c0, c1, c2, ha, hs⟩ := h.cells1
  show Calls Tryd.prog 17 #[.agg #[.int .i64 o, .int .u32 n, .slice (some ⟨g, 0, none⟩) 1 cap], .slice pw ws.length cw] w (EvalPost w ((T.one o n a).evalT ws))
  obtain ⟨W1, hW1⟩ : ∃ W1, w.alloc (.cells #[.int .i64 o, .int .u32 n, .slice (some ⟨g, 0, none⟩) 1 cap] 28) = W1 := ⟨_, rfl⟩
  have hB1 : Below w.heap.size w W1 := hW1 ▸ (Below.refl _ w).alloc (Nat.le_refl _) _
  have hP1 : Blk W1 w.heap.size 28 #[.int .i64 o, .int .u32 n, .slice (some ⟨g, 0, none⟩) 1 cap] := hW1 ▸ Blk.new w _ _
  have hZ1 := hB1.size
  obtain ⟨q0, q1, q2⟩ := hP1.c3
  have b0 : W1.cell? ⟨g, 0, none⟩ = some (.int .i64 a.op) := (hB1.cell (p := ⟨g, 0, none⟩) hg).trans c0
  have b1 : W1.cell? ⟨g, 1, none⟩ = some (.int .u32 a.num) := (hB1.cell (p := ⟨g, 1, none⟩) hg).trans c1
  have b2 : W1.cell? ⟨g, 2, none⟩ = some (.slice p a.kids c) := (hB1.cell (p := ⟨g, 2, none⟩) hg).trans c2
  go_enter Tryd.func17, Tryd.ntmps17
  go_wp2_with fail
  try rw [hW1]
  clear hW1
  refine (ih ws pw cw _ bla W1 (ha.keep fun b hb => hB1.block b (hbl b (hs b hb))) (fun b hb => Nat.lt_of_lt_of_le (hbl b (hs b hb)) hZ1) hf.2 hw (hW.below hB1)).mono ?_
  rintro e w2 ⟨rfl, hB2⟩
  have hP2 := hP1.below hB2 hP1.lt
  obtain ⟨d0, d1, d2⟩ := hP2.c3
  have hBf : Below w.heap.size w w2 := hB1.trans (hB2.mono hZ1)
  cases hx : a.evalT ws with
  | none =>
    have HE := Lib.hid (show (T.one o n a).evalT ws = none by simp only [T.evalT, hx, Option.map_none])
    have hb0 := oneV_bd (op := o) (x := 0) (by omega) (by omega)
    simp only [Option.getD_none, Option.isSome_none]
    go_wp2_with fail
    go_quiet (first | (go_at_call 44; exact Calls.quiet_of_same (ttruth_any _ _)) | (go_at_call 45; exact Calls.quiet_of_same (tone_any _ _ _ (by omega) (by omega))))
    go_wp2_with fail
    go_ret2
    exact ⟨by rw [HE.out]; rfl, hBf.trans (below_drewN _ _ _)⟩
  | some x =>
    have hbx := T.evalT_bd hw hf.2 hx
    have HE := Lib.hid (show (T.one o n a).evalT ws = some (oneV o x) by simp only [T.evalT, hx, Option.map_some])
    have hb0 := oneV_bd (op := o) hbx.1 hbx.2
    simp only [Option.getD_some, Option.isSome_some]
    go_wp2_with fail
    go_quiet (first | (go_at_call 44; exact Calls.quiet_of_same (ttruth_any _ _)) | (go_at_call 45; exact Calls.quiet_of_same (tone_any _ _ _ (by omega) (by omega))))
    go_wp2_with fail
    go_ret2
    exact ⟨by rw [HE.out]; rfl, hBf.trans (below_drewN _ _ _)⟩

set_option maxHeartbeats 4000000 in
set_option maxRecDepth 100000 in
theorem eval_two (o n : Int) (a b : T) (iha : EvalCalls a) (ihb : EvalCalls b) : EvalCalls (.two o n a b) := fun ws pw cw s bl w h hbl hf hw hW => by
  obtain ⟨g, cap, p, c, q, d, bla, blb, rfl, hcap, hg, ⟨c0, c1, c2⟩, ⟨c3, c4, c5⟩, ha, hb, hs, ht⟩ := h.cells2
  show Calls Tryd.prog 17 #[.agg #[.int .i64 o, .int .u32 n, .slice (some ⟨g, 0, none⟩) 2 cap], .slice pw ws.length cw] w (EvalPost w ((T.two o n a b).evalT ws))
  obtain ⟨W1, hW1⟩ : ∃ W1, w.alloc (.cells #[.int .i64 o, .int .u32 n, .slice (some ⟨g, 0, none⟩) 2 cap] 28) = W1 := ⟨_, rfl⟩
  have hB1 : Below w.heap.size w W1 := hW1 ▸ (Below.refl _ w).alloc (Nat.le_refl _) _
  have hP1 : Blk W1 w.heap.size 28 #[.int .i64 o, .int .u32 n, .slice (some ⟨g, 0, none⟩) 2 cap] := hW1 ▸ Blk.new w _ _
  have hZ1 := hB1.size
  obtain ⟨q0, q1, q2⟩ := hP1.c3
  have b0 : W1.cell? ⟨g, 0, none⟩ = some (.int .i64 a.op) := (hB1.cell (p := ⟨g, 0, none⟩) hg).trans c0
  have b1 : W1.cell? ⟨g, 1, none⟩ = some (.int .u32 a.num) := (hB1.cell (p := ⟨g, 1, none⟩) hg).trans c1
  have b2 : W1.cell? ⟨g, 2, none⟩ = some (.slice p a.kids c) := (hB1.cell (p := ⟨g, 2, none⟩) hg).trans c2
  go_enter Tryd.func17, Tryd.ntmps17
  go_wp2_with fail
  try rw [hW1]
  clear hW1
  refine (iha ws pw cw _ bla W1 (ha.keep fun b hb => hB1.block b (hbl b (hs b hb))) (fun b hb => Nat.lt_of_lt_of_le (hbl b (hs b hb)) hZ1) hf.2.1 hw (hW.below hB1)).mono ?_
  rintro e w2 ⟨rfl, hB2⟩
  have hP2 := hP1.below hB2 hP1.lt
  obtain ⟨d0, d1, d2⟩ := hP2.c3
  have hBf : Below w.heap.size w w2 := hB1.trans (hB2.mono hZ1)
  have hZ2 := hBf.size
  cases hx : a.evalT ws with
  | none =>
    have HE := Lib.hid (show (T.two o n a b).evalT ws = none by simp only [T.evalT, hx, Option.bind_none])
    have hb0 := oneV_bd (op := o) (x := 0) (by omega) (by omega)
    simp only [Option.getD_none, Option.isSome_none]
    go_wp2_with fail
    go_quiet (first | (go_at_call 44; exact Calls.quiet_of_same (ttruth_any _ _)) | (go_at_call 45; exact Calls.quiet_of_same (tone_any _ _ _ (by omega) (by omega))))
    go_wp2_with fail
    go_ret2
    exact ⟨by rw [HE.out]; rfl, hBf.trans (below_drewN _ _ _)⟩
  | some x =>
    have hbx := T.evalT_bd hw hf.2.1 hx
    have e3 : w2.cell? ⟨g, 3, none⟩ = some (.int .i64 b.op) := (hBf.cell (p := ⟨g, 3, none⟩) hg).trans c3
    have e4 : w2.cell? ⟨g, 4, none⟩ = some (.int .u32 b.num) := (hBf.cell (p := ⟨g, 4, none⟩) hg).trans c4
    have e5 : w2.cell? ⟨g, 5, none⟩ = some (.slice q b.kids d) := (hBf.cell (p := ⟨g, 5, none⟩) hg).trans c5
    have hg2 : g < w2.heap.size := Nat.lt_of_lt_of_le hg hZ2
    simp only [Option.getD_some, Option.isSome_some]
    go_wp2_with fail
    refine (ihb ws pw cw _ blb w2 (hb.keep fun b hb => hBf.block b (hbl b (ht b hb))) (fun b hb => Nat.lt_of_lt_of_le (hbl b (ht b hb)) hZ2) hf.2.2 hw (hW.below hBf)).mono ?_
    rintro e w3 ⟨rfl, hB3⟩
    have hP3 := hP2.below hB3 hP2.lt
    obtain ⟨f0, f1, f2⟩ := hP3.c3
    have hBg : Below w.heap.size w w3 := hBf.trans (hB3.mono hZ2)
    cases hy : b.evalT ws with
    | none =>
      have HE := Lib.hid (show (T.two o n a b).evalT ws = none by simp only [T.evalT, hx, hy, Option.bind_some, Option.bind_none])
      simp only [Option.getD_none, Option.isSome_none]
      go_wp2_with fail
      go_ret2
      exact ⟨by rw [HE.out]; rfl, hBg⟩
    | some y =>
      have hby := T.evalT_bd hw hf.2.2 hy
      have HE := Lib.hid (show (T.two o n a b).evalT ws = twoV o x y by simp only [T.evalT, hx, hy, Option.bind_some])
      simp only [Option.getD_some, Option.isSome_some]
      go_wp2_with fail
      refine (two_any o x y w3 hbx.1 hbx.2 hby.1 hby.2).mono ?_
      rintro e w4 ⟨rfl, rfl⟩
      go_wp2_with fail
      go_ret2
      exact ⟨by rw [HE.out]; rfl, hBg⟩
/-- what Eval yields -/
theorem eval_calls : ∀ t : T, EvalCalls t
  | .leaf o n => eval_leaf o n
  | .one o n a => eval_one o n a (eval_calls a)
  | .two o n a b => eval_two o n a b (eval_calls a) (eval_calls b)

end Go.Proofs.YtnjmfedleimlmaaDoor

/- The document's operators: the walks of power, turned, apply. -/
namespace Go.Proofs.YtnjmfedleimlmaaDoor
open Go Go.RowKit

namespace Rm
def up1 (x : Nat) : Nat := x * 2 % 4294967296 + x / 2147483648
def upN : Nat → Nat → Nat
  | 0, x => x
  | n + 1, x => up1 (upN n x)
theorem up1_one (y : Nat) (h : y < 4294967296) : up1 (oneW 3 y) = y := by
  have e : oneW 3 y = y / 2 + y % 2 * 2147483648 := by simp [oneW]
  rw [e]; unfold up1
  rcases Nat.mod_two_eq_zero_or_one y with h2 | h2 <;> rw [h2] <;> omega
theorem upN_it (x : Nat) (hx : x < 4294967296) : ∀ n, n ≤ 32 → upN n x = itW 3 (32 - n) x
  | 0, _ => by
    have h := turn_back x 32 hx (Nat.le_refl _)
    have h0 : ∀ z, itW 3 0 z = z := fun _ => rfl
    rw [Nat.sub_self, h0] at h
    rw [Nat.sub_zero, h]; rfl
  | n + 1, h => by
    have ih := upN_it x hx n (by omega)
    have e : 32 - n = (32 - (n + 1)) + 1 := by omega
    rw [e] at ih
    show up1 (upN n x) = _
    rw [ih]
    exact up1_one _ (itW_lt 3 _ x hx)
theorem upN_rotl (x n : Nat) (hx : x < 4294967296) (hn : n ≤ 31) : upN n x = rotl x n := by
  rw [upN_it x hx n (by omega)]
  unfold rotl
  rw [Nat.mod_eq_of_lt (by omega)]
theorem upN_lt (x n : Nat) (hx : x < 4294967296) (hn : n ≤ 31) : upN n x < 4294967296 := by rw [upN_rotl x n hx hn]; exact rotl_lt x n hx
end Rm

theorem power_any (n : Int) (w : World) (h0 : 0 ≤ n) (h1 : n ≤ 31) : Calls Tryd.prog 72 #[.int .u32 n] w fun e w' => e = .returned (.int .u32 (2 ^ n.toNat)) ∧ w' = w := by
  go_enter Tryd.func72, Tryd.ntmps72
  go_wp2
  go_loop [3, 4] (fun x i => ∃ k : Nat, ∃ y : Int, i = .int .u32 k ∧ x = .int .u32 y ∧ (k : Int) ≤ n ∧ 1 ≤ y ∧ y ≤ 2147483648 ∧ Hid (y = 2 ^ k)) (fun _ i => n.toNat - (intOf i).toNat)
  case atStart => exact ⟨0, 1, rfl, rfl, by omega, by omega, by omega, rfl⟩
  case round =>
    obtain ⟨k, y, rfl, rfl, hk, hy0, hy1, hH⟩ := hrel
    by_cases hlt : (k : Int) < n
    · have hy2 : y ≤ 1073741824 := by
        have e := hH.out
        have : (2 : Int) ^ k ≤ 2 ^ 30 := by exact_mod_cast Nat.pow_le_pow_right (n := 2) (by omega) (show k ≤ 30 by omega)
        rw [e]; simpa using this
      have hn : Hid (y * 2 = 2 ^ (k + 1)) := by show y * 2 = 2 ^ (k + 1); rw [hH.out, Int.pow_succ]
      clear hH
      go_wp2
      go_round
      case rel => exact ⟨k + 1, y * 2, by go_num, by go_num, by omega, by omega, by omega, hn⟩
      case measure => simp [intOf]; omega
    · have hkn : n.toNat = k := by omega
      have hH' := Lib.hid (show y = 2 ^ n.toNat by rw [hkn]; exact hH.out)
      clear hH hkn
      go_wp2
      go_ret
      exact ⟨congrArg Ending.returned (congrArg (Value.int IntKind.u32) hH'.out), rfl⟩
theorem turned_any (x n : Int) (w : World) (hx0 : 0 ≤ x) (hx1 : x ≤ 4294967295) (h0 : 0 ≤ n) (h1 : n ≤ 31) : Calls Tryd.prog 73 #[.int .u32 x, .int .u32 n] w fun e w' => e = .returned (.int .u32 ((Rm.rotl x.toNat n.toNat : Nat) : Int)) ∧ w' = w := by
  go_enter Tryd.func73, Tryd.ntmps73
  go_wp2
  go_loop [0, 5] (fun v i => ∃ k : Nat, ∃ y : Int, i = .int .u32 k ∧ v = .int .u32 y ∧ (k : Int) ≤ n ∧ 0 ≤ y ∧ y ≤ 4294967295 ∧ Hid (y = Rm.upN k x.toNat)) (fun _ i => n.toNat - (intOf i).toNat)
  case atStart => exact ⟨0, x, rfl, rfl, by omega, by omega, by omega, by show x = (x.toNat : Int); omega⟩
  case round =>
    obtain ⟨k, y, rfl, rfl, hk, hy0, hy1, hH⟩ := hrel
    by_cases hlt : (k : Int) < n
    · have hn : Hid (y * 2 % 4294967296 + y / 2147483648 = Rm.upN (k + 1) x.toNat) := by
        show _ = ((Rm.up1 (Rm.upN k x.toNat) : Nat) : Int)
        have e := hH.out
        unfold Rm.up1
        rw [e]; omega
      clear hH
      go_wp2
      go_round
      case rel => exact ⟨k + 1, y * 2 % 4294967296 + y / 2147483648, by go_num, by go_num, by omega, by omega, by omega, hn⟩
      case measure => simp [intOf]; omega
    · have hkn : n.toNat = k := by omega
      have hH' := Lib.hid (show y = ((Rm.rotl x.toNat n.toNat : Nat) : Int) by rw [hkn, ← Rm.upN_rotl x.toNat k (by omega) (by omega)]; exact hH.out)
      clear hH hkn
      go_wp2
      go_ret
      exact ⟨congrArg Ending.returned (congrArg (Value.int IntKind.u32) hH'.out), rfl⟩

end Go.Proofs.YtnjmfedleimlmaaDoor

/- The document's operators: the walk of apply. -/
namespace Go.Proofs.YtnjmfedleimlmaaDoor
open Go Go.RowKit

/-- the entry of the document's table -/
def pick13 (m : Nat) (a3 a4 a5 a6 a7 a8 a9 a10 a11 a12 a13 a14 a15 : Int) : Int :=
  if m = 3 then a3 else if m = 4 then a4 else if m = 5 then a5 else if m = 6 then a6 else if m = 7 then a7 else if m = 8 then a8 else if m = 9 then a9 else if m = 10 then a10
  else if m = 11 then a11 else if m = 12 then a12 else if m = 13 then a13 else if m = 14 then a14 else a15
theorem pick_at (m : Nat) (hm : 3 ≤ m ∧ m ≤ 15) (a3 a4 a5 a6 a7 a8 a9 a10 a11 a12 a13 a14 a15 : Int) :
    ([.int .u32 0, .int .u32 0, .int .u32 0, .int .u32 a3, .int .u32 a4, .int .u32 a5, .int .u32 a6, .int .u32 a7, .int .u32 a8, .int .u32 a9, .int .u32 a10, .int .u32 a11, .int .u32 a12, .int .u32 a13, .int .u32 a14, .int .u32 a15] : List Value)[m]? = some (.int .u32 (pick13 m a3 a4 a5 a6 a7 a8 a9 a10 a11 a12 a13 a14 a15)) := by
  rcases (by omega : m = 3 ∨ m = 4 ∨ m = 5 ∨ m = 6 ∨ m = 7 ∨ m = 8 ∨ m = 9 ∨ m = 10 ∨ m = 11 ∨ m = 12 ∨ m = 13 ∨ m = 14 ∨ m = 15) with rfl | rfl | rfl | rfl | rfl | rfl | rfl | rfl | rfl | rfl | rfl | rfl | rfl <;> rfl
theorem pick_eq (m : Nat) (x y e f P R k : Int) (hm : 3 ≤ m ∧ m ≤ 15) (he : e = if x = y then 1 else 0) (hf : f = if x < y then 1 else 0) (hk : y % 32 = k) (hP : 2 ^ k.toNat = P) (hR : ((Rm.rotl x.toNat k.toNat : Nat) : Int) = R) :
    pick13 m (4294967295 - x) (-x % 4294967296) (bits .or .u32 x y) (bits .xor .u32 x y) (bits .and .u32 x y) e f (x * P % 4294967296) (x / P) R ((x + y) % 4294967296) ((x - y) % 4294967296) (x * y % 4294967296) = if (m : Int) < 5 then oneV m x else (twoV m x y).getD 0 := by
  subst hk hP hR he hf
  rcases (by omega : m = 3 ∨ m = 4 ∨ m = 5 ∨ m = 6 ∨ m = 7 ∨ m = 8 ∨ m = 9 ∨ m = 10 ∨ m = 11 ∨ m = 12 ∨ m = 13 ∨ m = 14 ∨ m = 15) with rfl | rfl | rfl | rfl | rfl | rfl | rfl | rfl | rfl | rfl | rfl | rfl | rfl <;> rfl

theorem apply_high (op x y : Int) (w : World) (hop : op = 16 ∨ op = 17) (h0 : 0 ≤ x) (h1 : x ≤ 4294967295) (k0 : 0 ≤ y) (k1 : y ≤ 4294967295) :
    Calls Tryd.prog 49 #[.int .i64 op, .int .u32 x, .int .u32 y] w fun e w' => e = .returned (.tuple #[.int .u32 ((twoV op x y).getD 0), .bool (twoV op x y).isSome]) ∧ w' = w := by
  by_cases hy : y = 0
  · subst hy
    go_enter Tryd.func49, Tryd.ntmps49
    rcases hop with rfl | rfl
    · go_wp2
      exact bodyPost_ret (v := .tuple #[.int .u32 0, .bool false]) (by simp [results, Tryd.results49, go_sem]) rfl ⟨rfl, rfl⟩
    · go_wp2
      exact bodyPost_ret (v := .tuple #[.int .u32 0, .bool false]) (by simp [results, Tryd.results49, go_sem]) rfl ⟨rfl, rfl⟩
  · have hb : (y == 0) = false := by simpa using hy
    have hd : x.tdiv y = x / y := Int.tdiv_eq_ediv_of_nonneg h0
    have hd0 : 0 ≤ x / y := Int.ediv_nonneg h0 k0
    have hd1 : x / y ≤ x := Int.ediv_le_self _ h0
    have hr0 := Int.emod_nonneg x (b := y) (by omega)
    have hr1 := Int.emod_lt_of_pos x (b := y) (by omega)
    rcases hop with rfl | rfl
    · have HM := Lib.hid (show twoV 16 x y = some (x / y) by unfold twoV; simp [hy])
      go_enter Tryd.func49, Tryd.ntmps49
      go_wp2
      exact bodyPost_ret (v := .tuple #[.int .u32 (x / y), .bool true]) (by simp [results, Tryd.results49, go_sem]) rfl ⟨by rw [HM.out]; rfl, rfl⟩
    · have HM := Lib.hid (show twoV 17 x y = some (x % y) by unfold twoV; simp [hy])
      obtain ⟨q, hq⟩ : ∃ q, x / y * y = q := ⟨_, rfl⟩
      have hq0 : 0 ≤ q := by rw [← hq]; exact Int.mul_nonneg hd0 k0
      have hqe : q = x - x % y := by have := Int.mul_ediv_add_emod x y; rw [Int.mul_comm] at this; omega
      have hw1 : IntKind.u32.wrap q = q := by simp [IntKind.wrap, IntKind.signed, IntKind.bits]; omega
      have hw2 : IntKind.u32.wrap (x - q) = x % y := by simp [IntKind.wrap, IntKind.signed, IntKind.bits]; omega
      clear hqe
      go_enter Tryd.func49, Tryd.ntmps49
      go_wp2
      exact bodyPost_ret (v := .tuple #[.int .u32 (x % y), .bool true]) (by simp [results, Tryd.results49, go_sem, *]) rfl ⟨by rw [HM.out]; rfl, rfl⟩

def LowPost (w : World) (m : Nat) (x y : Int) (e : Ending) (w' : World) : Prop := e = .returned (.tuple #[.int .u32 (if (m : Int) < 5 then oneV m x else (twoV m x y).getD 0), .bool true]) ∧ Below w.heap.size w w'
set_option maxHeartbeats 4000000 in
set_option maxRecDepth 100000 in
theorem apply_low (m : Nat) (x y : Int) (w : World) (hop : 3 ≤ m ∧ m ≤ 15) (h0 : 0 ≤ x) (h1 : x ≤ 4294967295) (k0 : 0 ≤ y) (k1 : y ≤ 4294967295) :
    Calls Tryd.prog 49 #[.int .i64 m, .int .u32 x, .int .u32 y] w (LowPost w m x y) := by
  obtain ⟨k, hk⟩ : ∃ k, y % 32 = k := ⟨_, rfl⟩
  have hk0 : 0 ≤ k := by omega
  have hk1 : k ≤ 31 := by omega
  have hr := Rm.rotl_lt x.toNat k.toNat (by omega)
  obtain ⟨R, hR⟩ : ∃ R : Int, ((Rm.rotl x.toNat k.toNat : Nat) : Int) = R := ⟨_, rfl⟩
  obtain ⟨P, hP⟩ : ∃ P : Int, 2 ^ k.toNat = P := ⟨_, rfl⟩
  have hpw := power_any k
  have htn := turned_any x k
  rw [hP] at hpw
  rw [hR] at htn
  have hP1 : 1 ≤ P := by rw [← hP]; exact_mod_cast Nat.one_le_two_pow
  have hP0 : ¬ P = 0 := by omega
  have hPz : (P == 0) = false := by simpa using (show ¬ P = 0 by omega)
  have hPd : x.tdiv P = x / P := Int.tdiv_eq_ediv_of_nonneg h0
  have hPb : 0 ≤ x / P ∧ x / P ≤ x := ⟨Int.ediv_nonneg h0 (by omega), Int.ediv_le_self _ h0⟩
  have HE := Lib.hid (fun e f he hf => pick_eq m x y e f P R k hop he hf hk hP hR)
  have hcell := pick_at m hop
  clear hP hR
  rcases (by omega : (x = y ∧ ¬ x < y) ∨ (¬ x = y ∧ x < y) ∨ (¬ x = y ∧ ¬ x < y)) with ⟨hx, hy⟩ | ⟨hx, hy⟩ | ⟨hx, hy⟩
  · have HF := Lib.hid (HE.out 1 0 (by rw [if_pos hx]) (by rw [if_neg hy]))
    have hb1 : (x == y) = true := by simpa using hx
    have hb2 : decide (x < y) = false := by simpa using hy
    clear HE hx hy
    go_enter Tryd.func49, Tryd.ntmps49
    go_wp2
    all_goals
      go_region_law
        (first
          | (rw [if_pos (by rfl)]; go_simp; go_at_call 72; refine (hpw _ hk0 hk1).mono ?_; rintro e w' ⟨rfl, rfl⟩)
          | (rw [if_pos (by rfl)]; go_simp; go_at_call 73; refine (htn _ h0 h1 hk0 hk1).mono ?_; rintro e w' ⟨rfl, rfl⟩))
    all_goals go_wp2
    all_goals exact bodyPost_ret (v := .tuple #[.int .u32 (pick13 m (4294967295 - x) (-x % 4294967296) (bits .or .u32 x y) (bits .xor .u32 x y) (bits .and .u32 x y) 1 0 (x * P % 4294967296) (x / P) R ((x + y) % 4294967296) ((x - y) % 4294967296) (x * y % 4294967296)), .bool true]) (by simp [results, Tryd.results49, go_sem]) rfl ⟨by rw [HF.out], ((Below.refl _ _).alloc (Nat.le_refl _) _).drew⟩
  · have HF := Lib.hid (HE.out 0 1 (by rw [if_neg hx]) (by rw [if_pos hy]))
    have hb1 : (x == y) = false := by simpa using hx
    have hb2 : decide (x < y) = true := by simpa using hy
    clear HE hx hy
    go_enter Tryd.func49, Tryd.ntmps49
    go_wp2
    all_goals
      go_region_law
        (first
          | (rw [if_pos (by rfl)]; go_simp; go_at_call 72; refine (hpw _ hk0 hk1).mono ?_; rintro e w' ⟨rfl, rfl⟩)
          | (rw [if_pos (by rfl)]; go_simp; go_at_call 73; refine (htn _ h0 h1 hk0 hk1).mono ?_; rintro e w' ⟨rfl, rfl⟩))
    all_goals go_wp2
    all_goals exact bodyPost_ret (v := .tuple #[.int .u32 (pick13 m (4294967295 - x) (-x % 4294967296) (bits .or .u32 x y) (bits .xor .u32 x y) (bits .and .u32 x y) 0 1 (x * P % 4294967296) (x / P) R ((x + y) % 4294967296) ((x - y) % 4294967296) (x * y % 4294967296)), .bool true]) (by simp [results, Tryd.results49, go_sem]) rfl ⟨by rw [HF.out], ((Below.refl _ _).alloc (Nat.le_refl _) _).drew⟩
  · have HF := Lib.hid (HE.out 0 0 (by rw [if_neg hx]) (by rw [if_neg hy]))
    have hb1 : (x == y) = false := by simpa using hx
    have hb2 : decide (x < y) = false := by simpa using hy
    clear HE hx hy
    go_enter Tryd.func49, Tryd.ntmps49
    go_wp2
    all_goals
      go_region_law
        (first
          | (rw [if_pos (by rfl)]; go_simp; go_at_call 72; refine (hpw _ hk0 hk1).mono ?_; rintro e w' ⟨rfl, rfl⟩)
          | (rw [if_pos (by rfl)]; go_simp; go_at_call 73; refine (htn _ h0 h1 hk0 hk1).mono ?_; rintro e w' ⟨rfl, rfl⟩))
    all_goals go_wp2
    all_goals exact bodyPost_ret (v := .tuple #[.int .u32 (pick13 m (4294967295 - x) (-x % 4294967296) (bits .or .u32 x y) (bits .xor .u32 x y) (bits .and .u32 x y) 0 0 (x * P % 4294967296) (x / P) R ((x + y) % 4294967296) ((x - y) % 4294967296) (x * y % 4294967296)), .bool true]) (by simp [results, Tryd.results49, go_sem]) rfl ⟨by rw [HF.out], ((Below.refl _ _).alloc (Nat.le_refl _) _).drew⟩

theorem apply_any (op x y : Int) (w : World) (hop : 3 ≤ op ∧ op ≤ 17) (h0 : 0 ≤ x) (h1 : x ≤ 4294967295) (k0 : 0 ≤ y) (k1 : y ≤ 4294967295) :
    Calls Tryd.prog 49 #[.int .i64 op, .int .u32 x, .int .u32 y] w fun e w' => e = .returned (.tuple #[.int .u32 ((if op < 5 then some (oneV op x) else twoV op x y).getD 0), .bool (if op < 5 then some (oneV op x) else twoV op x y).isSome]) ∧ Below w.heap.size w w' := by
  by_cases h : op = 16 ∨ op = 17
  · refine (apply_high op x y w h h0 h1 k0 k1).mono ?_
    rintro e w' ⟨rfl, rfl⟩
    rw [if_neg (by omega)]
    exact ⟨rfl, Below.refl _ _⟩
  · obtain ⟨m, rfl⟩ : ∃ m : Nat, op = m := ⟨op.toNat, by omega⟩
    refine (apply_low m x y w (by omega) h0 h1 k0 k1).mono ?_
    rintro e w' ⟨rfl, hB⟩
    refine ⟨?_, hB⟩
    by_cases h5 : (m : Int) < 5
    · rw [if_pos h5, if_pos h5]; rfl
    · rw [if_neg h5, if_neg h5]
      have : (twoV m x y).isSome = true := by
        unfold twoV
        (repeat' split) <;> first | rfl | omega
      rw [this]

end Go.Proofs.YtnjmfedleimlmaaDoor

/- How many nodes a term has: the walk of Count. -/
namespace Go.Proofs.YtnjmfedleimlmaaDoor
open Go Go.RowKit

def CountPost (w : World) (n : Nat) (e : Ending) (w' : World) : Prop := e = .returned (.int .i64 n) ∧ Below w.heap.size w w'
def CountCalls (t : T) : Prop := ∀ (s : Value) (bl : List Nat) (w : World), t.IsS w s bl → (∀ b ∈ bl, b < w.heap.size) → t.size ≤ 20000 → Calls Tryd.prog 27 #[.agg #[.int .i64 t.op, .int .u32 t.num, s]] w (CountPost w t.size)

set_option maxHeartbeats 4000000 in
set_option maxRecDepth 100000 in
theorem count_leaf (o n : Int) : CountCalls (.leaf o n) := fun s bl w h hbl hz => by
  obtain ⟨rfl, _⟩ := h
  go_enter Tryd.func27, Tryd.ntmps27
  go_wp2
  refine wp_loop_rounds 1 ?_
  rw [rounds_succ]
  go_wp2
  go_ret
  exact ⟨rfl, (Below.refl _ w).alloc (Nat.le_refl _) _⟩

set_option maxHeartbeats 4000000 in
set_option maxRecDepth 100000 in
theorem count_one (o n : Int) (a : T) (ih : CountCalls a) : CountCalls (.one o n a) := fun s bl w h hbl hz => by
  obtain ⟨g, cap, p, c, bla, rfl, hcap, hg, c0, c1, c2, ha, hs⟩ := h.cells1
  have hz' : 1 + a.size ≤ 20000 := hz
  go_enter Tryd.func27, Tryd.ntmps27
  go_wp2
  refine wp_loop_rounds 2 ?_
  rw [rounds_succ]
  go_wp2_with fail
  obtain ⟨W1, hW1⟩ : ∃ W1, (w.alloc (.cells #[.int .i64 (T.one o n a).op, .int .u32 (T.one o n a).num, .slice (some ⟨g, 0, none⟩) 1 cap] 28)).alloc (.cells #[.int .i64 a.op, .int .u32 a.num, .slice p a.kids c] 28) = W1 := ⟨_, rfl⟩
  have hB1 : Below w.heap.size w W1 := hW1 ▸ ((Below.refl _ w).alloc (Nat.le_refl _) _).alloc (by simp) _
  have hZ1 := hB1.size
  rw [hW1]
  refine (ih _ bla W1 (ha.keep fun b hb => hB1.block b (hbl b (hs b hb))) (fun b hb => Nat.lt_of_lt_of_le (hbl b (hs b hb)) hZ1) (by omega)).mono ?_
  rintro e w2 ⟨rfl, hB2⟩
  have hBf := hB1.trans (hB2.mono hZ1)
  go_wp2_with fail
  rw [rounds_succ]
  go_wp2
  go_ret
  exact ⟨by simp [T.size], hBf⟩

set_option maxHeartbeats 4000000 in
set_option maxRecDepth 100000 in
theorem count_two (o n : Int) (a b : T) (iha : CountCalls a) (ihb : CountCalls b) : CountCalls (.two o n a b) := fun s bl w h hbl hz => by
  obtain ⟨g, cap, p, c, q, d, bla, blb, rfl, hcap, hg, ⟨c0, c1, c2⟩, ⟨c3, c4, c5⟩, ha, hb, hs, ht⟩ := h.cells2
  have hz' : 1 + a.size + b.size ≤ 20000 := hz
  go_enter Tryd.func27, Tryd.ntmps27
  go_wp2
  refine wp_loop_rounds 3 ?_
  rw [rounds_succ]
  go_wp2_with fail
  obtain ⟨W1, hW1⟩ : ∃ W1, (w.alloc (.cells #[.int .i64 (T.two o n a b).op, .int .u32 (T.two o n a b).num, .slice (some ⟨g, 0, none⟩) 2 cap] 28)).alloc (.cells #[.int .i64 a.op, .int .u32 a.num, .slice p a.kids c] 28) = W1 := ⟨_, rfl⟩
  have hB1 : Below w.heap.size w W1 := hW1 ▸ ((Below.refl _ w).alloc (Nat.le_refl _) _).alloc (by simp) _
  have hZ1 := hB1.size
  rw [hW1]
  refine (iha _ bla W1 (ha.keep fun b hb => hB1.block b (hbl b (hs b hb))) (fun b hb => Nat.lt_of_lt_of_le (hbl b (hs b hb)) hZ1) (by omega)).mono ?_
  rintro e w2 ⟨rfl, hB2⟩
  have hBf : Below w.heap.size w w2 := hB1.trans (hB2.mono hZ1)
  have hZ2 := hBf.size
  have e3 : w2.cell? ⟨g, 3, none⟩ = some (.int .i64 b.op) := (hBf.cell (p := ⟨g, 3, none⟩) hg).trans c3
  have e4 : w2.cell? ⟨g, 4, none⟩ = some (.int .u32 b.num) := (hBf.cell (p := ⟨g, 4, none⟩) hg).trans c4
  have e5 : w2.cell? ⟨g, 5, none⟩ = some (.slice q b.kids d) := (hBf.cell (p := ⟨g, 5, none⟩) hg).trans c5
  have hg2 : g < w2.heap.size := Nat.lt_of_lt_of_le hg hZ2
  clear c0 c1 c2 c3 c4 c5
  go_wp2_with fail
  rw [rounds_succ]
  go_wp2_with fail
  obtain ⟨W3, hW3⟩ : ∃ W3, w2.alloc (.cells #[.int .i64 b.op, .int .u32 b.num, .slice q b.kids d] 28) = W3 := ⟨_, rfl⟩
  have hB3 : Below w.heap.size w W3 := hW3 ▸ hBf.alloc hZ2 _
  have hZ3 := hB3.size
  rw [hW3]
  refine (ihb _ blb W3 (hb.keep fun b hb => hB3.block b (hbl b (ht b hb))) (fun b hb => Nat.lt_of_lt_of_le (hbl b (ht b hb)) hZ3) (by omega)).mono ?_
  rintro e w4 ⟨rfl, hB4⟩
  have hBg : Below w.heap.size w w4 := hB3.trans (hB4.mono hZ3)
  go_wp2_with fail
  rw [rounds_succ]
  go_wp2
  go_ret
  exact ⟨by simp [T.size], hBg⟩
theorem count_calls : ∀ t : T, CountCalls t
  | .leaf o n => count_leaf o n
  | .one o n a => count_one o n a (count_calls a)
  | .two o n a b => count_two o n a b (count_calls a) (count_calls b)

end Go.Proofs.YtnjmfedleimlmaaDoor

/- May a term be: the walks of shaped, of the library's ContainsFunc at terms, and of Right. -/
namespace Go.Proofs.YtnjmfedleimlmaaDoor
open Go Go.RowKit

def needsT (op : Int) : Int := if op ≤ 2 then 0 else if op ≤ 4 then 1 else 2
theorem tneeds_any (op : Int) (w : World) : Calls Tryd.prog 74 #[.int .i64 op] w fun e w' => e = .returned (.int .i64 (needsT op)) ∧ w' = w := by
  go_enter Tryd.func74, Tryd.ntmps74
  go_wp2
  all_goals (go_ret; exact ⟨congrArg Ending.returned (congrArg (Value.int IntKind.i64) (by unfold needsT; (repeat' split) <;> omega)), rfl⟩)
namespace T
def root (t : T) : Bool := goodN (t.op, t.num, t.kids)
def shaped : T → Bool
  | .leaf o n => goodN (o, n, 0) | .one o n a => goodN (o, n, 1) && a.shaped | .two o n a b => goodN (o, n, 2) && (a.shaped && b.shaped)
def kidsOk : T → Bool
  | .leaf .. => true | .one _ _ a => a.shaped | .two _ _ a b => a.shaped && b.shaped
theorem shaped_eq (t : T) : t.shaped = (t.root && t.kidsOk) := by cases t <;> simp [shaped, root, kidsOk, op, num, kids]
theorem shaped_nodes : ∀ t : T, t.nodes.all goodN = t.shaped
  | .leaf .. => by simp [nodes, shaped]
  | .one _ _ a => by simp [nodes, shaped, shaped_nodes a]
  | .two _ _ a b => by simp [nodes, shaped, shaped_nodes a, shaped_nodes b]
end T
def BoolPost (w : World) (b : Bool) (e : Ending) (w' : World) : Prop := e = .returned (.bool b) ∧ Below w.heap.size w w'
def ShapedCalls (t : T) : Prop := ∀ (s : Value) (bl : List Nat) (w : World), t.IsS w s bl → (∀ b ∈ bl, b < w.heap.size) → Calls Tryd.prog 50 #[.agg #[.int .i64 t.op, .int .u32 t.num, s]] w (BoolPost w t.shaped)

theorem shaped1_calls (t : T) (ih : ShapedCalls t) (s : Value) (bl : List Nat) (w : World) (h : t.IsS w s bl) (hbl : ∀ b ∈ bl, b < w.heap.size) :
    Calls Tryd.prog 76 #[.agg #[.int .i64 t.op, .int .u32 t.num, s]] w (BoolPost w (!t.shaped)) := by
  obtain ⟨p, c, rfl⟩ := h.form
  have hB : Below w.heap.size w (w.alloc (.cells #[.int .i64 t.op, .int .u32 t.num, .slice p t.kids c] 28)) := (Below.refl _ w).alloc (Nat.le_refl _) _
  go_enter Tryd.func76, Tryd.ntmps76
  go_wp2_with fail
  refine (ih _ bl _ (h.keep fun b hb => hB.block b (hbl b hb)) (fun b hb => Nat.lt_of_lt_of_le (hbl b hb) hB.size)).mono ?_
  rintro e w2 ⟨rfl, hB2⟩
  go_wp2_with fail
  go_ret
  exact ⟨rfl, hB.trans (hB2.mono hB.size)⟩

def idx1 (a : Bool) : Int := if a then -1 else 0
def idx2 (a b : Bool) : Int := if a then (if b then -1 else 1) else 0
def IntPost (w : World) (n : Int) (e : Ending) (w' : World) : Prop := e = .returned (.int .i64 n) ∧ Below w.heap.size w w'
theorem index0 (p : Option Addr) (c : Nat) (w : World) : Calls Tryd.prog 98 #[.slice p 0 c, .func (.func 76) #[] #[]] w (IntPost w (-1)) := by
  go_enter Tryd.func98, Tryd.ntmps98
  go_wp2
  refine wp_loop_rounds 1 ?_
  rw [rounds_succ]
  go_wp2
  go_ret
  exact ⟨rfl, Below.refl _ _⟩
set_option maxHeartbeats 4000000 in
set_option maxRecDepth 100000 in
theorem index1 (o n : Int) (a : T) (ih : ShapedCalls a) (s : Value) (bl : List Nat) (w : World) (h : (T.one o n a).IsS w s bl) (hbl : ∀ b ∈ bl, b < w.heap.size) :
    Calls Tryd.prog 98 #[s, .func (.func 76) #[] #[]] w (IntPost w (idx1 a.shaped)) := by
  obtain ⟨g, cap, p, c, bla, rfl, hcap, hg, c0, c1, c2, ha, hs⟩ := h.cells1
  have hc := shaped1_calls a ih _ bla w ha (fun b hb => hbl b (hs b hb))
  cases hx : a.shaped <;> rw [hx] at hc
  all_goals
    go_enter Tryd.func98, Tryd.ntmps98
    go_wp2
    refine wp_loop_rounds 2 ?_
    rw [rounds_succ]
    go_wp2_with fail
    refine hc.mono ?_
    rintro e w2 ⟨rfl, hB2⟩
    go_wp2_with fail
  · exact bodyPost_ret (v := .int .i64 0) (by simp [results, Tryd.results98, go_sem]) rfl ⟨rfl, hB2⟩
  · rw [rounds_succ]
    go_wp2
    exact bodyPost_ret (v := .int .i64 (-1)) (by simp [results, Tryd.results98, go_sem]) rfl ⟨rfl, hB2⟩
set_option maxHeartbeats 4000000 in
set_option maxRecDepth 100000 in
theorem index2 (o n : Int) (a b : T) (iha : ShapedCalls a) (ihb : ShapedCalls b) (s : Value) (bl : List Nat) (w : World) (h : (T.two o n a b).IsS w s bl) (hbl : ∀ b ∈ bl, b < w.heap.size) :
    Calls Tryd.prog 98 #[s, .func (.func 76) #[] #[]] w (IntPost w (idx2 a.shaped b.shaped)) := by
  obtain ⟨g, cap, p, c, q, d, bla, blb, rfl, hcap, hg, ⟨c0, c1, c2⟩, ⟨c3, c4, c5⟩, ha, hb, hs, ht⟩ := h.cells2
  have hc := shaped1_calls a iha _ bla w ha (fun b hb => hbl b (hs b hb))
  cases hx : a.shaped <;> rw [hx] at hc
  · go_enter Tryd.func98, Tryd.ntmps98
    go_wp2
    refine wp_loop_rounds 3 ?_
    rw [rounds_succ]
    go_wp2_with fail
    refine hc.mono ?_
    rintro e w2 ⟨rfl, hB2⟩
    go_wp2_with fail
    exact bodyPost_ret (v := .int .i64 0) (by simp [results, Tryd.results98, go_sem]) rfl ⟨rfl, hB2⟩
  · cases hy : b.shaped
    all_goals
      go_enter Tryd.func98, Tryd.ntmps98
      go_wp2
      refine wp_loop_rounds 3 ?_
      rw [rounds_succ]
      go_wp2_with fail
      refine hc.mono ?_
      rintro e w2 ⟨rfl, hB2⟩
      have hZ2 := hB2.size
      have e3 : w2.cell? ⟨g, 3, none⟩ = some (.int .i64 b.op) := (hB2.cell (p := ⟨g, 3, none⟩) hg).trans c3
      have e4 : w2.cell? ⟨g, 4, none⟩ = some (.int .u32 b.num) := (hB2.cell (p := ⟨g, 4, none⟩) hg).trans c4
      have e5 : w2.cell? ⟨g, 5, none⟩ = some (.slice q b.kids d) := (hB2.cell (p := ⟨g, 5, none⟩) hg).trans c5
      have hd := shaped1_calls b ihb _ blb w2 (hb.keep fun b hb => hB2.block b (hbl b (ht b hb))) (fun b hb => Nat.lt_of_lt_of_le (hbl b (ht b hb)) hZ2)
      rw [hy] at hd
      go_wp2_with fail
      rw [rounds_succ]
      go_wp2_with fail
      refine hd.mono ?_
      rintro e w3 ⟨rfl, hB3⟩
      have hBf : Below w.heap.size w w3 := hB2.trans (hB3.mono hZ2)
      go_wp2_with fail
    · exact bodyPost_ret (v := .int .i64 1) (by simp [results, Tryd.results98, go_sem]) rfl ⟨rfl, hBf⟩
    · rw [rounds_succ]
      go_wp2
      exact bodyPost_ret (v := .int .i64 (-1)) (by simp [results, Tryd.results98, go_sem]) rfl ⟨rfl, hBf⟩
theorem contains_calls (s : Value) (k : Int) (w : World) (h : Calls Tryd.prog 98 #[s, .func (.func 76) #[] #[]] w (IntPost w k)) :
    Calls Tryd.prog 75 #[s, .func (.func 76) #[] #[]] w (BoolPost w (decide (0 ≤ k))) := by
  go_enter Tryd.func75, Tryd.ntmps75
  go_wp2_with fail
  refine h.mono ?_
  rintro e w2 ⟨rfl, hB2⟩
  go_wp2_with fail
  go_ret
  exact ⟨rfl, hB2⟩

set_option maxHeartbeats 40000000 in
set_option maxRecDepth 100000 in
theorem shaped_step (t : T) (s : Value) (bl : List Nat) (w : World) (h : t.IsS w s bl)
    (hk : ∀ w', Below w.heap.size w w' → Calls Tryd.prog 75 #[s, .func (.func 76) #[] #[]] w' (BoolPost w' (!t.kidsOk))) :
    Calls Tryd.prog 50 #[.agg #[.int .i64 t.op, .int .u32 t.num, s]] w (BoolPost w t.shaped) := by
  obtain ⟨p, c, rfl⟩ := h.form
  have he := T.shaped_eq t
  obtain ⟨W1, hW1⟩ : ∃ W1, w.alloc (.cells #[.int .i64 t.op, .int .u32 t.num, .slice p t.kids c] 28) = W1 := ⟨_, rfl⟩
  have hB1 : Below w.heap.size w W1 := hW1 ▸ (Below.refl _ w).alloc (Nat.le_refl _) _
  have hP1 : Blk W1 w.heap.size 28 #[.int .i64 t.op, .int .u32 t.num, .slice p t.kids c] := hW1 ▸ Blk.new w _ _
  obtain ⟨c0, c1, c2⟩ := hP1.c3
  have hnT : 1 ≤ t.op → t.op ≤ 17 → needsN t.op = needsT t.op := fun h1 h2 => by unfold needsN needsT; (repeat' split) <;> omega
  obtain ⟨nT, hnTe⟩ : ∃ x, needsT t.op = x := ⟨_, rfl⟩
  obtain ⟨nN, hnNe⟩ : ∃ x, needsN t.op = x := ⟨_, rfl⟩
  obtain ⟨o, hoe⟩ : ∃ x, t.op = x := ⟨_, rfl⟩
  obtain ⟨n, hne⟩ : ∃ x, t.num = x := ⟨_, rfl⟩
  obtain ⟨q, hqe⟩ : ∃ x, t.kids = x := ⟨_, rfl⟩
  have hroot : t.root = decide (1 ≤ o ∧ o ≤ 17 ∧ nN = (q : Int) ∧ (2 < o → n = 0) ∧ (o = 2 → n ≤ 255)) := by unfold T.root goodN; dsimp only; rw [hnNe, hoe, hne, hqe]
  rw [hoe] at hnT hnTe hnNe
  rw [hnTe, hnNe] at hnT
  simp only [hoe, hne, hqe] at hW1 c0 c1 c2 hk ⊢
  clear hP1 h
  by_cases h1 : 1 ≤ o
  · have hd1 : decide (o < 1) = false := decide_eq_false (by omega)
    by_cases h2 : o ≤ 17
    · have hd2 : decide (17 < o) = false := decide_eq_false (by omega)
      have hnT' := hnT h1 h2
      by_cases h3 : (q : Int) = nT
      · have hd3 : ((q : Int) != needsT o) = false := by rw [hnTe]; simpa using h3
        by_cases h4 : 2 < o
        · have hd4 : decide (2 < o) = true := decide_eq_true h4
          have hd6 : (o == 2) = false := by simpa using (show ¬ o = 2 by omega)
          by_cases h5 : n = 0
          · have hd5 : (n != 0) = false := by simpa using h5
            have HG := Lib.hid (show t.shaped = t.kidsOk by rw [he, show t.root = true by rw [hroot]; exact decide_eq_true (by omega), Bool.true_and])
            clear hroot he hnT hnTe hnNe hoe hne hqe
            try clear hnT'
            try clear h3
            try clear h5
            try clear h6
            go_enter Tryd.func50, Tryd.ntmps50
            go_wp2
            try rw [hW1]
            clear hW1
            go_quiet ((go_at_call 74; exact Calls.quiet_of_same (tneeds_any _ _)))
            have hBn := hB1.trans (below_drewN w.heap.size W1 nq)
            have hcf := hk (W1.drewN nq) hBn
            go_wp2_with fail
            refine hcf.mono ?_
            rintro e w2 ⟨rfl, hB2⟩
            go_wp2_with fail
            go_ret
            exact ⟨congrArg Ending.returned (congrArg Value.bool (by rw [HG.out]; try simp)), hBn.trans (hB2.mono hBn.size)⟩
          · have hd5 : (n != 0) = true := by simpa using h5
            have HB := Lib.hid (show t.shaped = false by rw [he, show t.root = false by rw [hroot]; exact decide_eq_false (by omega), Bool.false_and])
            clear hroot he hnT hnTe hnNe hoe hne hqe
            try clear hnT'
            try clear h3
            try clear h5
            try clear h6
            go_enter Tryd.func50, Tryd.ntmps50
            go_wp2
            try rw [hW1]
            clear hW1
            go_quiet ((go_at_call 74; exact Calls.quiet_of_same (tneeds_any _ _)))
            go_wp2
            go_ret
            exact ⟨congrArg Ending.returned (congrArg Value.bool HB.out.symm), hB1.trans (below_drewN _ _ _)⟩
        · have hd4 : decide (2 < o) = false := decide_eq_false h4
          by_cases h6 : o = 2
          · have hd6 : (o == 2) = true := by simpa using h6
            by_cases h7 : 255 < n
            · have hd7 : decide (255 < n) = true := decide_eq_true h7
              have HB := Lib.hid (show t.shaped = false by rw [he, show t.root = false by rw [hroot]; exact decide_eq_false (by omega), Bool.false_and])
              clear hroot he hnT hnTe hnNe hoe hne hqe
              try clear hnT'
              try clear h3
              try clear h5
              try clear h6
              go_enter Tryd.func50, Tryd.ntmps50
              go_wp2
              try rw [hW1]
              clear hW1
              go_quiet ((go_at_call 74; exact Calls.quiet_of_same (tneeds_any _ _)))
              go_wp2
              go_ret
              exact ⟨congrArg Ending.returned (congrArg Value.bool HB.out.symm), hB1.trans (below_drewN _ _ _)⟩
            · have hd7 : decide (255 < n) = false := decide_eq_false h7
              have HG := Lib.hid (show t.shaped = t.kidsOk by rw [he, show t.root = true by rw [hroot]; exact decide_eq_true (by omega), Bool.true_and])
              clear hroot he hnT hnTe hnNe hoe hne hqe
              try clear hnT'
              try clear h3
              try clear h5
              try clear h6
              go_enter Tryd.func50, Tryd.ntmps50
              go_wp2
              try rw [hW1]
              clear hW1
              go_quiet ((go_at_call 74; exact Calls.quiet_of_same (tneeds_any _ _)))
              have hBn := hB1.trans (below_drewN w.heap.size W1 nq)
              have hcf := hk (W1.drewN nq) hBn
              go_wp2_with fail
              refine hcf.mono ?_
              rintro e w2 ⟨rfl, hB2⟩
              go_wp2_with fail
              go_ret
              exact ⟨congrArg Ending.returned (congrArg Value.bool (by rw [HG.out]; try simp)), hBn.trans (hB2.mono hBn.size)⟩
          · have hd6 : (o == 2) = false := by simpa using h6
            have HG := Lib.hid (show t.shaped = t.kidsOk by rw [he, show t.root = true by rw [hroot]; exact decide_eq_true (by omega), Bool.true_and])
            clear hroot he hnT hnTe hnNe hoe hne hqe
            try clear hnT'
            try clear h3
            try clear h5
            try clear h6
            go_enter Tryd.func50, Tryd.ntmps50
            go_wp2
            try rw [hW1]
            clear hW1
            go_quiet ((go_at_call 74; exact Calls.quiet_of_same (tneeds_any _ _)))
            have hBn := hB1.trans (below_drewN w.heap.size W1 nq)
            have hcf := hk (W1.drewN nq) hBn
            go_wp2_with fail
            refine hcf.mono ?_
            rintro e w2 ⟨rfl, hB2⟩
            go_wp2_with fail
            go_ret
            exact ⟨congrArg Ending.returned (congrArg Value.bool (by rw [HG.out]; try simp)), hBn.trans (hB2.mono hBn.size)⟩
      · have hd3 : ((q : Int) != needsT o) = true := by rw [hnTe]; simpa using h3
        have HB := Lib.hid (show t.shaped = false by rw [he, show t.root = false by rw [hroot]; exact decide_eq_false (by omega), Bool.false_and])
        clear hroot he hnT hnTe hnNe hoe hne hqe
        try clear hnT'
        try clear h3
        try clear h5
        try clear h6
        go_enter Tryd.func50, Tryd.ntmps50
        go_wp2
        try rw [hW1]
        clear hW1
        go_quiet ((go_at_call 74; exact Calls.quiet_of_same (tneeds_any _ _)))
        go_wp2
        go_ret
        exact ⟨congrArg Ending.returned (congrArg Value.bool HB.out.symm), hB1.trans (below_drewN _ _ _)⟩
    · have hd2 : decide (17 < o) = true := decide_eq_true (by omega)
      have HB := Lib.hid (show t.shaped = false by rw [he, show t.root = false by rw [hroot]; exact decide_eq_false (by omega), Bool.false_and])
      clear hroot he hnT hnTe hnNe hoe hne hqe
      try clear hnT'
      try clear h3
      try clear h5
      try clear h6
      go_enter Tryd.func50, Tryd.ntmps50
      go_wp2
      try rw [hW1]
      clear hW1
      go_quiet ((go_at_call 74; exact Calls.quiet_of_same (tneeds_any _ _)))
      go_wp2
      go_ret
      exact ⟨congrArg Ending.returned (congrArg Value.bool HB.out.symm), hB1.trans (below_drewN _ _ _)⟩
  · have hd1 : decide (o < 1) = true := decide_eq_true (by omega)
    have HB := Lib.hid (show t.shaped = false by rw [he, show t.root = false by rw [hroot]; exact decide_eq_false (by omega), Bool.false_and])
    clear hroot he hnT hnTe hnNe hoe hne hqe
    try clear hnT'
    try clear h3
    try clear h5
    try clear h6
    go_enter Tryd.func50, Tryd.ntmps50
    go_wp2
    try rw [hW1]
    clear hW1
    go_quiet ((go_at_call 74; exact Calls.quiet_of_same (tneeds_any _ _)))
    go_wp2
    go_ret
    exact ⟨congrArg Ending.returned (congrArg Value.bool HB.out.symm), hB1.trans (below_drewN _ _ _)⟩

theorem shaped_calls : ∀ t : T, ShapedCalls t
  | .leaf o n => fun s bl w h hbl => shaped_step _ s bl w h fun w' hB => by
    obtain ⟨rfl, _⟩ := h
    exact contains_calls _ _ _ (index0 _ _ w')
  | .one o n a => fun s bl w h hbl => shaped_step _ s bl w h fun w' hB => by
    have := contains_calls _ _ _ (index1 o n a (shaped_calls a) s bl w' (h.keep fun b hb => hB.block b (hbl b hb)) (fun b hb => Nat.lt_of_lt_of_le (hbl b hb) hB.size))
    have e : decide (0 ≤ idx1 a.shaped) = !(T.one o n a).kidsOk := by simp only [T.kidsOk]; cases a.shaped <;> rfl
    rwa [e] at this
  | .two o n a b => fun s bl w h hbl => shaped_step _ s bl w h fun w' hB => by
    have := contains_calls _ _ _ (index2 o n a b (shaped_calls a) (shaped_calls b) s bl w' (h.keep fun b hb => hB.block b (hbl b hb)) (fun b hb => Nat.lt_of_lt_of_le (hbl b hb) hB.size))
    have e : decide (0 ≤ idx2 a.shaped b.shaped) = !(T.two o n a b).kidsOk := by simp only [T.kidsOk]; cases a.shaped <;> cases b.shaped <;> rfl
    rwa [e] at this

theorem tright_calls (t : T) (s : Value) (bl : List Nat) (w : World) (h : t.IsS w s bl) (hbl : ∀ b ∈ bl, b < w.heap.size) (hz : t.size ≤ 16384) :
    Calls Tryd.prog 25 #[.agg #[.int .i64 t.op, .int .u32 t.num, s]] w (BoolPost w t.shaped) := by
  obtain ⟨p, c, rfl⟩ := h.form
  obtain ⟨W1, hW1⟩ : ∃ W1, w.alloc (.cells #[.int .i64 t.op, .int .u32 t.num, .slice p t.kids c] 28) = W1 := ⟨_, rfl⟩
  have hB1 : Below w.heap.size w W1 := hW1 ▸ (Below.refl _ w).alloc (Nat.le_refl _) _
  have hP1 : Blk W1 w.heap.size 28 #[.int .i64 t.op, .int .u32 t.num, .slice p t.kids c] := hW1 ▸ Blk.new w _ _
  obtain ⟨c0, c1, c2⟩ := hP1.c3
  go_enter Tryd.func25, Tryd.ntmps25
  go_wp2_with fail
  try rw [hW1]
  clear hW1
  refine (count_calls t _ bl W1 (h.keep fun b hb => hB1.block b (hbl b hb)) (fun b hb => Nat.lt_of_lt_of_le (hbl b hb) hB1.size) (by omega)).mono ?_
  rintro e w2 ⟨rfl, hB2⟩
  have hP2 := hP1.below hB2 hP1.lt
  obtain ⟨d0, d1, d2⟩ := hP2.c3
  have hBf : Below w.heap.size w w2 := hB1.trans (hB2.mono hB1.size)
  go_wp2_with fail
  refine (shaped_calls t _ bl w2 (h.keep fun b hb => hBf.block b (hbl b hb)) (fun b hb => Nat.lt_of_lt_of_le (hbl b hb) hBf.size)).mono ?_
  rintro e w3 ⟨rfl, hB3⟩
  go_wp2_with fail
  go_ret
  exact ⟨rfl, hBf.trans (hB3.mono hBf.size)⟩

end Go.Proofs.YtnjmfedleimlmaaDoor

/- The document's value of a term: the walks of eval and Eval. -/
namespace Go.Proofs.YtnjmfedleimlmaaDoor
open Go Go.RowKit

/-- what the document's eval yields -/
def RefPost (w : World) (v : Option Int) (n : Nat) (e : Ending) (w' : World) : Prop :=
  ∃ k : Int, e = .returned (.tuple #[.int .u32 (v.getD 0), .int .i64 k, .bool v.isSome]) ∧ (v.isSome = true → k = n) ∧ Below w.heap.size w w'
section
variable (L : List (Int × Int × Int)) (g cap : Nat) (ws : List Int) (pw : Option Addr) (cw : Nat)
def RefCalls (t : T) : Prop := ∀ (i : Nat) (w : World), (∃ pre post, L = pre ++ (t.nodes ++ post) ∧ pre.length = i) → NAt w g L → g < w.heap.size → WordsAt w pw ws →
  Calls Tryd.prog 51 #[.slice (some ⟨g, 0, none⟩) L.length cap, .int .i64 i, .slice pw ws.length cw] w (RefPost w (t.evalT ws) (i + t.size))

set_option maxRecDepth 100000 in
theorem ref_leaf (o n : Int) (hs : (T.leaf o n).shaped = true) (hf : (T.leaf o n).Wf) (hw : WordsOk ws) (hL : L.length ≤ 3000) (hc : L.length ≤ cap) : RefCalls L g cap ws pw cw (.leaf o n) := fun i w ⟨pre, post, he, hi⟩ hN hg hW => by
  have hx : L[i]? = some (o, n, 0) := by rw [he, ← hi, List.getElem?_append_right (Nat.le_refl _)]; simp [T.nodes]
  have hlt : i < L.length := (List.getElem?_eq_some_iff.1 hx).1
  obtain ⟨c0, c1, c2⟩ := hN i _ hx
  dsimp only at c0 c1 c2
  have hl := hw.1
  clear he hi
  have ho : o = 1 ∨ o = 2 := by
    simp only [T.shaped, goodN, decide_eq_true_eq] at hs
    have h := hs.2.2.1
    unfold needsN at h
    (repeat' split at h) <;> omega
  have hn : 0 ≤ n ∧ n ≤ 4294967295 := hf
  show Calls _ _ _ w (RefPost w (some (leafV o n ws)) (i + 1))
  rcases ho with rfl | rfl
  · go_enter Tryd.func51, Tryd.ntmps51
    go_wp2
    refine bodyPost_ret (v := .tuple #[.int .u32 n, .int .i64 ((i : Int) + 1), .bool true]) (by simp [results, Tryd.results51, go_sem]) rfl ⟨(i : Int) + 1, rfl, fun _ => by omega, Below.refl _ _⟩
  · cases hy : ws[n.toNat]? with
    | none =>
      have hge : ws.length ≤ n.toNat := by simpa using hy
      have HE := Lib.hid (show leafV 2 n ws = 0 by unfold leafV; rw [if_neg (by omega), hy]; rfl)
      clear hy
      go_enter Tryd.func51, Tryd.ntmps51
      go_wp2
      refine bodyPost_ret (v := .tuple #[.int .u32 0, .int .i64 ((i : Int) + 1), .bool true]) (by simp [results, Tryd.results51, go_sem]) rfl ⟨(i : Int) + 1, by rw [HE.out]; rfl, fun _ => by omega, Below.refl _ _⟩
    | some v =>
      have hlt2 : n.toNat < ws.length := (List.getElem?_eq_some_iff.1 hy).1
      obtain ⟨b, off, rfl, hb1, hb2⟩ := hW _ v hy
      have HE := Lib.hid (show leafV 2 n ws = v by unfold leafV; rw [if_neg (by omega), hy]; rfl)
      obtain ⟨m, rfl⟩ : ∃ m : Nat, n = m := ⟨n.toNat, by omega⟩
      rw [Int.toNat_natCast] at hb2 hlt2
      clear hy
      go_enter Tryd.func51, Tryd.ntmps51
      go_wp2
      refine bodyPost_ret (v := .tuple #[.int .u32 v, .int .i64 ((i : Int) + 1), .bool true]) (by simp [results, Tryd.results51, go_sem]) rfl ⟨(i : Int) + 1, by rw [HE.out]; rfl, fun _ => by omega, Below.refl _ _⟩

theorem shaped_one {o n : Int} {a : T} (h : (T.one o n a).shaped = true) : (3 ≤ o ∧ o ≤ 4) ∧ a.shaped = true := by
  simp only [T.shaped, goodN, Bool.and_eq_true, decide_eq_true_eq] at h
  refine ⟨?_, h.2⟩
  have h1 := h.1.2.2.1
  unfold needsN at h1
  (repeat' split at h1) <;> omega
theorem shaped_two {o n : Int} {a b : T} (h : (T.two o n a b).shaped = true) : (5 ≤ o ∧ o ≤ 17) ∧ a.shaped = true ∧ b.shaped = true := by
  simp only [T.shaped, goodN, Bool.and_eq_true, decide_eq_true_eq] at h
  refine ⟨?_, h.2⟩
  have h1 := h.1.2.2.1
  have h2 := h.1.2.1
  unfold needsN at h1
  (repeat' split at h1) <;> omega

set_option maxHeartbeats 4000000 in
set_option maxRecDepth 100000 in
theorem ref_one (o n : Int) (a : T) (hs : (T.one o n a).shaped = true) (hf : (T.one o n a).Wf) (hw : WordsOk ws) (hL : L.length ≤ 3000) (hc : L.length ≤ cap) (ih : RefCalls L g cap ws pw cw a) : RefCalls L g cap ws pw cw (.one o n a) := fun i w ⟨pre, post, he, hi⟩ hN hg hW => by
  have hx : L[i]? = some (o, n, 1) := by rw [he, ← hi, List.getElem?_append_right (Nat.le_refl _)]; simp [T.nodes]
  have hlt : i < L.length := (List.getElem?_eq_some_iff.1 hx).1
  obtain ⟨c0, c1, c2⟩ := hN i _ hx
  dsimp only at c0 c1 c2
  obtain ⟨ho, hsa⟩ := shaped_one hs
  have b1 : (o == 1) = false := by simpa using (show ¬ o = 1 by omega)
  have b2 : (o == 2) = false := by simpa using (show ¬ o = 2 by omega)
  have hih := ih (i + 1) w ⟨pre ++ [(o, n, 1)], post, by rw [he]; simp [T.nodes], by simp [hi]⟩ hN hg hW
  have hcast : ((i + 1 : Nat) : Int) = (i : Int) + 1 := rfl
  rw [hcast] at hih
  clear he hi hx
  go_enter Tryd.func51, Tryd.ntmps51
  go_wp2_with fail
  refine hih.mono ?_
  rintro e w2 ⟨k, rfl, hk, hB2⟩
  cases hv : a.evalT ws with
  | none =>
    have HE := Lib.hid (show (T.one o n a).evalT ws = none by simp only [T.evalT, hv, Option.map_none])
    simp only [Option.getD_none, Option.isSome_none]
    go_wp2_with fail
    refine bodyPost_ret (v := .tuple #[.int .u32 0, .int .i64 k, .bool false]) (by simp [results, Tryd.results51, go_sem]) rfl ⟨k, by rw [HE.out]; rfl, (by rw [HE.out]; intro h; cases h), hB2⟩
  | some x =>
    have hbx := T.evalT_bd hw hf.2 hv
    have HE := Lib.hid (show (T.one o n a).evalT ws = some (oneV o x) by simp only [T.evalT, hv, Option.map_some])
    have hk' := Lib.hid (show k = (i + 1 + a.size : Nat) from hk (by rw [hv]; rfl))
    clear hk
    simp only [Option.getD_some, Option.isSome_some]
    go_wp2_with fail
    refine (apply_any o x 0 w2 ⟨ho.1, by omega⟩ hbx.1 hbx.2 (by omega) (by omega)).mono ?_
    rw [if_pos (by omega)]
    rintro e w3 ⟨rfl, hB3⟩
    simp only [Option.getD_some, Option.isSome_some]
    go_wp2_with fail
    refine bodyPost_ret (v := .tuple #[.int .u32 (oneV o x), .int .i64 k, .bool true]) (by simp [results, Tryd.results51, go_sem]) rfl ⟨k, by rw [HE.out]; rfl, fun _ => by rw [hk'.out]; simp only [T.size]; omega, hB2.trans (hB3.mono hB2.size)⟩

set_option maxHeartbeats 4000000 in
set_option maxRecDepth 100000 in
theorem ref_two (o n : Int) (a b : T) (hs : (T.two o n a b).shaped = true) (hf : (T.two o n a b).Wf) (hw : WordsOk ws) (hL : L.length ≤ 3000) (hc : L.length ≤ cap) (iha : RefCalls L g cap ws pw cw a) (ihb : RefCalls L g cap ws pw cw b) : RefCalls L g cap ws pw cw (.two o n a b) := fun i w ⟨pre, post, he, hi⟩ hN hg hW => by
  have hx : L[i]? = some (o, n, 2) := by rw [he, ← hi, List.getElem?_append_right (Nat.le_refl _)]; simp [T.nodes]
  have hlt : i < L.length := (List.getElem?_eq_some_iff.1 hx).1
  obtain ⟨c0, c1, c2⟩ := hN i _ hx
  dsimp only at c0 c1 c2
  obtain ⟨ho, hsa, hsb⟩ := shaped_two hs
  have b1 : (o == 1) = false := by simpa using (show ¬ o = 1 by omega)
  have b2 : (o == 2) = false := by simpa using (show ¬ o = 2 by omega)
  have hih := iha (i + 1) w ⟨pre ++ [(o, n, 2)], b.nodes ++ post, by rw [he]; simp [T.nodes], by simp [hi]⟩ hN hg hW
  have hcast : ((i + 1 : Nat) : Int) = (i : Int) + 1 := rfl
  rw [hcast] at hih
  have HQ := Lib.hid he
  have HI := Lib.hid hi
  clear he hi hx
  go_enter Tryd.func51, Tryd.ntmps51
  go_wp2_with fail
  refine hih.mono ?_
  rintro e w2 ⟨k, rfl, hk, hB2⟩
  cases hv : a.evalT ws with
  | none =>
    have HE := Lib.hid (show (T.two o n a b).evalT ws = none by simp only [T.evalT, hv, Option.bind_none])
    simp only [Option.getD_none, Option.isSome_none]
    go_wp2_with fail
    refine bodyPost_ret (v := .tuple #[.int .u32 0, .int .i64 k, .bool false]) (by simp [results, Tryd.results51, go_sem]) rfl ⟨k, by rw [HE.out]; rfl, (by rw [HE.out]; intro h; cases h), hB2⟩
  | some x =>
    have hbx := T.evalT_bd hw hf.2.1 hv
    obtain rfl : k = (i + 1 + a.size : Nat) := hk (by rw [hv]; rfl)
    have hih2 := ihb (i + 1 + a.size) w2 ⟨pre ++ ((o, n, 2) :: a.nodes), post, by rw [HQ.out]; simp [T.nodes], by simp [HI.out, T.nodes_length]; omega⟩ (hN.below hB2 hg) (Nat.lt_of_lt_of_le hg hB2.size) (hW.below hB2)
    simp only [Option.getD_some, Option.isSome_some]
    go_wp2_with fail
    refine hih2.mono ?_
    rintro e w3 ⟨k2, rfl, hk2, hB3⟩
    have hBf : Below w.heap.size w w3 := hB2.trans (hB3.mono hB2.size)
    cases hu : b.evalT ws with
    | none =>
      have HE := Lib.hid (show (T.two o n a b).evalT ws = none by simp only [T.evalT, hv, hu, Option.bind_some, Option.bind_none])
      simp only [Option.getD_none, Option.isSome_none]
      go_wp2_with fail
      refine bodyPost_ret (v := .tuple #[.int .u32 0, .int .i64 k2, .bool false]) (by simp [results, Tryd.results51, go_sem]) rfl ⟨k2, by rw [HE.out]; rfl, (by rw [HE.out]; intro h; cases h), hBf⟩
    | some y =>
      have hby := T.evalT_bd hw hf.2.2 hu
      have HE := Lib.hid (show (T.two o n a b).evalT ws = twoV o x y by simp only [T.evalT, hv, hu, Option.bind_some])
      have hk2' := Lib.hid (show k2 = (i + 1 + a.size + b.size : Nat) from hk2 (by rw [hu]; rfl))
      clear hk2
      simp only [Option.getD_some, Option.isSome_some]
      go_wp2_with fail
      refine (apply_any o x y w3 ⟨by omega, ho.2⟩ hbx.1 hbx.2 hby.1 hby.2).mono ?_
      rw [if_neg (by omega)]
      rintro e w4 ⟨rfl, hB4⟩
      go_wp2_with fail
      refine bodyPost_ret (v := .tuple #[.int .u32 ((twoV o x y).getD 0), .int .i64 k2, .bool (twoV o x y).isSome]) (by simp [results, Tryd.results51, go_sem]) rfl ⟨k2, by rw [HE.out], fun _ => by rw [hk2'.out]; simp only [T.size]; omega, hBf.trans (hB4.mono hBf.size)⟩
theorem ref_calls (hw : WordsOk ws) (hL : L.length ≤ 3000) (hc : L.length ≤ cap) : ∀ t : T, t.shaped = true → t.Wf → RefCalls L g cap ws pw cw t
  | .leaf o n, hs, hf => ref_leaf L g cap ws pw cw o n hs hf hw hL hc
  | .one o n a, hs, hf => ref_one L g cap ws pw cw o n a hs hf hw hL hc (ref_calls hw hL hc a (shaped_one hs).2 hf.2)
  | .two o n a b, hs, hf => ref_two L g cap ws pw cw o n a b hs hf hw hL hc (ref_calls hw hL hc a (shaped_two hs).2.1 hf.2.1) (ref_calls hw hL hc b (shaped_two hs).2.2 hf.2.2)
end
/-- what the document's Eval yields -/
theorem refEval_calls (t : T) (n g cap : Nat) (ws : List Int) (pw : Option Addr) (cw : Nat) (w : World) (hn : t.nodes.length = n) (hs : t.shaped = true) (hf : t.Wf) (hw : WordsOk ws) (hL : n ≤ 3000) (hc : n ≤ cap) (hN : NAt w g t.nodes) (hg : g < w.heap.size) (hW : WordsAt w pw ws) :
    Calls Tryd.prog 26 #[.slice (some ⟨g, 0, none⟩) n cap, .slice pw ws.length cw] w (EvalPost w (t.evalT ws)) := by
  subst hn
  have h := ref_calls t.nodes g cap ws pw cw hw hL hc t hs hf 0 w ⟨[], [], by simp, rfl⟩ hN hg hW
  go_enter Tryd.func26, Tryd.ntmps26
  go_wp2_with fail
  refine h.mono ?_
  rintro e w2 ⟨k, rfl, hk, hB2⟩
  go_wp2_with fail
  exact bodyPost_ret (v := .tuple #[.int .u32 ((t.evalT ws).getD 0), .bool (t.evalT ws).isSome]) (by simp [results, Tryd.results26, go_sem]) rfl ⟨rfl, hB2⟩

end Go.Proofs.YtnjmfedleimlmaaDoor

/- A right term of nodes: the walk of of. -/
namespace Go.Proofs.YtnjmfedleimlmaaDoor
open Go Go.RowKit

/-- the term that nodes give -/
def ofT (l : List (Int × Int)) : T := (builtT 41 l 0).1
theorem ofT_size (l : List (Int × Int)) (h : l.length ≤ 60) : (ofT l).size ≤ 121 := by
  have := builtT_le 41 l 0 (by omega)
  unfold ofT; omega
/-- may it be? -/
def ofB (l : List (Int × Int)) : Bool := (ofT l).nodes.all goodN

set_option maxRecDepth 100000 in
theorem of_long (l : List (Int × Int)) (pl : Option Addr) (cap : Nat) (w : World) (h : 60 < l.length) (hm : l.length ≤ 9223372036854775807) :
    Calls Tryd.prog 15 #[.slice pl l.length cap] w fun e w' => e = .returned (.tuple #[.agg #[.int .i64 0, .int .u32 0, .slice none 0 0], .bool false]) ∧ Below w.heap.size w w' := by
  go_enter Tryd.func15, Tryd.ntmps15
  go_wp2
  exact bodyPost_ret (v := .tuple #[.agg #[.int .i64 0, .int .u32 0, .slice none 0 0], .bool false]) (by simp [results, Tryd.results15, go_sem]) rfl ⟨rfl, (Below.refl _ w).alloc (Nat.le_refl _) _⟩

def OfPost (w : World) (l : List (Int × Int)) (e : Ending) (w' : World) : Prop :=
  ∃ s bl, e = .returned (.tuple #[.agg #[.int .i64 (ofT l).op, .int .u32 (ofT l).num, s], .bool (ofB l)]) ∧ (ofT l).IsS w' s bl ∧ (∀ b ∈ bl, w.heap.size ≤ b ∧ b < w'.heap.size) ∧ Below w.heap.size w w'

set_option maxHeartbeats 4000000 in
set_option maxRecDepth 100000 in
theorem of_short (l : List (Int × Int)) (pl : Option Addr) (cap : Nat) (w : World) (h : l.length ≤ 60) (hN : NodesAt w pl l w.heap.size) :
    Calls Tryd.prog 15 #[.slice pl l.length cap] w (OfPost w l) := by
  have hsz := ofT_size l h
  go_enter Tryd.func15, Tryd.ntmps15
  go_wp2_with fail
  have hW0 : Blk ((w.alloc (.cells #[.int .i64 0, .int .u32 0, .slice none 0 0] 28)).alloc (.cells #[.int .i64 0] 3)) w.heap.size 28 #[.int .i64 0, .int .u32 0, .slice none 0 0] := (Blk.new w _ _).alloc _
  have hA0 : Blk ((w.alloc (.cells #[.int .i64 0, .int .u32 0, .slice none 0 0] 28)).alloc (.cells #[.int .i64 0] 3)) (w.heap.size + 1) 3 #[.int .i64 ((0 : Nat) : Int)] := by
    have := Blk.new (w.alloc (.cells #[.int .i64 0, .int .u32 0, .slice none 0 0] 28)) 3 #[.int .i64 0]
    simpa using this
  obtain ⟨W2, hW2⟩ : ∃ W2, (w.alloc (.cells #[.int .i64 0, .int .u32 0, .slice none 0 0] 28)).alloc (.cells #[.int .i64 0] 3) = W2 := ⟨_, rfl⟩
  have hB2 : Below w.heap.size w W2 := hW2 ▸ ((Below.refl _ w).alloc (Nat.le_refl _) _).alloc (by simp) _
  have hZ2 : W2.heap.size = w.heap.size + 1 + 1 := by rw [← hW2]; simp
  rw [hW2] at hW0 hA0 ⊢
  have hN2 : NodesAt W2 pl l w.heap.size := hN.kept (B := w.heap.size + 1) (.of_below hB2) (by omega)
  refine (built_calls l pl cap w.heap.size (w.heap.size + 1) h (by omega) 41 0 0 W2 rfl (by omega) hA0 hN2).mono ?_
  rintro e w3 ⟨s, bl, rfl, hS, hL, hK, _⟩
  change (ofT l).IsS w3 s bl at hS
  have hop : (builtT 41 l 0).1 = ofT l := rfl
  rw [hop]
  obtain ⟨ps, cs, rfl⟩ := hS.form
  have hR3 := hW0.kept hK (by omega)
  have hZ3 := hK.size
  have hB3 : Below w.heap.size w w3 := hB2.trans ⟨hK.os, hK.tape, hK.output, hK.size, fun k hk => hK.block k (by omega) (by omega)⟩
  go_wp2_with fail
  obtain ⟨W4, hW4⟩ : ∃ W4, w3.alloc (.cells #[.int .i64 (ofT l).op, .int .u32 (ofT l).num, .slice ps (ofT l).kids cs] 28) = W4 := ⟨_, rfl⟩
  have hP4 : Blk W4.drew w3.heap.size 28 #[.int .i64 (ofT l).op, .int .u32 (ofT l).num, .slice ps (ofT l).kids cs] := hW4 ▸ Blk.new w3 _ _
  have hR4 : Blk W4.drew w.heap.size 28 #[.int .i64 0, .int .u32 0, .slice none 0 0] := hW4 ▸ hR3.alloc _
  have hZ4 : W4.drew.heap.size = w3.heap.size + 1 := by show W4.heap.size = _; rw [← hW4]; simp
  have hB4 : Below w3.heap.size w3 W4.drew := (hW4 ▸ (Below.refl _ w3).alloc (Nat.le_refl _) _ : Below w3.heap.size w3 W4).drew
  have hS4 : (ofT l).IsS W4.drew (.slice ps (ofT l).kids cs) bl := hS.keep fun b hb => hB4.block b (hL b hb).2
  rw [hW4]
  obtain ⟨hp0, hp1, hp2⟩ := hP4.c3
  obtain ⟨hv0, hv1, hv2⟩ := (show Blk W4 w3.heap.size 28 #[.int .i64 (ofT l).op, .int .u32 (ofT l).num, .slice ps (ofT l).kids cs] from hP4).c3
  go_region_law
    (first
      | (rw [if_pos (by rfl)]; go_simp; go_at_call 19; refine (flat_calls (ofT l) _ bl W4.drew hS4 (fun b hb => by have := (hL b hb).2; omega) (by omega)).mono ?_; rintro e w5 ⟨g5, cap5, rfl, hO5, hB5⟩
         have hP5 := hP4.below hB5 (by omega)
         have hR5 := hR4.below hB5 (by omega)
         obtain ⟨hq0, hq1, hq2⟩ := hP5.c3)
      | (rw [if_pos (by rfl)]; go_simp; go_at_call 41; refine (refright_at (ofT l).nodes (ofT l).size g5 cap5 w5 (T.nodes_length _) (by omega) (row_cap hO5).1 (row_cap hO5).2 (NAt.of_row hO5 (T.nodes_length _))).mono ?_; rintro e w6 ⟨rfl, hB6⟩
         have hZ5 := hB5.size
         have hP6 := hP5.below hB6 (by omega)
         have hR6 := hR5.below hB6 (by omega)
         obtain ⟨hr0, hr1, hr2⟩ := hP6.c3
         obtain ⟨hs0, hs1, hs2⟩ := hR6.c3
         obtain ⟨ht0, ht1, ht2⟩ := hR6.f3))
  all_goals go_wp2
  all_goals
    have hZ5 := hB5.size
    have hZ6 := hB6.size
    have hBf : Below w.heap.size w w6 := ((hB3.trans (hB4.mono (by omega))).trans (hB5.mono (by omega))).trans (hB6.mono (by omega))
    have hSf : (ofT l).IsS w6 (.slice ps (ofT l).kids cs) bl := (hS4.keep fun b hb => hB5.block b (by have := (hL b hb).2; omega)).keep fun b hb => hB6.block b (by have := (hL b hb).2; omega)
    refine bodyPost_ret (v := .tuple #[.agg #[.int .i64 (ofT l).op, .int .u32 (ofT l).num, .slice ps (ofT l).kids cs], .bool (ofB l)]) (by simp [results, Tryd.results15, go_sem, ofB, *]) rfl ⟨_, _, rfl, hSf.keep fun b hb => ?_, fun b hb => ?_, ((hBf.setCell (by simp) _).setCell (by simp) _).setCell (by simp) _⟩
    · have := (hL b hb).1
      exact (Below.heap_setCell _ _ _ b (by show b ≠ w.heap.size; omega)).trans ((Below.heap_setCell _ _ _ b (by show b ≠ w.heap.size; omega)).trans (Below.heap_setCell _ _ _ b (by show b ≠ w.heap.size; omega)))
    · have := hL b hb
      simp only [World.setCell, Array.size_modify]
      omega

/-- the term that of yields, and whether it may be -/
def ofX (l : List (Int × Int)) : T := if l.length ≤ 60 then ofT l else .leaf 0 0
def ofOk (l : List (Int × Int)) : Bool := decide (l.length ≤ 60) && ofB l
theorem ofX_size (l : List (Int × Int)) : (ofX l).size ≤ 121 := by
  unfold ofX
  split
  · exact ofT_size l (by assumption)
  · simp [T.size]
def OfAny (w : World) (l : List (Int × Int)) (e : Ending) (w' : World) : Prop :=
  ∃ p c bl, e = .returned (.tuple #[.agg #[.int .i64 (ofX l).op, .int .u32 (ofX l).num, .slice p (ofX l).kids c], .bool (ofOk l)]) ∧ (ofX l).IsS w' (.slice p (ofX l).kids c) bl ∧ (∀ b ∈ bl, w.heap.size ≤ b ∧ b < w'.heap.size) ∧ Below w.heap.size w w'
theorem of_any (l : List (Int × Int)) (pl : Option Addr) (cap : Nat) (w : World) (hm : l.length ≤ 9223372036854775807) (hN : NodesAt w pl l w.heap.size) :
    Calls Tryd.prog 15 #[.slice pl l.length cap] w (OfAny w l) := by
  by_cases h : l.length ≤ 60
  · refine (of_short l pl cap w h hN).mono ?_
    rintro e w' ⟨s, bl, rfl, hS, hL, hB⟩
    have e1 : ofX l = ofT l := by unfold ofX; rw [if_pos h]
    have e2 : ofOk l = ofB l := by unfold ofOk; rw [decide_eq_true h, Bool.true_and]
    obtain ⟨p, c, rfl⟩ := hS.form
    unfold OfAny
    rw [e1, e2]
    exact ⟨p, c, bl, rfl, hS, hL, hB⟩
  · refine (of_long l pl cap w (by omega) hm).mono ?_
    rintro e w' ⟨rfl, hB⟩
    have e1 : ofX l = .leaf 0 0 := by unfold ofX; rw [if_neg h]
    have e2 : ofOk l = false := by unfold ofOk; rw [decide_eq_false h, Bool.false_and]
    unfold OfAny
    rw [e1, e2]
    exact ⟨none, 0, [], rfl, ⟨rfl, rfl⟩, by simp, hB⟩

end Go.Proofs.YtnjmfedleimlmaaDoor

/- Two terms are the same: the walks of Same and of the library's EqualFunc at terms. -/
namespace Go.Proofs.YtnjmfedleimlmaaDoor
open Go Go.RowKit

namespace T
def same : T → T → Bool
  | .leaf o n, .leaf o' n' => o == o' && n == n'
  | .one o n a, .one o' n' a' => o == o' && n == n' && a.same a'
  | .two o n a b, .two o' n' a' b' => o == o' && n == n' && (a.same a' && b.same b')
  | _, _ => false
/-- are the lists' terms the same? -/
def kidsSame : T → T → Bool
  | .leaf .., .leaf .. => true
  | .one _ _ a, .one _ _ a' => a.same a'
  | .two _ _ a b, .two _ _ a' b' => a.same a' && b.same b'
  | _, _ => false
theorem same_eq (t u : T) : t.same u = (t.op == u.op && t.num == u.num && t.kidsSame u) := by
  cases t <;> cases u <;> simp [same, kidsSame, op, num]
end T

/-- what Same says -/
def SamePost (w : World) (b : Bool) (e : Ending) (w' : World) : Prop := e = .returned (.bool b) ∧ Below w.heap.size w w'
def SameCalls (t u : T) : Prop := ∀ (s v : Value) (bl cl : List Nat) (w : World), t.IsS w s bl → u.IsS w v cl → (∀ b ∈ bl, b < w.heap.size) → (∀ b ∈ cl, b < w.heap.size) →
  Calls Tryd.prog 21 #[.agg #[.int .i64 t.op, .int .u32 t.num, s], .agg #[.int .i64 u.op, .int .u32 u.num, v]] w (SamePost w (t.same u))

set_option maxHeartbeats 4000000 in
set_option maxRecDepth 100000 in
theorem same_step (t u : T) (s v : Value) (bl cl : List Nat) (w : World) (h : t.IsS w s bl) (h' : u.IsS w v cl) (hbl : ∀ b ∈ bl, b < w.heap.size) (hcl : ∀ b ∈ cl, b < w.heap.size)
    (ih : ∀ w, t.IsS w s bl → u.IsS w v cl → (∀ b ∈ bl, b < w.heap.size) → (∀ b ∈ cl, b < w.heap.size) → Calls Tryd.prog 48 #[s, v, .func (.func 21) #[] #[]] w (SamePost w (t.kidsSame u))) :
    Calls Tryd.prog 21 #[.agg #[.int .i64 t.op, .int .u32 t.num, s], .agg #[.int .i64 u.op, .int .u32 u.num, v]] w (SamePost w (t.same u)) := by
  obtain ⟨ps, cs, rfl⟩ := h.form
  obtain ⟨pv, cv, rfl⟩ := h'.form
  have hB : Below w.heap.size w ((w.alloc (.cells #[.int .i64 t.op, .int .u32 t.num, .slice ps t.kids cs] 28)).alloc (.cells #[.int .i64 u.op, .int .u32 u.num, .slice pv u.kids cv] 28)) := ((Below.refl _ w).alloc (Nat.le_refl _) _).alloc (by simp) _
  have e := T.same_eq t u
  cases h1 : t.op == u.op with
  | false =>
    rw [h1] at e
    simp only [Bool.false_and] at e
    rw [e]
    go_enter Tryd.func21, Tryd.ntmps21
    go_wp2
    go_ret
    exact ⟨rfl, hB⟩
  | true =>
    cases h2 : t.num == u.num with
    | false =>
      rw [h1, h2] at e
      simp only [Bool.false_and, Bool.and_false] at e
      rw [e]
      go_enter Tryd.func21, Tryd.ntmps21
      go_wp2
      go_ret
      exact ⟨rfl, hB⟩
    | true =>
      rw [h1, h2] at e
      simp only [Bool.true_and] at e
      rw [e]
      go_enter Tryd.func21, Tryd.ntmps21
      go_wp2_with fail
      refine (ih _ (h.keep fun b hb => hB.block b (hbl b hb)) (h'.keep fun b hb => hB.block b (hcl b hb)) (fun b hb => Nat.lt_of_lt_of_le (hbl b hb) hB.size) (fun b hb => Nat.lt_of_lt_of_le (hcl b hb) hB.size)).mono ?_
      rintro e w2 ⟨rfl, hB2⟩
      go_wp2_with fail
      go_ret
      exact ⟨rfl, hB.trans (hB2.mono hB.size)⟩

theorem eqf_lens (p q : Option Addr) (m n c d : Nat) (w : World) (h : m ≠ n) : Calls Tryd.prog 48 #[.slice p m c, .slice q n d, .func (.func 21) #[] #[]] w (SamePost w false) := by
  have hd : ((m : Int) != (n : Int)) = true := by rw [bne_iff_ne]; omega
  go_enter Tryd.func48, Tryd.ntmps48
  go_wp2
  go_ret
  exact ⟨rfl, Below.refl _ _⟩
theorem eqf_none (p q : Option Addr) (c d : Nat) (w : World) : Calls Tryd.prog 48 #[.slice p 0 c, .slice q 0 d, .func (.func 21) #[] #[]] w (SamePost w true) := by
  go_enter Tryd.func48, Tryd.ntmps48
  go_wp2
  refine wp_loop_rounds 1 ?_
  rw [rounds_succ]
  go_wp2
  go_ret
  exact ⟨rfl, Below.refl _ _⟩

set_option maxHeartbeats 4000000 in
set_option maxRecDepth 100000 in
theorem eqf_one (o n o' n' : Int) (a a' : T) (s v : Value) (bl cl : List Nat) (w : World) (h : (T.one o n a).IsS w s bl) (h' : (T.one o' n' a').IsS w v cl) (hbl : ∀ b ∈ bl, b < w.heap.size) (hcl : ∀ b ∈ cl, b < w.heap.size) (ih : SameCalls a a') :
    Calls Tryd.prog 48 #[s, v, .func (.func 21) #[] #[]] w (SamePost w (a.same a')) := by
  obtain ⟨g, cap, p, c, bla, rfl, hcap, hg, c0, c1, c2, ha, hs⟩ := h.cells1
  obtain ⟨g', cap', p', c', cla, rfl, hcap', hg', d0, d1, d2, ha', hs'⟩ := h'.cells1
  go_enter Tryd.func48, Tryd.ntmps48
  go_wp2
  refine wp_loop_rounds 2 ?_
  rw [rounds_succ]
  go_wp2_with fail
  obtain ⟨W1, hW1⟩ : ∃ W1, (w.alloc (.cells #[.int .i64 a.op, .int .u32 a.num, .slice p a.kids c] 28)).alloc (.cells #[.int .i64 a'.op, .int .u32 a'.num, .slice p' a'.kids c'] 28) = W1 := ⟨_, rfl⟩
  have hB1 : Below w.heap.size w W1 := hW1 ▸ ((Below.refl _ w).alloc (Nat.le_refl _) _).alloc (by simp) _
  have hZ1 := hB1.size
  rw [hW1]
  refine (ih _ _ bla cla W1 (ha.keep fun b hb => hB1.block b (hbl b (hs b hb))) (ha'.keep fun b hb => hB1.block b (hcl b (hs' b hb))) (fun b hb => Nat.lt_of_lt_of_le (hbl b (hs b hb)) hZ1) (fun b hb => Nat.lt_of_lt_of_le (hcl b (hs' b hb)) hZ1)).mono ?_
  rintro e w2 ⟨rfl, hB2⟩
  have hBf := hB1.trans (hB2.mono hZ1)
  cases hx : a.same a' with
  | true =>
    go_wp2_with fail
    rw [rounds_succ]
    go_wp2
    exact bodyPost_ret (v := .bool true) (by simp [results, Tryd.results48, go_sem]) rfl ⟨by rw [hx], hBf⟩
  | false =>
    go_wp2_with fail
    exact bodyPost_ret (v := .bool false) (by simp [results, Tryd.results48, go_sem]) rfl ⟨by rw [hx], hBf⟩

set_option maxHeartbeats 4000000 in
set_option maxRecDepth 100000 in
theorem eqf_two (o n o' n' : Int) (a b a' b' : T) (s v : Value) (bl cl : List Nat) (w : World) (h : (T.two o n a b).IsS w s bl) (h' : (T.two o' n' a' b').IsS w v cl) (hbl : ∀ b ∈ bl, b < w.heap.size) (hcl : ∀ b ∈ cl, b < w.heap.size) (ih : SameCalls a a') (ih2 : SameCalls b b') :
    Calls Tryd.prog 48 #[s, v, .func (.func 21) #[] #[]] w (SamePost w (a.same a' && b.same b')) := by
  obtain ⟨g, cap, p, c, q, d, bla, blb, rfl, hcap, hg, ⟨c0, c1, c2⟩, ⟨c3, c4, c5⟩, ha, hb, hs, ht⟩ := h.cells2
  obtain ⟨g', cap', p', c', q', d', cla, clb, rfl, hcap', hg', ⟨d0, d1, d2⟩, ⟨d3, d4, d5⟩, ha', hb', hs', ht'⟩ := h'.cells2
  go_enter Tryd.func48, Tryd.ntmps48
  go_wp2
  refine wp_loop_rounds 3 ?_
  rw [rounds_succ]
  go_wp2_with fail
  obtain ⟨W1, hW1⟩ : ∃ W1, (w.alloc (.cells #[.int .i64 a.op, .int .u32 a.num, .slice p a.kids c] 28)).alloc (.cells #[.int .i64 a'.op, .int .u32 a'.num, .slice p' a'.kids c'] 28) = W1 := ⟨_, rfl⟩
  have hB1 : Below w.heap.size w W1 := hW1 ▸ ((Below.refl _ w).alloc (Nat.le_refl _) _).alloc (by simp) _
  have hZ1 := hB1.size
  rw [hW1]
  refine (ih _ _ bla cla W1 (ha.keep fun b hb => hB1.block b (hbl b (hs b hb))) (ha'.keep fun b hb => hB1.block b (hcl b (hs' b hb))) (fun b hb => Nat.lt_of_lt_of_le (hbl b (hs b hb)) hZ1) (fun b hb => Nat.lt_of_lt_of_le (hcl b (hs' b hb)) hZ1)).mono ?_
  rintro e w2 ⟨rfl, hB2⟩
  have hBf : Below w.heap.size w w2 := hB1.trans (hB2.mono hZ1)
  have hZ2 := hBf.size
  have e3 : w2.cell? ⟨g, 3, none⟩ = some (.int .i64 b.op) := (hBf.cell (p := ⟨g, 3, none⟩) hg).trans c3
  have e4 : w2.cell? ⟨g, 4, none⟩ = some (.int .u32 b.num) := (hBf.cell (p := ⟨g, 4, none⟩) hg).trans c4
  have e5 : w2.cell? ⟨g, 5, none⟩ = some (.slice q b.kids d) := (hBf.cell (p := ⟨g, 5, none⟩) hg).trans c5
  have f3 : w2.cell? ⟨g', 3, none⟩ = some (.int .i64 b'.op) := (hBf.cell (p := ⟨g', 3, none⟩) hg').trans d3
  have f4 : w2.cell? ⟨g', 4, none⟩ = some (.int .u32 b'.num) := (hBf.cell (p := ⟨g', 4, none⟩) hg').trans d4
  have f5 : w2.cell? ⟨g', 5, none⟩ = some (.slice q' b'.kids d') := (hBf.cell (p := ⟨g', 5, none⟩) hg').trans d5
  have hg2 : g < w2.heap.size := Nat.lt_of_lt_of_le hg hZ2
  have hg2' : g' < w2.heap.size := Nat.lt_of_lt_of_le hg' hZ2
  clear c0 c1 c2 c3 c4 c5 d0 d1 d2 d3 d4 d5
  cases hx : a.same a' with
  | true =>
    go_wp2_with fail
    rw [rounds_succ]
    go_wp2_with fail
    obtain ⟨W3, hW3⟩ : ∃ W3, (w2.alloc (.cells #[.int .i64 b.op, .int .u32 b.num, .slice q b.kids d] 28)).alloc (.cells #[.int .i64 b'.op, .int .u32 b'.num, .slice q' b'.kids d'] 28) = W3 := ⟨_, rfl⟩
    have hB3 : Below w.heap.size w W3 := hW3 ▸ (hBf.alloc hZ2 _).alloc (by simp; omega) _
    have hZ3 := hB3.size
    rw [hW3]
    refine (ih2 _ _ blb clb W3 (hb.keep fun b hb => hB3.block b (hbl b (ht b hb))) (hb'.keep fun b hb => hB3.block b (hcl b (ht' b hb))) (fun b hb => Nat.lt_of_lt_of_le (hbl b (ht b hb)) hZ3) (fun b hb => Nat.lt_of_lt_of_le (hcl b (ht' b hb)) hZ3)).mono ?_
    rintro e w4 ⟨rfl, hB4⟩
    have hBg : Below w.heap.size w w4 := hB3.trans (hB4.mono hZ3)
    cases hy : b.same b' with
    | true =>
      go_wp2_with fail
      rw [rounds_succ]
      go_wp2
      exact bodyPost_ret (v := .bool true) (by simp [results, Tryd.results48, go_sem]) rfl ⟨by rw [hx, hy]; rfl, hBg⟩
    | false =>
      go_wp2_with fail
      exact bodyPost_ret (v := .bool false) (by simp [results, Tryd.results48, go_sem]) rfl ⟨by rw [hx, hy]; rfl, hBg⟩
  | false =>
    go_wp2_with fail
    exact bodyPost_ret (v := .bool false) (by simp [results, Tryd.results48, go_sem]) rfl ⟨by rw [hx]; rfl, hBf⟩

theorem same_calls : ∀ t u : T, SameCalls t u
  | t, u => fun s v bl cl w h h' hbl hcl => same_step t u s v bl cl w h h' hbl hcl fun w h h' hbl hcl => by
    obtain ⟨ps, cs, rfl⟩ := h.form
    obtain ⟨pv, cv, rfl⟩ := h'.form
    match t, u, h, h' with
    | .leaf .., .leaf .., _, _ => exact eqf_none _ _ _ _ w
    | .leaf .., .one .., _, _ => exact eqf_lens _ _ 0 1 _ _ w (by decide)
    | .leaf .., .two .., _, _ => exact eqf_lens _ _ 0 2 _ _ w (by decide)
    | .one .., .leaf .., _, _ => exact eqf_lens _ _ 1 0 _ _ w (by decide)
    | .one o n a, .one o' n' a', h, h' => exact eqf_one o n o' n' a a' _ _ bl cl w h h' hbl hcl (same_calls a a')
    | .one .., .two .., _, _ => exact eqf_lens _ _ 1 2 _ _ w (by decide)
    | .two .., .leaf .., _, _ => exact eqf_lens _ _ 2 0 _ _ w (by decide)
    | .two .., .one .., _, _ => exact eqf_lens _ _ 2 1 _ _ w (by decide)
    | .two o n a b, .two o' n' a' b', h, h' => exact eqf_two o n o' n' a b a' b' _ _ bl cl w h h' hbl hcl (same_calls a a') (same_calls b b')

end Go.Proofs.YtnjmfedleimlmaaDoor

/- How the evaluator's word is used: laws that yield true, functions that yield terms, functions that are summed up, tables. -/
namespace Go.Proofs.YtnjmfedleimlmaaDoor.Ev
open Go Go.RowKit

/-! ### leaves that are left to be shown -/
abbrev Leaf := AV × List Blk × PC
/-- of a law: the leaves at which it is not plain that it yields true: the way to each, and its truth -/
def rest : List (E × Bool) → Tr Leaf → List (List (E × Bool) × E)
  | p, .leaf r => match r.1 with
    | .v (.c (.bool e)) => (match e with
      | .lit n => if decide (n = 0) then [(p, .lit 0)] else []
      | _ => [(p, e)])
    | _ => [(p, .lit 0)]
  | p, .node c t e => rest ((c, true) :: p) t ++ rest ((c, false) :: p) e
  | p, .bad _ => [(p, .lit 0)]
def pathOk (ρ : Env) (p : List (E × Bool)) : Prop := ∀ q ∈ p, (q.1.den ρ ≠ 0) ↔ q.2 = true
def isTrue (ρ : Env) (r : Leaf) : Prop := ∃ e, r.1 = .v (.c (.bool e)) ∧ e.den ρ ≠ 0
theorem rest_ok {ρ : Env} : ∀ {t : Tr Leaf} {p : List (E × Bool)}, (∀ x ∈ rest p t, pathOk ρ x.1 → x.2.den ρ ≠ 0) → pathOk ρ p → t.All ρ (isTrue ρ)
  | .leaf r, p, h, hp => by
    unfold rest at h
    show isTrue ρ r
    split at h
    · rename_i e he
      refine ⟨e, he, ?_⟩
      split at h
      · rename_i n
        split at h
        · rename_i hn; exact absurd rfl (h _ (List.mem_singleton.2 rfl) hp)
        · rename_i hn; simpa [E.den] using hn
      · exact h _ (List.mem_singleton.2 rfl) hp
    · exact absurd rfl (h _ (List.mem_singleton.2 rfl) hp)
  | .node c t e, p, h, hp => by
    unfold rest at h
    refine ⟨fun hc => rest_ok (fun x hx => h x (List.mem_append.2 (.inl hx))) ?_, fun hc => rest_ok (fun x hx => h x (List.mem_append.2 (.inr hx))) ?_⟩
    · intro q hq
      rcases List.mem_cons.1 hq with rfl | hq
      · simp [hc]
      · exact hp q hq
    · intro q hq
      rcases List.mem_cons.1 hq with rfl | hq
      · simp [hc]
      · exact hp q hq
  | .bad _, p, h, hp => absurd rfl (h _ (List.mem_singleton.2 rfl) hp)
theorem rest_nil {ρ : Env} {t : Tr Leaf} (h : rest [] t = []) : t.All ρ (isTrue ρ) := rest_ok (by rw [h]; intro x hx; cases hx) (fun q hq => by cases hq)
theorem rest_isNil {ρ : Env} {t : Tr Leaf} (h : (rest [] t).isEmpty = true) : t.All ρ (isTrue ρ) := rest_nil (by simpa using h)

section
variable {P : Program} {cx : Cx} {jx : Jx} {ρ : Env} {W : World} {wr : List Nat} {β : Pl} {heap : List Blk} {w : World}

/-! ### known memory at the start -/
/-- tables of integers: the block, the kind, the numbers -/
abbrev Tab := Nat × IntKind × List Int
def tabBlks (l : List Tab) : List Blk := l.map fun t => ⟨0, t.2.2.map fun z => .int t.2.1 (.lit z), false⟩
def tabPl (l : List Tab) : Pl := l.map fun t => (t.1, 0)
def TabOk (w : World) (t : Tab) : Prop := ∃ ty fr, w.heap[t.1]? = some (.cells (t.2.2.map (Value.int t.2.1)).toArray ty fr)
theorem heapOk_nil : HeapOk ρ jx W wr [] [] w := ⟨rfl, fun l b h => by simp at h⟩
theorem heapOk_tabs {l : List Tab} (h : ∀ t ∈ l, TabOk w t) : HeapOk ρ jx W wr (tabPl l) (tabBlks l) w := by
  refine ⟨by simp [tabPl, tabBlks], fun i b hb => ?_⟩
  simp only [tabBlks, List.getElem?_map, Option.map_eq_some_iff] at hb
  obtain ⟨t, ht, rfl⟩ := hb
  obtain ⟨ty, fr, hh⟩ := h t (List.mem_of_getElem? ht)
  refine ⟨(t.1, 0), _, ty, fr, by simp [tabPl, ht], hh, fun j x hx => ?_, fun hrw => by cases hrw⟩
  simp only [List.getElem?_map, Option.map_eq_some_iff] at hx
  obtain ⟨z, hz, rfl⟩ := hx
  exact ⟨.int t.2.1 z, by simp [hz], rfl⟩
def tabGlob : Nat → List Tab → List (Nat × Nat)
  | _, [] => []
  | n, t :: l => (t.1, n) :: tabGlob (n + 1) l
theorem tabGlob_ok : ∀ {l : List Tab} {n : Nat} {g i : Nat}, assoc g (tabGlob n l) = some i → ∃ j, i = n + j ∧ (tabPl l)[j]? = some (g, 0)
  | [], n, g, i, h => by simp [tabGlob, assoc] at h
  | t :: l, n, g, i, h => by
    simp only [tabGlob, assoc] at h
    split at h
    · rename_i hg
      cases h
      refine ⟨0, rfl, ?_⟩
      rw [← Nat.eq_of_beq_eq_true hg]; rfl
    · obtain ⟨j, hj, hp⟩ := tabGlob_ok h
      exact ⟨j + 1, by omega, hp⟩
theorem tabs_glob {l : List Tab} : ∀ g i, assoc g (tabGlob 0 l) = some i → (tabPl l)[i]? = some (g, 0) := fun g i h => by
  obtain ⟨j, hj, hp⟩ := tabGlob_ok h
  rw [hj, Nat.zero_add]; exact hp

/-- the tables, as what is known of a world -/
def jxTabs (l : List Tab) : Jx where
  J w := ∀ t ∈ l, TabOk w t
  G := l.map (·.1)
  closed w w' h hb t ht := by
    obtain ⟨ty, fr, hh⟩ := h t ht
    exact ⟨ty, fr, (hb t.1 (List.mem_map.2 ⟨t, ht, rfl⟩)).trans hh⟩
  inb w h b hb := by
    obtain ⟨t, ht, rfl⟩ := List.mem_map.1 hb
    obtain ⟨ty, fr, hh⟩ := h t ht
    exact lt_of_heap hh

/-! ### laws -/
theorem calls_all (hO : CxOk cx) (hs : ∀ m ∈ cx.sums, SumOk cx.P jx ρ m) {fuel : Nat} {f : FuncId} {pc : PC} {args : List AV} {vals : List Value} {Φ : Leaf → Prop}
    (h : (evFn cx fuel f heap pc args).All ρ Φ) (hg : ∀ g l, assoc g cx.glob = some l → β[l]? = some (g, 0)) (hh : HeapOk ρ jx W wr β heap w) (hf : Fr W wr w) (hp : pcOk ρ pc) (hj : jx.J w)
    (ha : All2 (AV.Is ρ β) args vals) : Calls cx.P f vals.toArray w fun e w' => ∃ r, Φ r ∧ CallPost jx ρ W wr β r.1 r.2.1 r.2.2 e w' := by
  obtain ⟨r, hr, hΦ⟩ := Tr.pick_all h
  exact (evFn_ok hO hs (r := r.1) (heap' := r.2.1) (pc' := r.2.2) hr hg hh hf hp hj ha).mono fun e w' hc => ⟨r, hΦ, hc⟩
theorem law_ok (hO : CxOk cx) (hs : ∀ m ∈ cx.sums, SumOk cx.P jx ρ m) {fuel : Nat} {f : FuncId} {pc : PC} {args : List AV} {vals : List Value} {tabs : List Tab}
    (h : (evFn cx fuel f (tabBlks tabs) pc args).All ρ (isTrue ρ)) (hg : cx.glob = tabGlob 0 tabs) (ht : ∀ t ∈ tabs, TabOk w t) (hp : pcOk ρ pc) (hj : jx.J w)
    (ha : All2 (AV.Is ρ (tabPl tabs)) args vals) : Calls cx.P f vals.toArray w fun e w' => e = .returned (.bool true) ∧ Below w.heap.size w w' := by
  refine (calls_all (W := w) (wr := []) hO hs h (by rw [hg]; exact tabs_glob) (heapOk_tabs ht) (Fr.refl w []) hp hj ha).mono ?_
  rintro e w' ⟨r, ⟨c, hr, hc⟩, v, β', rfl, hb, hv, _, hfr, _⟩
  rw [hr] at hv
  have hv' : v = .bool (tb (c.den ρ)) := hv
  rw [hv', tb_one hc]
  exact ⟨rfl, hfr.to_below⟩

/-! ### functions that are summed up -/
/-- a function that yields what hangs on its arguments alone, and changes nothing that was there -/
def pureSum (f : FuncId) (run : PC → List AV → Option AV) : Sum := ⟨f, fun pc heap args => (run pc args).map fun r => (r, heap, pc)⟩
theorem pureSum_ok {f : FuncId} {run : PC → List AV → Option AV} (he : Enters P f)
    (hc : ∀ pc args r (vals : List Value) w β, run pc args = some r → pcOk ρ pc → jx.J w → All2 (AV.Is ρ β) args vals → Calls P f vals.toArray w fun e w' => (∃ v, e = .returned v ∧ r.Is ρ β v) ∧ Below w.heap.size w w') : SumOk P jx ρ (pureSum f run) := by
  refine ⟨he, fun W wr β heap w pc args vals r heap' pc' hr hp hh hf hj ha => ?_⟩
  simp only [pureSum, Option.map_eq_some_iff, Prod.mk.injEq] at hr
  obtain ⟨r', hr, rfl, rfl, rfl⟩ := hr
  exact (hc pc args r' vals w β hr hp hj ha).mono fun e w' ⟨⟨v, he, hv⟩, hb⟩ => ⟨v, β, he, List.prefix_refl _, hv, hh.below hb, hf.below hb, Jx.below hj hb, hp⟩

/-! ### numbers as arguments -/
theorem bounds_pc {ρ : Env} : ∀ {l : List (Nat × Int × Int)}, (∀ x ∈ l, x.2.1 ≤ ρ.v x.1 ∧ ρ.v x.1 ≤ x.2.2) → pcOk ρ (pcOf (l.map fun x => (.var x.1, x.2))) := by
  intro l h
  refine pcOf_ok fun f hf => ?_
  obtain ⟨x, hx, rfl⟩ := List.mem_map.1 hf
  exact h x hx
end

/-- numbers from a list -/
def envOf (xs : List Int) : Env := ⟨fun i => xs.getD i 0, fun _ _ => 0, fun _ => undef⟩

end Go.Proofs.YtnjmfedleimlmaaDoor.Ev

/- Functions that yield a truth or a number which a term says: by the evaluator's leaves. -/
namespace Go.Proofs.YtnjmfedleimlmaaDoor.Ev
open Go Go.RowKit

def allLeaves (p : Leaf → Bool) : Tr Leaf → Bool
  | .leaf x => p x
  | .node _ t e => allLeaves p t && allLeaves p e
  | .bad _ => false
theorem allLeaves_ok {ρ : Env} {p : Leaf → Bool} : ∀ {t : Tr Leaf}, allLeaves p t = true → t.All ρ (fun r => p r = true)
  | .leaf _, h => h
  | .node c t e, h => by
    simp only [allLeaves, Bool.and_eq_true] at h
    exact ⟨fun _ => allLeaves_ok h.1, fun _ => allLeaves_ok h.2⟩
  | .bad _, h => by simp [allLeaves] at h
def boolIs (T : PC → E) (r : Leaf) : Bool := match r.1 with
  | .v (.c (.bool e)) => isLit 1 (mkEq r.2.2 e (T r.2.2))
  | _ => false
def intIs (k : IntKind) (T : PC → E) (r : Leaf) : Bool := match r.1 with
  | .v (.c (.int l e)) => decide (k = l) && isLit 1 (mkEq r.2.2 e (T r.2.2))
  | _ => false

section
variable {cx : Cx} {jx : Jx} {ρ : Env} {W : World} {wr : List Nat} {β : Pl} {heap : List Blk} {w : World}
theorem eq_of_lit {pc : PC} (hp : pcOk ρ pc) {a b : E} (h : isLit 1 (mkEq pc a b) = true) : a.den ρ = b.den ρ := by
  have h1 := isLit_den h (ρ := ρ)
  rw [mkEq_den hp] at h1
  by_cases he : a.den ρ = b.den ρ
  · exact he
  · simp [he, truth] at h1
theorem bool_calls (hO : CxOk cx) (hs : ∀ m ∈ cx.sums, SumOk cx.P jx ρ m) {fuel : Nat} {f : FuncId} {pc : PC} {args : List AV} {vals : List Value} {tabs : List Tab} (T : PC → E) (t : Int)
    (h : allLeaves (boolIs T) (evFn cx fuel f (tabBlks tabs) pc args) = true) (hT : ∀ pc, pcOk ρ pc → (T pc).den ρ = t) (hg : cx.glob = tabGlob 0 tabs) (ht : ∀ t ∈ tabs, TabOk w t) (hp : pcOk ρ pc) (hj : jx.J w)
    (ha : All2 (AV.Is ρ (tabPl tabs)) args vals) : Calls cx.P f vals.toArray w fun e w' => e = .returned (.bool (tb t)) ∧ Below w.heap.size w w' := by
  refine (calls_all (W := w) (wr := []) hO hs (allLeaves_ok h) (by rw [hg]; exact tabs_glob) (heapOk_tabs ht) (Fr.refl w []) hp hj ha).mono ?_
  rintro e w' ⟨r, hr, v, β', rfl, hb, hv, _, hfr, _, hp'⟩
  unfold boolIs at hr
  split at hr
  · rename_i c hc
    rw [hc] at hv
    have hv' : v = .bool (tb (c.den ρ)) := hv
    rw [hv', eq_of_lit hp' hr, hT _ hp']
    exact ⟨rfl, hfr.to_below⟩
  · cases hr
theorem int_calls (hO : CxOk cx) (hs : ∀ m ∈ cx.sums, SumOk cx.P jx ρ m) {fuel : Nat} {f : FuncId} {pc : PC} {args : List AV} {vals : List Value} {tabs : List Tab} (k : IntKind) (T : PC → E) (t : Int)
    (h : allLeaves (intIs k T) (evFn cx fuel f (tabBlks tabs) pc args) = true) (hT : ∀ pc, pcOk ρ pc → (T pc).den ρ = t) (hg : cx.glob = tabGlob 0 tabs) (ht : ∀ t ∈ tabs, TabOk w t) (hp : pcOk ρ pc) (hj : jx.J w)
    (ha : All2 (AV.Is ρ (tabPl tabs)) args vals) : Calls cx.P f vals.toArray w fun e w' => e = .returned (.int k t) ∧ Below w.heap.size w w' := by
  refine (calls_all (W := w) (wr := []) hO hs (allLeaves_ok h) (by rw [hg]; exact tabs_glob) (heapOk_tabs ht) (Fr.refl w []) hp hj ha).mono ?_
  rintro e w' ⟨r, hr, v, β', rfl, hb, hv, _, hfr, _, hp'⟩
  unfold intIs at hr
  split at hr
  · rename_i l c hc
    simp only [Bool.and_eq_true, decide_eq_true_eq] at hr
    obtain ⟨rfl, hr⟩ := hr
    rw [hc] at hv
    have hv' : v = .int k (c.den ρ) := hv
    rw [hv', eq_of_lit hp' hr, hT _ hp']
    exact ⟨rfl, hfr.to_below⟩
  · cases hr
end
/-- is a term surely within bounds? -/
def inR (pc : PC) (e : E) (lo hi : Int) : Bool := match rng pc e with
  | some r => decide (lo ≤ r.1) && decide (r.2 ≤ hi)
  | none => false
theorem inR_ok {ρ : Env} {pc : PC} (hp : pcOk ρ pc) {e : E} {lo hi : Int} (h : inR pc e lo hi = true) : lo ≤ e.den ρ ∧ e.den ρ ≤ hi := by
  unfold inR at h
  split at h
  · rename_i r hr
    simp only [Bool.and_eq_true, decide_eq_true_eq] at h
    have := rng_sound hp hr
    omega
  · cases h

end Go.Proofs.YtnjmfedleimlmaaDoor.Ev

/- Two ways that yield truths, set against each other: they agree wherever both may be. -/
namespace Go.Proofs.YtnjmfedleimlmaaDoor.Ev
open Go Go.RowKit

def agreeLeaf (e1 : E) : PC → Tr Leaf → Bool
  | pc, .leaf r => (match r.1 with
    | .v (.c (.bool e2)) => isLit 1 (mkEq pc e1 e2)
    | _ => false)
  | pc, .node c t e => match rng pc c with
    | some r => if decide (0 < r.1) || decide (r.2 < 0) then agreeLeaf e1 pc t else if decide (r.1 = 0) && decide (r.2 = 0) then agreeLeaf e1 pc e else
        (match assume pc c true with | some p => agreeLeaf e1 p t | none => true) && (match assume pc c false with | some p => agreeLeaf e1 p e | none => true)
    | none => (match assume pc c true with | some p => agreeLeaf e1 p t | none => true) && (match assume pc c false with | some p => agreeLeaf e1 p e | none => true)
  | _, .bad _ => false
def agree (t2 : Tr Leaf) : PC → Tr Leaf → Bool
  | pc, .leaf r => (match r.1 with
    | .v (.c (.bool e1)) => agreeLeaf e1 pc t2
    | _ => false)
  | pc, .node c t e => (match assume pc c true with | some p => agree t2 p t | none => true) && (match assume pc c false with | some p => agree t2 p e | none => true)
  | _, .bad _ => false
def BoolAt (ρ : Env) (t : Tr Leaf) (b : Bool) : Prop := ∃ r e, t.pick ρ = some r ∧ r.1 = .v (.c (.bool e)) ∧ tb (e.den ρ) = b

section
variable {ρ : Env}
theorem boolAt_node {c : E} {t e : Tr Leaf} {b : Bool} : BoolAt ρ (.node c t e) b ↔ if c.den ρ = 0 then BoolAt ρ e b else BoolAt ρ t b := by
  have hp : (Tr.node c t e).pick ρ = if c.den ρ = 0 then e.pick ρ else t.pick ρ := rfl
  unfold BoolAt
  rw [hp]
  by_cases h : c.den ρ = 0
  · rw [if_pos h, if_pos h]
  · rw [if_neg h, if_neg h]
theorem assume_step {pc : PC} (hp : pcOk ρ pc) {c : E} {v : Bool} (hv : (c.den ρ ≠ 0) ↔ v = true) {f : PC → Bool} (h : (match assume pc c v with | some p => f p | none => true) = true) : ∃ p, pcOk ρ p ∧ f p = true := by
  obtain ⟨p, h1, h2⟩ := assume_some hp hv
  rw [h1] at h
  exact ⟨p, h2, h⟩
theorem agreeLeaf_ok {e1 : E} : ∀ {t : Tr Leaf} {pc : PC}, pcOk ρ pc → agreeLeaf e1 pc t = true → BoolAt ρ t (tb (e1.den ρ))
  | .leaf r, pc, hp, h => by
    unfold agreeLeaf at h
    split at h
    · rename_i e2 he
      exact ⟨r, e2, rfl, he, by rw [eq_of_lit hp h]⟩
    · cases h
  | .node c t e, pc, hp, h => by
    have both : ((match assume pc c true with | some p => agreeLeaf e1 p t | none => true) && (match assume pc c false with | some p => agreeLeaf e1 p e | none => true)) = true → BoolAt ρ (.node c t e) (tb (e1.den ρ)) := by
      intro h
      rw [Bool.and_eq_true] at h
      rw [boolAt_node]
      by_cases hc : c.den ρ = 0
      · rw [if_pos hc]
        obtain ⟨p, hp', hf⟩ := assume_step hp (v := false) (by simp [hc]) h.2
        exact agreeLeaf_ok hp' hf
      · rw [if_neg hc]
        obtain ⟨p, hp', hf⟩ := assume_step hp (v := true) (by simp [hc]) h.1
        exact agreeLeaf_ok hp' hf
    unfold agreeLeaf at h
    split at h
    · rename_i r hr
      have hb := rng_sound hp hr
      split at h
      · rename_i hd
        rw [boolAt_node, if_neg (by simp at hd; omega)]
        exact agreeLeaf_ok hp h
      · split at h
        · rename_i hd
          rw [boolAt_node, if_pos (by simp at hd; omega)]
          exact agreeLeaf_ok hp h
        · exact both h
    · exact both h
  | .bad _, _, _, h => by simp [agreeLeaf] at h
theorem agree_ok {t2 : Tr Leaf} : ∀ {t : Tr Leaf} {pc : PC}, pcOk ρ pc → agree t2 pc t = true → ∃ b, BoolAt ρ t b ∧ BoolAt ρ t2 b
  | .leaf r, pc, hp, h => by
    unfold agree at h
    split at h
    · rename_i e1 he
      exact ⟨_, ⟨r, e1, rfl, he, rfl⟩, agreeLeaf_ok hp h⟩
    · cases h
  | .node c t e, pc, hp, h => by
    unfold agree at h
    rw [Bool.and_eq_true] at h
    by_cases hc : c.den ρ = 0
    · obtain ⟨p, hp', hf⟩ := assume_step hp (v := false) (by simp [hc]) h.2
      obtain ⟨b, h1, h2⟩ := agree_ok hp' hf
      exact ⟨b, by rw [boolAt_node, if_pos hc]; exact h1, h2⟩
    · obtain ⟨p, hp', hf⟩ := assume_step hp (v := true) (by simp [hc]) h.1
      obtain ⟨b, h1, h2⟩ := agree_ok hp' hf
      exact ⟨b, by rw [boolAt_node, if_neg hc]; exact h1, h2⟩
  | .bad _, _, _, h => by simp [agree] at h
variable {cx : Cx} {jx : Jx} {W : World} {w : World}
theorem boolAt_calls (hO : CxOk cx) (hs : ∀ m ∈ cx.sums, SumOk cx.P jx ρ m) {fuel : Nat} {f : FuncId} {pc : PC} {args : List AV} {vals : List Value} {tabs : List Tab} {b : Bool}
    (h : BoolAt ρ (evFn cx fuel f (tabBlks tabs) pc args) b) (hg : cx.glob = tabGlob 0 tabs) (ht : ∀ t ∈ tabs, TabOk w t) (hp : pcOk ρ pc) (hj : jx.J w)
    (ha : All2 (AV.Is ρ (tabPl tabs)) args vals) : Calls cx.P f vals.toArray w fun e w' => e = .returned (.bool b) ∧ Below w.heap.size w w' := by
  obtain ⟨r, c, hr, hc, hb⟩ := h
  refine (evFn_ok (W := w) (wr := []) hO hs (r := r.1) (heap' := r.2.1) (pc' := r.2.2) hr (by rw [hg]; exact tabs_glob) (heapOk_tabs ht) (Fr.refl w []) hp hj ha).mono ?_
  rintro e w' ⟨v, β', rfl, _, hv, _, hfr, _, _⟩
  rw [hc] at hv
  have hv' : v = .bool (tb (c.den ρ)) := hv
  rw [hv', hb]
  exact ⟨rfl, hfr.to_below⟩
end

end Go.Proofs.YtnjmfedleimlmaaDoor.Ev

/- Functions of one number that are tables: by the evaluator at each number. -/
namespace Go.Proofs.YtnjmfedleimlmaaDoor.Ev
open Go Go.RowKit

/-- a function that yields what hangs on its arguments alone, with facts about what it yields -/
def factSum (f : FuncId) (run : PC → List AV → Option (AV × FL)) : Sum := ⟨f, fun pc heap args => (run pc args).map fun r => (r.1, heap, addAll r.2 pc)⟩
theorem factSum_ok {P : Program} {jx : Jx} {ρ : Env} {f : FuncId} {run : PC → List AV → Option (AV × FL)} (he : Enters P f)
    (hc : ∀ pc args r (vals : List Value) w β, run pc args = some r → pcOk ρ pc → jx.J w → All2 (AV.Is ρ β) args vals → flOk ρ r.2 ∧ Calls P f vals.toArray w fun e w' => (∃ v, e = .returned v ∧ r.1.Is ρ β v) ∧ Below w.heap.size w w') : SumOk P jx ρ (factSum f run) := by
  refine ⟨he, fun W wr β heap w pc args vals r heap' pc' hr hp hh hf hj ha => ?_⟩
  simp only [factSum, Option.map_eq_some_iff, Prod.mk.injEq] at hr
  obtain ⟨r', hr, rfl, rfl, rfl⟩ := hr
  obtain ⟨hfl, hcl⟩ := hc pc args r' vals w β hr hp hj ha
  exact hcl.mono fun e w' ⟨⟨v, he, hv⟩, hb⟩ => ⟨v, β, he, List.prefix_refl _, hv, hh.below hb, hf.below hb, Jx.below hj hb, addAll_ok hfl hp⟩
def tabAt {α : Type} (lo : Int) (vals : List α) (mk : α → AT) (args : List AV) : Option AV := match args with
  | [.v (.c (.int .i64 (.lit n)))] => if decide (lo ≤ n) then (vals[(n - lo).toNat]?).map fun v => ret1 (mk v) else none
  | _ => none
def litSum (f : FuncId) (k : IntKind) (lo : Int) (vals : List Int) : Sum := pureSum f fun _ args => tabAt lo vals (fun v => .int k (.lit v)) args
def litSumB (f : FuncId) (lo : Int) (vals : List Int) : Sum := pureSum f fun _ args => tabAt lo vals (fun v => .bool (.lit v)) args
noncomputable def litsOk (cx : Cx) (f : FuncId) (tabs : List Tab) (p : Int → Leaf → Bool) : Int → List Int → Bool
  | _, [] => true
  | n, v :: l => allLeaves (p v) (evFn cx 1000 f (tabBlks tabs) .nil [.v (.c (.int .i64 (.lit n)))]) && litsOk cx f tabs p (n + 1) l
theorem litsOk_at {cx : Cx} {f : FuncId} {tabs : List Tab} {p : Int → Leaf → Bool} : ∀ {l : List Int} {n : Int}, litsOk cx f tabs p n l = true → ∀ (j : Nat) v, l[j]? = some v → allLeaves (p v) (evFn cx 1000 f (tabBlks tabs) .nil [.v (.c (.int .i64 (.lit (n + j))))]) = true
  | [], n, _, j, v, h => by simp at h
  | x :: l, n, hl, 0, v, h => by
    unfold litsOk at hl
    rw [Bool.and_eq_true] at hl
    simp at h; subst h
    simpa using hl.1
  | x :: l, n, hl, j + 1, v, h => by
    unfold litsOk at hl
    rw [Bool.and_eq_true] at hl
    have := litsOk_at hl.2 j v (by simpa using h)
    rwa [show n + 1 + (j : Int) = n + ((j + 1 : Nat) : Int) by omega] at this
theorem tabAt_some {α : Type} {lo : Int} {vals : List α} {mk : α → AT} {args : List AV} {r : AV} (h : tabAt lo vals mk args = some r) : ∃ (j : Nat) (v : α), args = [.v (.c (.int .i64 (.lit (lo + j))))] ∧ vals[j]? = some v ∧ r = ret1 (mk v) := by
  unfold tabAt at h
  split at h
  · rename_i n
    split at h
    · rename_i hn
      simp only [decide_eq_true_eq] at hn
      rw [Option.map_eq_some_iff] at h
      obtain ⟨v, hv, rfl⟩ := h
      exact ⟨(n - lo).toNat, v, by rw [show lo + (((n - lo).toNat : Nat) : Int) = n by omega], hv, rfl⟩
    · cases h
  · cases h
section
variable {cx : Cx} {jx : Jx} {ρ : Env}
theorem litSum_ok {f : FuncId} {k : IntKind} {lo : Int} {vals : List Int} {tabs : List Tab} (he : Enters cx.P f) (hO : CxOk cx) (hs : ∀ m ∈ cx.sums, SumOk cx.P jx ρ m) (hg : cx.glob = tabGlob 0 tabs) (ht : ∀ w, jx.J w → ∀ t ∈ tabs, TabOk w t)
    (h : litsOk cx f tabs (fun v => intIs k fun _ => .lit v) lo vals = true) : SumOk cx.P jx ρ (litSum f k lo vals) :=
  pureSum_ok he fun pc args r vs w β hr hp hj ha => by
    obtain ⟨j, v, rfl, hv, rfl⟩ := tabAt_some hr
    have hl := litsOk_at h j v hv
    cases vs with
    | nil => exact ha.elim
    | cons x l =>
      cases l with
      | cons _ _ => exact ha.2.elim
      | nil =>
        obtain rfl : x = .int .i64 (lo + j) := ha.1
        exact (int_calls (jx := jx) (ρ := ρ) (vals := [.int .i64 (lo + j)]) hO hs k (fun _ => .lit v) v hl (fun _ _ => rfl) hg (ht w hj) trivial hj ⟨rfl, trivial⟩).mono fun e w' ⟨he, hb⟩ => ⟨⟨_, he, rfl⟩, hb⟩
theorem litSumB_ok {f : FuncId} {lo : Int} {vals : List Int} {tabs : List Tab} (he : Enters cx.P f) (hO : CxOk cx) (hs : ∀ m ∈ cx.sums, SumOk cx.P jx ρ m) (hg : cx.glob = tabGlob 0 tabs) (ht : ∀ w, jx.J w → ∀ t ∈ tabs, TabOk w t)
    (h : litsOk cx f tabs (fun v => boolIs fun _ => .lit v) lo vals = true) : SumOk cx.P jx ρ (litSumB f lo vals) :=
  pureSum_ok he fun pc args r vs w β hr hp hj ha => by
    obtain ⟨j, v, rfl, hv, rfl⟩ := tabAt_some hr
    have hl := litsOk_at h j v hv
    cases vs with
    | nil => exact ha.elim
    | cons x l =>
      cases l with
      | cons _ _ => exact ha.2.elim
      | nil =>
        obtain rfl : x = .int .i64 (lo + j) := ha.1
        exact (bool_calls (jx := jx) (ρ := ρ) (vals := [.int .i64 (lo + j)]) hO hs (fun _ => .lit v) v hl (fun _ _ => rfl) hg (ht w hj) trivial hj ⟨rfl, trivial⟩).mono fun e w' ⟨he, hb⟩ => ⟨⟨_, he, rfl⟩, hb⟩
end

end Go.Proofs.YtnjmfedleimlmaaDoor.Ev

/- What is left to be shown where two variables are equal: one is put in the other's place. -/
namespace Go.Proofs.YtnjmfedleimlmaaDoor.Ev
open Go Go.RowKit

def E.swp (a b : Nat) : E → E
  | .var i => bif Nat.beq i a then .var b else .var i
  | .eq x y => .eq (x.swp a b) (y.swp a b)
  | .not x => .not (x.swp a b)
  | .ap f l => .ap f (l.swp a b)
  | .cons x l => .cons (x.swp a b) (l.swp a b)
  | e => e
theorem sub_den {ρ : Env} {a b : Nat} (h : ρ.v a = ρ.v b) (e : E) : (e.swp a b).den ρ = e.den ρ ∧ (e.swp a b).denL ρ = e.denL ρ := by
  induction e with
  | var i =>
    unfold E.swp
    cases hb : Nat.beq i a with
    | true => have := Nat.eq_of_beq_eq_true hb; subst this; exact ⟨h.symm, rfl⟩
    | false => exact ⟨rfl, rfl⟩
  | eq x y hx hy => simp only [E.swp, E.den, E.denL, hx.1, hy.1, and_self]
  | not x hx => simp only [E.swp, E.den, E.denL, hx.1, and_self]
  | ap f l hl => simp only [E.swp, E.den, E.denL, hl.2, and_self]
  | cons x l hx hl => simp only [E.swp, E.den, E.denL, hx.1, hl.2, and_self]
  | _ => exact ⟨rfl, rfl⟩
/-- two variables that are the same where a truth is so -/
def eqOf : E → Option (Nat × Nat)
  | .eq (.var a) (.var b) => some (a, b)
  | .ite c x (.lit 0) => match eqOf c with
    | some p => some p
    | none => eqOf x
  | _ => none
theorem eqOf_ok {ρ : Env} : ∀ {e : E} {p : Nat × Nat}, eqOf e = some p → e.den ρ ≠ 0 → ρ.v p.1 = ρ.v p.2
  | .eq (.var a) (.var b), p, h, hd => by
    simp only [eqOf, Option.some.injEq] at h
    subst h
    by_cases hv : ρ.v a = ρ.v b
    · exact hv
    · exact absurd (by simp [E.den, truth, hv]) hd
  | .ite c x (.lit 0), p, h, hd => by
    have hc : c.den ρ ≠ 0 ∧ x.den ρ ≠ 0 := by
      simp only [E.den] at hd
      by_cases h0 : c.den ρ = 0
      · rw [if_pos h0] at hd; exact absurd rfl hd
      · rw [if_neg h0] at hd; exact ⟨h0, hd⟩
    have h' : (match eqOf c with
      | some p => some p
      | none => eqOf x) = some p := h
    cases hq : eqOf c with
    | some q => rw [hq] at h'; cases h'; exact eqOf_ok hq hc.1
    | none => rw [hq] at h'; exact eqOf_ok h' hc.2
def pairOf : E × Bool → Option (Nat × Nat)
  | (.not e, false) => eqOf e
  | (e, true) => eqOf e
  | _ => none
theorem pairOf_ok {ρ : Env} {q : E × Bool} {p : Nat × Nat} (h : pairOf q = some p) (hq : (q.1.den ρ ≠ 0) ↔ q.2 = true) : ρ.v p.1 = ρ.v p.2 := by
  unfold pairOf at h
  split at h
  · rename_i e
    refine eqOf_ok h fun h0 => ?_
    have := hq.1 (by simp [E.den, h0, truth])
    cases this
  · exact eqOf_ok h (hq.2 rfl)
  · cases h
def subsOf (l : List (E × Bool)) : List (Nat × Nat) := l.filterMap pairOf
theorem subsOf_ok {ρ : Env} {l : List (E × Bool)} (h : pathOk ρ l) (p : Nat × Nat) (hp : p ∈ subsOf l) : ρ.v p.1 = ρ.v p.2 := by
  obtain ⟨q, hq, hpq⟩ := List.mem_filterMap.1 hp
  exact pairOf_ok hpq (h q hq)
def subAll : List (Nat × Nat) → E → E
  | [], e => e
  | p :: l, e => subAll l (e.swp p.1 p.2)
theorem subAll_den {ρ : Env} : ∀ {l : List (Nat × Nat)}, (∀ p ∈ l, ρ.v p.1 = ρ.v p.2) → ∀ e : E, (subAll l e).den ρ = e.den ρ
  | [], _, _ => rfl
  | p :: l, h, e => by
    unfold subAll
    rw [subAll_den (fun q hq => h q (List.mem_cons_of_mem _ hq)), (sub_den (h p (List.mem_cons_self ..)) e).1]
def plainly : E → Bool
  | .eq x y => x.beq y
  | _ => false
theorem plainly_ok {ρ : Env} {e : E} (h : plainly e = true) : e.den ρ ≠ 0 := by
  unfold plainly at h
  split at h
  · rw [E.beq_eq h]; simp [E.den, truth]
  · cases h
def restS (l : List (List (E × Bool) × E)) : Bool := l.all fun x => plainly (subAll (subsOf x.1) x.2)
theorem restS_ok {ρ : Env} {t : Tr Leaf} (h : restS (rest [] t) = true) : t.All ρ (isTrue ρ) :=
  rest_ok (fun x hx hp => by
    have := plainly_ok (ρ := ρ) (List.all_eq_true.1 h x hx)
    rwa [subAll_den (subsOf_ok hp)] at this) (fun q hq => by cases hq)

end Go.Proofs.YtnjmfedleimlmaaDoor.Ev

/- The anchor of chapter 11. -/
namespace Go.Proofs.YtnjmfedleimlmaaDoor
open Go Go.RowKit

theorem anchor11_true : (Ev.rest [] (Ev.evFn (Ev.cxOf [] []) 1000 14 (Ev.tabBlks []) .nil [])).isEmpty = true := by kernel_rfl
theorem anchor11_calls (w : World) : Calls Tryd.prog 14 #[] w fun e w' => e = .returned (.bool true) ∧ Below w.heap.size w w' :=
  Ev.law_ok (cx := Ev.cxOf [] []) (jx := Ev.Jx.none) (ρ := Ev.envOf []) (vals := []) (tabs := []) (Ev.cxOk _ _) (fun m hm => by cases hm) (Ev.rest_isNil anchor11_true) rfl (fun t ht => by cases ht) Ev.pcOk_nil trivial trivial

end Go.Proofs.YtnjmfedleimlmaaDoor

/- The walk of TermSame. -/
namespace Go.Proofs.YtnjmfedleimlmaaDoor
open Go Go.RowKit

namespace T
theorem same_iff : ∀ t u : T, t.same u = true ↔ t = u
  | .leaf o n, u => by cases u <;> simp [same]
  | .one o n a, u => by cases u <;> simp [same, same_iff a, and_assoc]
  | .two o n a b, u => by cases u <;> simp [same, same_iff a, same_iff b, and_assoc]
theorem nodes_inj : ∀ (t u : T) (r r' : List (Int × Int × Int)), t.nodes ++ r = u.nodes ++ r' → t = u ∧ r = r'
  | .leaf o n, u, r, r', h => by
    cases u <;> simp [nodes] at h
    exact ⟨by rw [h.1.1, h.1.2], h.2⟩
  | .one o n a, u, r, r', h => by
    cases u <;> simp [nodes] at h
    obtain ⟨h1, h2⟩ := h
    obtain ⟨rfl, h3⟩ := nodes_inj a _ r r' h2
    exact ⟨by rw [h1.1, h1.2], h3⟩
  | .two o n a b, u, r, r', h => by
    cases u <;> simp [nodes] at h
    obtain ⟨h1, h2⟩ := h
    obtain ⟨rfl, h3⟩ := nodes_inj a _ (b.nodes ++ r) _ h2
    obtain ⟨rfl, h4⟩ := nodes_inj b _ r r' h3
    exact ⟨by rw [h1.1, h1.2], h4⟩
theorem same_nodes (t u : T) : t.same u = decide (t.nodes = u.nodes) := by
  rw [Bool.eq_iff_iff, same_iff, decide_eq_true_eq]
  constructor
  · rintro rfl; rfl
  · intro h
    have := nodes_inj t u [] [] (by rw [h])
    exact this.1
end T

theorem T.same_comm (t u : T) : t.same u = u.same t := by
  rw [T.same_nodes, T.same_nodes, Bool.eq_iff_iff, decide_eq_true_eq, decide_eq_true_eq]; exact eq_comm
/-- two lists as far as a place -/
def sameTo (l m : List (Int × Int × Int)) (k : Nat) : Bool := decide (l.length = m.length) && decide (l.take k = m.take k)

theorem sameTo_zero {l m : List (Int × Int × Int)} {a b : Nat} (hl : l.length = a) (hm : m.length = b) : ((a : Int) == (b : Int)) = sameTo l m 0 := by
  unfold sameTo
  subst hl; subst hm
  by_cases h : l.length = m.length
  · simp [h]
  · have : ¬ ((l.length : Int) = (m.length : Int)) := by omega
    simp [h, this]
theorem sameTo_false {l m : List (Int × Int × Int)} {k : Nat} (h : sameTo l m k = false) : sameTo l m (k + 1) = false := by
  unfold sameTo at h ⊢
  by_cases hl : l.length = m.length
  · have hk : ¬ l.take k = m.take k := by intro e; simp [hl, e] at h
    have : ¬ l.take (k + 1) = m.take (k + 1) := fun e => hk (by have := congrArg (List.take k) e; simpa [List.take_take] using this)
    simp [this]
  · simp [hl]
theorem sameTo_step {l m : List (Int × Int × Int)} {k : Nat} {x y : Int × Int × Int} (hx : l[k]? = some x) (hy : m[k]? = some y) (h : sameTo l m k = true) : sameTo l m (k + 1) = decide (x = y) := by
  unfold sameTo at h ⊢
  simp only [Bool.and_eq_true, decide_eq_true_eq] at h
  rw [List.take_add_one, List.take_add_one, hx, hy, h.2]
  by_cases e : x = y
  · simp [h.1, e]
  · simp [e]
theorem sameTo_end {l m : List (Int × Int × Int)} {k : Nat} (hl : k ≤ l.length) (hm : k ≤ m.length) (h : k = l.length ∨ k = m.length) : sameTo l m k = decide (l = m) := by
  unfold sameTo
  by_cases e : l.length = m.length
  · rw [List.take_of_length_le (by omega), List.take_of_length_le (by omega)]; simp [e]
  · have : ¬ l = m := fun h => e (by rw [h])
    simp [e, this]

set_option maxHeartbeats 40000000 in
set_option maxRecDepth 100000 in
theorem TermSame_walk (la lb : List (Int × Int)) (pa pb : Option Addr) (ca cb : Nat) (W : World) (hma : la.length ≤ 9223372036854775807) (hmb : lb.length ≤ 9223372036854775807) (hNa : NodesAt W pa la W.heap.size) (hNb : NodesAt W pb lb W.heap.size) :
    Calls Tryd.prog 6 #[.slice pa la.length ca, .slice pb lb.length cb] W fun e w' => e = .returned (.bool true) ∧ Below W.heap.size W w' := by
  go_enter Tryd.func6, Tryd.ntmps6
  go_wp2_with fail
  refine (anchor11_calls _).mono ?_
  rintro e w1 ⟨rfl, hB1⟩
  have hZ1 := hB1.size
  have hNa1 : NodesAt w1 pa la w1.heap.size := (hNa.kept (B := W.heap.size) (.of_below hB1) (Nat.le_refl _)).mono hZ1
  have hNb1 : NodesAt w1 pb lb W.heap.size := hNb.kept (B := W.heap.size) (.of_below hB1) (Nat.le_refl _)
  go_wp2_with fail
  refine (of_any la pa ca w1 hma hNa1).mono ?_
  rintro e w2 ⟨qa, da, bla, rfl, hSa, hLa, hB2⟩
  have hZ2 := hB2.size
  go_wp2_with fail
  obtain ⟨W3, hW3⟩ : ∃ W3, w2.alloc (.cells #[.int .i64 (ofX la).op, .int .u32 (ofX la).num, .slice qa (ofX la).kids da] 28) = W3 := ⟨_, rfl⟩
  have hP3 : Blk W3 w2.heap.size 28 #[.int .i64 (ofX la).op, .int .u32 (ofX la).num, .slice qa (ofX la).kids da] := hW3 ▸ Blk.new w2 _ _
  have hB3 : Below W.heap.size W W3 := hW3 ▸ (hB1.trans (hB2.mono hZ1)).alloc (by omega) _
  have hZ3 : W3.heap.size = w2.heap.size + 1 := by rw [← hW3]; simp
  have hS3 : (ofX la).IsS W3 (.slice qa (ofX la).kids da) bla := hSa.keep fun b hb => by rw [← hW3]; exact Below.heap_alloc _ _ b (hLa b hb).2
  have hNb3 : NodesAt W3 pb lb W3.heap.size := (hNb.kept (B := W.heap.size) (.of_below hB3) (Nat.le_refl _)).mono (by omega)
  rw [hW3]
  refine (of_any lb pb cb W3 hmb hNb3).mono ?_
  rintro e w4 ⟨qb, db, blb, rfl, hSb, hLb, hB4⟩
  have hZ4 := hB4.size
  have hP4 := hP3.below hB4 (by omega)
  have hS4 : (ofX la).IsS w4 (.slice qa (ofX la).kids da) bla := hS3.keep fun b hb => hB4.block b (by have := (hLa b hb).2; omega)
  go_wp2_with fail
  all_goals
    obtain ⟨W5, hW5⟩ : ∃ W5, w4.alloc (.cells #[.int .i64 (ofX lb).op, .int .u32 (ofX lb).num, .slice qb (ofX lb).kids db] 28) = W5 := ⟨_, rfl⟩
    have hB5 : Below W.heap.size W W5 := hW5 ▸ (hB3.trans (hB4.mono (by omega))).alloc (by omega) _
  · go_ret
    exact ⟨rfl, hW5 ▸ hB5⟩
  · have hP5 : Blk W5.drew w2.heap.size 28 #[.int .i64 (ofX la).op, .int .u32 (ofX la).num, .slice qa (ofX la).kids da] := hW5 ▸ hP4.alloc _
    have hR5 : Blk W5.drew w4.heap.size 28 #[.int .i64 (ofX lb).op, .int .u32 (ofX lb).num, .slice qb (ofX lb).kids db] := hW5 ▸ Blk.new w4 _ _
    have hZ5 : W5.drew.heap.size = w4.heap.size + 1 := by show W5.heap.size = _; rw [← hW5]; simp
    have hS5 : (ofX la).IsS W5.drew (.slice qa (ofX la).kids da) bla := hS4.keep fun b hb => by rw [← hW5]; exact Below.heap_alloc _ _ b (by have := (hLa b hb).2; omega)
    have hV5 : (ofX lb).IsS W5.drew (.slice qb (ofX lb).kids db) blb := hSb.keep fun b hb => by rw [← hW5]; exact Below.heap_alloc _ _ b (hLb b hb).2
    have hfa := flat_calls (ofX la) _ bla W5.drew hS5 (fun b hb => by have := (hLa b hb).2; omega) (by have := ofX_size la; omega)
    have hBd : Below W.heap.size W W5.drew := hB5.drew
    rw [hW5]
    obtain ⟨hp0, hp1, hp2⟩ := hP5.c3
    obtain ⟨hr0, hr1, hr2⟩ := hR5.c3
    go_region_law
      (first
        | (rw [if_pos (by rfl)]; go_simp; go_at_call 19; refine hfa.mono ?_; clear hfa; rintro e w6 ⟨ga, xa, rfl, hOa, hB6⟩
           have hP6 := hP5.below hB6 (by omega)
           have hR6 := hR5.below hB6 (by omega)
           obtain ⟨hq0, hq1, hq2⟩ := hR6.c3
           have hfb := flat_calls (ofX lb) _ blb w6 (hV5.keep fun b hb => hB6.block b (by have := (hLb b hb).2; omega)) (fun b hb => by have := (hLb b hb).2; have := hB6.size; omega) (by have := ofX_size lb; omega))
        | (rw [if_pos (by rfl)]; go_simp; go_at_call 19; refine hfb.mono ?_; clear hfb; rintro e w7 ⟨gb, xb, rfl, hOb, hB7⟩
           have hP7 := hP6.below hB7 (by have := hB6.size; omega)
           have hR7 := hR6.below hB7 (by have := hB6.size; omega)))
    all_goals
      have hZ6 := hB6.size
      have hZ7 := hB7.size
      have hBe : Below W.heap.size W w7 := (hBd.trans (hB6.mono (by have := hBd.size; omega))).trans (hB7.mono (by have := hBd.size; omega))
      have hNA : NAt w7 ga (ofX la).nodes := (NAt.of_row hOa (T.nodes_length _)).below hB7 (row_cap hOa).2
      have hNB : NAt w7 gb (ofX lb).nodes := NAt.of_row hOb (T.nodes_length _)
      have hla := T.nodes_length (ofX la)
      have hlb := T.nodes_length (ofX lb)
      have hsa := ofX_size la
      have hsb := ofX_size lb
      have hca := (row_cap hOa).1
      have hcb := (row_cap hOb).1
      have hga : ga < w7.heap.size := Nat.lt_of_lt_of_le (row_cap hOa).2 hZ7
      have hgb : gb < w7.heap.size := (row_cap hOb).2
      go_wp2_with fail
    all_goals
      have hHe := Lib.hid hBe
      have hSA := Lib.hid ((hS5.keep fun b hb => hB6.block b (by have := (hLa b hb).2; omega)).keep fun b hb => hB7.block b (by have := (hLa b hb).2; omega))
      have hSB := Lib.hid ((hV5.keep fun b hb => hB6.block b (by have := (hLb b hb).2; omega)).keep fun b hb => hB7.block b (by have := (hLb b hb).2; omega))
      have hLA := Lib.hid (show ∀ b ∈ bla, b < w7.heap.size from fun b hb => by have := (hLa b hb).2; omega)
      have hLB := Lib.hid (show ∀ b ∈ blb, b < w7.heap.size from fun b hb => by have := (hLb b hb).2; omega)
      have hPP := Lib.hid hP7
      have hRR := Lib.hid hR7
      clear hP7 hR7
      clear hBe hB1 hB2 hB3 hB4 hB5 hBd hB6 hB7 hP3 hP4 hP5 hR5 hP6 hR6 hq0 hq1 hq2 hp0 hp1 hp2 hr0 hr1 hr2 hNa hNb hNa1 hNb1 hNb3 hSa hS3 hS4 hS5 hV5 hSb hLa hLb hOa hOb
      go_loopw [11, 45] (fun s i wr => ∃ k : Nat, i = .int .i64 k ∧ s = .bool (sameTo (ofX la).nodes (ofX lb).nodes k) ∧ k ≤ (ofX la).size ∧ k ≤ (ofX lb).size ∧ Hid (Below w7.heap.size w7 wr)) (fun _ i _ => (ofX la).size + (ofX lb).size - (intOf i).toNat)
      case atStart => exact ⟨0, rfl, congrArg Value.bool (sameTo_zero hla hlb), by omega, by omega, Below.refl _ _⟩
      case round =>
        obtain ⟨k, rfl, rfl, hka, hkb, hB⟩ := hrel
        by_cases hlt : k < (ofX la).size ∧ k < (ofX lb).size
        · obtain ⟨x, hx⟩ : ∃ x, (ofX la).nodes[k]? = some x := ⟨_, List.getElem?_eq_getElem (by omega)⟩
          obtain ⟨y, hy⟩ : ∃ y, (ofX lb).nodes[k]? = some y := ⟨_, List.getElem?_eq_getElem (by omega)⟩
          obtain ⟨hx1, hx2, hx3⟩ := hNA.below hB.out hga k x hx
          obtain ⟨hy1, hy2, hy3⟩ := hNB.below hB.out hgb k y hy
          obtain ⟨hlt1, hlt2⟩ := hlt
          have hmore : ∀ b, sameTo (ofX la).nodes (ofX lb).nodes (k + 1) = b → ∃ k' : Nat, Value.int .i64 ((k : Int) + 1) = .int .i64 k' ∧ Value.bool b = .bool (sameTo (ofX la).nodes (ofX lb).nodes k') ∧ k' ≤ (ofX la).size ∧ k' ≤ (ofX lb).size ∧ Hid (Below w7.heap.size w7 (wr.drewN 1)) := fun b hb => ⟨k + 1, rfl, by rw [hb], by omega, by omega, hB.out.trans (below_drewN _ _ _)⟩
          cases hs : sameTo (ofX la).nodes (ofX lb).nodes k with
          | false =>
            have hHs := Lib.hid (sameTo_false hs)
            clear hs hNA hNB hx hy hmore
            go_wp2
            go_quiet (fail)
            go_wp2
            go_roundw
            case rel => exact ⟨k + 1, by go_num, by rw [hHs.out], by omega, by omega, hB.out.trans (below_drewN _ _ _)⟩
            case measure => simp [intOf]; omega
          | true =>
            have hst := sameTo_step hx hy hs
            obtain ⟨x1, x2, x3⟩ := x
            obtain ⟨y1, y2, y3⟩ := y
            dsimp only at hx1 hx2 hx3 hy1 hy2 hy3
            by_cases e1 : x1 = y1
            · by_cases e2 : x2 = y2
              · by_cases e3 : x3 = y3
                · subst e1; subst e2; subst e3
                  have hHs := Lib.hid (show sameTo (ofX la).nodes (ofX lb).nodes (k + 1) = true by rw [hst]; simp)
                  clear hst hs hNA hNB hx hy hmore
                  go_wp2
                  go_quiet (fail)
                  go_wp2
                  go_roundw
                  case rel => exact ⟨k + 1, by go_num, by rw [hHs.out], by omega, by omega, hB.out.trans (below_drewN _ _ _)⟩
                  case measure => simp [intOf]; omega
                · subst e1; subst e2
                  have hHs := Lib.hid (show sameTo (ofX la).nodes (ofX lb).nodes (k + 1) = false by rw [hst]; simp [e3])
                  clear hst hs hNA hNB hx hy hmore
                  go_wp2
                  go_quiet (fail)
                  go_wp2
                  go_roundw
                  case rel => exact ⟨k + 1, by go_num, by rw [hHs.out], by omega, by omega, hB.out.trans (below_drewN _ _ _)⟩
                  case measure => simp [intOf]; omega
              · subst e1
                have hHs := Lib.hid (show sameTo (ofX la).nodes (ofX lb).nodes (k + 1) = false by rw [hst]; simp [e2])
                clear hst hs hNA hNB hx hy hmore
                go_wp2
                go_quiet (fail)
                go_wp2
                go_roundw
                case rel => exact ⟨k + 1, by go_num, by rw [hHs.out], by omega, by omega, hB.out.trans (below_drewN _ _ _)⟩
                case measure => simp [intOf]; omega
            · have hHs := Lib.hid (show sameTo (ofX la).nodes (ofX lb).nodes (k + 1) = false by rw [hst]; simp [e1])
              clear hst hs hNA hNB hx hy hmore
              go_wp2
              go_quiet (fail)
              go_wp2
              go_roundw
              case rel => exact ⟨k + 1, by go_num, by rw [hHs.out], by omega, by omega, hB.out.trans (below_drewN _ _ _)⟩
              case measure => simp [intOf]; omega
        · have hend : sameTo (ofX la).nodes (ofX lb).nodes k = (ofX la).same (ofX lb) := by rw [T.same_nodes]; exact sameTo_end (by omega) (by omega) (by omega)
          rw [hend]
          have hBr := hB.out
          have hZr := hBr.size
          have hPr := hPP.out.below hBr hPP.out.lt
          have hRr := hRR.out.below hBr hRR.out.lt
          obtain ⟨hp0, hp1, hp2⟩ := hPr.c3
          obtain ⟨hr0, hr1, hr2⟩ := hRr.c3
          have hSr := hSA.out.keep fun b hb => hBr.block b (hLA.out b hb)
          have hVr := hSB.out.keep fun b hb => hBr.block b (hLB.out b hb)
          have hcomm := T.same_comm (ofX lb) (ofX la)
          clear hend hNA hNB hB
          go_wp2_with fail
          refine (same_calls (ofX la) (ofX lb) _ _ bla blb wr hSr hVr (fun b hb => Nat.lt_of_lt_of_le (hLA.out b hb) hZr) (fun b hb => Nat.lt_of_lt_of_le (hLB.out b hb) hZr)).mono ?_
          rintro e w8 ⟨rfl, hB8⟩
          have hZ8 := hB8.size
          have hP8 := hPr.below hB8 hPr.lt
          have hR8 := hRr.below hB8 hRr.lt
          obtain ⟨hq0, hq1, hq2⟩ := hP8.c3
          obtain ⟨hs0, hs1, hs2⟩ := hR8.c3
          go_wp2_with fail
          refine (same_calls (ofX lb) (ofX la) _ _ blb bla w8 (hVr.keep fun b hb => hB8.block b (Nat.lt_of_lt_of_le (hLB.out b hb) hZr)) (hSr.keep fun b hb => hB8.block b (Nat.lt_of_lt_of_le (hLA.out b hb) hZr)) (fun b hb => by have := hLB.out b hb; omega) (fun b hb => by have := hLA.out b hb; omega)).mono ?_
          rintro e w9 ⟨rfl, hB9⟩
          go_wp2_with fail
          go_ret
          exact ⟨congrArg Ending.returned (congrArg Value.bool (by simp [hcomm])), ((hHe.out.trans (hBr.mono (by omega))).trans (hB8.mono (by omega))).trans (hB9.mono (by omega))⟩
  · go_ret
    exact ⟨rfl, hW5 ▸ hB5⟩

end Go.Proofs.YtnjmfedleimlmaaDoor

/- The walk of TermEvals. -/
namespace Go.Proofs.YtnjmfedleimlmaaDoor
open Go Go.RowKit

theorem builtT_wf : ∀ (k : Nat) (l : List (Int × Int)) (i : Nat), (∀ y ∈ l, 0 ≤ y.2 ∧ y.2 ≤ 4294967295) → (builtT k l i).1.Wf
  | 0, l, i, _ => by simp only [builtT, T.Wf]; omega
  | k + 1, l, i, h => by
    unfold builtT
    cases hx : l[i]? with
    | none => simp only [T.Wf]; omega
    | some x =>
      have h1 := builtT_wf k l (i + 1) h
      have h2 := builtT_wf k l (builtT k l (i + 1)).2 h
      dsimp only
      split
      · exact ⟨by omega, h1, h2⟩
      · split
        · exact ⟨by omega, h1⟩
        · exact h x (List.mem_of_getElem? hx)
theorem ofX_wf (l : List (Int × Int)) (h : ∀ y ∈ l, 0 ≤ y.2 ∧ y.2 ≤ 4294967295) : (ofX l).Wf := by
  unfold ofX
  split
  · exact builtT_wf 41 l 0 h
  · simp only [T.Wf]; omega
theorem ofOk_shaped {l : List (Int × Int)} (h : ofOk l = true) : l.length ≤ 60 ∧ (ofX l).shaped = true := by
  unfold ofOk at h
  simp only [Bool.and_eq_true, decide_eq_true_eq] at h
  refine ⟨h.1, ?_⟩
  have := h.2
  unfold ofB at this
  rw [T.shaped_nodes] at this
  unfold ofX; rw [if_pos h.1]; exact this
theorem ofOk_not {l : List (Int × Int)} (h : ofOk l = false) (hl : l.length ≤ 60) : (ofX l).shaped = false := by
  unfold ofOk at h
  rw [decide_eq_true hl, Bool.true_and] at h
  unfold ofB at h
  rw [T.shaped_nodes] at h
  unfold ofX; rw [if_pos hl]; exact h

set_option maxHeartbeats 40000000 in
set_option maxRecDepth 100000 in
theorem TermEvals_walk (la : List (Int × Int)) (pa : Option Addr) (ca : Nat) (ws : List Int) (pw : Option Addr) (cw : Nat) (W : World) (hma : la.length ≤ 9223372036854775807) (hra : ∀ y ∈ la, 0 ≤ y.2 ∧ y.2 ≤ 4294967295) (hNa : NodesAt W pa la W.heap.size) (hw : WordsOk ws) (hW : WordsAt W pw ws) :
    Calls Tryd.prog 8 #[.slice pa la.length ca, .slice pw ws.length cw] W fun e w' => e = .returned (.bool true) ∧ Below W.heap.size W w' := by
  have hsz := ofX_size la
  have hwf := ofX_wf la hra
  go_enter Tryd.func8, Tryd.ntmps8
  go_wp2_with fail
  refine (anchor11_calls _).mono ?_
  rintro e w1 ⟨rfl, hB1⟩
  have hZ1 := hB1.size
  have hNa1 : NodesAt w1 pa la w1.heap.size := (hNa.kept (B := W.heap.size) (.of_below hB1) (Nat.le_refl _)).mono hZ1
  go_wp2_with fail
  refine (of_any la pa ca w1 hma hNa1).mono ?_
  rintro e w2 ⟨qa, da, bla, rfl, hSa, hLa, hB2⟩
  have hZ2 := hB2.size
  obtain ⟨W3, hW3⟩ : ∃ W3, w2.alloc (.cells #[.int .i64 (ofX la).op, .int .u32 (ofX la).num, .slice qa (ofX la).kids da] 28) = W3 := ⟨_, rfl⟩
  have hP3 : Blk W3 w2.heap.size 28 #[.int .i64 (ofX la).op, .int .u32 (ofX la).num, .slice qa (ofX la).kids da] := hW3 ▸ Blk.new w2 _ _
  have hB3 : Below W.heap.size W W3 := hW3 ▸ (hB1.trans (hB2.mono hZ1)).alloc (by omega) _
  have hZ3 : W3.heap.size = w2.heap.size + 1 := by rw [← hW3]; simp
  have hS3 : (ofX la).IsS W3 (.slice qa (ofX la).kids da) bla := hSa.keep fun b hb => by rw [← hW3]; exact Below.heap_alloc _ _ b (hLa b hb).2
  have hL3 : ∀ b ∈ bla, b < W3.heap.size := fun b hb => by have := (hLa b hb).2; omega
  obtain ⟨p0, p1, p2⟩ := hP3.c3
  have keep : ∀ w', Below W3.heap.size W3 w' → (ofX la).IsS w' (.slice qa (ofX la).kids da) bla ∧ (∀ b ∈ bla, b < w'.heap.size) ∧ Below W.heap.size W w' := fun w' hB => ⟨hS3.keep fun b hb => hB.block b (hL3 b hb), fun b hb => Nat.lt_of_lt_of_le (hL3 b hb) hB.size, hB3.trans (hB.mono hB3.size)⟩
  cases hok : ofOk la with
  | false =>
    by_cases hl : 60 < la.length
    · go_wp2_with fail
      try rw [hW3]
      go_ret
      exact ⟨rfl, hB3⟩
    · have hsh := ofOk_not hok (by omega)
      go_wp2_with fail
      try rw [hW3]
      clear hW3
      refine (tright_calls (ofX la) _ bla W3 hS3 hL3 (by omega)).mono ?_
      rintro e w4 ⟨rfl, hB4⟩
      rw [hsh]
      go_wp2_with fail
      go_ret
      exact ⟨rfl, (keep w4 hB4).2.2⟩
  | true =>
    obtain ⟨hlen, hsh⟩ := ofOk_shaped hok
    have hW3' := hW.below hB3
    go_wp2_with fail
    try rw [hW3]
    clear hW3
    refine (eval_calls (ofX la) ws pw cw _ bla W3 hS3 hL3 hwf hw hW3').mono ?_
    rintro e w4 ⟨rfl, hB4⟩
    have hP4 := hP3.below hB4 hP3.lt
    obtain ⟨q0, q1, q2⟩ := hP4.c3
    have hk4 := keep w4 hB4
    go_wp2_with fail
    refine (flat_calls (ofX la) _ bla w4 hk4.1 hk4.2.1 (by omega)).mono ?_
    rintro e w5 ⟨ga, xa, rfl, hOa, hB5⟩
    have hB35 : Below W3.heap.size W3 w5 := hB4.trans (hB5.mono hB4.size)
    have hk5 := keep w5 hB35
    have hNA := NAt.of_row hOa (T.nodes_length _)
    go_wp2_with fail
    refine (refEval_calls (ofX la) (ofX la).size ga xa ws pw cw w5 (T.nodes_length _) hsh hwf hw (by omega) (row_cap hOa).1 hNA (row_cap hOa).2 (hW.below hk5.2.2)).mono ?_
    rintro e w6 ⟨rfl, hB6⟩
    have hB36 : Below W3.heap.size W3 w6 := hB35.trans (hB6.mono hB35.size)
    go_wp2_with fail
    have hB36d : Below W3.heap.size W3 w6.drew := hB36.drew
    have kk : ∀ w', Below W3.heap.size W3 w' → w'.cell? ⟨w2.heap.size, 0, none⟩ = some (.int .i64 (ofX la).op) ∧ w'.cell? ⟨w2.heap.size, 1, none⟩ = some (.int .u32 (ofX la).num) ∧ w'.cell? ⟨w2.heap.size, 2, none⟩ = some (.slice qa (ofX la).kids da) ∧ Below W3.heap.size W3 w' := fun w' hB => by
      obtain ⟨r0, r1, r2⟩ := (hP3.below hB hP3.lt).c3
      exact ⟨r0, r1, r2, hB⟩
    have hf1 := fun w' hB => tright_calls (ofX la) _ bla w' (keep w' hB).1 (keep w' hB).2.1 (by omega)
    have hf2 := fun w' hB => count_calls (ofX la) _ bla w' (keep w' hB).1 (keep w' hB).2.1 (by omega)
    have hf3 := fun w' hB => flat_calls (ofX la) _ bla w' (keep w' hB).1 (keep w' hB).2.1 (by omega)
    have hf4 := fun w' hB => same_calls (ofX la) (ofX la) _ _ bla bla w' (keep w' hB).1 (keep w' hB).1 (keep w' hB).2.1 (keep w' hB).2.1
    have ht := fun w' (hB : Below W3.heap.size W3 w') w'' (hC : Below w'.heap.size w' w'') => hB.trans (hC.mono hB.size)
    rw [hsh] at hf1
    have hk1 := Lib.hid kk
    have hk2 := Lib.hid hf1
    have hk3 := Lib.hid hf2
    have hk4 := Lib.hid hf3
    have hk8 := Lib.hid hf4
    have hk6 := Lib.hid ht
    have hk7 := Lib.hid keep
    clear kk hf1 hf2 hf3 hf4 ht keep hP3 hP4 q0 q1 q2 hNA hOa hS3 hL3 hSa hLa hNa hNa1 hB1 hB2 hB3 hB4 hB5 hB6 hB35 hB36 hW hW3' hw hwf
    go_region_held3 (fun w' => w'.cell? ⟨w2.heap.size, 0, none⟩ = some (.int .i64 (ofX la).op) ∧ w'.cell? ⟨w2.heap.size, 1, none⟩ = some (.int .u32 (ofX la).num) ∧ w'.cell? ⟨w2.heap.size, 2, none⟩ = some (.slice qa (ofX la).kids da) ∧ Below W3.heap.size W3 w') (exact hk1.out _ (by assumption))
      ((first
        | (go_at_call 25
           have hS := ‹_ ∧ _ ∧ _ ∧ Below W3.heap.size W3 _›
           refine (hk2.out _ hS.2.2.2).mono ?_; rintro e w7 ⟨rfl, hB7⟩
           have hB7' := hk6.out _ hS.2.2.2 _ hB7; clear hB7 hS)
        | (go_at_call 27
           have hS := ‹_ ∧ _ ∧ _ ∧ Below W3.heap.size W3 _›
           refine (hk3.out _ hS.2.2.2).mono ?_; rintro e w7 ⟨rfl, hB7⟩
           have hB7' := hk6.out _ hS.2.2.2 _ hB7; clear hB7 hS)
        | (go_at_call 19
           have hS := ‹_ ∧ _ ∧ _ ∧ Below W3.heap.size W3 _›
           refine (hk4.out _ hS.2.2.2).mono ?_; rintro e w7 ⟨gc, xc, rfl, hOc, hB7⟩
           have hB7' := hk6.out _ hS.2.2.2 _ hB7; clear hB7 hS hOc)
        | (go_at_call 21
           have hS := ‹_ ∧ _ ∧ _ ∧ Below W3.heap.size W3 _›
           refine (hk8.out _ hS.2.2.2).mono ?_; rintro e w7 ⟨rfl, hB7⟩
           have hB7' := hk6.out _ hS.2.2.2 _ hB7; clear hB7 hS)))
    go_wp2_with fail
    go_ret
    exact ⟨congrArg Ending.returned (congrArg Value.bool ((T.same_iff _ _).2 rfl)), (hk7.out _ (by assumption)).2.2⟩

end Go.Proofs.YtnjmfedleimlmaaDoor

/- Trial. -/
namespace Go.Proofs.YtnjmfedleimlmaaDoor.Pw
open Go Go.RowKit

def needsT (op : Int) : Int := if op ≤ 2 then 0 else if op ≤ 4 then 1 else 2
theorem needs_pure (op : Int) : PureF gx 74 [.int .i64 op] (.int .i64 (needsT op)) := by
  refine Spec.enter gxok [] 100 Tryd.func74 rfl (by kernel_rfl) ?_
  repeat' refine And.intro (fun _ => ?_) (fun _ => ?_)
  all_goals (refine retE ?_; unfold needsT; show _ = _; (repeat' split) <;> omega)

/-- a term's list -/
def kidsP : T → List PV
  | .leaf .. => []
  | .one _ _ a => [.agg [.int .i64 a.op, .int .u32 a.num, .sl 3 (kidsP a)]]
  | .two _ _ a b => [.agg [.int .i64 a.op, .int .u32 a.num, .sl 3 (kidsP a)], .agg [.int .i64 b.op, .int .u32 b.num, .sl 3 (kidsP b)]]
def tpv (t : T) : PV := .agg [.int .i64 t.op, .int .u32 t.num, .sl 3 (kidsP t)]
def kidsL : T → List T
  | .leaf .. => []
  | .one _ _ a => [a]
  | .two _ _ a b => [a, b]
theorem kidsP_eq (t : T) : kidsP t = (kidsL t).map tpv := by cases t <;> rfl
def wordsP (ws : List Int) : List PV := ws.map (PV.int .u32)

set_option maxRecDepth 10000 in
theorem leaf_pure (t : T) (ws : List Int) (hn : 0 ≤ t.num ∧ t.num ≤ 4294967295) : PureF gx 43 [tpv t, .sl 1 (wordsP ws)] (.int .u32 (leafV t.op t.num ws)) := by
  refine Spec.enter gxok [] 100 Tryd.func43 rfl (by kernel_rfl) ?_
  refine And.intro (fun h1 => ?_) (fun h1 => ?_)
  · refine retE ?_
    show _ = _
    unfold leafV
    rw [if_pos h1]
  · refine .inl ⟨inR_i64 (by omega), fun hm => And.intro (fun h2 => ?_) (fun h2 => ?_)⟩
    · refine ⟨_, ws, PV.int .u32, rfl, hn.1, by rw [wordsP, List.length_map] at h2; exact h2, fun x hx => retE ?_⟩
      show _ = _
      unfold leafV
      rw [if_neg h1, hx]; rfl
    · refine retE ?_
      show _ = _
      rw [wordsP, List.length_map] at h2
      unfold leafV
      rw [if_neg h1, List.getElem?_eq_none (by omega)]; rfl

end Go.Proofs.YtnjmfedleimlmaaDoor.Pw

/- Chapter 11 over values: what comes in, what 'of' makes, values of terms. -/
namespace Go.Proofs.YtnjmfedleimlmaaDoor.Pw
open Go Go.RowKit

noncomputable def gT : Gx := gxOf [(0, [.lit .u32 0, .lit .u32 4294967295])]
theorem gTok : GOk gT := gxOk _
theorem entersT {f : FuncId} {fn : Func} {c : Code} (hf : Tryd.prog.funcs[f]? = some fn) (hb : fn.body = some c) (hn : (fn.name == "runtime.NumGoroutine") = false) : Ev.Enters gT.cx.P f := Ev.enters_of hf hb hn

theorem isLn {w : World} {I : Nat → Prop} {β : Places} : IsL w I [] β [] := by simp only [IsL]
theorem isLc {w : World} {I : Nat → Prop} {β : Places} {x : PV} {v : Value} {xs : List PV} {vs : List Value} (h : x.Is w I β v) (h' : IsL w I xs β vs) : IsL w I (x :: xs) β (v :: vs) := by simp only [IsL]; exact ⟨h, h'⟩
theorem is_bool {w : World} {I : Nat → Prop} {β : Places} (b : Bool) : (PV.bool (b = true)).Is w I β (.bool b) := by simp only [PV.Is]; rw [pb_dec]; simp
theorem is_int {w : World} {I : Nat → Prop} {β : Places} (k : IntKind) (n : Int) : (PV.int k n).Is w I β (.int k n) := by simp only [PV.Is]
theorem is_tup {w : World} {I : Nat → Prop} {β : Places} {xs : List PV} {vs : Array Value} (h : IsL w I xs β vs.toList) : (PV.tup xs).Is w I β (.tuple vs) := by simp only [PV.Is]; exact ⟨vs, rfl, h⟩
theorem is_agg {w : World} {I : Nat → Prop} {β : Places} {xs : List PV} {vs : Array Value} (h : IsL w I xs β vs.toList) : (PV.agg xs).Is w I β (.agg vs) := by simp only [PV.Is]; exact ⟨vs, rfl, h⟩

/-! ### scalars -/
theorem isL1 {w : World} {I : Nat → Prop} {β : Places} {x : PV} {vals : List Value} (h : IsL w I [x] β vals) : ∃ v, vals = [v] ∧ x.Is w I β v := by
  match vals, h with
  | [v], h => exact ⟨v, rfl, by simpa only [IsL, and_true] using h⟩
theorem isL2 {w : World} {I : Nat → Prop} {β : Places} {x y : PV} {vals : List Value} (h : IsL w I [x, y] β vals) : ∃ v u, vals = [v, u] ∧ x.Is w I β v ∧ y.Is w I β u := by
  match vals, h with
  | [v, u], h => exact ⟨v, u, rfl, by simpa only [IsL, and_true] using h⟩
theorem isL3 {w : World} {I : Nat → Prop} {β : Places} {x y z : PV} {vals : List Value} (h : IsL w I [x, y, z] β vals) : ∃ v u t, vals = [v, u, t] ∧ x.Is w I β v ∧ y.Is w I β u ∧ z.Is w I β t := by
  match vals, h with
  | [v, u, t], h => exact ⟨v, u, t, rfl, by simpa only [IsL, and_true] using h⟩
theorem one_pure (op x : Int) (h0 : 0 ≤ x) (h1 : x ≤ 4294967295) : PureF gT 45 [.int .i64 op, .int .u32 x] (.int .u32 (oneV op x)) :=
  PureF.of_same (entersT Tryd.func45 rfl (by kernel_rfl)) [.int .i64 op, .int .u32 x] _ (fun w I β vals h => by obtain ⟨v, u, rfl, h1, h2⟩ := isL2 h; simp only [PV.Is] at h1 h2; rw [h1, h2]) (fun w I β => by simp only [PV.Is]) (fun w => tone_any op x w h0 h1)
def optP (o : Option Int) : PV := .tup [.int .u32 (o.getD 0), .bool (o.isSome = true)]
theorem optP_is (o : Option Int) (w : World) (I : Nat → Prop) (β : Places) : (optP o).Is w I β (optV o) := by
  unfold optP optV
  exact is_tup (isLc (is_int ..) (isLc (is_bool _) isLn))
theorem two_pure (op x y : Int) (h0 : 0 ≤ x) (h1 : x ≤ 4294967295) (k0 : 0 ≤ y) (k1 : y ≤ 4294967295) : PureF gT 46 [.int .i64 op, .int .u32 x, .int .u32 y] (optP (twoV op x y)) :=
  PureF.of_same (entersT Tryd.func46 rfl (by kernel_rfl)) [.int .i64 op, .int .u32 x, .int .u32 y] (optV (twoV op x y)) (fun w I β vals h => by obtain ⟨v, u, t, rfl, h1, h2, h3⟩ := isL3 h; simp only [PV.Is] at h1 h2 h3; rw [h1, h2, h3]) (optP_is _) (fun w => two_any op x y w h0 h1 k0 k1)
theorem truth_pure (b : Prop) : PureF gT 44 [.bool b] (.int .u32 (if pb b then 1 else 0)) :=
  PureF.of_same (entersT Tryd.func44 rfl (by kernel_rfl)) [.bool (pb b)] _ (fun w I β vals h => by obtain ⟨v, rfl, h1⟩ := isL1 h; simp only [PV.Is] at h1; rw [h1]) (fun w I β => by simp only [PV.Is]) (fun w => ttruth_any _ w)
theorem anchor_pure : PureF gT 14 [] .tt :=
  PureF.of_calls (entersT Tryd.func14 rfl (by kernel_rfl)) [] (.bool true) (fun w I β vals h => by cases vals with
    | nil => rfl
    | cons => simp only [IsL] at h) (fun w I β => by simp only [PV.Is]) (fun w => anchor11_calls w)

/-! ### nodes, terms -/
def nodeP (y : Int × Int) : PV := .agg [.int .i64 y.1, .int .u32 y.2]
theorem isS_is {w : World} {I : Nat → Prop} {β : Places} : ∀ {t : T} {s : Value} {bl : List Nat}, t.IsS w s bl → (∀ b ∈ bl, I b) → (PV.sl 3 (kidsP t)).Is w I β s
  | .leaf .., s, bl, h, _ => by
    obtain ⟨rfl, _⟩ := h
    simp only [kidsP, PV.Is]
    exact ⟨none, 0, rfl, Nat.le_refl _, by simp, nofun, fun h => absurd rfl h⟩
  | .one _ _ a, s, bl, h, hI => by
    obtain ⟨g, cap, cur, fr, sa, bla, rfl, h2, h3, h4, h5, h6, h7, rfl⟩ := h
    have ia := isS_is (β := no) (I := I) h7 fun b hb => hI b (by simp [hb])
    have ca : ∀ j, w.cell? ⟨g, j, none⟩ = cur[j]? := fun j => by simp [World.cell?, h3]
    simp only [kidsP, PV.Is, IsEs, IsAt, List.length_cons, List.length_nil]
    exact ⟨_, cap, rfl, h2, by unfold maxLen; omega, fun g' o' e => by
      cases e
      exact ⟨⟨trivial, ⟨_, by rw [ca]; exact h4, rfl, rfl⟩, ⟨_, by rw [ca]; exact h5, rfl, rfl⟩, ⟨sa, by rw [ca]; exact h6, by simpa only [PV.Is] using ia, h7.one⟩, trivial⟩, trivial⟩, fun _ => ⟨g, 0, rfl, hI g (by simp), by omega⟩⟩
  | .two _ _ a b, s, bl, h, hI => by
    obtain ⟨g, cap, cur, fr, sa, bla, sb, blb, rfl, h2, h3, h4, h5, h6, h4', h5', h6', h7, h8, rfl⟩ := h
    have ia := isS_is (β := no) (I := I) h7 fun b hb => hI b (by simp [hb])
    have ib := isS_is (β := no) (I := I) h8 fun b hb => hI b (by simp [hb])
    have ca : ∀ j, w.cell? ⟨g, j, none⟩ = cur[j]? := fun j => by simp [World.cell?, h3]
    simp only [kidsP, PV.Is, IsEs, IsAt, List.length_cons, List.length_nil]
    exact ⟨_, cap, rfl, h2, by unfold maxLen; omega, fun g' o' e => by
      cases e
      exact ⟨⟨trivial, ⟨_, by rw [ca]; exact h4, rfl, rfl⟩, ⟨_, by rw [ca]; exact h5, rfl, rfl⟩, ⟨sa, by rw [ca]; exact h6, by simpa only [PV.Is] using ia, h7.one⟩, trivial⟩, ⟨trivial, ⟨_, by rw [ca]; exact h4', rfl, rfl⟩, ⟨_, by rw [ca]; exact h5', rfl, rfl⟩, ⟨sb, by rw [ca]; exact h6', by simpa only [PV.Is] using ib, h8.one⟩, trivial⟩, trivial⟩, fun _ => ⟨g, 0, rfl, hI g (by simp), by omega⟩⟩
theorem nodesAt_of {w : World} {I : Nat → Prop} {β : Places} {l : List (Int × Int)} {v : Value} (hI : ∀ g, I g → g < w.heap.size) (h : (PV.sl 2 (l.map nodeP)).Is w I β v) : ∃ a cap, v = .slice a l.length cap ∧ NodesAt w a l w.heap.size := by
  simp only [PV.Is] at h
  obtain ⟨a, cap, rfl, _, _, h1, h2⟩ := h
  refine ⟨a, cap, by rw [List.length_map], fun i x hx => ?_⟩
  have hlt : i < l.length := (List.getElem?_eq_some_iff.1 hx).1
  obtain ⟨g, o, rfl, hg, _⟩ := h2 (by rw [List.length_map]; omega)
  have he := (h1 g o rfl).get (i := i) (e := nodeP x) (by simp [hx])
  obtain ⟨_, he⟩ := he
  obtain ⟨v0, c0, i0, _⟩ := he.get (i := 0) rfl
  obtain ⟨v1, c1, i1, _⟩ := he.get (i := 1) rfl
  simp only [PV.Is] at i0 i1
  subst i0; subst i1
  exact ⟨g, o, rfl, hI g hg, hI g hg, c0, c1⟩
theorem of_pure (l : List (Int × Int)) (hl : l.length ≤ maxLen) : PureF gT 15 [.sl 2 (l.map nodeP)] (.tup [tpv (ofX l), .bool (ofOk l = true)]) :=
  PureF.of_new (entersT Tryd.func15 rfl (by kernel_rfl)) (fun I β w vals hM hA => by
    obtain ⟨v, rfl, hv⟩ := isL1 hA
    obtain ⟨a, cap, rfl, hN⟩ := nodesAt_of hM.imm hv
    refine (of_any l a cap w (by unfold maxLen at hl; omega) hN).mono ?_
    rintro e w' ⟨p, c, bl, rfl, hS, hb, hB⟩
    refine ⟨_, rfl, hB, ?_⟩
    have hs := isS_is (β := no) (I := NewI I w w') hS fun b hb' => .inr (hb b hb')
    exact is_tup (isLc (is_agg (isLc (is_int ..) (isLc (is_int ..) (isLc hs isLn)))) (isLc (is_bool _) isLn))) rfl

end Go.Proofs.YtnjmfedleimlmaaDoor.Pw

/- Chapter 11 over values: Eval. -/
namespace Go.Proofs.YtnjmfedleimlmaaDoor.Pw
open Go Go.RowKit

theorem leaf_pureT (t : T) (ws : List Int) (hn : 0 ≤ t.num ∧ t.num ≤ 4294967295) : PureF gT 43 [tpv t, .sl 1 (wordsP ws)] (.int .u32 (leafV t.op t.num ws)) := by
  refine Spec.enter gTok [] 100 Tryd.func43 rfl (by kernel_rfl) ?_
  refine And.intro (fun h1 => ?_) (fun h1 => ?_)
  · refine retE ?_
    show _ = _
    unfold leafV
    rw [if_pos h1]
  · refine .inl ⟨inR_i64 (by omega), fun hm => And.intro (fun h2 => ?_) (fun h2 => ?_)⟩
    · refine ⟨_, ws, PV.int .u32, rfl, hn.1, by rw [wordsP, List.length_map] at h2; exact h2, fun x hx => retE ?_⟩
      show _ = _
      unfold leafV
      rw [if_neg h1, hx]; rfl
    · refine retE ?_
      show _ = _
      rw [wordsP, List.length_map] at h2
      unfold leafV
      rw [if_neg h1, List.getElem?_eq_none (by omega)]; rfl

theorem truth_tt : PureF gT 44 [.tt] (.int .u32 1) :=
  PureF.of_same (entersT Tryd.func44 rfl (by kernel_rfl)) [.bool true] _ (fun w I β vals h => by obtain ⟨v, rfl, h1⟩ := isL1 h; simp only [PV.Is] at h1; rw [h1]) (fun w I β => is_int ..) (fun w => ttruth_any true w)
theorem truth_ff : PureF gT 44 [.ff] (.int .u32 0) :=
  PureF.of_same (entersT Tryd.func44 rfl (by kernel_rfl)) [.bool false] _ (fun w I β vals h => by obtain ⟨v, rfl, h1⟩ := isL1 h; simp only [PV.Is] at h1; rw [h1]) (fun w I β => is_int ..) (fun w => ttruth_any false w)

set_option maxRecDepth 10000 in
theorem eval_pure (ws : List Int) (hw : WordsOk ws) : ∀ t : T, t.Wf → PureF gT 17 [tpv t, .sl 1 (wordsP ws)] (optP (t.evalT ws))
  | .leaf o n, hwf => by
    refine Spec.enter gTok P17 100 Tryd.func17 rfl (by kernel_rfl) ?_
    refine fun _ => And.intro (fun _ => ?_) (fun h => absurd rfl h)
    refine ⟨[], nofun, (leaf_pureT (.leaf o n) ws hwf).use ⟨⟨rfl, rfl, rfl, trivial⟩, rfl, trivial⟩ rfl rfl ?_⟩
    exact retE ⟨rfl, rfl, trivial⟩
  | .one o n a, hwf => by
    have iha := eval_pure ws hw a hwf.2
    refine Spec.enter gTok P17 100 Tryd.func17 rfl (by kernel_rfl) ?_
    refine fun _ => And.intro (fun h => absurd h (by simp [kidsP])) (fun _ => ?_)
    refine ⟨T, [a], tpv, rfl, Int.le_refl 0, Int.zero_lt_one, fun x hx => ?_⟩
    obtain rfl : a = x := by simpa using hx
    refine ⟨[], nofun, iha.use ⟨⟨rfl, rfl, rfl, trivial⟩, rfl, trivial⟩ rfl rfl ?_⟩
    have he : (T.one o n a).evalT ws = (a.evalT ws).map (oneV o) := rfl
    have hb : ∀ v, a.evalT ws = some v → 0 ≤ v ∧ v ≤ 4294967295 := fun v h => T.evalT_bd hw hwf.2 h
    rw [he]
    generalize a.evalT ws = q at hb ⊢
    cases q with
    | none =>
      refine And.intro (fun _ => ?_) (fun h => absurd nofun h)
      refine ⟨[], nofun, truth_ff.use ⟨nofun, trivial⟩ rfl rfl ?_⟩
      refine ⟨[], nofun, (one_pure o 0 (by omega) (by omega)).use ⟨rfl, rfl, trivial⟩ rfl rfl ?_⟩
      refine .inl ⟨inR_u32 (by simp), ?_⟩
      exact retE ⟨Int.zero_mul _, Iff.rfl, trivial⟩
    | some v =>
      obtain ⟨h0, h1⟩ := hb v rfl
      have h2 := oneV_bd (op := o) h0 h1
      refine And.intro (fun h => absurd rfl h) (fun _ => ?_)
      refine fun _ => And.intro (fun _ => ?_) (fun h => absurd rfl h)
      refine ⟨[], nofun, truth_tt.use ⟨rfl, trivial⟩ rfl rfl ?_⟩
      refine ⟨[], nofun, (one_pure o v h0 h1).use ⟨rfl, rfl, trivial⟩ rfl rfl ?_⟩
      refine .inl ⟨inR_u32 (by rw [Int.one_mul]; exact h2), ?_⟩
      exact retE ⟨Int.one_mul _, Iff.rfl, trivial⟩
  | .two o n a b, hwf => by
    have iha := eval_pure ws hw a hwf.2.1
    have ihb := eval_pure ws hw b hwf.2.2
    refine Spec.enter gTok P17 100 Tryd.func17 rfl (by kernel_rfl) ?_
    refine fun _ => And.intro (fun h => absurd h (by simp [kidsP])) (fun _ => ?_)
    refine ⟨T, [a, b], tpv, rfl, Int.le_refl 0, by simp, fun x hx => ?_⟩
    obtain rfl : a = x := by simpa using hx
    refine ⟨[], nofun, iha.use ⟨⟨rfl, rfl, rfl, trivial⟩, rfl, trivial⟩ rfl rfl ?_⟩
    have he : (T.two o n a b).evalT ws = (a.evalT ws).bind fun x => (b.evalT ws).bind fun y => twoV o x y := rfl
    have hba : ∀ v, a.evalT ws = some v → 0 ≤ v ∧ v ≤ 4294967295 := fun v h => T.evalT_bd hw hwf.2.1 h
    have hbb : ∀ v, b.evalT ws = some v → 0 ≤ v ∧ v ≤ 4294967295 := fun v h => T.evalT_bd hw hwf.2.2 h
    rw [he]
    generalize a.evalT ws = q at hba ⊢
    cases q with
    | none =>
      refine And.intro (fun _ => ?_) (fun h => absurd nofun h)
      refine ⟨[], nofun, truth_ff.use ⟨nofun, trivial⟩ rfl rfl ?_⟩
      refine ⟨[], nofun, (one_pure o 0 (by omega) (by omega)).use ⟨rfl, rfl, trivial⟩ rfl rfl ?_⟩
      refine .inl ⟨inR_u32 (by simp), ?_⟩
      exact retE ⟨Int.zero_mul _, Iff.rfl, trivial⟩
    | some v =>
      obtain ⟨h0, h1⟩ := hba v rfl
      refine And.intro (fun h => absurd rfl h) (fun _ => ?_)
      refine fun _ => And.intro (fun h => absurd h (by simp [kidsP])) (fun _ => ?_)
      refine ⟨T, [a, b], tpv, rfl, by decide, by simp, fun x hx => ?_⟩
      obtain rfl : b = x := by simpa using hx
      refine ⟨[], nofun, ihb.use ⟨⟨rfl, rfl, rfl, trivial⟩, rfl, trivial⟩ rfl rfl ?_⟩
      generalize b.evalT ws = q at hbb ⊢
      cases q with
      | none =>
        refine And.intro (fun _ => ?_) (fun h => absurd nofun h)
        exact retE ⟨rfl, nofun, trivial⟩
      | some u =>
        obtain ⟨k0, k1⟩ := hbb u rfl
        refine And.intro (fun h => absurd rfl h) (fun _ => ?_)
        refine ⟨[], nofun, (two_pure o v u h0 h1 k0 k1).use ⟨rfl, rfl, rfl, trivial⟩ rfl rfl ?_⟩
        exact retE ⟨rfl, Iff.rfl, trivial⟩

end Go.Proofs.YtnjmfedleimlmaaDoor.Pw

/- Chapter 11 over values: Put. -/
namespace Go.Proofs.YtnjmfedleimlmaaDoor.Pw
open Go Go.RowKit

def putT (l : List T) : T → T
  | .leaf o n => if o = 2 ∧ n < l.length then (l[n.toNat]?).getD (.leaf o n) else .leaf o n
  | .one o n a => if o = 2 ∧ n < l.length then (l[n.toNat]?).getD (.leaf o n) else .one o n (putT l a)
  | .two o n a b => if o = 2 ∧ n < l.length then (l[n.toNat]?).getD (.leaf o n) else .two o n (putT l a) (putT l b)

theorem putT_var {l : List T} {t x : T} (h1 : t.op = 2) (h2 : t.num < l.length) (hx : l[t.num.toNat]? = some x) : putT l t = x := by
  cases t <;> (unfold putT; simp only [T.op, T.num] at h1 h2 hx; rw [if_pos ⟨h1, h2⟩, hx]; rfl)
theorem le_tpv (x : T) {y : T} (h : y = x) : leK (.agg [.int .i64 x.op, .int .u32 x.num, .sl 3 (kidsP x)]) (tpv y) := by subst h; exact ⟨rfl, rfl, rfl, trivial⟩

set_option maxRecDepth 10000 in
theorem put_pure (l : List T) (hl : l.length ≤ maxLen) : ∀ t : T, t.Wf → PureF gT 20 [tpv t, .sl 3 (l.map tpv)] (tpv (putT l t))
  | .leaf o n, hwf => by
    have hn : 0 ≤ n ∧ n ≤ 4294967295 := hwf
    have hf : ¬ (o = 2 ∧ n < l.length) → putT l (.leaf o n) = .leaf o n := fun h => by unfold putT; rw [if_neg h]
    refine Spec.enter gTok P20 100 Tryd.func20 rfl (by kernel_rfl) ?_
    refine And.intro (fun h1 => ?_) (fun h1 => ?_)
    · refine .inl ⟨inR_i64 (by show _ ≤ n ∧ n ≤ _; omega), fun hm => And.intro (fun h2 => ?_) (fun h2 => ?_)⟩
      · rw [List.length_map] at h2
        exact ⟨_, l, tpv, rfl, hn.1, h2, fun x hx => retE (le_tpv x (putT_var h1 h2 hx))⟩
      · rw [List.length_map] at h2
        rw [hf fun h => h2 h.2]
        refine fun _ => SW.rounds gTok P20 (by kernel_rfl) (N := 60) 3 ?_
        refine And.intro (fun h => absurd h (by simp [kidsP])) (fun _ => ?_)
        exact retE ⟨rfl, rfl, rfl, trivial⟩
    · rw [hf fun h => h1 h.1]
      refine fun _ => SW.rounds gTok P20 (by kernel_rfl) (N := 60) 3 ?_
      refine And.intro (fun h => absurd h (by simp [kidsP])) (fun _ => ?_)
      exact retE ⟨rfl, rfl, rfl, trivial⟩
  | .one o n a, hwf => by
    have hn : 0 ≤ n ∧ n ≤ 4294967295 := hwf.1
    have iha := put_pure l hl a hwf.2
    have hf : ¬ (o = 2 ∧ n < l.length) → putT l (.one o n a) = .one o n (putT l a) := fun h => by
      rw [putT.eq_def]; simp only; rw [if_neg h]
    refine Spec.enter gTok P20 100 Tryd.func20 rfl (by kernel_rfl) ?_
    refine And.intro (fun h1 => ?_) (fun h1 => ?_)
    · refine .inl ⟨inR_i64 (by show _ ≤ n ∧ n ≤ _; omega), fun hm => And.intro (fun h2 => ?_) (fun h2 => ?_)⟩
      · rw [List.length_map] at h2
        exact ⟨_, l, tpv, rfl, hn.1, h2, fun x hx => retE (le_tpv x (putT_var h1 h2 hx))⟩
      · rw [List.length_map] at h2
        rw [hf fun h => h2 h.2]
        refine fun _ => SW.rounds gTok P20 (by kernel_rfl) (N := 60) 3 ?_
        refine And.intro (fun _ => ?_) (fun h => absurd (show (0 : Int) < 1 by decide) h)
        refine ⟨T, [a], tpv, rfl, (show (0 : Int) ≤ 0 by decide), (show (0 : Int) < 1 by decide), fun x hx => ?_⟩
        obtain rfl : a = x := Option.some.inj hx
        refine ⟨[], nofun, iha.use ⟨⟨rfl, rfl, rfl, trivial⟩, rfl, trivial⟩ rfl rfl ?_⟩
        refine And.intro (fun h => absurd (show (1 : Int) < 1 from h) (by decide)) (fun _ => ?_)
        refine retE ?_
        exact ⟨rfl, rfl, rfl, trivial⟩
    · rw [hf fun h => h1 h.1]
      refine fun _ => SW.rounds gTok P20 (by kernel_rfl) (N := 60) 3 ?_
      refine And.intro (fun _ => ?_) (fun h => absurd (show (0 : Int) < 1 by decide) h)
      refine ⟨T, [a], tpv, rfl, (show (0 : Int) ≤ 0 by decide), (show (0 : Int) < 1 by decide), fun x hx => ?_⟩
      obtain rfl : a = x := Option.some.inj hx
      refine ⟨[], nofun, iha.use ⟨⟨rfl, rfl, rfl, trivial⟩, rfl, trivial⟩ rfl rfl ?_⟩
      refine And.intro (fun h => absurd (show (1 : Int) < 1 from h) (by decide)) (fun _ => ?_)
      refine retE ?_
      exact ⟨rfl, rfl, rfl, trivial⟩
  | .two o n a b, hwf => by
    have hn : 0 ≤ n ∧ n ≤ 4294967295 := hwf.1
    have iha := put_pure l hl a hwf.2.1
    have ihb := put_pure l hl b hwf.2.2
    have hf : ¬ (o = 2 ∧ n < l.length) → putT l (.two o n a b) = .two o n (putT l a) (putT l b) := fun h => by
      rw [putT.eq_def]; simp only; rw [if_neg h]
    refine Spec.enter gTok P20 100 Tryd.func20 rfl (by kernel_rfl) ?_
    refine And.intro (fun h1 => ?_) (fun h1 => ?_)
    · refine .inl ⟨inR_i64 (by show _ ≤ n ∧ n ≤ _; omega), fun hm => And.intro (fun h2 => ?_) (fun h2 => ?_)⟩
      · rw [List.length_map] at h2
        exact ⟨_, l, tpv, rfl, hn.1, h2, fun x hx => retE (le_tpv x (putT_var h1 h2 hx))⟩
      · rw [List.length_map] at h2
        rw [hf fun h => h2 h.2]
        refine fun _ => SW.rounds gTok P20 (by kernel_rfl) (N := 60) 3 ?_
        refine And.intro (fun _ => ?_) (fun h => absurd (show (0 : Int) < 2 by decide) h)
        refine ⟨T, [a, b], tpv, rfl, (show (0 : Int) ≤ 0 by decide), (show (0 : Int) < 2 by decide), fun x hx => ?_⟩
        obtain rfl : a = x := Option.some.inj hx
        refine ⟨[], nofun, iha.use ⟨⟨rfl, rfl, rfl, trivial⟩, rfl, trivial⟩ rfl rfl ?_⟩
        refine And.intro (fun _ => ?_) (fun h => absurd (show (1 : Int) < 2 by decide) h)
        refine ⟨T, [a, b], tpv, rfl, (show (0 : Int) ≤ 1 by decide), (show (1 : Int) < 2 by decide), fun x hx => ?_⟩
        obtain rfl : b = x := Option.some.inj hx
        refine ⟨[], nofun, ihb.use ⟨⟨rfl, rfl, rfl, trivial⟩, rfl, trivial⟩ rfl rfl ?_⟩
        refine And.intro (fun h => absurd (show (2 : Int) < 2 from h) (by decide)) (fun _ => ?_)
        refine retE ?_
        exact ⟨rfl, rfl, rfl, trivial⟩
    · rw [hf fun h => h1 h.1]
      refine fun _ => SW.rounds gTok P20 (by kernel_rfl) (N := 60) 3 ?_
      refine And.intro (fun _ => ?_) (fun h => absurd (show (0 : Int) < 2 by decide) h)
      refine ⟨T, [a, b], tpv, rfl, (show (0 : Int) ≤ 0 by decide), (show (0 : Int) < 2 by decide), fun x hx => ?_⟩
      obtain rfl : a = x := Option.some.inj hx
      refine ⟨[], nofun, iha.use ⟨⟨rfl, rfl, rfl, trivial⟩, rfl, trivial⟩ rfl rfl ?_⟩
      refine And.intro (fun _ => ?_) (fun h => absurd (show (1 : Int) < 2 by decide) h)
      refine ⟨T, [a, b], tpv, rfl, (show (0 : Int) ≤ 1 by decide), (show (1 : Int) < 2 by decide), fun x hx => ?_⟩
      obtain rfl : b = x := Option.some.inj hx
      refine ⟨[], nofun, ihb.use ⟨⟨rfl, rfl, rfl, trivial⟩, rfl, trivial⟩ rfl rfl ?_⟩
      refine And.intro (fun h => absurd (show (2 : Int) < 2 from h) (by decide)) (fun _ => ?_)
      refine retE ?_
      exact ⟨rfl, rfl, rfl, trivial⟩

end Go.Proofs.YtnjmfedleimlmaaDoor.Pw

/- Lists of nodes that come in, opened; a heap that meets the condition of chapter 11's laws. -/
namespace Go.Proofs.YtnjmfedleimlmaaDoor.termLaid
open Go.ChangeShapes Go.WideShapes Go.ChangeAt Go.RowKit Go.Deep

def laidList : List (String × DataW Unit) := [("remontoire/term.all", Rows.laid_remontoire_term_all)]
def fuel : Nat := 2000

theorem door_met (os : Os) (args : Array Value) : laidMetH Tryd.prog laidList ((World.doorLaid Tryd.prog fuel os).forCall (fun _ _ => 0) ⟨#[], args, []⟩).memory :=
  laidMetH_of_parts3 (fuel := 8) (laidMet_of_run' 8 (by kernel_rfl) (by kernel_rfl)) (by kernel_rfl) (by kernel_rfl)
theorem of_laid {W : World} (_ : laidMetH Tryd.prog laidList W) : True := trivial

/-- nodes that came in: the list, where it lies, its capacity -/
abbrev In := List (Int × Int) × Option Addr × Nat
def InOk (x : In) : Prop := x.1.length ≤ 9223372036854775807 ∧ ∀ y ∈ x.1, (-9223372036854775808 ≤ y.1 ∧ y.1 ≤ 9223372036854775807) ∧ 0 ≤ y.2 ∧ y.2 ≤ 4294967295
section
variable {H : Type} {enc : TypeId × Value → H} {w : World} {base : Nat} {held : Bool}
set_option maxRecDepth 100000 in
theorem open_nodes {r : Reach} {b0 : Nat} {v : Value} {d : DataW H} {p : List MemPlace} (hv : Value.okWide Tryd.prog w r b0 22 v) (h : DataW.Trod enc Tryd.prog w base (fun _ => true) held 22 v d p) :
    ∃ x : In, v = .slice x.2.1 x.1.length x.2.2 ∧ InOk x ∧ NodesAt w x.2.1 x.1 w.heap.size := by
  obtain ⟨a0, len0, cap0, rfl⟩ := okWide_slice Tryd.underlying22 hv
  obtain ⟨fuel, hf⟩ := h
  rcases open_slice_pairs Tryd.underlying22 Tryd.underlying115 (by kernel_rfl) rfl rfl (by kernel_rfl) (by kernel_rfl) hf with ⟨hcs, _⟩ | ⟨a, len, cap, m, n, V0, V1, D0, D1, P0, P1, hcs, _, hl, hm, hmm, _, hx⟩
  · simp [Value.cells] at hcs
    obtain ⟨rfl, rfl, rfl⟩ := hcs
    exact ⟨([], none, 0), rfl, ⟨by simp, by simp⟩, fun i x hx => by simp at hx⟩
  · simp [Value.cells] at hcs
    obtain ⟨rfl, rfl, rfl⟩ := hcs
    simp only [if_true] at hmm
    subst hmm
    have hi : ∀ i, i < len0 → ∃ y : Int × Int, w.cell? (a.add (i * 2)) = some (.int .i64 y.1) ∧ w.cell? (a.add (i * 2 + 1)) = some (.int .u32 y.2) ∧ (-9223372036854775808 ≤ y.1 ∧ y.1 ≤ 9223372036854775807) ∧ 0 ≤ y.2 ∧ y.2 ≤ 4294967295 := fun i hi => by
      obtain ⟨h1, h2, h3, h4⟩ := hx i (by omega)
      obtain ⟨z, hz, _, hw⟩ := DataW.trod_int (show Tryd.prog.underlying _ = some (.int .i64) from Tryd.underlying3) h3
      obtain ⟨z', hz', _, hw'⟩ := DataW.trod_int (show Tryd.prog.underlying _ = some (.int .u32) from Tryd.underlying25) h4
      simp only [List.cons.injEq, and_true] at hz hz'
      exact ⟨(z, z'), hz ▸ h1, hz' ▸ h2, Go.bounds_i64 hw, Go.bounds_u32 hw'⟩
    obtain ⟨f, hf⟩ : ∃ f : Nat → Int × Int, ∀ i, i < len0 → w.cell? (a.add (i * 2)) = some (.int .i64 (f i).1) ∧ w.cell? (a.add (i * 2 + 1)) = some (.int .u32 (f i).2) ∧ (-9223372036854775808 ≤ (f i).1 ∧ (f i).1 ≤ 9223372036854775807) ∧ 0 ≤ (f i).2 ∧ (f i).2 ≤ 4294967295 := by
      classical
      exact ⟨fun i => if h : i < len0 then (hi i h).choose else (0, 0), fun i h => by dsimp only; rw [dif_pos h]; exact (hi i h).choose_spec⟩
    refine ⟨((List.range len0).map f, some a, m), by simp, ⟨by rw [List.length_map, List.length_range]; exact Nat.le_trans hl hm, fun y hy => ?_⟩, fun i x hx => ?_⟩
    · obtain ⟨i, hi, rfl⟩ := List.mem_map.1 hy
      exact (hf i (List.mem_range.1 hi)).2.2
    · simp only [List.getElem?_map, Option.map_eq_some_iff] at hx
      obtain ⟨j, hj, rfl⟩ := hx
      obtain ⟨hj1, rfl⟩ := List.getElem?_eq_some_iff.1 hj
      simp only [List.length_range] at hj1
      rw [List.getElem_range]
      have hf0 := hf 0 (by omega)
      have hfi := hf i hj1
      obtain ⟨b, off, spot⟩ := a
      have hs : spot = none := by simpa [Addr.add] using World.cell?_spot hf0.1
      subst hs
      have e : ∀ k, (⟨b, off, none⟩ : Addr).add k = ⟨b, off + k, none⟩ := fun k => by unfold Addr.add; split <;> simp_all
      rw [e, e] at hfi
      have hlt := World.block_lt_of_cell? w _ hfi.1
      exact ⟨b, off, rfl, hlt, hlt, hfi.1, by have := hfi.2.1; rwa [← Nat.add_assoc] at this⟩
end

end Go.Proofs.YtnjmfedleimlmaaDoor.termLaid

/- What comes in to chapter 11's laws, opened; the table of all words. -/
namespace Go.Proofs.YtnjmfedleimlmaaDoor.Pw
open Go Go.RowKit

def NodeOk (y : Int × Int) : Prop := (-9223372036854775808 ≤ y.1 ∧ y.1 ≤ 9223372036854775807) ∧ 0 ≤ y.2 ∧ y.2 ≤ 4294967295
def U32Ok (v : Int) : Prop := 0 ≤ v ∧ v ≤ 4294967295
theorem inR_u32' {z : Int} (h : InR .u32 z) : 0 ≤ z ∧ z ≤ 4294967295 := by unfold InR Ev.kmin Ev.kmax at h; simp only [IntKind.signed, IntKind.bits] at h; simpa using h
theorem inR_i64' {z : Int} (h : InR .i64 z) : -9223372036854775808 ≤ z ∧ z ≤ 9223372036854775807 := by unfold InR Ev.kmin Ev.kmax at h; simp only [IntKind.signed, IntKind.bits] at h; simpa using h
set_option maxRecDepth 100000 in
theorem opNodes : Op Tryd.prog 22 (SLs 2 16 nodeP NodeOk) :=
  opList (opSlice (opAgg (Ss := [SInt .i64, SInt .u32]) Tryd.underlying115 ⟨rfl, opInt Tryd.underlying3 (by kernel_rfl), (show _ = _ by kernel_rfl), opInt Tryd.underlying25 (by kernel_rfl), (show _ = _ by kernel_rfl)⟩) 2 16 (by kernel_rfl) Tryd.underlying22 (by kernel_rfl) (by decide) (by kernel_rfl)) fun x ⟨xs, h, e⟩ => by
    obtain ⟨_, _, rfl, ⟨a, ha, rfl⟩, h1⟩ := all2_cons h
    obtain ⟨_, _, rfl, ⟨b, hb, rfl⟩, h2⟩ := all2_cons h1
    obtain rfl := all2_nil h2
    exact ⟨(a, b), ⟨inR_i64' ha, inR_u32' hb⟩, e⟩
theorem opWords : Op Tryd.prog 23 (SLs 1 4 (PV.int .u32) U32Ok) :=
  opList (opSlice (opInt Tryd.underlying25 (by kernel_rfl)) 1 4 (by kernel_rfl) Tryd.underlying23 (by kernel_rfl) (by decide) (by kernel_rfl)) fun x ⟨a, ha, e⟩ => ⟨a, inR_u32' ha, e⟩
theorem immT {W : World} (h : laidMetH Tryd.prog termLaid.laidList W) : ImmOk gT (In W) W :=
  immOk_laid (laid := termLaid.laidList) (by kernel_rfl) h fun x hx => by
    obtain rfl : x = (0, [.lit .u32 0, .lit .u32 4294967295]) := List.mem_singleton.1 hx
    exact ⟨"remontoire/term.all", _, 85, List.mem_singleton.2 rfl, by kernel_rfl, by kernel_rfl, by kernel_rfl, nofun⟩

end Go.Proofs.YtnjmfedleimlmaaDoor.Pw

/- Calls that are given slices of the caller's own blocks. -/
namespace Go.Proofs.YtnjmfedleimlmaaDoor.Pw
open Go Go.RowKit

/-- a block's elements -/
def elB (b : PBlk) (n : Nat) (es : List PV) : Prop := match b with
  | ⟨k, _, m, md, live, cs⟩ => bif live && notP md && Nat.beq m n then (match k with
    | .dyn => cs = es
    | .arr => elemsOf true m (.stat cs) = some es ∨ (m = 1 ∧ elemsOf false m (.stat cs) = some es)
    | .loc => False) else False
/-- what a value says is said by another one; a slice of a block of fz as a slice that doesn't change -/
def leB1 (S : List PBlk) (fz : List Nat) (x y : PV) : Prop := match x, y with
  | .wref l, .sl n es => bif inL l fz then need S[l]? fun b => elB b n es else False
  | x, y => le1 x y
def leB (S : List PBlk) (fz : List Nat) (x y : PV) : Prop := match x, y with
  | .wref l, .sl n es => bif inL l fz then need S[l]? fun b => elB b n es else False
  | .agg cs, .agg ds => leL (leB1 S fz) cs ds
  | x, y => leK x y
def okZ (S : List PBlk) (fz : List Nat) : Bool := fz.all fun l => match S[l]? with
  | some b => b.live && notP b.m
  | none => false
def frzM (b : Bool) (m : Md) : Md := bif b then .r else m
def frzS (fz : List Nat) (S : List PBlk) : List PBlk := mapM frzM fz 0 S
def PV.flat1 : PV → Bool
  | .lit .. | .int .. | .tt | .ff | .bool _ | .val _ | .nil => true
  | _ => false
def PV.flatA : PV → Bool
  | .agg cs => cs.all PV.flat1
  | x => x.flat1
def PV.flatP : PV → Bool
  | .tup cs => cs.all PV.flatA
  | x => x.flatA

section
variable {w w' : World} {I I' : Nat → Prop} {β β' : Places} {G : Gx} {S : List PBlk}
theorem flat1_ok {x : PV} {v : Value} (hf : x.flat1 = true) (h : x.Is w I β v) : x.Is w' I' β' v := by
  cases x <;> first | (cases hf; done) | (simp only [PV.Is] at h ⊢; exact h)
theorem flatL_ok {r : PV → Bool} (hr : ∀ x v, r x = true → x.Is w I β v → x.Is w' I' β' v) : ∀ {cs : List PV} {vs : List Value}, cs.all r = true → IsL w I cs β vs → IsL w' I' cs β' vs
  | [], [], _, _ => by simp only [IsL]
  | c :: cs, v :: vs, hf, h => by
    simp only [List.all_cons, Bool.and_eq_true] at hf
    simp only [IsL] at h ⊢
    exact ⟨hr c v hf.1 h.1, flatL_ok hr hf.2 h.2⟩
  | [], _ :: _, _, h => by simp only [IsL] at h
  | _ :: _, [], _, h => by simp only [IsL] at h
theorem flatA_ok {x : PV} {v : Value} (hf : x.flatA = true) (h : x.Is w I β v) : x.Is w' I' β' v := by
  unfold PV.flatA at hf
  split at hf
  · simp only [PV.Is] at h ⊢
    obtain ⟨vs, rfl, h⟩ := h
    exact ⟨vs, rfl, flatL_ok (fun x v => flat1_ok) hf h⟩
  · exact flat1_ok hf h
theorem flatP_ok {x : PV} {v : Value} (hf : x.flatP = true) (h : x.Is w I β v) : x.Is w' I' β' v := by
  unfold PV.flatP at hf
  split at hf
  · simp only [PV.Is] at h ⊢
    obtain ⟨vs, rfl, h⟩ := h
    exact ⟨vs, rfl, flatL_ok (fun x v => flatA_ok) hf h⟩
  · exact flatA_ok hf h

/-- what is not changed while a call is under way -/
def LentI (I : Nat → Prop) (β : Places) (S : List PBlk) (fz : List Nat) (g : Nat) : Prop := I g ∨ ∃ l b p o, l ∈ fz ∧ S[l]? = some b ∧ b.live = true ∧ notP b.m = true ∧ β l = some p ∧ p.a = some (g, o)
theorem okZ_ok {fz : List Nat} (h : okZ S fz = true) {l : Nat} (hl : l ∈ fz) : ∃ b, S[l]? = some b ∧ b.live = true ∧ notP b.m = true := by
  have := List.all_eq_true.1 h l hl
  split at this
  · rename_i b hb
    simp only [Bool.and_eq_true] at this
    exact ⟨b, hb, this⟩
  · cases this
theorem lent_sl {fz : List Nat} (hH : HeapOk I β S w) {l : Nat} {b : PBlk} {n : Nat} {es : List PV} (hl : l ∈ fz) (hb : S[l]? = some b) (h : elB b n es) {v : Value} (hx : (PV.wref l).Is w I β v) : (PV.sl n es).Is w (LentI I β S fz) no v := by
  obtain ⟨k, ty, m, md, live, cs⟩ := b
  unfold elB at h
  replace h := bif_ok h
  obtain ⟨hc, h⟩ := h
  simp only [Bool.and_eq_true] at hc
  obtain ⟨⟨hlive, hm⟩, hn⟩ := hc
  obtain rfl := Nat.eq_of_beq_eq_true hn
  simp only [PV.Is] at hx ⊢
  obtain ⟨p, hp, rfl⟩ := hx
  have hI : ∀ g, I g → LentI I β S fz g := fun g h => .inl h
  have hgI : ∀ {g o : Nat}, p.a = some (g, o) → LentI I β S fz g := fun {g o} ha => .inr ⟨l, _, p, o, hl, hb, hlive, hm, hp, ha⟩
  cases k with
  | dyn =>
    obtain ⟨hn0, hlen, hle, hmx, hor⟩ := whole_dyn hH hb hlive rfl hp
    subst h
    rcases hor with ⟨ha, hc0, hw⟩ | ⟨g, arr, fr, ha, hw, hhg, hes, hown, has⟩
    · have h0 : cs = [] := List.eq_nil_of_length_eq_zero (by simp only at hlen; omega)
      subst h0
      exact ⟨none, 0, by rw [hw]; rfl, Nat.le_refl _, Nat.zero_le _, (fun _ _ e => by cases e), fun hn => absurd rfl hn⟩
    · simp only at hlen
      exact ⟨some ⟨g, 0, none⟩, p.cap, by rw [hw, hlen], by omega, by omega, (fun g' o' e => by cases e; exact IsEs.mono hI (fun _ _ => rfl) _ _ _ _ rfl hes), fun _ => ⟨g, 0, rfl, hgI ha, hn0⟩⟩
  | arr =>
    obtain ⟨g, arr, fr, ha, hw, hhg, hca, hown, hlen, hle, hmx, has, hn0⟩ := whole_arr hH hb hlive rfl hp
    simp only at hlen has hn0 hca
    have hsz : p.len * m ≤ arr.size := by rw [has]; exact Nat.mul_le_mul_right _ hle
    have hxl : (arr.toList.take (p.len * m)).length = p.len * m := by rw [List.length_take, Array.length_toList]; omega
    have hsrc : SrcIs w I β m (.stat cs) (arr.toList.take (p.len * m)) := by
      refine ⟨by rw [hxl, hlen], fun j c hj => ?_⟩
      obtain ⟨u, hu, hi, h1⟩ := hca j c hj
      have hj' : j < p.len * m := by rw [← hlen]; exact (List.getElem?_eq_some_iff.1 hj).1
      exact ⟨u, by rw [List.getElem?_take, if_pos hj']; simpa using hu, hi, h1⟩
    have key : es.length = p.len ∧ RowIs w I es m (arr.toList.take (p.len * m)) := by
      rcases h with h | ⟨h1, h⟩
      · exact elemsOf_ok hn0 (.inl rfl) h hsrc hxl
      · exact elemsOf_ok hn0 (.inr h1) h hsrc hxl
    obtain ⟨e1, e2⟩ := key
    have hEs : IsEs w I es m g 0 := e2.at (fun j v hj => by
      have := take_at hhg 0 (p.len * m) j v (by simpa using hj)
      simpa using this) (fun _ h => h) (fun _ _ => rfl)
    exact ⟨some ⟨g, 0, none⟩, p.cap, by rw [hw, e1], by omega, by omega, fun g' o' e => by cases e; exact IsEs.mono hI (fun _ _ => rfl) _ _ _ _ rfl hEs, fun _ => ⟨g, 0, rfl, hgI ha, hn0⟩⟩
  | loc => exact h.elim
theorem lent_1 {fz : List Nat} (hH : HeapOk I β S w) {x y : PV} {v : Value} (h1 : leB1 S fz x y) (hu : y.uses = []) (hx : x.Is w I β v) : y.Is w (LentI I β S fz) no v := by
  unfold leB1 at h1
  split at h1
  · replace h1 := bif_ok h1
    obtain ⟨hl, h1⟩ := h1
    replace h1 := need_ok h1
    obtain ⟨b, hb, h1⟩ := h1
    exact lent_sl hH (inL_iff.1 hl) hb h1 hx
  · exact PV.Is.mono (fun _ h => .inl h) (fun _ _ => rfl) y β no v (fun l p hl => by rw [hu] at hl; cases hl) (le1_ok h1 w I β v hx)
theorem lent_l1 {fz : List Nat} (hH : HeapOk I β S w) : ∀ {args args' : List PV} {vals : List Value}, leL (leB1 S fz) args args' → usesL args' = [] → IsL w I args β vals → IsL w (LentI I β S fz) args' no vals
  | [], [], [], _, _, _ => by simp only [IsL]
  | x :: xs, y :: ys, v :: vs, h, hu, hx => by
    simp only [IsL] at hx ⊢
    have hu' : y.uses = [] ∧ usesL ys = [] := by simpa [usesL] using hu
    exact ⟨lent_1 hH h.1 hu'.1 hx.1, lent_l1 hH h.2 hu'.2 hx.2⟩
  | [], _ :: _, _, h, _, _ => h.elim
  | _ :: _, [], _, h, _, _ => h.elim
  | [], [], _ :: _, _, _, hx => by simp only [IsL] at hx
  | _ :: _, _ :: _, [], _, _, hx => by simp only [IsL] at hx
theorem lent_args {fz : List Nat} (hH : HeapOk I β S w) : ∀ {args args' : List PV} {vals : List Value}, leL (leB S fz) args args' → usesL args' = [] → IsL w I args β vals → IsL w (LentI I β S fz) args' no vals
  | [], [], [], _, _, _ => by simp only [IsL]
  | x :: xs, y :: ys, v :: vs, h, hu, hx => by
    simp only [IsL] at hx ⊢
    have hu' : y.uses = [] ∧ usesL ys = [] := by simpa [usesL] using hu
    refine ⟨?_, lent_args hH h.2 hu'.2 hx.2⟩
    have h1 := h.1
    unfold leB at h1
    split at h1
    · obtain ⟨hl, h1⟩ := bif_ok h1
      obtain ⟨b, hb, h1⟩ := need_ok h1
      exact lent_sl hH (inL_iff.1 hl) hb h1 hx.1
    · have hx1 := hx.1
      simp only [PV.Is] at hx1 ⊢
      obtain ⟨vs', rfl, hx1⟩ := hx1
      exact ⟨vs', rfl, lent_l1 hH h1 (by simpa [PV.uses] using hu'.1) hx1⟩
    · exact PV.Is.mono (fun _ h => .inl h) (fun _ _ => rfl) y β no v (fun l p hl => by rw [hu'.1] at hl; cases hl) (leK_ok h1 w I β v hx.1)
  | [], _ :: _, _, h, _, _ => h.elim
  | _ :: _, [], _, h, _, _ => h.elim
  | [], [], _ :: _, _, _, hx => by simp only [IsL] at hx
  | _ :: _, _ :: _, [], _, _, hx => by simp only [IsL] at hx
theorem lent_lt {fz : List Nat} (hH : HeapOk I β S w) (hM : ImmOk G I w) {g : Nat} (h : LentI I β S fz g) : g < w.heap.size := by
  rcases h with h | ⟨l, b, p, o, _, hb, hlive, _, hp, ha⟩
  · exact hM.imm g h
  · exact hH.lives_lt ⟨l, b, p, o, hb, hlive, hp, ha⟩
theorem lent_imm {fz : List Nat} (hH : HeapOk I β S w) (hM : ImmOk G I w) : ImmOk G (LentI I β S fz) w :=
  ⟨fun g hg => lent_lt hH hM hg, fun g cs hg => ⟨.inl (hM.tab g cs hg).1, IsAt.mono (fun _ h => .inl h) (fun _ _ => rfl) _ _ _ rfl (hM.tab g cs hg).2⟩⟩
theorem no_wr (g : Nat) : ¬ Wr no ([] : List PBlk) g := fun ⟨l, b, p, o, h1, _⟩ => by simp at h1

/-- blocks that are lent, and may be kept: they are not changed any more -/
theorem PureF.useF {f : FuncId} {args args' : List PV} {r : PV} {K : PV → List PBlk → Prop} (h : PureF G f args' r) (fz : List Nat) (hz : okZ S fz = true) (hle : leL (leB S fz) args args') (hu : usesL args' = []) (hr : r.uses = []) (hK : frB (frzS fz S) (K r)) : Spec G f args S [] K := by
  refine Spec.intro h.run.1 fun I β w vals hH hM hA => ?_
  have h0 : HeapOk (LentI I β S fz) no ([] : List PBlk) w := ⟨fun _ _ => rfl, fun l b hl => by simp at hl⟩
  refine (h.run.2 _ no w vals h0 (lent_imm hH hM) (lent_args hH hle hu hA)).mono fun e w' ⟨v, r', S', I', β', he, hr', hi, _, hM', hE, _, _⟩ => ?_
  subst hr'
  have hold : ∀ g, g < w.heap.size → w'.heap[g]? = w.heap[g]? := fun g hg => hE.block g hg (no_wr g)
  have hI' : ∀ g, g < w.heap.size → I' g → LentI I β S fz g := fun g hg h => (hE.new g hg h).elim id fun h => absurd h (no_wr g)
  have hII : ∀ g, I g → I' g := fun g h => hE.imm g (.inl h)
  have hget : ∀ (l : Nat) (b : PBlk), (frzS fz S)[l]? = some b → ∃ b0, S[l]? = some b0 ∧ b = { b0 with m := frzM (inL l fz) b0.m } := fun l b hb => by
    unfold frzS at hb
    rw [mapM_get, Option.map_eq_some_iff] at hb
    obtain ⟨b0, h1, h2⟩ := hb
    rw [Nat.zero_add] at h2
    exact ⟨b0, h1, h2.symm⟩
  refine ⟨v, r', frzS fz S, I', β, he, frB_ok hK, uses_none hr hi, ⟨fun l hl => hH.far l (by unfold frzS at hl; rw [mapM_len] at hl; exact hl), fun l b hb hlive => ?_⟩, hM', ⟨hE.os, hE.tape, hE.output, hE.size, fun g hg _ => hold g hg, fun g _ h => ?_, hII, fun g hg h => ?_⟩, by unfold frzS; rw [mapM_len]; exact Nat.le_refl _, fun _ _ _ => rfl⟩
  · obtain ⟨b0, hb0, rfl⟩ := hget l b hb
    obtain ⟨p, hp, hk⟩ := hH.blk l b0 hb0 hlive
    have own : ∀ {g o : Nat} {fr : Nat × Nat}, p.a = some (g, o) → g < w.heap.size → Own I β S l g fr b0 → Own I' β (frzS fz S) l g fr { b0 with m := frzM (inL l fz) b0.m } := fun {g o fr} ha hg ho => by
      refine ⟨fun hm => ?_, fun hm => ?_⟩
      · have hm0 : inL l fz = false ∧ b0.m ≠ .r := by
          cases hc : inL l fz with
          | true => simp only [hc, frzM, cond_true, ne_eq, not_true_eq_false] at hm
          | false => exact ⟨rfl, by simpa only [hc, frzM, cond_false] using hm⟩
        obtain ⟨h1, h2, h3⟩ := ho.1 hm0.2
        refine ⟨h1, fun hI => ?_, fun l2 b2 hne hl2 hlive2 p2 g2 o2 hp2 ha2 => ?_⟩
        · rcases hI' g hg hI with hI | ⟨l2, b2, p2, o2, hl2, hb2, hlive2, _, hp2, ha2⟩
          · exact h2 hI
          · refine h3 l2 b2 (fun e => ?_) hb2 hlive2 p2 g o2 hp2 ha2 rfl
            subst e
            rw [inL_iff.2 hl2] at hm0
            cases hm0.1
        · obtain ⟨b3, hb3, rfl⟩ := hget l2 b2 hl2
          exact h3 l2 b3 hne hb3 hlive2 p2 g2 o2 hp2 ha2
      · cases hc : inL l fz with
        | true =>
          obtain ⟨b1, hb1, k1, k2⟩ := okZ_ok hz (inL_iff.1 hc)
          rw [hb0] at hb1; cases hb1
          exact hE.imm g (.inr ⟨l, b0, p, o, inL_iff.1 hc, hb0, k1, k2, hp, ha⟩)
        | false => exact hII g (ho.2 (by simpa only [hc, frzM, cond_false] using hm))
    have hwI : ∀ g, I g → w'.heap[g]? = w.heap[g]? := fun g hg => hold g (hM.imm g hg)
    refine ⟨p, hp, ?_⟩
    split at hk
    · rename_i hkk
      obtain ⟨g, o, arr, ty, fr, h1, h2, h3, ho⟩ := hk
      have hg := lt_of_heap h2
      simp only [hkk]
      exact ⟨g, o, arr, ty, fr, h1, (hold g hg).trans h2, CellsAt.mono hII hwI (fun _ _ h => h) h3, own h1 hg ho⟩
    · rename_i hkk
      obtain ⟨g, arr, fr, h1, h2, h3, ho, h4⟩ := hk
      have hg := lt_of_heap h2
      simp only [hkk]
      exact ⟨g, arr, fr, h1, (hold g hg).trans h2, CellsAt.mono hII hwI (fun _ _ h => h) h3, own h1 hg ho, h4⟩
    · rename_i hkk
      obtain ⟨h1, hk⟩ := hk
      simp only [hkk]
      refine ⟨h1, ?_⟩
      rcases hk with h | ⟨g, arr, fr, h2, h3, h4, ho, h5⟩
      · exact .inl h
      · have hg := lt_of_heap h3
        exact .inr ⟨g, arr, fr, h2, (hold g hg).trans h3, IsEs.mono hII hwI _ _ _ _ (hold g hg) h4, own h2 hg ho, h5⟩
  · obtain ⟨l, b, p, o, h1, h2, h3, h4, h5⟩ := h
    obtain ⟨b0, hb0, rfl⟩ := hget l b h1
    refine ⟨l, b0, p, o, hb0, h2, ?_, h4, h5⟩
    cases hc : inL l fz with
    | true => simp only [hc, frzM, cond_true] at h3; cases h3
    | false => simpa only [hc, frzM, cond_false] using h3
  · rcases hI' g hg h with h | ⟨l, b, p, o, hl, hb, hlive, hm, hp, ha⟩
    · exact .inl h
    · cases hmm : b.m with
      | w => exact .inr ⟨l, b, p, o, hb, hlive, hmm, hp, ha⟩
      | p => rw [hmm] at hm; cases hm
      | r =>
        obtain ⟨arr, ty, fr, _, ho⟩ := (hH.blk l b hb hlive).place hp ha
        exact .inl (ho.2 hmm)
/-- blocks that are lent to what yields numbers -/
theorem PureF.useB {f : FuncId} {args args' : List PV} {r : PV} {K : PV → List PBlk → Prop} (h : PureF G f args' r) (fz : List Nat) (hle : leL (leB S fz) args args') (hu : usesL args' = []) (hr : r.flatP = true) (hK : K r S) : Spec G f args S [] K := by
  refine Spec.intro h.run.1 fun I β w vals hH hM hA => ?_
  have h0 : HeapOk (LentI I β S fz) no ([] : List PBlk) w := ⟨fun _ _ => rfl, fun l b hl => by simp at hl⟩
  refine (h.run.2 _ no w vals h0 (lent_imm hH hM) (lent_args hH hle hu hA)).mono fun e w' ⟨v, r', S', I', β', he, hr', hi, _, hM', hE, _, _⟩ => ?_
  subst hr'
  have hold : ∀ g, g < w.heap.size → w'.heap[g]? = w.heap[g]? := fun g hg => hE.block g hg (no_wr g)
  have hwI : ∀ g, I g → w'.heap[g]? = w.heap[g]? := fun g hg => hold g (hM.imm g hg)
  refine ⟨v, r', S, I, β, he, hK, flatP_ok hr hi, ⟨hH.far, fun l b hb hlive => (hH.blk l b hb hlive).mono (fun _ h => h) hwI (fun _ _ h => h) fun p g o hp ha => ?_⟩, ⟨fun g hg => Nat.lt_of_lt_of_le (hM.imm g hg) hE.size, fun g cs hg => ⟨(hM.tab g cs hg).1, IsAt.mono (fun _ h => h) hwI _ _ _ (hwI g (hM.tab g cs hg).1) (hM.tab g cs hg).2⟩⟩,
    ⟨hE.os, hE.tape, hE.output, hE.size, fun g hg _ => hold g hg, fun g _ h => h, fun _ h => h, fun _ _ h => .inl h⟩, Nat.le_refl _, fun _ _ _ => rfl⟩
  obtain ⟨arr, ty, fr, hh, ho⟩ := (hH.blk l b hb hlive).place hp ha
  exact ⟨hold g (lt_of_heap hh), fun hr => ⟨(ho.1 hr).2.1, (ho.1 hr).2.2⟩⟩
end

end Go.Proofs.YtnjmfedleimlmaaDoor.Pw

/- TermPuts over values. -/
namespace Go.Proofs.YtnjmfedleimlmaaDoor.Pw
open Go Go.RowKit

theorem ofOk_wf {l : List (Int × Int)} (h : ¬ ¬ ofOk l = true) : (ofX l).shaped = true := (ofOk_shaped (Classical.not_not.1 h)).2

theorem putT_wf {l : List T} (hl : ∀ t ∈ l, t.Wf) : ∀ {t : T}, t.Wf → (putT l t).Wf
  | .leaf o n, h => by
    unfold putT
    split
    · cases hx : l[n.toNat]? with
      | none => exact h
      | some x => exact hl x (List.mem_of_getElem? hx)
    · exact h
  | .one o n a, h => by
    unfold putT
    split
    · cases hx : l[n.toNat]? with
      | none => exact h.1
      | some x => exact hl x (List.mem_of_getElem? hx)
    · exact ⟨h.1, putT_wf hl h.2⟩
  | .two o n a b, h => by
    unfold putT
    split
    · cases hx : l[n.toNat]? with
      | none => exact h.1
      | some x => exact hl x (List.mem_of_getElem? hx)
    · exact ⟨h.1, putT_wf hl h.2.1, putT_wf hl h.2.2⟩
set_option maxRecDepth 10000 in
/-- what is put has the values of its words -/
theorem put_eval {x y : T} {v u : Int} {ws : List Int} (hv : x.evalT ws = some v) (hu : y.evalT ws = some u) : ∀ {t : T}, t.shaped = true → t.Wf → (putT [x, y] t).evalT ws = t.evalT (v :: u :: ws.drop 2)
  | .leaf o n, hs, hwf => by
    have hn : 0 ≤ n ∧ n ≤ 4294967295 := hwf
    unfold putT
    simp only [T.evalT, List.length_cons, List.length_nil]
    unfold leafV
    split
    · rename_i h
      obtain ⟨rfl, h2⟩ := h
      have h01 : n = 0 ∨ n = 1 := by omega
      rcases h01 with rfl | rfl
      · simpa using hv
      · simpa using hu
    · rename_i h
      simp only [T.evalT]
      unfold leafV
      split
      · rfl
      · rename_i h1
        have ho : o = 2 := by
          simp only [T.shaped, goodN, decide_eq_true_eq, needsN] at hs
          obtain ⟨h2, h3, h4, _⟩ := hs
          by_cases k1 : o < 1 ∨ 17 < o
          · omega
          · rw [if_neg k1] at h4
            by_cases k2 : o < 3
            · omega
            · rw [if_neg k2] at h4
              by_cases k3 : o < 5
              · rw [if_pos k3] at h4; omega
              · rw [if_neg k3] at h4; omega
        subst ho
        obtain ⟨k, rfl⟩ : ∃ k : Nat, n = k + 2 := ⟨(n - 2).toNat, by omega⟩
        rw [show ((k : Int) + 2).toNat = k + 1 + 1 by omega, List.getElem?_cons_succ, List.getElem?_cons_succ, List.getElem?_drop, show 2 + k = k + 1 + 1 by omega]
  | .one o n a, hs, hwf => by
    obtain ⟨ho, ha⟩ := shaped_one hs
    unfold putT
    rw [if_neg (by omega)]
    simp only [T.evalT]
    rw [put_eval hv hu ha hwf.2]
  | .two o n a b, hs, hwf => by
    obtain ⟨ho, ha, hb⟩ := shaped_two hs
    unfold putT
    rw [if_neg (by omega)]
    simp only [T.evalT]
    rw [put_eval hv hu ha hwf.2.1, put_eval hv hu hb hwf.2.2]

set_option maxRecDepth 10000 in
theorem TermPuts_pure (la lb lc : List (Int × Int)) (ws : List Int) (ha : la.length ≤ maxLen) (hb : lb.length ≤ maxLen) (hc : lc.length ≤ maxLen) (hw : WordsOk ws) (hw4 : ws.length * 4 ≤ reachBytes) (wa : (ofX la).Wf) (wb : (ofX lb).Wf) (wc : (ofX lc).Wf) :
    PureF gT 5 [.sl 2 (la.map nodeP), .sl 2 (lb.map nodeP), .sl 2 (lc.map nodeP), .sl 1 (wordsP ws)] .tt := by
  refine Spec.enter gTok P5 100 Tryd.func5 rfl (by kernel_rfl) ?_
  refine ⟨[], nofun, anchor_pure.use trivial rfl rfl ?_⟩
  refine ⟨[], nofun, (of_pure la ha).use ⟨rfl, trivial⟩ rfl rfl ?_⟩
  refine ⟨[], nofun, (of_pure lb hb).use ⟨rfl, trivial⟩ rfl rfl ?_⟩
  refine ⟨[], nofun, (of_pure lc hc).use ⟨rfl, trivial⟩ rfl rfl ?_⟩
  refine And.intro (fun h1 => ?_) (fun h1 => And.intro (fun h2 => ?_) (fun h2 => And.intro (fun h3 => ?_) (fun h3 => ?_)))
  · exact retE trivial
  · exact retE trivial
  · exact retE trivial
  have ta := ofOk_wf h1
  refine ⟨[], nofun, (eval_pure ws hw _ wb).use ⟨⟨rfl, rfl, rfl, trivial⟩, rfl, trivial⟩ rfl rfl ?_⟩
  refine ⟨[], nofun, (eval_pure ws hw _ wc).use ⟨⟨rfl, rfl, rfl, trivial⟩, rfl, trivial⟩ rfl rfl ?_⟩
  refine And.intro (fun h4 => ?_) (fun h4 => And.intro (fun h5 => ?_) (fun h5 => ?_))
  · exact retE trivial
  · exact retE trivial
  obtain ⟨v, hv⟩ : ∃ v, (ofX lb).evalT ws = some v := Option.isSome_iff_exists.1 (Classical.not_not.1 h4)
  obtain ⟨u, hu⟩ : ∃ v, (ofX lc).evalT ws = some v := Option.isSome_iff_exists.1 (Classical.not_not.1 h5)
  refine fun hm => ?_
  have hwl : (wordsP ws).length = ws.length := List.length_map ..
  refine ⟨show (0 : Int) ≤ min 2 ((wordsP ws).length : Int) by omega, show min 2 ((wordsP ws).length : Int) ≤ ((wordsP ws).length : Int) by omega, Int.le_refl _, ?_⟩
  have hlen : (List.take (((wordsP ws).length : Int) - min 2 ((wordsP ws).length : Int)).toNat (List.drop (min 2 ((wordsP ws).length : Int)).toNat (wordsP ws))).length = ws.length - min 2 ws.length := by
    rw [List.length_take, List.length_drop, hwl]; omega
  have hel : List.take (((wordsP ws).length : Int) - min 2 ((wordsP ws).length : Int)).toNat (List.drop (min 2 ((wordsP ws).length : Int)).toNat (wordsP ws)) = wordsP (ws.drop 2) := by
    rw [List.take_of_length_le (by rw [List.length_drop, hwl]; omega), hwl]
    unfold wordsP
    rw [← List.map_drop]
    congr 1
    rcases Nat.lt_or_ge ws.length 2 with h | h
    · rw [List.drop_eq_nil_of_le (by omega), List.drop_eq_nil_of_le (by omega)]
    · congr 1; omega
  refine ⟨show 2 + (List.take (((wordsP ws).length : Int) - min 2 ((wordsP ws).length : Int)).toNat (List.drop (min 2 ((wordsP ws).length : Int)).toNat (wordsP ws))).length ≤ maxLen by rw [hlen]; have := hw.1; unfold maxLen; omega,
    show (2 + (List.take (((wordsP ws).length : Int) - min 2 ((wordsP ws).length : Int)).toNat (List.drop (min 2 ((wordsP ws).length : Int)).toNat (wordsP ws))).length) * 4 ≤ 140737488355328 by rw [hlen]; unfold reachBytes at hw4; omega, ?_⟩
  refine ⟨[], nofun, (put_pure [ofX lb, ofX lc] (show 2 ≤ maxLen by unfold maxLen; omega) _ wa).useF [5] rfl ⟨⟨rfl, rfl, rfl, trivial⟩, .inl rfl, trivial⟩ rfl rfl ?_⟩
  have hpw : (putT [ofX lb, ofX lc] (ofX la)).Wf := putT_wf (by intro t ht; simp only [List.mem_cons, List.not_mem_nil, or_false] at ht; rcases ht with rfl | rfl <;> assumption) wa
  refine ⟨[], nofun, (eval_pure ws hw _ hpw).use ⟨⟨rfl, rfl, rfl, trivial⟩, rfl, trivial⟩ rfl rfl ?_⟩
  have hv0 := T.evalT_bd hw wb hv
  have hu0 := T.evalT_bd hw wc hu
  have hw2 : WordsOk (v :: u :: ws.drop 2) := by
    refine ⟨by have := hw.1; rw [List.length_cons, List.length_cons, List.length_drop]; omega, fun z hz => ?_⟩
    rcases List.mem_cons.1 hz with rfl | hz
    · exact hv0
    rcases List.mem_cons.1 hz with rfl | hz
    · exact hu0
    · exact hw.2 z (List.mem_of_mem_drop hz)
  refine ⟨[], nofun, (eval_pure (v :: u :: ws.drop 2) hw2 _ wa).useB [4] ⟨⟨rfl, rfl, rfl, trivial⟩, show [PV.int .u32 (((ofX lb).evalT ws).getD 0), .int .u32 (((ofX lc).evalT ws).getD 0)] ++ List.take (((wordsP ws).length : Int) - min 2 ((wordsP ws).length : Int)).toNat (List.drop (min 2 ((wordsP ws).length : Int)).toNat (wordsP ws)) = wordsP (v :: u :: ws.drop 2) by rw [hel, hv, hu]; rfl, trivial⟩ rfl rfl ?_⟩
  rw [put_eval hv hu ta wa]
  refine And.intro (fun _ => ?_) (fun h => absurd Iff.rfl h)
  exact retE rfl

end Go.Proofs.YtnjmfedleimlmaaDoor.Pw

/- The laws of chapter 11 over values, as their frames want them. -/
namespace Go.Proofs.YtnjmfedleimlmaaDoor.Pw
open Go Go.RowKit

abbrev SNodes := SLs 2 16 nodeP NodeOk
abbrev SWords := SLs 1 4 (PV.int .u32) U32Ok
theorem wordsOk_of {ws : List Int} (h1 : ws.length ≤ maxLen) (h2 : ∀ v ∈ ws, U32Ok v) : WordsOk ws := ⟨by unfold maxLen at h1; omega, h2⟩
theorem wf_of {l : List (Int × Int)} (h : ∀ y ∈ l, NodeOk y) : (ofX l).Wf := ofX_wf l fun y hy => (h y hy).2
theorem TermPuts_pure' (x0 : PV) (s0 : SNodes x0) (x1 : PV) (s1 : SNodes x1) (x2 : PV) (s2 : SNodes x2) (x3 : PV) (s3 : SWords x3) : PureF gT 5 [x0, x1, x2, x3] .tt := by
  obtain ⟨la, ⟨ha, _⟩, wa, rfl⟩ := s0
  obtain ⟨lb, ⟨hb, _⟩, wb, rfl⟩ := s1
  obtain ⟨lc, ⟨hc, _⟩, wc, rfl⟩ := s2
  obtain ⟨ws, ⟨hw, hw4⟩, ww, rfl⟩ := s3
  exact TermPuts_pure la lb lc ws ha hb hc (wordsOk_of hw ww) hw4 (wf_of wa) (wf_of wb) (wf_of wc)

end Go.Proofs.YtnjmfedleimlmaaDoor.Pw

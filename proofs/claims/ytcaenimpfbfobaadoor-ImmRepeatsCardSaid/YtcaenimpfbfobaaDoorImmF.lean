/- The walks of ImmTurns and ImmRepeats. -/
import Derived.Test.YtcaenimpfbfobaaDoorImmE
namespace Go.Proofs.YtcaenimpfbfobaaDoor
open Go.RowKit

namespace Rm
theorem u8_mask7 (b : Int) (h0 : 0 ≤ b) (h1 : b ≤ 255) : bits .and .u8 b 127 = b % 128 := by
  rw [u8_and b 127 h0 (by omega) (by omega) (by omega)]
  have e : b.toNat &&& (127 : Int).toNat = b.toNat % 128 := nat_mask7 _
  rw [e]; omega
theorem u32_join (a b : Int) (i : Nat) (ha0 : 0 ≤ a) (ha1 : a ≤ 4294967295) (hb0 : 0 ≤ b) (hb1 : b ≤ 4294967295) (hb : b < 2 ^ i) (hd : a % 2 ^ i = 0) : bits .or .u32 a b = a + b := by
  rw [u32_or _ _ ha0 (by omega) hb0 (by omega)]
  have ea : a = (a.toNat : Int) := by omega
  have eb : b = (b.toNat : Int) := by omega
  have h1 : a.toNat % 2 ^ i = 0 := by
    have : ((a.toNat % 2 ^ i : Nat) : Int) = 0 := by rw [Int.natCast_emod, ← ea]; simpa using hd
    omega
  have h2 : b.toNat < 2 ^ i := by
    have : ((b.toNat : Nat) : Int) < ((2 ^ i : Nat) : Int) := by rw [← eb]; simpa using hb
    omega
  rw [nat_join i _ _ h1 h2]
  omega
/-- a number's word is told back -/
theorem of_word (n x : Int) (y : Nat) (h0 : 0 ≤ n) (h1 : n ≤ 4095) (h : immW n.toNat = some y) (hx : x = (y : Int)) : ofN x = n ∧ ofE x = 0 := by
  subst hx
  have hd := dec_of n.toNat y (by omega) h
  unfold ofN ofE
  rw [Int.toNat_natCast, hd]
  exact ⟨by simp; omega, rfl⟩
theorem of_byte (b : Int) (i : Nat) (f : Int) (hb0 : 1 ≤ b) (hb1 : b ≤ 255) (hi : i < 4) (hf : (fac i : Int) = f) (hf0 : 1 ≤ f) : ofN (b * f) = (i : Int) * 256 + b ∧ ofE (b * f) = 0 := by
  have hw := immW_row ((i : Int) * 256 + b) i f (by omega) hi (by omega) hf (.inr (by omega))
  have e : ((i : Int) * 256 + b) % 256 = b := by omega
  rw [e] at hw
  have hp : 0 ≤ b * f := Int.mul_nonneg (by omega) (by omega)
  exact of_word _ _ _ (by omega) (by omega) hw (by omega)
theorem of_turn (b n : Int) (hb0 : 128 ≤ b) (hb1 : b ≤ 255) (hn0 : 8 ≤ n) (hn1 : n ≤ 31) :
    ofN ((itW 3 n.toNat b.toNat : Nat) : Int) = n * 128 + b % 128 ∧ ofE ((itW 3 n.toNat b.toNat : Nat) : Int) = 0 ∧ wordX (n * 128 + b % 128) = ((itW 3 n.toNat b.toNat : Nat) : Int) ∧ wordE (n * 128 + b % 128) = 0 := by
  have hw : immW (n * 128 + b % 128).toNat = some (itW 3 n.toNat b.toNat) := by
    unfold immW
    rw [if_pos (by omega), show (n * 128 + b % 128).toNat / 128 = n.toNat by omega, show (n * 128 + b % 128).toNat % 128 + 128 = b.toNat by omega]
  obtain ⟨h1, h2⟩ := of_word _ _ _ (by omega) (by omega) hw rfl
  exact ⟨h1, h2, wordX_some _ _ (by omega) (by omega) hw, wordE_some _ _ (by omega) (by omega) hw⟩
end Rm

theorem ImmTurns_walk (a0 : Int) (b0 : 0 ≤ a0 ∧ a0 ≤ 255) (a1 : Int) (b1 : -9223372036854775808 ≤ a1 ∧ a1 ≤ 9223372036854775807) (W : World) (hF : Fac W) :
    Calls Tryd.prog 4 #[.int .u8 a0, .int .i64 a1] W fun e w' => e = .returned (.bool true) ∧ Below W.heap.size W w' := by
  by_cases h1 : a1 < 8
  · go_enter Tryd.func4, Tryd.ntmps4
    go_wp2_with (go_at_call 14; refine (anchor02_any _ hF).mono ?_; rintro e w' ⟨rfl, rfl⟩)
    go_ret
    exact ⟨rfl, Below.refl _ _⟩
  by_cases h2 : 31 < a1
  · go_enter Tryd.func4, Tryd.ntmps4
    go_wp2_with (go_at_call 14; refine (anchor02_any _ hF).mono ?_; rintro e w' ⟨rfl, rfl⟩)
    go_ret
    exact ⟨rfl, Below.refl _ _⟩
  by_cases h3 : a0 < 128
  · go_enter Tryd.func4, Tryd.ntmps4
    go_wp2_with (go_at_call 14; refine (anchor02_any _ hF).mono ?_; rintro e w' ⟨rfl, rfl⟩)
    go_ret
    exact ⟨rfl, Below.refl _ _⟩
  have n8 : 8 ≤ a1 := by omega
  have n31 : a1 ≤ 31 := by omega
  have n128 : 128 ≤ a0 := by omega
  clear h1 h2 h3
  have hx := Rm.itW_lt 3 a1.toNat a0.toNat (by omega)
  obtain ⟨e1, e2, e3, e4⟩ := Rm.of_turn a0 a1 n128 b0.2 n8 n31
  have m1 := Rm.u8_mask7 a0 b0.1 b0.2
  have m2 : bits .or .i64 (a1 * 128) (a0 % 128) = a1 * 128 + a0 % 128 := Rm.i64_join _ _ 7 (by omega) (by omega) (by omega) (by omega) (by omega) (by omega)
  go_enter Tryd.func4, Tryd.ntmps4
  go_wp2_with fail
  refine (anchor02_any _ hF).mono ?_; rintro e w' ⟨rfl, rfl⟩
  go_wp2_with fail
  refine (shift_in 3 a0 a1 0 _ (by omega) (by omega) (by omega) (by omega) (by omega) (by omega) (by omega)).mono ?_; rintro e w' ⟨rfl, rfl⟩
  go_wp2_with fail
  refine (of_any _ _ hF (by omega) (by omega)).mono ?_; rintro e w' ⟨rfl, rfl⟩
  go_wp2_with fail
  refine (word_any _ _ hF (by omega) (by omega)).mono ?_; rintro e w' ⟨rfl, rfl⟩
  go_wp2_with fail
  go_ret
  exact ⟨rfl, Below.refl _ _⟩

theorem idxv (p q r s : Value) : (∀ w, (Instr.index 36 (.agg #[p, q, r, s]) (.int .i64 0)).run Tryd.prog w = .ok p w) ∧ (∀ w, (Instr.index 36 (.agg #[p, q, r, s]) (.int .i64 1)).run Tryd.prog w = .ok q w) ∧ (∀ w, (Instr.index 36 (.agg #[p, q, r, s]) (.int .i64 2)).run Tryd.prog w = .ok r w) ∧ (∀ w, (Instr.index 36 (.agg #[p, q, r, s]) (.int .i64 3)).run Tryd.prog w = .ok s w) :=
  ⟨fun _ => by kernel_rfl, fun _ => by kernel_rfl, fun _ => by kernel_rfl, fun _ => by kernel_rfl⟩

set_option maxHeartbeats 4000000 in
theorem repeats_zero (W : World) (hF : Fac W) :
    Calls Tryd.prog 6 #[.int .u8 0] W fun e w' => e = .returned (.bool true) ∧ Below W.heap.size W w' := by
  have e1 : Rm.ofN 0 = 0 := by decide +kernel
  have e2 : Rm.ofE 0 = 0 := by decide +kernel
  have z0 : bits .or .u32 0 0 = 0 := by decide
  obtain ⟨i0, i1, i2, i3⟩ := idxv (.int .u32 0) (.int .u32 0) (.int .u32 0) (.int .u32 0)
  go_enter Tryd.func6, Tryd.ntmps6
  go_wp2_with (first | (go_at_call 14; refine (anchor02_any _ hF).mono ?_; rintro e w' ⟨rfl, rfl⟩))
  refine wp_loop_rounds 5 ?_
  iterate 5 (rw [rounds_succ]; go_wp2_with (first | (go_at_call 17; refine (of_any _ _ hF (by omega) (by omega)).mono ?_; rintro e w' ⟨rfl, rfl⟩) | (go_at_call 19; refine (is_any _ _ hF (by omega) (by omega)).mono ?_; rintro e w' ⟨rfl, rfl⟩)))
  go_ret
  exact ⟨rfl, Below.refl _ _⟩

set_option maxHeartbeats 4000000 in
theorem ImmRepeats_walk (a0 : Int) (b0 : 0 ≤ a0 ∧ a0 ≤ 255) (W : World) (hF : Fac W) :
    Calls Tryd.prog 6 #[.int .u8 a0] W fun e w' => e = .returned (.bool true) ∧ Below W.heap.size W w' := by
  by_cases hz : a0 = 0
  · subst hz; exact repeats_zero W hF
  have bz : (a0 == 0) = false := by rw [beq_eq_false_iff_ne]; exact hz
  have h1 : 1 ≤ a0 := by omega
  clear hz
  have o1 := Rm.of_byte a0 0 1 h1 b0.2 (by omega) rfl (by omega)
  have o2 := Rm.of_byte a0 1 65537 h1 b0.2 (by omega) rfl (by omega)
  have o3 := Rm.of_byte a0 2 16777472 h1 b0.2 (by omega) rfl (by omega)
  have o4 := Rm.of_byte a0 3 16843009 h1 b0.2 (by omega) rfl (by omega)
  have e1 : Rm.ofN a0 = a0 := by have h := o1.1; rw [Int.mul_one] at h; omega
  have f1 : Rm.ofE a0 = 0 := by have h := o1.2; rwa [Int.mul_one] at h
  have e2 : Rm.ofN (a0 * 65537) = 256 + a0 := by have h := o2.1; omega
  have f2 := o2.2
  have e3 : Rm.ofN (a0 * 16777472) = 512 + a0 := by have h := o3.1; omega
  have f3 := o3.2
  have e4 : Rm.ofN (a0 * 16843009) = 768 + a0 := by have h := o4.1; omega
  have f4 := o4.2
  clear o1 o2 o3 o4
  have m1 : bits .or .u32 (a0 * 65536) a0 = a0 * 65537 := by rw [Rm.u32_join _ _ 16 (by omega) (by omega) (by omega) (by omega) (by omega) (by omega)]; omega
  have m2 : bits .or .u32 (a0 * 16777216) (a0 * 256) = a0 * 16777472 := by rw [Rm.u32_join _ _ 24 (by omega) (by omega) (by omega) (by omega) (by omega) (by omega)]; omega
  have m3 : bits .or .u32 (a0 * 16777216) (a0 * 65536) = a0 * 16842752 := by rw [Rm.u32_join _ _ 24 (by omega) (by omega) (by omega) (by omega) (by omega) (by omega)]; omega
  have m4 : bits .or .u32 (a0 * 16842752) (a0 * 256) = a0 * 16843008 := by rw [Rm.u32_join _ _ 16 (by omega) (by omega) (by omega) (by omega) (by omega) (by omega)]; omega
  have m5 : bits .or .u32 (a0 * 16843008) a0 = a0 * 16843009 := by rw [Rm.u32_join _ _ 8 (by omega) (by omega) (by omega) (by omega) (by omega) (by omega)]; omega
  have q0 : bits .or .i64 0 a0 = a0 := by have h := or_top8 a0 0 (by omega) (by omega) (by omega); omega
  have q1 : bits .or .i64 256 a0 = 256 + a0 := or_top8 _ _ (by omega) (by omega) (by omega)
  have q2 : bits .or .i64 512 a0 = 512 + a0 := or_top8 _ _ (by omega) (by omega) (by omega)
  have q3 : bits .or .i64 768 a0 = 768 + a0 := or_top8 _ _ (by omega) (by omega) (by omega)
  obtain ⟨i0, i1, i2, i3⟩ := idxv (.int .u32 a0) (.int .u32 (a0 * 65537)) (.int .u32 (a0 * 16777472)) (.int .u32 (a0 * 16843009))
  go_enter Tryd.func6, Tryd.ntmps6
  go_wp2_with (first | (go_at_call 14; refine (anchor02_any _ hF).mono ?_; rintro e w' ⟨rfl, rfl⟩))
  refine wp_loop_rounds 5 ?_
  iterate 5 (rw [rounds_succ]; go_wp2_with (first | (go_at_call 17; refine (of_any _ _ hF (by omega) (by omega)).mono ?_; rintro e w' ⟨rfl, rfl⟩) | (go_at_call 19; refine (is_any _ _ hF (by omega) (by omega)).mono ?_; rintro e w' ⟨rfl, rfl⟩)))
  go_ret
  exact ⟨rfl, Below.refl _ _⟩

end Go.Proofs.YtcaenimpfbfobaaDoor

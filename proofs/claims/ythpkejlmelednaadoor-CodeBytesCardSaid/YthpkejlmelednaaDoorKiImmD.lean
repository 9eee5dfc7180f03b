/- Walks of a word's number, and of chapter 2's laws but the one that goes through all numbers. -/
import Derived.Test.YthpkejlmelednaaDoorKiImmB
import Derived.Test.YthpkejlmelednaaDoorKiImmC
namespace Go.Proofs.YthpkejlmelednaaDoor
open Go.RowKit

namespace Rm
theorem dec_rep (x : Int) (v : Int) (hx0 : 0 ≤ x) (hx1 : x ≤ 4294967295) (h : repI x = some v) : ofN x = v ∧ ofE x = 0 := by
  have hr := rep_int x hx0 hx1
  rw [h] at hr
  cases he : rep x.toNat with
  | none => rw [he] at hr; cases hr
  | some n =>
    rw [he] at hr
    have hd : dec x.toNat = some n := by unfold dec; rw [he]
    unfold ofN ofE
    rw [hd]
    exact ⟨by simpa using hr, rfl⟩
theorem dec_turn (x : Int) (hx0 : 0 ≤ x) (hx1 : x ≤ 4294967295) (h : repI x = none) : dec x.toNat = turnedN x.toNat := by
  have hr := rep_int x hx0 hx1
  rw [h] at hr
  cases he : rep x.toNat with
  | none => unfold dec; rw [he]
  | some n => rw [he] at hr; cases hr
theorem of_turn_none (x : Int) (s : Nat) (hx0 : 0 ≤ x) (hx1 : x ≤ 4294967295) (h : repI x = none) (hs : 40 - Lib.bitLen x.toNat = s) (hc : 255 < rotl x.toNat s ∨ 32 ≤ s) : ofN x = 0 ∧ ofE x = 20 := by
  have hd : dec x.toNat = none := by rw [dec_turn x hx0 hx1 h]; unfold turnedN; rw [hs, if_pos hc]
  unfold ofN ofE
  rw [hd]
  exact ⟨rfl, rfl⟩
theorem of_turn_some (x : Int) (s : Nat) (hx0 : 0 ≤ x) (hx1 : x ≤ 4294967295) (h : repI x = none) (hs : 40 - Lib.bitLen x.toNat = s) (hc : ¬ (255 < rotl x.toNat s ∨ 32 ≤ s)) : ofN x = (s : Int) * 128 + (rotl x.toNat s : Int) % 128 ∧ ofE x = 0 := by
  have hd : dec x.toNat = some (s * 128 + rotl x.toNat s % 128) := by rw [dec_turn x hx0 hx1 h]; unfold turnedN; rw [hs, if_neg hc]
  unfold ofN ofE
  rw [hd]
  exact ⟨by simp, rfl⟩
theorem repI_bd (x : Int) (v : Int) (h : repI x = some v) : 0 ≤ v ∧ v ≤ 1023 := by
  unfold repI at h
  (repeat' split at h) <;> first | (cases h; omega) | cases h
theorem ofN_bd (x : Int) (hx0 : 0 ≤ x) (hx1 : x ≤ 4294967295) : 0 ≤ ofN x ∧ ofN x ≤ 4095 := by
  unfold ofN
  cases h : dec x.toNat with
  | none => simp
  | some n => have := (dec_ok x.toNat n (by omega) h).2; simp; omega
theorem ofE_two (x : Int) : ofE x = 0 ∨ ofE x = 20 := by unfold ofE; split <;> simp
end Rm

theorem of_any (x : Int) (w : World) (hF : Fac w) (hx0 : 0 ≤ x) (hx1 : x ≤ 4294967295) :
    Calls Tryd.prog 115 #[.int .u32 x] w fun e w' => e = .returned (.tuple #[.int .i64 (Rm.ofN x), .int .i64 (Rm.ofE x)]) ∧ w = w' := by
  cases hr : Rm.repI x with
  | some v =>
    obtain ⟨h1, h2⟩ := Rm.dec_rep x v hx0 hx1 hr
    have hf : foundN x = v := by unfold foundN; rw [hr]; rfl
    have hs : (Rm.repI x).isSome = true := by rw [hr]; rfl
    have H1 := Lib.hid h1
    have H2 := Lib.hid h2
    clear h1 h2 hr
    go_enter Tryd.func115, Tryd.ntmps115
    go_wp2_with (go_at_call 139; refine (repeated_any x _ hF hx0 hx1).mono ?_; rintro e w' ⟨rfl, rfl⟩)
    go_ret2
    exact ⟨ret_2 H1.out.symm H2.out.symm, rfl⟩
  | none =>
    have hs : (Rm.repI x).isSome = false := by rw [hr]; rfl
    have hL := Rm.bitLen_le32 x.toNat (by omega)
    obtain ⟨s, hk⟩ : ∃ s : Nat, 40 - Lib.bitLen x.toNat = s := ⟨_, rfl⟩
    have e1 : (32 - (Lib.bitLen x.toNat : Int)) + 8 = (s : Int) := by omega
    have hs8 : 8 ≤ s ∧ s ≤ 40 := by omega
    have hy := Rm.rotl_lt x.toNat s (by omega)
    by_cases hc : 255 < Rm.rotl x.toNat s ∨ 32 ≤ s
    · obtain ⟨h1, h2⟩ := Rm.of_turn_none x s hx0 hx1 hr hk hc
      have H1 := Lib.hid h1
      have H2 := Lib.hid h2
      have HC := Lib.hid hc
      clear h1 h2 hr hk hc
      by_cases hb : 255 < Rm.rotl x.toNat s
      · go_enter Tryd.func115, Tryd.ntmps115
        go_wp2_with (first | (go_at_call 139; refine (repeated_any x _ hF hx0 hx1).mono ?_; rintro e w' ⟨rfl, rfl⟩) | (go_at_call 140; refine (lz32_any x _ hx0 hx1).mono ?_; rintro e w' ⟨rfl, rfl⟩) | (go_at_call 141; refine (rotl_any x _ _ hx0 hx1 (by omega) (by omega)).mono ?_; rintro e w' ⟨rfl, rfl⟩))
        go_ret2
        exact ⟨ret_2 H1.out.symm H2.out.symm, rfl⟩
      · have hb2 : 32 ≤ s := by rcases HC.out with h | h <;> omega
        go_enter Tryd.func115, Tryd.ntmps115
        go_wp2_with (first | (go_at_call 139; refine (repeated_any x _ hF hx0 hx1).mono ?_; rintro e w' ⟨rfl, rfl⟩) | (go_at_call 140; refine (lz32_any x _ hx0 hx1).mono ?_; rintro e w' ⟨rfl, rfl⟩) | (go_at_call 141; refine (rotl_any x _ _ hx0 hx1 (by omega) (by omega)).mono ?_; rintro e w' ⟨rfl, rfl⟩))
        go_ret2
        exact ⟨ret_2 H1.out.symm H2.out.symm, rfl⟩
    · obtain ⟨h1, h2⟩ := Rm.of_turn_some x s hx0 hx1 hr hk hc
      have H1 := Lib.hid h1
      have H2 := Lib.hid h2
      have hb : ¬ 255 < Rm.rotl x.toNat s := by omega
      have hb2 : ¬ 32 ≤ s := by omega
      have m1 := Rm.u32_mask7 (Rm.rotl x.toNat s : Int) (by omega) (by omega)
      have m2 : bits .or .i64 ((s : Int) * 128) ((Rm.rotl x.toNat s : Int) % 128) = (s : Int) * 128 + (Rm.rotl x.toNat s : Int) % 128 := Rm.i64_join _ _ 7 (by omega) (by omega) (by omega) (by omega) (by omega) (by omega)
      clear h1 h2 hr hk hc
      go_enter Tryd.func115, Tryd.ntmps115
      go_wp2_with (first | (go_at_call 139; refine (repeated_any x _ hF hx0 hx1).mono ?_; rintro e w' ⟨rfl, rfl⟩) | (go_at_call 140; refine (lz32_any x _ hx0 hx1).mono ?_; rintro e w' ⟨rfl, rfl⟩) | (go_at_call 141; refine (rotl_any x _ _ hx0 hx1 (by omega) (by omega)).mono ?_; rintro e w' ⟨rfl, rfl⟩))
      go_ret2
      exact ⟨ret_2 H1.out.symm H2.out.symm, rfl⟩

end Go.Proofs.YthpkejlmelednaaDoor

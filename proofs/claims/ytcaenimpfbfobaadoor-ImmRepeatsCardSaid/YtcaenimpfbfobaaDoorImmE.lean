/- The walks of chapter 2's laws but the one that goes through all numbers. -/
import Derived.Test.YtcaenimpfbfobaaDoorImmD
namespace Go.Proofs.YtcaenimpfbfobaaDoor
open Go.RowKit

namespace Rm
theorem word_zero (n : Int) (h : wordE n = 0) : ∃ x, immW n.toNat = some x ∧ wordX n = (x : Int) ∧ 0 ≤ n ∧ n ≤ 4095 := by
  obtain ⟨h0, h1⟩ := wordE_zero n h
  cases hi : immW n.toNat with
  | none => rw [wordE_none n h0 h1 hi] at h; omega
  | some x => exact ⟨x, rfl, wordX_some n x h0 h1 hi, h0, h1⟩
theorem once (a b : Int) (ha : wordE a = 0) (hb : wordE b = 0) : ((wordX a == wordX b) == (a == b)) = true := by
  obtain ⟨x, h1, h2, h3, h4⟩ := word_zero a ha
  obtain ⟨y, g1, g2, g3, g4⟩ := word_zero b hb
  rw [beq_iff_eq]
  apply Bool.eq_iff_iff.2
  rw [beq_iff_eq, beq_iff_eq]
  constructor
  · intro h
    rw [h2, g2] at h
    have hxy : x = y := by omega
    subst hxy
    have := immW_inj a.toNat b.toNat x (by omega) (by omega) h1 g1
    omega
  · rintro rfl; rfl
end Rm

theorem ImmOnce_walk (a0 : Int) (b0 : -9223372036854775808 ≤ a0 ∧ a0 ≤ 9223372036854775807) (a1 : Int) (b1 : -9223372036854775808 ≤ a1 ∧ a1 ≤ 9223372036854775807) (W : World) (hF : Fac W) :
    Calls Tryd.prog 3 #[.int .i64 a0, .int .i64 a1] W fun e w' => e = .returned (.bool true) ∧ Below W.heap.size W w' := by
  by_cases h0 : Rm.wordE a0 = 0
  · by_cases h1 : Rm.wordE a1 = 0
    · have ho := Rm.once a0 a1 h0 h1
      go_enter Tryd.func3, Tryd.ntmps3
      go_wp2_with fail
      refine (anchor02_any _ hF).mono ?_; rintro e w' ⟨rfl, rfl⟩
      go_wp2_with fail
      refine (word_any _ _ hF b0.1 b0.2).mono ?_; rintro e w' ⟨rfl, rfl⟩
      go_wp2_with fail
      refine (word_any _ _ hF b1.1 b1.2).mono ?_; rintro e w' ⟨rfl, rfl⟩
      go_wp2_with fail
      go_ret
      exact ⟨rfl, Below.refl _ _⟩
    · have bb : (Rm.wordE a1 != 0) = true := by rw [bne_iff_ne]; exact h1
      clear h1
      go_enter Tryd.func3, Tryd.ntmps3
      go_wp2_with fail
      refine (anchor02_any _ hF).mono ?_; rintro e w' ⟨rfl, rfl⟩
      go_wp2_with fail
      refine (word_any _ _ hF b0.1 b0.2).mono ?_; rintro e w' ⟨rfl, rfl⟩
      go_wp2_with fail
      refine (word_any _ _ hF b1.1 b1.2).mono ?_; rintro e w' ⟨rfl, rfl⟩
      go_wp2_with fail
      go_ret
      exact ⟨rfl, Below.refl _ _⟩
  · have bb : (Rm.wordE a0 != 0) = true := by rw [bne_iff_ne]; exact h0
    clear h0
    go_enter Tryd.func3, Tryd.ntmps3
    go_wp2_with fail
    refine (anchor02_any _ hF).mono ?_; rintro e w' ⟨rfl, rfl⟩
    go_wp2_with fail
    refine (word_any _ _ hF b0.1 b0.2).mono ?_; rintro e w' ⟨rfl, rfl⟩
    go_wp2_with fail
    refine (word_any _ _ hF b1.1 b1.2).mono ?_; rintro e w' ⟨rfl, rfl⟩
    go_wp2_with fail
    go_ret
    exact ⟨rfl, Below.refl _ _⟩

theorem ImmFinds_walk (a0 : Int) (b0 : 0 ≤ a0 ∧ a0 ≤ 4294967295) (W : World) (hF : Fac W) :
    Calls Tryd.prog 5 #[.int .u32 a0] W fun e w' => e = .returned (.bool true) ∧ Below W.heap.size W w' := by
  have hb := Rm.ofN_bd a0 b0.1 b0.2
  cases hd : Rm.dec a0.toNat with
  | none =>
    have e1 : Rm.ofM a0 = -1 := by unfold Rm.ofM; rw [hd]; rfl
    have e2 : Rm.ofN a0 = 0 := by unfold Rm.ofN; rw [hd]; rfl
    have e3 : Rm.ofE a0 = 20 := by unfold Rm.ofE; rw [hd]; rfl
    clear hd hb
    go_enter Tryd.func5, Tryd.ntmps5
    go_wp2_with (first | (go_at_call 14; refine (anchor02_any _ hF).mono ?_; rintro e w' ⟨rfl, rfl⟩) | (go_at_call 17; refine (of_any a0 _ hF b0.1 b0.2).mono ?_; rintro e w' ⟨rfl, rfl⟩) | (go_at_call 18; refine (refof_any a0 _ b0.1 b0.2).mono ?_; rintro e w' ⟨rfl, rfl⟩) | (go_at_call 19; refine (is_any a0 _ hF b0.1 b0.2).mono ?_; rintro e w' ⟨rfl, rfl⟩))
    go_ret
    exact ⟨rfl, Below.refl _ _⟩
  | some n =>
    have e1 : Rm.ofM a0 = Rm.ofN a0 := by unfold Rm.ofM; rw [hd]; rfl
    have e3 : Rm.ofE a0 = 0 := by unfold Rm.ofE; rw [hd]; rfl
    clear hd
    go_enter Tryd.func5, Tryd.ntmps5
    go_wp2_with (first | (go_at_call 14; refine (anchor02_any _ hF).mono ?_; rintro e w' ⟨rfl, rfl⟩) | (go_at_call 17; refine (of_any a0 _ hF b0.1 b0.2).mono ?_; rintro e w' ⟨rfl, rfl⟩) | (go_at_call 18; refine (refof_any a0 _ b0.1 b0.2).mono ?_; rintro e w' ⟨rfl, rfl⟩) | (go_at_call 19; refine (is_any a0 _ hF b0.1 b0.2).mono ?_; rintro e w' ⟨rfl, rfl⟩))
    go_ret
    exact ⟨rfl, Below.refl _ _⟩

theorem ImmWords_walk (a0 : Int) (b0 : -9223372036854775808 ≤ a0 ∧ a0 ≤ 9223372036854775807) (a1 : Int) (b1 : 0 ≤ a1 ∧ a1 ≤ 4294967295) (W : World) (hF : Fac W) :
    Calls Tryd.prog 8 #[.int .i64 a0, .int .u32 a1] W fun e w' => e = .returned (.bool true) ∧ Below W.heap.size W w' := by
  by_cases ho : a0 < 0 ∨ 4095 < a0
  · have e1 : Rm.wordX a0 = 0 := by unfold Rm.wordX; rw [if_pos ho]
    have e2 : Rm.wordE a0 = 11 := by unfold Rm.wordE; rw [if_pos ho]
    have e3 : Rm.carryX a0 a1 = 0 := by unfold Rm.carryX; rw [e2]; rfl
    have HO := Lib.hid ho
    by_cases h0 : a0 < 0
    all_goals
      try (have h1 : 4095 < a0 := by omega)
      clear ho
      go_enter Tryd.func8, Tryd.ntmps8
      go_wp2_with (first | (go_at_call 14; refine (anchor02_any _ hF).mono ?_; rintro e w' ⟨rfl, rfl⟩) | (go_at_call 15; refine (word_any a0 _ hF b0.1 b0.2).mono ?_; rintro e w' ⟨rfl, rfl⟩) | (go_at_call 22; refine (carry_any a0 a1 _ hF b0.1 b0.2 b1.1).mono ?_; rintro e w' ⟨rfl, rfl⟩))
      go_ret
      exact ⟨rfl, Below.refl _ _⟩
  · have n0 : 0 ≤ a0 := by omega
    have n1 : a0 ≤ 4095 := by omega
    clear ho
    have hb := Rm.wordX_bd a0
    cases hi : Rm.immW a0.toNat with
    | none =>
      have e1 := Rm.wordX_none a0 n0 n1 hi
      have e2 := Rm.wordE_none a0 n0 n1 hi
      have e3 : Rm.carryX a0 a1 = 0 := by unfold Rm.carryX; rw [e2]; rfl
      have e4 : (Rm.immW a0.toNat).isSome = false := by rw [hi]; rfl
      clear hi hb
      go_enter Tryd.func8, Tryd.ntmps8
      go_wp2_with (first | (go_at_call 14; refine (anchor02_any _ hF).mono ?_; rintro e w' ⟨rfl, rfl⟩) | (go_at_call 15; refine (word_any a0 _ hF b0.1 b0.2).mono ?_; rintro e w' ⟨rfl, rfl⟩) | (go_at_call 22; refine (carry_any a0 a1 _ hF b0.1 b0.2 b1.1).mono ?_; rintro e w' ⟨rfl, rfl⟩) | (go_at_call 21; refine (refword_any a0 _ n0 n1).mono ?_; rintro e w' ⟨rfl, rfl⟩))
      go_ret
      exact ⟨rfl, Below.refl _ _⟩
    | some x =>
      have e2 := Rm.wordE_some a0 x n0 n1 hi
      have e4 : (Rm.immW a0.toNat).isSome = true := by rw [hi]; rfl
      clear hi
      by_cases h : a0 < 1024
      · have e3 : Rm.carryX a0 a1 = min a1 1 := by unfold Rm.carryX; rw [if_pos e2, if_pos h]
        go_enter Tryd.func8, Tryd.ntmps8
        go_wp2_with (first | (go_at_call 14; refine (anchor02_any _ hF).mono ?_; rintro e w' ⟨rfl, rfl⟩) | (go_at_call 15; refine (word_any a0 _ hF b0.1 b0.2).mono ?_; rintro e w' ⟨rfl, rfl⟩) | (go_at_call 22; refine (carry_any a0 a1 _ hF b0.1 b0.2 b1.1).mono ?_; rintro e w' ⟨rfl, rfl⟩) | (go_at_call 21; refine (refword_any a0 _ n0 n1).mono ?_; rintro e w' ⟨rfl, rfl⟩))
        go_ret
        exact ⟨rfl, Below.refl _ _⟩
      · have e3 : Rm.carryX a0 a1 = Rm.wordX a0 / 2147483648 := by unfold Rm.carryX; rw [if_pos e2, if_neg h]
        go_enter Tryd.func8, Tryd.ntmps8
        go_wp2_with (first | (go_at_call 14; refine (anchor02_any _ hF).mono ?_; rintro e w' ⟨rfl, rfl⟩) | (go_at_call 15; refine (word_any a0 _ hF b0.1 b0.2).mono ?_; rintro e w' ⟨rfl, rfl⟩) | (go_at_call 22; refine (carry_any a0 a1 _ hF b0.1 b0.2 b1.1).mono ?_; rintro e w' ⟨rfl, rfl⟩) | (go_at_call 21; refine (refword_any a0 _ n0 n1).mono ?_; rintro e w' ⟨rfl, rfl⟩))
        go_ret
        exact ⟨rfl, Below.refl _ _⟩

end Go.Proofs.YtcaenimpfbfobaaDoor

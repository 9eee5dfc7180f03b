/- The walks of more laws of chapter 1. -/
import Derived.Test.YtcpalglmnondmaaAluL
namespace Go.Proofs.Ytcpalglmnondmaa
open Go.RowKit

theorem AluTakes_walk (a0 : Int) (b0 : 0 ≤ a0 ∧ a0 ≤ 4294967295) (a1 : Int) (b1 : 0 ≤ a1 ∧ a1 ≤ 4294967295) (W : World) :
    Calls Try.prog 8 #[.int .u32 a0, .int .u32 a1] W fun e w' => e = .returned (.bool true) ∧ Below W.heap.size W w' := by
  have e1 := Rm.not32 a1 b1.1 b1.2
  obtain ⟨s, hs⟩ : ∃ s, (a0 - a1) % 4294967296 = s := ⟨_, rfl⟩
  obtain ⟨v, hv⟩ : ∃ v, Rm.addV a0 (4294967295 - a1) 1 = v := ⟨_, rfl⟩
  obtain ⟨c, hc⟩ : ∃ c, Rm.addC a0 (4294967295 - a1) 1 = c := ⟨_, rfl⟩
  have hs' : Rm.addS a0 (4294967295 - a1) 1 = s := by rw [← hs]; unfold Rm.addS Rm.one01; omega
  have hc1 : ((c == 1) == decide (a1 ≤ a0)) = true := by
    rw [← hc]; unfold Rm.addC Rm.one01
    by_cases h : a1 ≤ a0 <;> simp [h] <;> omega
  have bs : 0 ≤ s ∧ s ≤ 4294967295 := by omega
  have hv1 : ((s / 2147483648 != v) == decide (wrap32 a0 < wrap32 a1)) = true := by
    rw [← hv]; unfold Rm.addV; rw [hs']; unfold Rm.sgn Rm.one01 wrap32
    rw [beq_iff_eq]
    apply Bool.eq_iff_iff.2
    simp only [bne_iff_ne, decide_eq_true_eq, ne_eq]
    (repeat' split) <;> omega
  clear bs
  go_enter Try.func8, Try.ntmps8
  go_wp2_with (first | (go_at_call 20; refine (anchor01_any _).mono ?_; rintro e w' ⟨rfl, rfl⟩))
  refine (add_any _ _ _ _ b0.1 b0.2 (by omega) (by omega) (by omega)).mono ?_
  rintro e w' ⟨rfl, rfl⟩
  rw [hs', hc, hv]
  clear e1 hs' hc hv
  go_wp2_with fail
  go_ret
  exact ⟨rfl, Below.refl _ _⟩

theorem AluCarries_walk (a0 : Int) (b0 : 0 ≤ a0 ∧ a0 ≤ 4294967295) (a1 : Int) (b1 : 0 ≤ a1 ∧ a1 ≤ 4294967295) (a2 : Int) (b2 : 0 ≤ a2 ∧ a2 ≤ 4294967295) (a3 : Int) (b3 : 0 ≤ a3 ∧ a3 ≤ 4294967295) (W : World) :
    Calls Try.prog 10 #[.int .u32 a0, .int .u32 a1, .int .u32 a2, .int .u32 a3] W fun e w' => e = .returned (.bool true) ∧ Below W.heap.size W w' := by
  have e2 := Rm.not32 a2 b2.1 b2.2
  have e3 := Rm.not32 a3 b3.1 b3.2
  have k1 := Rm.addC_bd a0 a2 0 (by omega) b0.1 b0.2 b2.1 b2.2
  have k2 := Rm.addC_bd a0 (4294967295 - a2) 1 (by omega) b0.1 b0.2 (by omega) (by omega)
  have s1 := Rm.addS_bd a0 a2 0
  have s2 := Rm.addS_bd a1 a3 (Rm.addC a0 a2 0)
  have s3 := Rm.addS_bd a0 (4294967295 - a2) 1
  have s4 := Rm.addS_bd a1 (4294967295 - a3) (Rm.addC a0 (4294967295 - a2) 1)
  have f1 : (Rm.addS a1 a3 (Rm.addC a0 a2 0) * 4294967296 + Rm.addS a0 a2 0 == IntKind.u64.wrap (a1 * 4294967296 + a0 + (a3 * 4294967296 + a2))) = true := by
    rw [IntKind.wrap_u64]; simp only [beq_iff_eq, Rm.addS, Rm.addC, Rm.one01]; omega
  have f2 : (Rm.addS a1 (4294967295 - a3) (Rm.addC a0 (4294967295 - a2) 1) * 4294967296 + Rm.addS a0 (4294967295 - a2) 1 == IntKind.u64.wrap (a1 * 4294967296 + a0 - (a3 * 4294967296 + a2))) = true := by
    rw [IntKind.wrap_u64]; simp only [beq_iff_eq, Rm.addS, Rm.addC, Rm.one01]; omega
  have f3 : ((Rm.addC a1 (4294967295 - a3) (Rm.addC a0 (4294967295 - a2) 1) == 0) == decide (a1 * 4294967296 + a0 < a3 * 4294967296 + a2)) = true := by
    rw [beq_iff_eq]; apply Bool.eq_iff_iff.2; simp only [beq_iff_eq, decide_eq_true_eq, Rm.addC, Rm.one01]; omega
  go_enter Try.func10, Try.ntmps10
  go_wp2_with (first | (go_at_call 20; refine (anchor01_any _).mono ?_; rintro e w' ⟨rfl, rfl⟩) | (go_at_call 21; refine (add_any _ _ _ _ (by omega) (by omega) (by omega) (by omega) (by omega)).mono ?_; rintro e w' ⟨rfl, rfl⟩) | (go_at_call 25; refine (pair_any _ _ _ (by omega) (by omega) (by omega) (by omega)).mono ?_; rintro e w' ⟨rfl, rfl⟩))
  go_ret
  exact ⟨rfl, Below.refl _ _⟩
theorem AluParts_walk (a0 : Int) (b0 : 0 ≤ a0 ∧ a0 ≤ 4294967295) (a1 : Int) (b1 : 0 ≤ a1 ∧ a1 ≤ 4294967295) (a2 : Int) (b2 : -9223372036854775808 ≤ a2 ∧ a2 ≤ 9223372036854775807) (W : World) :
    Calls Try.prog 13 #[.int .u32 a0, .int .u32 a1, .int .i64 a2] W fun e w' => e = .returned (.bool true) ∧ Below W.heap.size W w' := by
  have hp := prod_bound a0 a1 b0.1 b0.2 b1.1 b1.2
  have c1 : 0 ≤ a0 * a1 % 4294967296 ∧ a0 * a1 % 4294967296 ≤ 4294967295 := by omega
  have c2 : 0 ≤ a0 * a1 / 4294967296 ∧ a0 * a1 / 4294967296 ≤ 4294967295 := by omega
  have f1 : (a0 * a1 / 4294967296 * 4294967296 + a0 * a1 % 4294967296 == a0 * a1) = true := by rw [beq_iff_eq]; omega
  by_cases h : 0 ≤ a2 ∧ a2 ≤ 31
  · obtain ⟨h0, h1⟩ := h
    have hs := Rm.shr_bd a0 a2.toNat b0.1 b0.2
    have eb : ((Rm.bitN a0.toNat a2 : Nat) : Int) = bits .and .u32 (a0 / 2 ^ a2.toNat) 1 := (Rm.bitN_in a0 a2 h0 h1 b0.1).trans (Rm.and1 _ hs.1 hs.2).symm
    have EB := Lib.hid eb
    clear eb hs
    go_enter Try.func13, Try.ntmps13
    go_wp2_with (first | (go_at_call 20; refine (anchor01_any _).mono ?_; rintro e w' ⟨rfl, rfl⟩) | (go_at_call 28; refine (wide_any _ _ _ b0.1 b0.2 b1.1 b1.2).mono ?_; rintro e w' ⟨rfl, rfl⟩) | (go_at_call 29; refine (len_any _ _ b0.1 b0.2).mono ?_; rintro e w' ⟨rfl, rfl⟩) | (go_at_call 30; refine (reflen_any _ _ b0.1 b0.2).mono ?_; rintro e w' ⟨rfl, rfl⟩) | (go_at_call 27; refine (bit_any _ _ _ b0.1 b0.2).mono ?_; rintro e w' ⟨rfl, rfl⟩; rw [EB.out]) | (go_at_call 25; refine (pair_any _ _ _ c1.1 c1.2 c2.1 c2.2).mono ?_; rintro e w' ⟨rfl, rfl⟩))
    go_ret
    exact ⟨rfl, Below.refl _ _⟩
  · have eb : Rm.bitN a0.toNat a2 = 0 := Rm.bitN_out _ _ (by omega)
    by_cases h0 : 0 ≤ a2
    · have h1 : 31 < a2 := by omega
      clear h
      go_enter Try.func13, Try.ntmps13
      go_wp2_with (first | (go_at_call 20; refine (anchor01_any _).mono ?_; rintro e w' ⟨rfl, rfl⟩) | (go_at_call 28; refine (wide_any _ _ _ b0.1 b0.2 b1.1 b1.2).mono ?_; rintro e w' ⟨rfl, rfl⟩) | (go_at_call 29; refine (len_any _ _ b0.1 b0.2).mono ?_; rintro e w' ⟨rfl, rfl⟩) | (go_at_call 30; refine (reflen_any _ _ b0.1 b0.2).mono ?_; rintro e w' ⟨rfl, rfl⟩) | (go_at_call 27; refine (bit_any _ _ _ b0.1 b0.2).mono ?_; rintro e w' ⟨rfl, rfl⟩) | (go_at_call 25; refine (pair_any _ _ _ c1.1 c1.2 c2.1 c2.2).mono ?_; rintro e w' ⟨rfl, rfl⟩))
      go_ret
      exact ⟨rfl, Below.refl _ _⟩
    · clear h
      go_enter Try.func13, Try.ntmps13
      go_wp2_with (first | (go_at_call 20; refine (anchor01_any _).mono ?_; rintro e w' ⟨rfl, rfl⟩) | (go_at_call 28; refine (wide_any _ _ _ b0.1 b0.2 b1.1 b1.2).mono ?_; rintro e w' ⟨rfl, rfl⟩) | (go_at_call 29; refine (len_any _ _ b0.1 b0.2).mono ?_; rintro e w' ⟨rfl, rfl⟩) | (go_at_call 30; refine (reflen_any _ _ b0.1 b0.2).mono ?_; rintro e w' ⟨rfl, rfl⟩) | (go_at_call 27; refine (bit_any _ _ _ b0.1 b0.2).mono ?_; rintro e w' ⟨rfl, rfl⟩) | (go_at_call 25; refine (pair_any _ _ _ c1.1 c1.2 c2.1 c2.2).mono ?_; rintro e w' ⟨rfl, rfl⟩))
      go_ret
      exact ⟨rfl, Below.refl _ _⟩

end Go.Proofs.Ytcpalglmnondmaa

/- The walks of more laws of chapter 1. -/
import Derived.Test.YtcpalglmnondmaaAluL
import Derived.Test.YtcpalglmnondmaaNums2
namespace Go.Proofs.Ytcpalglmnondmaa
open Go.RowKit

theorem AluTurns_walk (a0 : Int) (b0 : 0 ≤ a0 ∧ a0 ≤ 4294967295) (a1 : Int) (b1 : -9223372036854775808 ≤ a1 ∧ a1 ≤ 9223372036854775807) (W : World) :
    Calls Try.prog 12 #[.int .u32 a0, .int .i64 a1] W fun e w' => e = .returned (.bool true) ∧ Below W.heap.size W w' := by
  by_cases h : a1 < 0 ∨ 32 < a1
  · have HH := Lib.hid h
    go_enter Try.func12, Try.ntmps12
    by_cases h0 : a1 < 0
    · clear h
      go_wp2_with (first | (go_at_call 20; refine (anchor01_any _).mono ?_; rintro e w' ⟨rfl, rfl⟩))
      go_ret
      exact ⟨rfl, Below.refl _ _⟩
    · have h1 : 32 < a1 := by omega
      clear h
      go_wp2_with (first | (go_at_call 20; refine (anchor01_any _).mono ?_; rintro e w' ⟨rfl, rfl⟩))
      go_ret
      exact ⟨rfl, Below.refl _ _⟩
  · have h0 : 0 ≤ a1 := by omega
    have h1 : a1 ≤ 32 := by omega
    clear h
    have hx : a0.toNat < 4294967296 := by omega
    have hy := Rm.itW_lt 3 a1.toNat a0.toNat hx
    have hl := Rm.itW_lt 0 a1.toNat a0.toNat hx
    have hr := Rm.itW_lt 1 a1.toNat _ hl
    have ez : Rm.itW 3 (32 - a1).toNat (Rm.itW 3 a1.toNat a0.toNat) = a0.toNat := by
      have e : (32 - a1).toNat = 32 - a1.toNat := by omega
      rw [e]; exact Rm.turn_back _ _ hx (by omega)
    have eo := Lib.hid (Rm.out_back a0.toNat a1.toNat hx)
    have EZ := Lib.hid ez
    clear ez
    have d1 : decide (a1 < 0) = false := by simpa using h0
    have d2 : decide (32 < a1) = false := by simpa using h1
    go_enter Try.func12, Try.ntmps12
    go_wp2_with (first | (go_at_call 20; refine (anchor01_any _).mono ?_; rintro e w' ⟨rfl, rfl⟩))
    refine (shift_in _ _ _ _ _ (by omega) (by omega) (by omega) (by omega) b0.1 b0.2 (by omega)).mono ?_
    rintro e w' ⟨rfl, rfl⟩
    go_wp2_with fail
    refine (shift_in _ _ _ _ _ (by omega) (by omega) (by omega) (by omega) (by omega) (by omega) (by omega)).mono ?_
    rintro e w' ⟨rfl, rfl⟩
    simp only [Int.toNat_natCast]
    rw [EZ.out]
    have e0 : ((a0.toNat : Nat) : Int) = a0 := by omega
    rw [e0]
    clear e0
    go_wp2_with fail
    refine (shift_in _ _ _ _ _ (by omega) (by omega) (by omega) (by omega) b0.1 b0.2 (by omega)).mono ?_
    rintro e w' ⟨rfl, rfl⟩
    go_wp2_with fail
    refine (shift_in _ _ _ _ _ (by omega) (by omega) (by omega) (by omega) (by omega) (by omega) (by omega)).mono ?_
    rintro e w' ⟨rfl, rfl⟩
    simp only [Int.toNat_natCast]
    go_wp2_with fail
    go_loop [4, 17, 18, 56] (fun _ _ _ i => ∃ j : Nat, j ≤ 32 ∧ i = .int .i64 j) (fun _ _ _ i => (32 - intOf i).toNat)
    case atStart => exact ⟨0, by omega, rfl⟩
    case round =>
      obtain ⟨j, hj, rfl⟩ := hrel
      by_cases hlt : j < 32
      · have ho := eo.out j (by omega) (by omega)
        have e5 : ((a1.toNat : Nat) : Int) = a1 := by omega
        rw [e5] at ho
        clear e5
        by_cases hb : (j : Int) < 32 - a1
        · rw [if_pos hb] at ho
          go_wp2_with (first | (go_at_call 27; refine (bit_any _ _ _ (by omega) (by omega)).mono ?_; rintro e w' ⟨rfl, rfl⟩))
          go_round
          case rel => exact ⟨_, _, _, _, ⟨j + 1, by omega, rfl⟩, rfl, rfl, rfl, by go_num⟩
          case measure => simp [intOf]; omega
        · rw [if_neg hb] at ho
          go_wp2_with (first | (go_at_call 27; refine (bit_any _ _ _ (by omega) (by omega)).mono ?_; rintro e w' ⟨rfl, rfl⟩))
          go_round
          case rel => exact ⟨_, _, _, _, ⟨j + 1, by omega, rfl⟩, rfl, rfl, rfl, by go_num⟩
          case measure => simp [intOf]; omega
      · go_wp2
        go_ret
        exact ⟨rfl, Below.refl _ _⟩

end Go.Proofs.Ytcpalglmnondmaa

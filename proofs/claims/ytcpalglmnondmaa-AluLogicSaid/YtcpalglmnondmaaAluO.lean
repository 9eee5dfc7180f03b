/- The walks of more laws of chapter 1. -/
import Derived.Test.YtcpalglmnondmaaAluL
import Derived.Test.YtcpalglmnondmaaNums2
namespace Go.Proofs.Ytcpalglmnondmaa
open Go.RowKit

theorem AluLogic_walk (a0 : Int) (b0 : 0 ≤ a0 ∧ a0 ≤ 4294967295) (a1 : Int) (b1 : -9223372036854775808 ≤ a1 ∧ a1 ≤ 9223372036854775807) (W : World) :
    Calls Try.prog 9 #[.int .u32 a0, .int .i64 a1] W fun e w' => e = .returned (.bool true) ∧ Below W.heap.size W w' := by
  by_cases h : a1 < 0 ∨ 255 < a1
  · have HH := Lib.hid h
    go_enter Try.func9, Try.ntmps9
    by_cases h0 : a1 < 0
    · clear h
      go_wp2_with (first | (go_at_call 20; refine (anchor01_any _).mono ?_; rintro e w' ⟨rfl, rfl⟩))
      go_ret
      exact ⟨rfl, Below.refl _ _⟩
    · have h1 : 255 < a1 := by omega
      clear h
      go_wp2_with (first | (go_at_call 20; refine (anchor01_any _).mono ?_; rintro e w' ⟨rfl, rfl⟩))
      go_ret
      exact ⟨rfl, Below.refl _ _⟩
  · have h0 : 0 ≤ a1 := by omega
    have h1 : a1 ≤ 255 := by omega
    clear h
    have hx : a0.toNat < 4294967296 := by omega
    have d1 : decide (a1 < 0) = false := by simpa using h0
    have d2 : decide (255 < a1) = false := by simpa using h1
    go_enter Try.func9, Try.ntmps9
    go_wp2_with (first | (go_at_call 20; refine (anchor01_any _).mono ?_; rintro e w' ⟨rfl, rfl⟩))
    refine (shift_in _ _ _ _ _ (by omega) (by omega) (by omega) (by omega) b0.1 b0.2 (by omega)).mono ?_
    rintro e w' ⟨rfl, rfl⟩
    go_wp2_with fail
    refine (shift_in _ _ _ _ _ (by omega) (by omega) (by omega) (by omega) b0.1 b0.2 (by omega)).mono ?_
    rintro e w' ⟨rfl, rfl⟩
    go_wp2_with fail
    refine (shift_in _ _ _ _ _ (by omega) (by omega) (by omega) (by omega) b0.1 b0.2 (by omega)).mono ?_
    rintro e w' ⟨rfl, rfl⟩
    go_wp2_with fail
    go_loop [14, 15, 16, 51] (fun p q r i => ∃ (j : Nat) (c : Int), (j : Int) ≤ a1 ∧ i = .int .i64 j ∧ p = .int .u32 ((Rm.itW 0 j a0.toNat : Nat) : Int) ∧ q = .int .u32 ((Rm.itW 1 j a0.toNat : Nat) : Int) ∧ r = .int .i32 c ∧ Hid (c = Rm.sgn ((Rm.itW 2 j a0.toNat : Nat) : Int))) (fun _ _ _ i => (a1 - intOf i).toNat)
    case atStart => exact ⟨0, wrap32 a0, by omega, rfl, by congr 1; simp [Rm.itW]; omega, by congr 1; simp [Rm.itW]; omega, rfl, Lib.hid (by rw [Rm.sgn_wrap a0 b0.1 b0.2]; simp only [Rm.itW]; congr 1; omega)⟩
    case round =>
      obtain ⟨j, c, hj, rfl, rfl, rfl, rfl, hc⟩ := hrel
      have h2 := Rm.itW_lt 2 j a0.toNat hx
      have h3 := Rm.itW_lt 0 j a0.toNat hx
      have h4 := Rm.itW_lt 1 j a0.toNat hx
      by_cases hlt : (j : Int) < a1
      · obtain ⟨y, hy⟩ : ∃ y, Rm.itW 2 j a0.toNat = y := ⟨_, rfl⟩
        have HY := Lib.hid hy
        rw [hy] at hc h2
        have hc' := hc.out
        have ec : c % 4294967296 = (y : Int) := by rw [hc']; exact Rm.sgn_mod y h2
        have ea := Rm.and1 (y : Int) (by omega) (by omega)
        obtain ⟨m, m1, m2, m3, m4, m5, m6⟩ := Rm.side_step y h2
        rw [← hc'] at m1 m2 m3
        have ht := Rm.half_neg _ m m1
        have HM := Lib.hid m6
        clear m6 m1 hy hc' hc
        go_wp2
        go_round
        case rel => exact ⟨j + 1, m, by omega, by go_num, by congr 1, by congr 1, rfl, Lib.hid (by show m = Rm.sgn ((Rm.oneW 2 (Rm.itW 2 j a0.toNat) : Nat) : Int); rw [HY.out]; exact HM.out)⟩
        case measure => simp [intOf]; omega
      · have e : a1.toNat = j := by omega
        have ec : c % 4294967296 = ((Rm.itW 2 j a0.toNat : Nat) : Int) := by rw [hc.out]; exact Rm.sgn_mod _ h2
        clear hc
        go_wp2
        go_ret
        exact ⟨rfl, Below.refl _ _⟩

end Go.Proofs.Ytcpalglmnondmaa

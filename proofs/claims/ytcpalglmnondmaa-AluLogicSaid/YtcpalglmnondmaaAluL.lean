/- The walks of chapter 1's laws. -/
import Derived.Test.YtcpalglmnondmaaAluB
import Derived.Below
namespace Go.Proofs.Ytcpalglmnondmaa
open Go.RowKit

theorem anchor01_any (w : World) : Calls Try.prog 20 #[] w fun e w' => e = .returned (.bool true) ∧ w = w' := by
  have e1 : Rm.addS 4294967295 1 0 = 0 := by decide
  have e2 : Rm.addC 4294967295 1 0 = 1 := by decide
  have e3 : Rm.addV 4294967295 1 0 = 0 := by decide
  have e4 : Rm.itW 3 (Int.toNat 1) (Int.toNat 1) = 2147483648 := by decide
  have e5 : Rm.itC 3 (Int.toNat 1) (Int.toNat 1) (min (Int.toNat 0) 1) = 1 := by decide
  have e6 : Lib.bitLen (Int.toNat 8) = 4 := by decide
  go_enter Try.func20, Try.ntmps20
  go_wp2_with fail
  refine (add_any _ _ _ _ (by omega) (by omega) (by omega) (by omega) (by omega)).mono ?_
  rintro e w' ⟨rfl, rfl⟩
  rw [e1, e2, e3]
  clear e1 e2 e3
  go_wp2_with fail
  refine (shift_in _ _ _ _ _ (by omega) (by omega) (by omega) (by omega) (by omega) (by omega) (by omega)).mono ?_
  rintro e w' ⟨rfl, rfl⟩
  rw [e4, e5]
  clear e4 e5
  go_wp2_with fail
  refine (len_any _ _ (by omega) (by omega)).mono ?_
  rintro e w' ⟨rfl, rfl⟩
  rw [e6]
  clear e6
  go_wp2
  go_ret
  exact ⟨rfl, rfl⟩

theorem AluAdds_walk (a0 : Int) (b0 : 0 ≤ a0 ∧ a0 ≤ 4294967295) (a1 : Int) (b1 : 0 ≤ a1 ∧ a1 ≤ 4294967295) (a2 : Int) (b2 : 0 ≤ a2 ∧ a2 ≤ 4294967295) (W : World) :
    Calls Try.prog 6 #[.int .u32 a0, .int .u32 a1, .int .u32 a2] W fun e w' => e = .returned (.bool true) ∧ Below W.heap.size W w' := by
  go_enter Try.func6, Try.ntmps6
  go_wp2_with (first | (go_at_call 20; refine (anchor01_any _).mono ?_; rintro e w' ⟨rfl, rfl⟩) | (go_at_call 21; refine (add_any _ _ _ _ b0.1 b0.2 b1.1 b1.2 b2.1).mono ?_; rintro e w' ⟨rfl, rfl⟩) | (go_at_call 22; refine (refadd_any _ _ _ _ b0.1 b0.2 b1.1 b1.2 b2.1).mono ?_; rintro e w' ⟨rfl, rfl⟩))
  go_ret
  exact ⟨rfl, Below.refl _ _⟩

theorem AluShifts_walk (a0 : Int) (b0 : -9223372036854775808 ≤ a0 ∧ a0 ≤ 9223372036854775807) (a1 : Int) (b1 : 0 ≤ a1 ∧ a1 ≤ 4294967295) (a2 : Int) (b2 : -9223372036854775808 ≤ a2 ∧ a2 ≤ 9223372036854775807) (a3 : Int) (b3 : 0 ≤ a3 ∧ a3 ≤ 4294967295) (W : World) :
    Calls Try.prog 7 #[.int .i64 a0, .int .u32 a1, .int .i64 a2, .int .u32 a3] W fun e w' => e = .returned (.bool true) ∧ Below W.heap.size W w' := by
  by_cases h : a0 < 0 ∨ 3 < a0 ∨ a2 < 0 ∨ 255 < a2
  · have H := shift_out a0 a1 a2 a3 W h
    have HH := Lib.hid h
    go_enter Try.func7, Try.ntmps7
    go_wp2_with (first | (go_at_call 20; refine (anchor01_any _).mono ?_; rintro e w' ⟨rfl, rfl⟩) | (go_at_call 23; refine (shift_out _ _ _ _ _ HH.out).mono ?_; rintro e w' ⟨rfl, rfl⟩))
    all_goals first
      | (go_ret; exact ⟨rfl, Below.refl _ _⟩)
      | (exfalso; have h1 := HH.out; omega)
  · have h0 : 0 ≤ a0 := by omega
    have h1 : a0 ≤ 3 := by omega
    have h2 : 0 ≤ a2 := by omega
    have h3 : a2 ≤ 255 := by omega
    clear h
    go_enter Try.func7, Try.ntmps7
    go_wp2_with (first | (go_at_call 20; refine (anchor01_any _).mono ?_; rintro e w' ⟨rfl, rfl⟩) | (go_at_call 23; refine (shift_in _ _ _ _ _ h0 h1 h2 h3 b1.1 b1.2 b3.1).mono ?_; rintro e w' ⟨rfl, rfl⟩) | (go_at_call 24; refine (refshift_any _ _ _ _ _ h0 h1 h2 h3 b1.1 b1.2 b3.1).mono ?_; rintro e w' ⟨rfl, rfl⟩))
    go_ret
    exact ⟨rfl, Below.refl _ _⟩

end Go.Proofs.Ytcpalglmnondmaa

/- The document's time of what stores, or loads, some registers. -/
import Derived.Test.YthpkejlmelednaaDoorPop32
import Derived.Test.YthpkejlmelednaaDoorClkL
namespace Go.Proofs.YthpkejlmelednaaDoor
open Go.RowKit

theorem bits16_zero : bits16 0 = 0 := by decide

set_option maxHeartbeats 4000000 in
theorem refbase_push (a1 a2 a3 a4 a5 a6 a7 a8 a9 R : Int) (t : Value) (a b : Value) (w : World) (h0 : 1 ≤ R) (h1 : R ≤ 65535) :
    Calls Tryd.prog 17 #[.agg #[.int .i64 42, .int .i64 a1, .int .i64 a2, .int .i64 a3, .int .i64 a4, .int .i64 a5, .int .i64 a6, .int .i64 a7, .int .i64 a8, .int .i64 a9, .int .i64 R], t, a, b] w fun e w' => e = .returned (.int .i64 (1 + bits16 R)) ∧ Below w.heap.size w w' := by
  have hbd := bits16_bd R (by omega) (by omega)
  go_enter Tryd.func17, Tryd.ntmps17
  go_wp2
  go_loop [10, 11] (fun n x => ∃ m y : Int, n = .int .i64 m ∧ x = .int .i64 y ∧ 0 ≤ y ∧ y ≤ 65535 ∧ 0 ≤ m ∧ m ≤ 17 ∧ Hid (m + bits16 y = 1 + bits16 R)) (fun _ x => (intOf x).toNat)
  case atStart => exact ⟨1, R, rfl, rfl, by omega, by omega, by omega, by omega, rfl⟩
  case round =>
    obtain ⟨m, y, rfl, rfl, hy0, hy1, hm0, hm1, H⟩ := hrel
    by_cases hlt : 0 < y
    · have e1 : y.tmod 2 = y % 2 := Int.tmod_eq_emod_of_nonneg (by omega)
      have e2 : y.tdiv 2 = y / 2 := Int.tdiv_eq_ediv_of_nonneg (by omega)
      have hb2 := bits16_bd (y / 2) (by omega) (by omega)
      have hh : m + y % 2 + bits16 (y / 2) = 1 + bits16 R := by have h1 := H.out; have h2 := bits16_half y hy0 hy1; omega
      have hm2 : m + y % 2 ≤ 17 := by omega
      have HH := Lib.hid hh
      clear hh
      go_wp2
      go_round
      case rel => exact ⟨m + y % 2, y / 2, by go_num, by go_num, by omega, by omega, by omega, by omega, HH⟩
      case measure => simp [intOf]; omega
    · have e : y = 0 := by omega
      subst e
      have hm3 : m = 1 + bits16 R := by have h1 := H.out; rw [bits16_zero] at h1; omega
      subst hm3
      clear H hlt
      go_wp2
      go_ret
      exact ⟨ret_i (by first | rfl | (go_num) | omega), (Below.refl _ w).alloc (Nat.le_refl _) _⟩

set_option maxHeartbeats 4000000 in
theorem refbase_pop1 (a1 a2 a3 a4 a5 a6 a7 a8 a9 R : Int) (t : Value) (a b : Value) (w : World) (h0 : 1 ≤ R) (h1 : R ≤ 32767) :
    Calls Tryd.prog 17 #[.agg #[.int .i64 43, .int .i64 a1, .int .i64 a2, .int .i64 a3, .int .i64 a4, .int .i64 a5, .int .i64 a6, .int .i64 a7, .int .i64 a8, .int .i64 a9, .int .i64 R], t, a, b] w fun e w' => e = .returned (.int .i64 (1 + bits16 R)) ∧ Below w.heap.size w w' := by
  have hbd := bits16_bd R (by omega) (by omega)
  go_enter Tryd.func17, Tryd.ntmps17
  go_wp2
  go_loop [10, 11] (fun n x => ∃ m y : Int, n = .int .i64 m ∧ x = .int .i64 y ∧ 0 ≤ y ∧ y ≤ 65535 ∧ 0 ≤ m ∧ m ≤ 17 ∧ Hid (m + bits16 y = 1 + bits16 R)) (fun _ x => (intOf x).toNat)
  case atStart => exact ⟨1, R, rfl, rfl, by omega, by omega, by omega, by omega, rfl⟩
  case round =>
    obtain ⟨m, y, rfl, rfl, hy0, hy1, hm0, hm1, H⟩ := hrel
    by_cases hlt : 0 < y
    · have e1 : y.tmod 2 = y % 2 := Int.tmod_eq_emod_of_nonneg (by omega)
      have e2 : y.tdiv 2 = y / 2 := Int.tdiv_eq_ediv_of_nonneg (by omega)
      have hb2 := bits16_bd (y / 2) (by omega) (by omega)
      have hh : m + y % 2 + bits16 (y / 2) = 1 + bits16 R := by have h1 := H.out; have h2 := bits16_half y hy0 hy1; omega
      have hm2 : m + y % 2 ≤ 17 := by omega
      have HH := Lib.hid hh
      clear hh
      go_wp2
      go_round
      case rel => exact ⟨m + y % 2, y / 2, by go_num, by go_num, by omega, by omega, by omega, by omega, HH⟩
      case measure => simp [intOf]; omega
    · have e : y = 0 := by omega
      subst e
      have hm3 : m = 1 + bits16 R := by have h1 := H.out; rw [bits16_zero] at h1; omega
      subst hm3
      clear H hlt
      go_wp2
      go_ret
      exact ⟨ret_i (by first | rfl | (go_num) | omega), (Below.refl _ w).alloc (Nat.le_refl _) _⟩

set_option maxHeartbeats 4000000 in
theorem refbase_pop2 (a1 a2 a3 a4 a5 a6 a7 a8 a9 R : Int) (t : Value) (a b : Value) (w : World) (h0 : 32768 ≤ R) (h1 : R ≤ 65535) :
    Calls Tryd.prog 17 #[.agg #[.int .i64 43, .int .i64 a1, .int .i64 a2, .int .i64 a3, .int .i64 a4, .int .i64 a5, .int .i64 a6, .int .i64 a7, .int .i64 a8, .int .i64 a9, .int .i64 R], t, a, b] w fun e w' => e = .returned (.int .i64 (1 + bits16 R + 2)) ∧ Below w.heap.size w w' := by
  have hbd := bits16_bd R (by omega) (by omega)
  go_enter Tryd.func17, Tryd.ntmps17
  go_wp2
  go_loop [10, 11] (fun n x => ∃ m y : Int, n = .int .i64 m ∧ x = .int .i64 y ∧ 0 ≤ y ∧ y ≤ 65535 ∧ 0 ≤ m ∧ m ≤ 17 ∧ Hid (m + bits16 y = 1 + bits16 R)) (fun _ x => (intOf x).toNat)
  case atStart => exact ⟨1, R, rfl, rfl, by omega, by omega, by omega, by omega, rfl⟩
  case round =>
    obtain ⟨m, y, rfl, rfl, hy0, hy1, hm0, hm1, H⟩ := hrel
    by_cases hlt : 0 < y
    · have e1 : y.tmod 2 = y % 2 := Int.tmod_eq_emod_of_nonneg (by omega)
      have e2 : y.tdiv 2 = y / 2 := Int.tdiv_eq_ediv_of_nonneg (by omega)
      have hb2 := bits16_bd (y / 2) (by omega) (by omega)
      have hh : m + y % 2 + bits16 (y / 2) = 1 + bits16 R := by have h1 := H.out; have h2 := bits16_half y hy0 hy1; omega
      have hm2 : m + y % 2 ≤ 17 := by omega
      have HH := Lib.hid hh
      clear hh
      go_wp2
      go_round
      case rel => exact ⟨m + y % 2, y / 2, by go_num, by go_num, by omega, by omega, by omega, by omega, HH⟩
      case measure => simp [intOf]; omega
    · have e : y = 0 := by omega
      subst e
      have hm3 : m = 1 + bits16 R := by have h1 := H.out; rw [bits16_zero] at h1; omega
      subst hm3
      clear H hlt
      go_wp2
      go_ret
      exact ⟨ret_i (by first | rfl | (go_num) | omega), (Below.refl _ w).alloc (Nat.le_refl _) _⟩

end Go.Proofs.YthpkejlmelednaaDoor

/- The walk of ClockFetches. -/
import Derived.Test.YtcpalglmnondmaaClkL
namespace Go.Proofs.Ytcpalglmnondmaa
open Go.RowKit

theorem fetches_other (a0 : Bool) (a1 : Int) (b1 : 0 ≤ a1 ∧ a1 ≤ 4294967295) (a2 : Int) (b2 : 0 ≤ a2 ∧ a2 ≤ 4294967295) (a3 : Int) (W : World) (h2 : a3 ≠ 2) (h4 : a3 ≠ 4) :
    Calls Try.prog 3 #[.bool a0, .int .u32 a1, .int .u32 a2, .int .i64 a3] W fun e w' => e = .returned (.bool true) ∧ Below W.heap.size W w' := by
  have n2 : (a3 != 2) = true := by rw [bne_iff_ne]; exact h2
  have n4 : (a3 != 4) = true := by rw [bne_iff_ne]; exact h4
  have H2 := Lib.hid h2
  have H4 := Lib.hid h4
  clear h2 h4
  go_enter Try.func3, Try.ntmps3
  go_wp2_with fail
  refine (anchor05_any _).mono ?_
  rintro e w1 ⟨rfl, hb1⟩
  go_wp2_with fail
  refine (fetch_no _ _ _ _ _ H2.out H4.out).mono ?_
  rintro e w2 ⟨rfl, hb2⟩
  have k0 : Blk w2 w1.heap.size 25 #[.bool a0, .int .u32 a1] := (Blk.new w1 _ _).below hb2 (by simp)
  have c0 := k0.cell 0
  have c1 := k0.cell 1
  have hb := (hb1.alloc hb1.size (.cells #[.bool a0, .int .u32 a1] 25)).trans (hb2.mono (by have := hb1.size; simp; omega))
  have hz := k0.lt
  go_wp2_with fail
  go_ret
  exact ⟨rfl, hb.alloc hb.size _⟩

theorem fetches_two (a0 : Bool) (a1 : Int) (b1 : 0 ≤ a1 ∧ a1 ≤ 4294967295) (a2 : Int) (b2 : 0 ≤ a2 ∧ a2 ≤ 4294967295) (W : World) :
    Calls Try.prog 3 #[.bool a0, .int .u32 a1, .int .u32 a2, .int .i64 2] W fun e w' => e = .returned (.bool true) ∧ Below W.heap.size W w' := by
  have e1 := Rm.missN_1 a1 (a2 / 16)
  have e2 := Rm.missN_0 a1 (a2 / 16) (by omega)
  cases a0
  all_goals
    go_enter Try.func3, Try.ntmps3
    go_wp2_with fail
    refine (anchor05_any _).mono ?_
    rintro e w1 ⟨rfl, hb1⟩
    go_wp2_with fail
    refine (fetch_two _ _ _ _ b2.1 b2.2).mono ?_
    rintro e w2 ⟨rfl, hb2⟩
    have hb := (hb1.alloc hb1.size (.cells #[_, .int .u32 a1] 25)).trans (hb2.mono (by have := hb1.size; simp; omega))
    go_wp2_with (first | (go_at_call 17; refine (halves_two _ _).mono ?_; rintro e w' ⟨rfl, rfl⟩) | (go_at_call 16; refine (misses_one _ a2 _ _ b2.1 b2.2 (by simp [go_sem])).mono ?_; rintro e w' ⟨rfl, rfl⟩) | (go_at_call 18; refine (line_any _ _ b2.1 b2.2).mono ?_; rintro e w' ⟨rfl, rfl⟩))
    go_ret
    exact ⟨rfl, (hb.alloc hb.size _).alloc (by have := hb.size; simp; omega) _⟩

theorem fetches_four (a0 : Bool) (a1 : Int) (b1 : 0 ≤ a1 ∧ a1 ≤ 4294967295) (a2 : Int) (b2 : 0 ≤ a2 ∧ a2 ≤ 4294967295) (W : World) :
    Calls Try.prog 3 #[.bool a0, .int .u32 a1, .int .u32 a2, .int .i64 4] W fun e w' => e = .returned (.bool true) ∧ Below W.heap.size W w' := by
  have e1 := Rm.missN_1 a1 (a2 / 16)
  have e2 := Rm.missN_0 a1 (a2 / 16) (by omega)
  have e3 := Rm.missN_1 (a2 / 16) ((a2 + 2) % 4294967296 / 16)
  cases a0
  all_goals
    go_enter Try.func3, Try.ntmps3
    go_wp2_with fail
    refine (anchor05_any _).mono ?_
    rintro e w1 ⟨rfl, hb1⟩
    go_wp2_with fail
    refine (fetch_four _ _ _ _ b2.1 b2.2).mono ?_
    rintro e w2 ⟨rfl, hb2⟩
    have hb := (hb1.alloc hb1.size (.cells #[_, .int .u32 a1] 25)).trans (hb2.mono (by have := hb1.size; simp; omega))
    go_wp2_with (first | (go_at_call 17; refine (halves_four _ _).mono ?_; rintro e w' ⟨rfl, rfl⟩) | (go_at_call 16; refine (misses_two _ a2 ((a2 + 2) % 4294967296) _ _ b2.1 b2.2 (by omega) (by omega) (by simp [go_sem]) (by simp [go_sem])).mono ?_; rintro e w' ⟨rfl, rfl⟩) | (go_at_call 18; refine (line_any _ _ b2.1 b2.2).mono ?_; rintro e w' ⟨rfl, rfl⟩))
    go_ret
    exact ⟨rfl, (hb.alloc hb.size _).alloc (by have := hb.size; simp; omega) _⟩

theorem ClockFetches_walk (a0 : Bool) (a1 : Int) (b1 : 0 ≤ a1 ∧ a1 ≤ 4294967295) (a2 : Int) (b2 : 0 ≤ a2 ∧ a2 ≤ 4294967295) (a3 : Int) (_b3 : -9223372036854775808 ≤ a3 ∧ a3 ≤ 9223372036854775807) (W : World) :
    Calls Try.prog 3 #[.bool a0, .int .u32 a1, .int .u32 a2, .int .i64 a3] W fun e w' => e = .returned (.bool true) ∧ Below W.heap.size W w' := by
  by_cases h2 : a3 = 2
  · subst h2; exact fetches_two a0 a1 b1 a2 b2 W
  · by_cases h4 : a3 = 4
    · subst h4; exact fetches_four a0 a1 b1 a2 b2 W
    · exact fetches_other a0 a1 b1 a2 b2 a3 W h2 h4

end Go.Proofs.Ytcpalglmnondmaa

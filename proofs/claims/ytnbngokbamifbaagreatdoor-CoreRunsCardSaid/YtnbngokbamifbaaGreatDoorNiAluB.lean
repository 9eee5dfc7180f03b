/- Walks of the words' functions with a loop: a shift by many bits, a bit, the document's shift, the document's length. -/
import Derived.Test.YtnbngokbamifbaaGreatDoorNiAluA
namespace Go.Proofs.YtnbngokbamifbaaGreatDoor
open Go.RowKit

theorem one_any (k : Int) (x : Nat) (w : World) (hk0 : 0 ≤ k) (hk1 : k ≤ 3) (hx : x < 4294967296) :
    Calls Tryz.prog 209 #[.int .i64 k, .int .u32 (x : Int)] w fun e w' => e = .returned (.tuple #[.int .u32 ((Rm.oneW k x : Nat) : Int), .int .u32 ((Rm.oneC k x : Nat) : Int)]) ∧ w = w' := by
  have hk : k = 0 ∨ k = 1 ∨ k = 2 ∨ k = 3 := by omega
  have e1 := Rm.and1 (x : Int) (by omega) (by omega)
  rcases hk with rfl | rfl | rfl | rfl
  · go_enter Tryz.func209, Tryz.ntmps209
    go_wp2
    go_ret2
    exact ⟨ret_2 (by simp [Rm.oneW] <;> omega) (by simp [Rm.oneC] <;> omega), rfl⟩
  · go_enter Tryz.func209, Tryz.ntmps209
    go_wp2
    go_ret2
    exact ⟨ret_2 (by simp [Rm.oneW] <;> omega) (by simp [Rm.oneC] <;> omega), rfl⟩
  · go_enter Tryz.func209, Tryz.ntmps209
    go_wp2
    go_ret2
    exact ⟨ret_2 (by rw [Rm.or_top _ _ (by omega) (by omega) (by omega) (by omega)]; simp [Rm.oneW] <;> omega) (by simp [Rm.oneC] <;> omega), rfl⟩
  · go_enter Tryz.func209, Tryz.ntmps209
    go_wp2
    go_ret2
    exact ⟨ret_2 (by rw [Rm.or_top _ _ (by omega) (by omega) (by omega) (by omega)]; simp [Rm.oneW] <;> omega) (by simp [Rm.oneC] <;> omega), rfl⟩

/-- a shift that is refused -/
theorem shift_out (k x n c : Int) (w : World) (h : k < 0 ∨ 3 < k ∨ n < 0 ∨ 255 < n) :
    Calls Tryz.prog 183 #[.int .i64 k, .int .u32 x, .int .i64 n, .int .u32 c] w fun e w' => e = .returned (.tuple #[.int .u32 0, .int .u32 0, .int .i64 11]) ∧ w = w' := by
  by_cases h1 : k < 0
  · go_enter Tryz.func183, Tryz.ntmps183
    go_wp2
    go_ret3
    exact ⟨rfl, rfl⟩
  · by_cases h2 : 3 < k
    · go_enter Tryz.func183, Tryz.ntmps183
      go_wp2
      go_ret3
      exact ⟨rfl, rfl⟩
    · by_cases h3 : n < 0
      · go_enter Tryz.func183, Tryz.ntmps183
        go_wp2
        go_ret3
        exact ⟨rfl, rfl⟩
      · have h4 : 255 < n := by omega
        clear h
        go_enter Tryz.func183, Tryz.ntmps183
        go_wp2
        go_ret3
        exact ⟨rfl, rfl⟩

theorem shift_in (k x n c : Int) (w : World) (hk0 : 0 ≤ k) (hk1 : k ≤ 3) (hn0 : 0 ≤ n) (hn1 : n ≤ 255) (hx0 : 0 ≤ x) (hx1 : x ≤ 4294967295) (hc0 : 0 ≤ c) :
    Calls Tryz.prog 183 #[.int .i64 k, .int .u32 x, .int .i64 n, .int .u32 c] w fun e w' =>
      e = .returned (.tuple #[.int .u32 ((Rm.itW k n.toNat x.toNat : Nat) : Int), .int .u32 ((Rm.itC k n.toNat x.toNat (min c.toNat 1) : Nat) : Int), .int .i64 0]) ∧ w = w' := by
  have hxn : x.toNat < 4294967296 := by omega
  have d1 : decide (k < 0) = false := by simpa using hk0
  have d2 : decide (3 < k) = false := by simpa using hk1
  have d3 : decide (n < 0) = false := by simpa using hn0
  have d4 : decide (255 < n) = false := by simpa using hn1
  go_enter Tryz.func183, Tryz.ntmps183
  go_wp2
  go_loop [1, 3, 28] (fun a b i => ∃ j : Nat, (j : Int) ≤ n ∧ i = .int .i64 j ∧ a = .int .u32 ((Rm.itW k j x.toNat : Nat) : Int) ∧ b = .int .u32 ((Rm.itC k j x.toNat (min c.toNat 1) : Nat) : Int)) (fun _ _ i => (n - intOf i).toNat)
  case atStart => exact ⟨0, by omega, rfl, by congr 1; simp only [Rm.itW]; omega, by congr 1; simp only [Rm.itC]; omega⟩
  case round =>
    obtain ⟨j, hj, rfl, rfl, rfl⟩ := hrel
    by_cases hlt : (j : Int) < n
    · have hl := Rm.itW_lt k j x.toNat hxn
      go_wp2_with (go_at_call 209; refine (one_any k _ _ hk0 hk1 hl).mono ?_; rintro e w' ⟨rfl, rfl⟩)
      go_round
      case rel => exact ⟨j + 1, by omega, by go_num, rfl, rfl⟩
      case measure => simp [intOf]; omega
    · go_wp2
      go_ret3
      have e : n.toNat = j := by omega
      exact ⟨by rw [e]; rfl, rfl⟩

end Go.Proofs.YtnbngokbamifbaaGreatDoor

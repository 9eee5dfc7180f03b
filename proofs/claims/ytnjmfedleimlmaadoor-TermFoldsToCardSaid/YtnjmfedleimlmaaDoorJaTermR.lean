/- The document's operators: the walks of power, turned, apply. -/
import Derived.Test.YtnjmfedleimlmaaDoorJaTermQ
import Derived.Deep.RegionLaw
namespace Go.Proofs.YtnjmfedleimlmaaDoor
open Go Go.RowKit

namespace Rm
def up1 (x : Nat) : Nat := x * 2 % 4294967296 + x / 2147483648
def upN : Nat → Nat → Nat
  | 0, x => x
  | n + 1, x => up1 (upN n x)
theorem up1_one (y : Nat) (h : y < 4294967296) : up1 (oneW 3 y) = y := by
  have e : oneW 3 y = y / 2 + y % 2 * 2147483648 := by simp [oneW]
  rw [e]; unfold up1
  rcases Nat.mod_two_eq_zero_or_one y with h2 | h2 <;> rw [h2] <;> omega
theorem upN_it (x : Nat) (hx : x < 4294967296) : ∀ n, n ≤ 32 → upN n x = itW 3 (32 - n) x
  | 0, _ => by
    have h := turn_back x 32 hx (Nat.le_refl _)
    have h0 : ∀ z, itW 3 0 z = z := fun _ => rfl
    rw [Nat.sub_self, h0] at h
    rw [Nat.sub_zero, h]; rfl
  | n + 1, h => by
    have ih := upN_it x hx n (by omega)
    have e : 32 - n = (32 - (n + 1)) + 1 := by omega
    rw [e] at ih
    show up1 (upN n x) = _
    rw [ih]
    exact up1_one _ (itW_lt 3 _ x hx)
theorem upN_rotl (x n : Nat) (hx : x < 4294967296) (hn : n ≤ 31) : upN n x = rotl x n := by
  rw [upN_it x hx n (by omega)]
  unfold rotl
  rw [Nat.mod_eq_of_lt (by omega)]
theorem upN_lt (x n : Nat) (hx : x < 4294967296) (hn : n ≤ 31) : upN n x < 4294967296 := by rw [upN_rotl x n hx hn]; exact rotl_lt x n hx
end Rm

theorem power_any (n : Int) (w : World) (h0 : 0 ≤ n) (h1 : n ≤ 31) : Calls Tryd.prog 72 #[.int .u32 n] w fun e w' => e = .returned (.int .u32 (2 ^ n.toNat)) ∧ w' = w := by
  go_enter Tryd.func72, Tryd.ntmps72
  go_wp2
  go_loop [3, 4] (fun x i => ∃ k : Nat, ∃ y : Int, i = .int .u32 k ∧ x = .int .u32 y ∧ (k : Int) ≤ n ∧ 1 ≤ y ∧ y ≤ 2147483648 ∧ Hid (y = 2 ^ k)) (fun _ i => n.toNat - (intOf i).toNat)
  case atStart => exact ⟨0, 1, rfl, rfl, by omega, by omega, by omega, rfl⟩
  case round =>
    obtain ⟨k, y, rfl, rfl, hk, hy0, hy1, hH⟩ := hrel
    by_cases hlt : (k : Int) < n
    · have hy2 : y ≤ 1073741824 := by
        have e := hH.out
        have : (2 : Int) ^ k ≤ 2 ^ 30 := by exact_mod_cast Nat.pow_le_pow_right (n := 2) (by omega) (show k ≤ 30 by omega)
        rw [e]; simpa using this
      have hn : Hid (y * 2 = 2 ^ (k + 1)) := by show y * 2 = 2 ^ (k + 1); rw [hH.out, Int.pow_succ]
      clear hH
      go_wp2
      go_round
      case rel => exact ⟨k + 1, y * 2, by go_num, by go_num, by omega, by omega, by omega, hn⟩
      case measure => simp [intOf]; omega
    · have hkn : n.toNat = k := by omega
      have hH' := Lib.hid (show y = 2 ^ n.toNat by rw [hkn]; exact hH.out)
      clear hH hkn
      go_wp2
      go_ret
      exact ⟨congrArg Ending.returned (congrArg (Value.int IntKind.u32) hH'.out), rfl⟩
theorem turned_any (x n : Int) (w : World) (hx0 : 0 ≤ x) (hx1 : x ≤ 4294967295) (h0 : 0 ≤ n) (h1 : n ≤ 31) : Calls Tryd.prog 73 #[.int .u32 x, .int .u32 n] w fun e w' => e = .returned (.int .u32 ((Rm.rotl x.toNat n.toNat : Nat) : Int)) ∧ w' = w := by
  go_enter Tryd.func73, Tryd.ntmps73
  go_wp2
  go_loop [0, 5] (fun v i => ∃ k : Nat, ∃ y : Int, i = .int .u32 k ∧ v = .int .u32 y ∧ (k : Int) ≤ n ∧ 0 ≤ y ∧ y ≤ 4294967295 ∧ Hid (y = Rm.upN k x.toNat)) (fun _ i => n.toNat - (intOf i).toNat)
  case atStart => exact ⟨0, x, rfl, rfl, by omega, by omega, by omega, by show x = (x.toNat : Int); omega⟩
  case round =>
    obtain ⟨k, y, rfl, rfl, hk, hy0, hy1, hH⟩ := hrel
    by_cases hlt : (k : Int) < n
    · have hn : Hid (y * 2 % 4294967296 + y / 2147483648 = Rm.upN (k + 1) x.toNat) := by
        show _ = ((Rm.up1 (Rm.upN k x.toNat) : Nat) : Int)
        have e := hH.out
        unfold Rm.up1
        rw [e]; omega
      clear hH
      go_wp2
      go_round
      case rel => exact ⟨k + 1, y * 2 % 4294967296 + y / 2147483648, by go_num, by go_num, by omega, by omega, by omega, hn⟩
      case measure => simp [intOf]; omega
    · have hkn : n.toNat = k := by omega
      have hH' := Lib.hid (show y = ((Rm.rotl x.toNat n.toNat : Nat) : Int) by rw [hkn, ← Rm.upN_rotl x.toNat k (by omega) (by omega)]; exact hH.out)
      clear hH hkn
      go_wp2
      go_ret
      exact ⟨congrArg Ending.returned (congrArg (Value.int IntKind.u32) hH'.out), rfl⟩

end Go.Proofs.YtnjmfedleimlmaaDoor

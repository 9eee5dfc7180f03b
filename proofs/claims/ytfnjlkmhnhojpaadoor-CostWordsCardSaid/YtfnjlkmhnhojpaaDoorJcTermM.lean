/- What operators make of words: the walks of the program's functions. -/
import Derived.Test.YtfnjlkmhnhojpaaDoorJcTermA
import Derived.Test.YtfnjlkmhnhojpaaDoorJcRotl
namespace Go.Proofs.YtfnjlkmhnhojpaaDoor
open Go Go.RowKit

theorem ttruth_any (b : Bool) (w : World) : Calls Tryd.prog 63 #[.bool b] w fun e w' => e = .returned (.int .u32 (if b then 1 else 0)) ∧ w' = w := by
  go_enter Tryd.func63, Tryd.ntmps63
  cases b
  · go_wp2
    go_ret
    exact ⟨rfl, rfl⟩
  · go_wp2
    go_ret
    exact ⟨rfl, rfl⟩
def oneV (op x : Int) : Int := if op = 3 then 4294967295 - x else -x % 4294967296
theorem oneV_bd {op x : Int} (h0 : 0 ≤ x) (h1 : x ≤ 4294967295) : 0 ≤ oneV op x ∧ oneV op x ≤ 4294967295 := by unfold oneV; split <;> omega
theorem tone_any (op x : Int) (w : World) (h0 : 0 ≤ x) (h1 : x ≤ 4294967295) : Calls Tryd.prog 64 #[.int .i64 op, .int .u32 x] w fun e w' => e = .returned (.int .u32 (oneV op x)) ∧ w' = w := by
  go_enter Tryd.func64, Tryd.ntmps64
  by_cases h : op = 3
  · subst h
    go_wp2
    go_ret
    refine ⟨congrArg Ending.returned (congrArg (Value.int IntKind.u32) ?_), rfl⟩
    rw [Rm.not32 x h0 h1]; rfl
  · have hb : (op == 3) = false := by simpa using h
    go_wp2
    go_ret
    refine ⟨congrArg Ending.returned (congrArg (Value.int IntKind.u32) ?_), rfl⟩
    unfold oneV; rw [if_neg h]
/-- what an operator of bits makes of two words -/
def logicV (op x y : Int) : Int :=
  if op = 5 then bits .or .u32 x y else if op = 6 then bits .xor .u32 x y else if op = 7 then bits .and .u32 x y
  else if op = 10 then x * 2 ^ (y % 32).toNat % 4294967296 else if op = 11 then x / 2 ^ (y % 32).toNat else ((Rm.rotl x.toNat (y % 32).toNat : Nat) : Int)
theorem u32_mask5 (x : Int) (h0 : 0 ≤ x) (h1 : x ≤ 4294967295) : bits .and .u32 x 31 = x % 32 := by
  rw [u32_and x 31 h0 (by omega) (by omega) (by omega)]
  have e : x.toNat &&& (31 : Int).toNat = x.toNat % 32 := nat_mask5 _
  rw [e]; omega
theorem logic_any (op x y : Int) (w : World) (h0 : 0 ≤ x) (h1 : x ≤ 4294967295) (k0 : 0 ≤ y) (k1 : y ≤ 4294967295) : Calls Tryd.prog 77 #[.int .i64 op, .int .u32 x, .int .u32 y] w fun e w' => e = .returned (.int .u32 (logicV op x y)) ∧ w' = w := by
  have e1 : bits .and .u32 y 31 = y % 32 := u32_mask5 y k0 k1
  obtain ⟨k, hk⟩ : ∃ k, y % 32 = k := ⟨_, rfl⟩
  have hk0 : 0 ≤ k := by omega
  have hk1 : k ≤ 31 := by omega
  by_cases h5 : op = 5
  · subst h5
    go_enter Tryd.func77, Tryd.ntmps77
    clear e1 hk
    go_wp2
    go_ret
    exact ⟨rfl, rfl⟩
  by_cases h6 : op = 6
  · subst h6
    go_enter Tryd.func77, Tryd.ntmps77
    clear e1 hk
    go_wp2
    go_ret
    exact ⟨rfl, rfl⟩
  by_cases h7 : op = 7
  · subst h7
    go_enter Tryd.func77, Tryd.ntmps77
    clear e1 hk
    go_wp2
    go_ret
    exact ⟨rfl, rfl⟩
  rw [hk] at e1
  by_cases h10 : op = 10
  · subst h10
    have HL := Lib.hid (show logicV 10 x y = x * 2 ^ k.toNat % 4294967296 by unfold logicV; rw [hk]; rfl)
    clear hk
    go_enter Tryd.func77, Tryd.ntmps77
    go_wp2
    go_ret
    refine ⟨congrArg Ending.returned (congrArg (Value.int IntKind.u32) ?_), rfl⟩
    rw [HL.out]
  by_cases h11 : op = 11
  · subst h11
    have HL := Lib.hid (show logicV 11 x y = x / 2 ^ k.toNat by unfold logicV; rw [hk]; rfl)
    clear hk
    go_enter Tryd.func77, Tryd.ntmps77
    go_wp2
    go_ret
    refine ⟨congrArg Ending.returned (congrArg (Value.int IntKind.u32) ?_), rfl⟩
    rw [HL.out]
  · have HL := Lib.hid (show logicV op x y = ((Rm.rotl x.toNat k.toNat : Nat) : Int) by unfold logicV; rw [if_neg h5, if_neg h6, if_neg h7, if_neg h10, if_neg h11, hk])
    have b5 : (op == 5) = false := by simpa using h5
    have b6 : (op == 6) = false := by simpa using h6
    have b7 : (op == 7) = false := by simpa using h7
    have b10 : (op == 10) = false := by simpa using h10
    have b11 : (op == 11) = false := by simpa using h11
    clear hk
    go_enter Tryd.func77, Tryd.ntmps77
    go_wp2_with fail
    refine (rotl_any x k _ h0 h1 hk0 (by omega)).mono ?_
    rintro e w' ⟨rfl, rfl⟩
    go_wp2_with fail
    go_ret
    exact ⟨congrArg Ending.returned (congrArg (Value.int IntKind.u32) HL.out.symm), rfl⟩

/-- what an operator makes of two words; nothing: it traps -/
def twoV (op x y : Int) : Option Int :=
  if op = 8 then some (if x = y then 1 else 0) else if op = 9 then some (if x < y then 1 else 0) else if op = 13 then some ((x + y) % 4294967296) else if op = 14 then some ((x - y) % 4294967296)
  else if op = 15 then some (x * y % 4294967296) else if op = 16 then (if y = 0 then none else some (x / y)) else if op = 17 then (if y = 0 then none else some (x % y)) else some (logicV op x y)
def TwoPost (w : World) (o : Option Int) (e : Ending) (w' : World) : Prop := e = .returned (.tuple #[.int .u32 (o.getD 0), .bool o.isSome]) ∧ w' = w
theorem two_any (op x y : Int) (w : World) (h0 : 0 ≤ x) (h1 : x ≤ 4294967295) (k0 : 0 ≤ y) (k1 : y ≤ 4294967295) : Calls Tryd.prog 65 #[.int .i64 op, .int .u32 x, .int .u32 y] w (TwoPost w (twoV op x y)) := by
  by_cases h8 : op = 8
  · subst h8
    by_cases hxy : x = y
    all_goals
      have HL := Lib.hid (show twoV 8 x y = some (if x = y then 1 else 0) from rfl)
    · have hb : (x == y) = true := by simpa using hxy
      have HM := Lib.hid (show twoV 8 x y = some 1 by rw [HL.out, if_pos hxy])
      clear hxy
      go_enter Tryd.func65, Tryd.ntmps65
      go_wp2_with fail
      refine (ttruth_any true _).mono ?_
      rintro e w' ⟨rfl, rfl⟩
      go_wp2_with fail
      go_ret2
      exact ⟨by rw [HM.out]; rfl, rfl⟩
    · have hb : (x == y) = false := by simpa using hxy
      have HM := Lib.hid (show twoV 8 x y = some 0 by rw [HL.out, if_neg hxy])
      clear hxy
      go_enter Tryd.func65, Tryd.ntmps65
      go_wp2_with fail
      refine (ttruth_any false _).mono ?_
      rintro e w' ⟨rfl, rfl⟩
      go_wp2_with fail
      go_ret2
      exact ⟨by rw [HM.out]; rfl, rfl⟩
  by_cases h9 : op = 9
  · subst h9
    by_cases hxy : x < y
    all_goals
      have HL := Lib.hid (show twoV 9 x y = some (if x < y then 1 else 0) from rfl)
    · have hb : decide (x < y) = true := by simpa using hxy
      have HM := Lib.hid (show twoV 9 x y = some 1 by rw [HL.out, if_pos hxy])
      go_enter Tryd.func65, Tryd.ntmps65
      go_wp2_with fail
      refine (ttruth_any true _).mono ?_
      rintro e w' ⟨rfl, rfl⟩
      go_wp2_with fail
      go_ret2
      exact ⟨by rw [HM.out]; rfl, rfl⟩
    · have hb : decide (x < y) = false := by simpa using hxy
      have HM := Lib.hid (show twoV 9 x y = some 0 by rw [HL.out, if_neg hxy])
      go_enter Tryd.func65, Tryd.ntmps65
      go_wp2_with fail
      refine (ttruth_any false _).mono ?_
      rintro e w' ⟨rfl, rfl⟩
      go_wp2_with fail
      go_ret2
      exact ⟨by rw [HM.out]; rfl, rfl⟩
  by_cases h13 : op = 13
  · subst h13
    go_enter Tryd.func65, Tryd.ntmps65
    go_wp2
    go_ret2
    exact ⟨rfl, rfl⟩
  by_cases h14 : op = 14
  · subst h14
    go_enter Tryd.func65, Tryd.ntmps65
    go_wp2
    go_ret2
    exact ⟨rfl, rfl⟩
  by_cases h15 : op = 15
  · subst h15
    go_enter Tryd.func65, Tryd.ntmps65
    go_wp2
    go_ret2
    exact ⟨rfl, rfl⟩
  by_cases h16 : op = 16
  · subst h16
    by_cases hy : y = 0
    · subst hy
      go_enter Tryd.func65, Tryd.ntmps65
      go_wp2
      go_ret2
      exact ⟨rfl, rfl⟩
    · have hb : (y == 0) = false := by simpa using hy
      have HM := Lib.hid (show twoV 16 x y = some (x / y) by unfold twoV; simp [hy])
      go_enter Tryd.func65, Tryd.ntmps65
      go_wp2
      go_ret2
      exact ⟨by rw [HM.out]; rfl, rfl⟩
  by_cases h17 : op = 17
  · subst h17
    by_cases hy : y = 0
    · subst hy
      go_enter Tryd.func65, Tryd.ntmps65
      go_wp2
      go_ret2
      exact ⟨rfl, rfl⟩
    · have hb : (y == 0) = false := by simpa using hy
      have HM := Lib.hid (show twoV 17 x y = some (x % y) by unfold twoV; simp [hy])
      go_enter Tryd.func65, Tryd.ntmps65
      go_wp2
      go_ret2
      exact ⟨by rw [HM.out]; rfl, rfl⟩
  · have HM := Lib.hid (show twoV op x y = some (logicV op x y) by unfold twoV; rw [if_neg h8, if_neg h9, if_neg h13, if_neg h14, if_neg h15, if_neg h16, if_neg h17])
    have b8 : (op == 8) = false := by simpa using h8
    have b9 : (op == 9) = false := by simpa using h9
    have b13 : (op == 13) = false := by simpa using h13
    have b14 : (op == 14) = false := by simpa using h14
    have b15 : (op == 15) = false := by simpa using h15
    have b16 : (op == 16) = false := by simpa using h16
    have b17 : (op == 17) = false := by simpa using h17
    go_enter Tryd.func65, Tryd.ntmps65
    go_wp2_with fail
    refine (logic_any op x y _ h0 h1 k0 k1).mono ?_
    rintro e w' ⟨rfl, rfl⟩
    go_wp2_with fail
    go_ret2
    exact ⟨by rw [HM.out]; rfl, rfl⟩
theorem logicV_bd {op x y : Int} (hx : 0 ≤ x ∧ x ≤ 4294967295) (hy : 0 ≤ y ∧ y ≤ 4294967295) : 0 ≤ logicV op x y ∧ logicV op x y ≤ 4294967295 := by
  unfold logicV
  split
  · rw [u32_or x y hx.1 (by omega) hy.1 (by omega)]
    have := Nat.or_lt_two_pow (n := 32) (x := x.toNat) (y := y.toNat) (by omega) (by omega)
    omega
  split
  · rw [u32_xor x y hx.1 (by omega) hy.1 (by omega)]
    have := Nat.xor_lt_two_pow (n := 32) (x := x.toNat) (y := y.toNat) (by omega) (by omega)
    omega
  split
  · rw [u32_and x y hx.1 (by omega) hy.1 (by omega)]
    have := Nat.and_le_left (n := x.toNat) (m := y.toNat)
    omega
  split
  · omega
  split
  · have h1 : 0 ≤ x / 2 ^ (y % 32).toNat := Int.ediv_nonneg hx.1 (Int.pow_nonneg (by omega))
    have h2 : x / 2 ^ (y % 32).toNat ≤ x := Int.ediv_le_self _ hx.1
    omega
  · have := Rm.rotl_lt x.toNat (y % 32).toNat (by omega)
    omega
theorem twoV_bd {op x y v : Int} (hx : 0 ≤ x ∧ x ≤ 4294967295) (hy : 0 ≤ y ∧ y ≤ 4294967295) (h : twoV op x y = some v) : 0 ≤ v ∧ v ≤ 4294967295 := by
  unfold twoV at h
  split at h
  · cases h; split <;> omega
  split at h
  · cases h; split <;> omega
  split at h
  · cases h; omega
  split at h
  · cases h; omega
  split at h
  · cases h; omega
  split at h
  · split at h
    · cases h
    · cases h
      have h1 : 0 ≤ x / y := Int.ediv_nonneg hx.1 hy.1
      have h2 : x / y ≤ x := Int.ediv_le_self _ hx.1
      omega
  split at h
  · split at h
    · cases h
    · cases h
      have h1 := Int.emod_nonneg x (b := y) (by omega)
      have h2 := Int.emod_lt_of_pos x (b := y) (by omega)
      omega
  · cases h; exact logicV_bd hx hy

end Go.Proofs.YtfnjlkmhnhojpaaDoor

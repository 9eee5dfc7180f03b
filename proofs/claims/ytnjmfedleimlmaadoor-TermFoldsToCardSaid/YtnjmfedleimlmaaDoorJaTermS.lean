/- The document's operators: the walk of apply. -/
import Derived.Test.YtnjmfedleimlmaaDoorJaTermR
namespace Go.Proofs.YtnjmfedleimlmaaDoor
open Go Go.RowKit

/-- the entry of the document's table -/
def pick13 (m : Nat) (a3 a4 a5 a6 a7 a8 a9 a10 a11 a12 a13 a14 a15 : Int) : Int :=
  if m = 3 then a3 else if m = 4 then a4 else if m = 5 then a5 else if m = 6 then a6 else if m = 7 then a7 else if m = 8 then a8 else if m = 9 then a9 else if m = 10 then a10
  else if m = 11 then a11 else if m = 12 then a12 else if m = 13 then a13 else if m = 14 then a14 else a15
theorem pick_at (m : Nat) (hm : 3 ≤ m ∧ m ≤ 15) (a3 a4 a5 a6 a7 a8 a9 a10 a11 a12 a13 a14 a15 : Int) :
    ([.int .u32 0, .int .u32 0, .int .u32 0, .int .u32 a3, .int .u32 a4, .int .u32 a5, .int .u32 a6, .int .u32 a7, .int .u32 a8, .int .u32 a9, .int .u32 a10, .int .u32 a11, .int .u32 a12, .int .u32 a13, .int .u32 a14, .int .u32 a15] : List Value)[m]? = some (.int .u32 (pick13 m a3 a4 a5 a6 a7 a8 a9 a10 a11 a12 a13 a14 a15)) := by
  rcases (by omega : m = 3 ∨ m = 4 ∨ m = 5 ∨ m = 6 ∨ m = 7 ∨ m = 8 ∨ m = 9 ∨ m = 10 ∨ m = 11 ∨ m = 12 ∨ m = 13 ∨ m = 14 ∨ m = 15) with rfl | rfl | rfl | rfl | rfl | rfl | rfl | rfl | rfl | rfl | rfl | rfl | rfl <;> rfl
theorem pick_eq (m : Nat) (x y e f P R k : Int) (hm : 3 ≤ m ∧ m ≤ 15) (he : e = if x = y then 1 else 0) (hf : f = if x < y then 1 else 0) (hk : y % 32 = k) (hP : 2 ^ k.toNat = P) (hR : ((Rm.rotl x.toNat k.toNat : Nat) : Int) = R) :
    pick13 m (4294967295 - x) (-x % 4294967296) (bits .or .u32 x y) (bits .xor .u32 x y) (bits .and .u32 x y) e f (x * P % 4294967296) (x / P) R ((x + y) % 4294967296) ((x - y) % 4294967296) (x * y % 4294967296) = if (m : Int) < 5 then oneV m x else (twoV m x y).getD 0 := by
  subst hk hP hR he hf
  rcases (by omega : m = 3 ∨ m = 4 ∨ m = 5 ∨ m = 6 ∨ m = 7 ∨ m = 8 ∨ m = 9 ∨ m = 10 ∨ m = 11 ∨ m = 12 ∨ m = 13 ∨ m = 14 ∨ m = 15) with rfl | rfl | rfl | rfl | rfl | rfl | rfl | rfl | rfl | rfl | rfl | rfl | rfl <;> rfl

theorem apply_high (op x y : Int) (w : World) (hop : op = 16 ∨ op = 17) (h0 : 0 ≤ x) (h1 : x ≤ 4294967295) (k0 : 0 ≤ y) (k1 : y ≤ 4294967295) :
    Calls Tryd.prog 49 #[.int .i64 op, .int .u32 x, .int .u32 y] w fun e w' => e = .returned (.tuple #[.int .u32 ((twoV op x y).getD 0), .bool (twoV op x y).isSome]) ∧ w' = w := by
  by_cases hy : y = 0
  · subst hy
    go_enter Tryd.func49, Tryd.ntmps49
    rcases hop with rfl | rfl
    · go_wp2
      exact bodyPost_ret (v := .tuple #[.int .u32 0, .bool false]) (by simp [results, Tryd.results49, go_sem]) rfl ⟨rfl, rfl⟩
    · go_wp2
      exact bodyPost_ret (v := .tuple #[.int .u32 0, .bool false]) (by simp [results, Tryd.results49, go_sem]) rfl ⟨rfl, rfl⟩
  · have hb : (y == 0) = false := by simpa using hy
    have hd : x.tdiv y = x / y := Int.tdiv_eq_ediv_of_nonneg h0
    have hd0 : 0 ≤ x / y := Int.ediv_nonneg h0 k0
    have hd1 : x / y ≤ x := Int.ediv_le_self _ h0
    have hr0 := Int.emod_nonneg x (b := y) (by omega)
    have hr1 := Int.emod_lt_of_pos x (b := y) (by omega)
    rcases hop with rfl | rfl
    · have HM := Lib.hid (show twoV 16 x y = some (x / y) by unfold twoV; simp [hy])
      go_enter Tryd.func49, Tryd.ntmps49
      go_wp2
      exact bodyPost_ret (v := .tuple #[.int .u32 (x / y), .bool true]) (by simp [results, Tryd.results49, go_sem]) rfl ⟨by rw [HM.out]; rfl, rfl⟩
    · have HM := Lib.hid (show twoV 17 x y = some (x % y) by unfold twoV; simp [hy])
      obtain ⟨q, hq⟩ : ∃ q, x / y * y = q := ⟨_, rfl⟩
      have hq0 : 0 ≤ q := by rw [← hq]; exact Int.mul_nonneg hd0 k0
      have hqe : q = x - x % y := by have := Int.mul_ediv_add_emod x y; rw [Int.mul_comm] at this; omega
      have hw1 : IntKind.u32.wrap q = q := by simp [IntKind.wrap, IntKind.signed, IntKind.bits]; omega
      have hw2 : IntKind.u32.wrap (x - q) = x % y := by simp [IntKind.wrap, IntKind.signed, IntKind.bits]; omega
      clear hqe
      go_enter Tryd.func49, Tryd.ntmps49
      go_wp2
      exact bodyPost_ret (v := .tuple #[.int .u32 (x % y), .bool true]) (by simp [results, Tryd.results49, go_sem, *]) rfl ⟨by rw [HM.out]; rfl, rfl⟩

def LowPost (w : World) (m : Nat) (x y : Int) (e : Ending) (w' : World) : Prop := e = .returned (.tuple #[.int .u32 (if (m : Int) < 5 then oneV m x else (twoV m x y).getD 0), .bool true]) ∧ Below w.heap.size w w'
set_option maxHeartbeats 4000000 in
set_option maxRecDepth 100000 in
theorem apply_low (m : Nat) (x y : Int) (w : World) (hop : 3 ≤ m ∧ m ≤ 15) (h0 : 0 ≤ x) (h1 : x ≤ 4294967295) (k0 : 0 ≤ y) (k1 : y ≤ 4294967295) :
    Calls Tryd.prog 49 #[.int .i64 m, .int .u32 x, .int .u32 y] w (LowPost w m x y) := by
  obtain ⟨k, hk⟩ : ∃ k, y % 32 = k := ⟨_, rfl⟩
  have hk0 : 0 ≤ k := by omega
  have hk1 : k ≤ 31 := by omega
  have hr := Rm.rotl_lt x.toNat k.toNat (by omega)
  obtain ⟨R, hR⟩ : ∃ R : Int, ((Rm.rotl x.toNat k.toNat : Nat) : Int) = R := ⟨_, rfl⟩
  obtain ⟨P, hP⟩ : ∃ P : Int, 2 ^ k.toNat = P := ⟨_, rfl⟩
  have hpw := power_any k
  have htn := turned_any x k
  rw [hP] at hpw
  rw [hR] at htn
  have hP1 : 1 ≤ P := by rw [← hP]; exact_mod_cast Nat.one_le_two_pow
  have hP0 : ¬ P = 0 := by omega
  have hPz : (P == 0) = false := by simpa using (show ¬ P = 0 by omega)
  have hPd : x.tdiv P = x / P := Int.tdiv_eq_ediv_of_nonneg h0
  have hPb : 0 ≤ x / P ∧ x / P ≤ x := ⟨Int.ediv_nonneg h0 (by omega), Int.ediv_le_self _ h0⟩
  have HE := Lib.hid (fun e f he hf => pick_eq m x y e f P R k hop he hf hk hP hR)
  have hcell := pick_at m hop
  clear hP hR
  rcases (by omega : (x = y ∧ ¬ x < y) ∨ (¬ x = y ∧ x < y) ∨ (¬ x = y ∧ ¬ x < y)) with ⟨hx, hy⟩ | ⟨hx, hy⟩ | ⟨hx, hy⟩
  · have HF := Lib.hid (HE.out 1 0 (by rw [if_pos hx]) (by rw [if_neg hy]))
    have hb1 : (x == y) = true := by simpa using hx
    have hb2 : decide (x < y) = false := by simpa using hy
    clear HE hx hy
    go_enter Tryd.func49, Tryd.ntmps49
    go_wp2
    all_goals
      go_region_law
        (first
          | (rw [if_pos (by rfl)]; go_simp; go_at_call 72; refine (hpw _ hk0 hk1).mono ?_; rintro e w' ⟨rfl, rfl⟩)
          | (rw [if_pos (by rfl)]; go_simp; go_at_call 73; refine (htn _ h0 h1 hk0 hk1).mono ?_; rintro e w' ⟨rfl, rfl⟩))
    all_goals go_wp2
    all_goals exact bodyPost_ret (v := .tuple #[.int .u32 (pick13 m (4294967295 - x) (-x % 4294967296) (bits .or .u32 x y) (bits .xor .u32 x y) (bits .and .u32 x y) 1 0 (x * P % 4294967296) (x / P) R ((x + y) % 4294967296) ((x - y) % 4294967296) (x * y % 4294967296)), .bool true]) (by simp [results, Tryd.results49, go_sem]) rfl ⟨by rw [HF.out], ((Below.refl _ _).alloc (Nat.le_refl _) _).drew⟩
  · have HF := Lib.hid (HE.out 0 1 (by rw [if_neg hx]) (by rw [if_pos hy]))
    have hb1 : (x == y) = false := by simpa using hx
    have hb2 : decide (x < y) = true := by simpa using hy
    clear HE hx hy
    go_enter Tryd.func49, Tryd.ntmps49
    go_wp2
    all_goals
      go_region_law
        (first
          | (rw [if_pos (by rfl)]; go_simp; go_at_call 72; refine (hpw _ hk0 hk1).mono ?_; rintro e w' ⟨rfl, rfl⟩)
          | (rw [if_pos (by rfl)]; go_simp; go_at_call 73; refine (htn _ h0 h1 hk0 hk1).mono ?_; rintro e w' ⟨rfl, rfl⟩))
    all_goals go_wp2
    all_goals exact bodyPost_ret (v := .tuple #[.int .u32 (pick13 m (4294967295 - x) (-x % 4294967296) (bits .or .u32 x y) (bits .xor .u32 x y) (bits .and .u32 x y) 0 1 (x * P % 4294967296) (x / P) R ((x + y) % 4294967296) ((x - y) % 4294967296) (x * y % 4294967296)), .bool true]) (by simp [results, Tryd.results49, go_sem]) rfl ⟨by rw [HF.out], ((Below.refl _ _).alloc (Nat.le_refl _) _).drew⟩
  · have HF := Lib.hid (HE.out 0 0 (by rw [if_neg hx]) (by rw [if_neg hy]))
    have hb1 : (x == y) = false := by simpa using hx
    have hb2 : decide (x < y) = false := by simpa using hy
    clear HE hx hy
    go_enter Tryd.func49, Tryd.ntmps49
    go_wp2
    all_goals
      go_region_law
        (first
          | (rw [if_pos (by rfl)]; go_simp; go_at_call 72; refine (hpw _ hk0 hk1).mono ?_; rintro e w' ⟨rfl, rfl⟩)
          | (rw [if_pos (by rfl)]; go_simp; go_at_call 73; refine (htn _ h0 h1 hk0 hk1).mono ?_; rintro e w' ⟨rfl, rfl⟩))
    all_goals go_wp2
    all_goals exact bodyPost_ret (v := .tuple #[.int .u32 (pick13 m (4294967295 - x) (-x % 4294967296) (bits .or .u32 x y) (bits .xor .u32 x y) (bits .and .u32 x y) 0 0 (x * P % 4294967296) (x / P) R ((x + y) % 4294967296) ((x - y) % 4294967296) (x * y % 4294967296)), .bool true]) (by simp [results, Tryd.results49, go_sem]) rfl ⟨by rw [HF.out], ((Below.refl _ _).alloc (Nat.le_refl _) _).drew⟩

theorem apply_any (op x y : Int) (w : World) (hop : 3 ≤ op ∧ op ≤ 17) (h0 : 0 ≤ x) (h1 : x ≤ 4294967295) (k0 : 0 ≤ y) (k1 : y ≤ 4294967295) :
    Calls Tryd.prog 49 #[.int .i64 op, .int .u32 x, .int .u32 y] w fun e w' => e = .returned (.tuple #[.int .u32 ((if op < 5 then some (oneV op x) else twoV op x y).getD 0), .bool (if op < 5 then some (oneV op x) else twoV op x y).isSome]) ∧ Below w.heap.size w w' := by
  by_cases h : op = 16 ∨ op = 17
  · refine (apply_high op x y w h h0 h1 k0 k1).mono ?_
    rintro e w' ⟨rfl, rfl⟩
    rw [if_neg (by omega)]
    exact ⟨rfl, Below.refl _ _⟩
  · obtain ⟨m, rfl⟩ : ∃ m : Nat, op = m := ⟨op.toNat, by omega⟩
    refine (apply_low m x y w (by omega) h0 h1 k0 k1).mono ?_
    rintro e w' ⟨rfl, hB⟩
    refine ⟨?_, hB⟩
    by_cases h5 : (m : Int) < 5
    · rw [if_pos h5, if_pos h5]; rfl
    · rw [if_neg h5, if_neg h5]
      have : (twoV m x y).isSome = true := by
        unfold twoV
        (repeat' split) <;> first | rfl | omega
      rw [this]

end Go.Proofs.YtnjmfedleimlmaaDoor

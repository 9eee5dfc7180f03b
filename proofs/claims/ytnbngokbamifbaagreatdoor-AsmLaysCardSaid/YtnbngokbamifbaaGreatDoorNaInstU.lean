/- Right and the document's Right yield the same of any instruction. -/
import Derived.Test.YtnbngokbamifbaaGreatDoorNaInstS1
import Derived.Test.YtnbngokbamifbaaGreatDoorNaInstS2
import Derived.Test.YtnbngokbamifbaaGreatDoorNaInstS3
import Derived.Test.YtnbngokbamifbaaGreatDoorNaInstS4
import Derived.Test.YtnbngokbamifbaaGreatDoorNaInstS5
namespace Go.Proofs.YtnbngokbamifbaaGreatDoor.Ev
open Go Go.RowKit

theorem and_pow (x k : Nat) : x &&& 2 ^ k = (x / 2 ^ k % 2) * 2 ^ k := by
  apply Nat.eq_of_testBit_eq
  intro i
  rw [Nat.testBit_and, Nat.testBit_two_pow]
  rcases Nat.mod_two_eq_zero_or_one (x / 2 ^ k) with h | h
  · rw [h, Nat.zero_mul, Nat.zero_testBit]
    by_cases hi : k = i
    · subst hi; rw [Nat.testBit_eq_decide_div_mod_eq]; simp [h]
    · simp [hi]
  · rw [h, Nat.one_mul, Nat.testBit_two_pow]
    by_cases hi : k = i
    · subst hi; rw [Nat.testBit_eq_decide_div_mod_eq]; simp [h]
    · simp [hi]
theorem mask_nat (k x : Nat) (hk : 8 ≤ k) : x &&& (2 ^ k ||| (2 ^ 8 - 1)) = (x / 2 ^ k % 2) * 2 ^ k + x % 256 := by
  rw [Nat.and_or_distrib_left, Nat.and_two_pow_sub_one_eq_mod, and_pow]
  have hlt : x % 2 ^ 8 < 2 ^ k := Nat.lt_of_lt_of_le (Nat.mod_lt _ (by decide)) (Nat.pow_le_pow_right (by decide) hk)
  have := Nat.two_pow_add_eq_or_of_lt hlt (x / 2 ^ k % 2)
  rw [Nat.mul_comm, ← this]
theorem mask14 (x : Nat) : x &&& 16639 = (x / 16384 % 2) * 16384 + x % 256 := mask_nat 14 x (by decide)
theorem mask15 (x : Nat) : x &&& 33023 = (x / 32768 % 2) * 32768 + x % 256 := mask_nat 15 x (by decide)

theorem mask_facts {l : List Int} {m lo hi a b : Int} (h : lo ≤ l.getD 10 0 ∧ l.getD 10 0 ≤ hi) (h2 : a ≤ l.getD 10 0 - (((l.getD 10 0).toNat &&& m.toNat : Nat) : Int) ∧ l.getD 10 0 - (((l.getD 10 0).toNat &&& m.toNat : Nat) : Int) ≤ b) : flOk (envW l) (maskF m lo hi a b) := by
  intro f hf
  simp only [maskF, List.mem_cons, List.not_mem_nil, or_false] at hf
  rcases hf with rfl | rfl
  · exact h
  · exact h2
theorem regs14 (r : Int) (h : 1 ≤ r) : (r ≤ 255 → r - ((r.toNat &&& ((16639 : Int).toNat) : Nat) : Int) = 0) ∧ (256 ≤ r → r < 16384 → 1 ≤ r - ((r.toNat &&& ((16639 : Int).toNat) : Nat) : Int)) ∧ (16384 ≤ r → r ≤ 16639 → r - ((r.toNat &&& ((16639 : Int).toNat) : Nat) : Int) = 0) ∧ (16640 ≤ r → 1 ≤ r - ((r.toNat &&& ((16639 : Int).toNat) : Nat) : Int)) := by
  obtain ⟨x, rfl⟩ : ∃ x : Nat, r = x := ⟨r.toNat, by omega⟩
  rw [show (16639 : Int).toNat = 16639 from rfl, Int.toNat_natCast, mask14 x]
  refine ⟨fun _ => ?_, fun _ _ => ?_, fun _ _ => ?_, fun _ => ?_⟩ <;> omega
theorem regs15 (r : Int) (h : 1 ≤ r) : (r ≤ 255 → r - ((r.toNat &&& ((33023 : Int).toNat) : Nat) : Int) = 0) ∧ (256 ≤ r → r < 32768 → 1 ≤ r - ((r.toNat &&& ((33023 : Int).toNat) : Nat) : Int)) ∧ (32768 ≤ r → r ≤ 33023 → r - ((r.toNat &&& ((33023 : Int).toNat) : Nat) : Int) = 0) ∧ (33024 ≤ r → 1 ≤ r - ((r.toNat &&& ((33023 : Int).toNat) : Nat) : Int)) := by
  obtain ⟨x, rfl⟩ : ∃ x : Nat, r = x := ⟨r.toNat, by omega⟩
  rw [show (33023 : Int).toNat = 33023 from rfl, Int.toNat_natCast, mask15 x]
  refine ⟨fun _ => ?_, fun _ _ => ?_, fun _ _ => ?_, fun _ => ?_⟩ <;> omega
theorem right_cover (l : List Int) (hb : ∀ x ∈ l, -9223372036854775808 ≤ x ∧ x ≤ 9223372036854775807) (hl : l.length = 11) : ∃ b fl, rightOk b fl = true ∧ (b.1 ≤ l.getD 0 0 ∧ l.getD 0 0 ≤ b.2) ∧ flOk (envW l) fl := by
  have h0 : -9223372036854775808 ≤ l.getD 0 0 ∧ l.getD 0 0 ≤ 9223372036854775807 := hb _ (by rw [List.getD_eq_getElem?_getD, List.getElem?_eq_getElem (by omega), Option.getD_some]; exact List.getElem_mem _)
  have h10 : -9223372036854775808 ≤ l.getD 10 0 ∧ l.getD 10 0 ≤ 9223372036854775807 := hb _ (by rw [List.getD_eq_getElem?_getD, List.getElem?_eq_getElem (by omega), Option.getD_some]; exact List.getElem_mem _)
  by_cases c0 : -9223372036854775808 ≤ l.getD 0 0 ∧ l.getD 0 0 ≤ 0
  · exact ⟨_, _, right_0, c0, fun f hf => nomatch hf⟩
  by_cases c1 : 101 ≤ l.getD 0 0 ∧ l.getD 0 0 ≤ 9223372036854775807
  · exact ⟨_, _, right_1, c1, fun f hf => nomatch hf⟩
  by_cases c2 : 1 ≤ l.getD 0 0 ∧ l.getD 0 0 ≤ 1
  · exact ⟨_, _, right_2, c2, fun f hf => nomatch hf⟩
  by_cases c3 : 2 ≤ l.getD 0 0 ∧ l.getD 0 0 ≤ 3
  · exact ⟨_, _, right_3, c3, fun f hf => nomatch hf⟩
  by_cases c4 : 4 ≤ l.getD 0 0 ∧ l.getD 0 0 ≤ 5
  · exact ⟨_, _, right_4, c4, fun f hf => nomatch hf⟩
  by_cases c5 : 6 ≤ l.getD 0 0 ∧ l.getD 0 0 ≤ 7
  · exact ⟨_, _, right_5, c5, fun f hf => nomatch hf⟩
  by_cases c6 : 8 ≤ l.getD 0 0 ∧ l.getD 0 0 ≤ 11
  · exact ⟨_, _, right_6, c6, fun f hf => nomatch hf⟩
  by_cases c7 : 12 ≤ l.getD 0 0 ∧ l.getD 0 0 ≤ 27
  · exact ⟨_, _, right_7, c7, fun f hf => nomatch hf⟩
  by_cases c8 : 28 ≤ l.getD 0 0 ∧ l.getD 0 0 ≤ 28
  · exact ⟨_, _, right_8, c8, fun f hf => nomatch hf⟩
  by_cases c9 : 29 ≤ l.getD 0 0 ∧ l.getD 0 0 ≤ 29
  · exact ⟨_, _, right_9, c9, fun f hf => nomatch hf⟩
  by_cases c10 : 30 ≤ l.getD 0 0 ∧ l.getD 0 0 ≤ 30
  · exact ⟨_, _, right_10, c10, fun f hf => nomatch hf⟩
  by_cases c11 : 31 ≤ l.getD 0 0 ∧ l.getD 0 0 ≤ 31
  · exact ⟨_, _, right_11, c11, fun f hf => nomatch hf⟩
  by_cases c12 : 32 ≤ l.getD 0 0 ∧ l.getD 0 0 ≤ 32
  · exact ⟨_, _, right_12, c12, fun f hf => nomatch hf⟩
  by_cases c13 : 33 ≤ l.getD 0 0 ∧ l.getD 0 0 ≤ 34
  · exact ⟨_, _, right_13, c13, fun f hf => nomatch hf⟩
  by_cases c14 : 35 ≤ l.getD 0 0 ∧ l.getD 0 0 ≤ 36
  · exact ⟨_, _, right_14, c14, fun f hf => nomatch hf⟩
  by_cases c15 : 37 ≤ l.getD 0 0 ∧ l.getD 0 0 ≤ 39
  · exact ⟨_, _, right_15, c15, fun f hf => nomatch hf⟩
  by_cases c16 : 40 ≤ l.getD 0 0 ∧ l.getD 0 0 ≤ 41
  · exact ⟨_, _, right_16, c16, fun f hf => nomatch hf⟩
  by_cases c17 : 44 ≤ l.getD 0 0 ∧ l.getD 0 0 ≤ 44
  · exact ⟨_, _, right_17, c17, fun f hf => nomatch hf⟩
  by_cases c18 : 45 ≤ l.getD 0 0 ∧ l.getD 0 0 ≤ 45
  · exact ⟨_, _, right_18, c18, fun f hf => nomatch hf⟩
  by_cases c19 : 46 ≤ l.getD 0 0 ∧ l.getD 0 0 ≤ 46
  · exact ⟨_, _, right_19, c19, fun f hf => nomatch hf⟩
  by_cases c20 : 47 ≤ l.getD 0 0 ∧ l.getD 0 0 ≤ 47
  · exact ⟨_, _, right_20, c20, fun f hf => nomatch hf⟩
  by_cases c21 : 48 ≤ l.getD 0 0 ∧ l.getD 0 0 ≤ 49
  · exact ⟨_, _, right_21, c21, fun f hf => nomatch hf⟩
  by_cases c22 : 50 ≤ l.getD 0 0 ∧ l.getD 0 0 ≤ 59
  · exact ⟨_, _, right_22, c22, fun f hf => nomatch hf⟩
  by_cases c23 : 60 ≤ l.getD 0 0 ∧ l.getD 0 0 ≤ 61
  · exact ⟨_, _, right_23, c23, fun f hf => nomatch hf⟩
  by_cases c24 : 62 ≤ l.getD 0 0 ∧ l.getD 0 0 ≤ 65
  · exact ⟨_, _, right_24, c24, fun f hf => nomatch hf⟩
  by_cases c25 : 66 ≤ l.getD 0 0 ∧ l.getD 0 0 ≤ 75
  · exact ⟨_, _, right_25, c25, fun f hf => nomatch hf⟩
  by_cases c26 : 76 ≤ l.getD 0 0 ∧ l.getD 0 0 ≤ 77
  · exact ⟨_, _, right_26, c26, fun f hf => nomatch hf⟩
  by_cases c27 : 78 ≤ l.getD 0 0 ∧ l.getD 0 0 ≤ 81
  · exact ⟨_, _, right_27, c27, fun f hf => nomatch hf⟩
  by_cases c28 : 82 ≤ l.getD 0 0 ∧ l.getD 0 0 ≤ 83
  · exact ⟨_, _, right_28, c28, fun f hf => nomatch hf⟩
  by_cases c29 : 84 ≤ l.getD 0 0 ∧ l.getD 0 0 ≤ 85
  · exact ⟨_, _, right_29, c29, fun f hf => nomatch hf⟩
  by_cases c30 : 86 ≤ l.getD 0 0 ∧ l.getD 0 0 ≤ 87
  · exact ⟨_, _, right_30, c30, fun f hf => nomatch hf⟩
  by_cases c31 : 88 ≤ l.getD 0 0 ∧ l.getD 0 0 ≤ 91
  · exact ⟨_, _, right_31, c31, fun f hf => nomatch hf⟩
  by_cases c32 : 92 ≤ l.getD 0 0 ∧ l.getD 0 0 ≤ 92
  · exact ⟨_, _, right_32, c32, fun f hf => nomatch hf⟩
  by_cases c33 : 93 ≤ l.getD 0 0 ∧ l.getD 0 0 ≤ 93
  · exact ⟨_, _, right_33, c33, fun f hf => nomatch hf⟩
  by_cases c34 : 94 ≤ l.getD 0 0 ∧ l.getD 0 0 ≤ 94
  · exact ⟨_, _, right_34, c34, fun f hf => nomatch hf⟩
  by_cases c35 : 95 ≤ l.getD 0 0 ∧ l.getD 0 0 ≤ 96
  · exact ⟨_, _, right_35, c35, fun f hf => nomatch hf⟩
  by_cases c36 : 97 ≤ l.getD 0 0 ∧ l.getD 0 0 ≤ 97
  · exact ⟨_, _, right_36, c36, fun f hf => nomatch hf⟩
  by_cases c37 : 98 ≤ l.getD 0 0 ∧ l.getD 0 0 ≤ 98
  · exact ⟨_, _, right_37, c37, fun f hf => nomatch hf⟩
  by_cases c38 : 99 ≤ l.getD 0 0 ∧ l.getD 0 0 ≤ 99
  · exact ⟨_, _, right_38, c38, fun f hf => nomatch hf⟩
  by_cases c39 : 100 ≤ l.getD 0 0 ∧ l.getD 0 0 ≤ 100
  · exact ⟨_, _, right_39, c39, fun f hf => nomatch hf⟩
  by_cases d42 : 42 ≤ l.getD 0 0 ∧ l.getD 0 0 ≤ 42
  · by_cases e0 : l.getD 10 0 ≤ 0
    · exact ⟨_, _, right_40, d42, fun f hf => by rw [List.mem_singleton] at hf; subst hf; exact ⟨h10.1, e0⟩⟩
    obtain ⟨m1, m2, m3, m4⟩ := regs14 (l.getD 10 0) (by omega)
    by_cases e1 : l.getD 10 0 ≤ 255
    · have := m1 e1; exact ⟨_, _, right_41, d42, mask_facts ⟨by omega, e1⟩ ⟨Int.le_of_eq this.symm, Int.le_of_eq this⟩⟩
    by_cases e2 : l.getD 10 0 < 16384
    · have := m2 (by omega) e2; exact ⟨_, _, right_42, d42, mask_facts ⟨by omega, by omega⟩ ⟨this, Int.le_trans (Int.sub_le_self _ (Int.natCast_nonneg _)) (by omega)⟩⟩
    by_cases e3 : l.getD 10 0 ≤ 16639
    · have := m3 (by omega) e3; exact ⟨_, _, right_43, d42, mask_facts ⟨by omega, by omega⟩ ⟨Int.le_of_eq this.symm, Int.le_of_eq this⟩⟩
    · have := m4 (by omega); exact ⟨_, _, right_44, d42, mask_facts ⟨by omega, by omega⟩ ⟨this, Int.le_trans (Int.sub_le_self _ (Int.natCast_nonneg _)) (by omega)⟩⟩
  by_cases d43 : 43 ≤ l.getD 0 0 ∧ l.getD 0 0 ≤ 43
  · by_cases e0 : l.getD 10 0 ≤ 0
    · exact ⟨_, _, right_45, d43, fun f hf => by rw [List.mem_singleton] at hf; subst hf; exact ⟨h10.1, e0⟩⟩
    obtain ⟨m1, m2, m3, m4⟩ := regs15 (l.getD 10 0) (by omega)
    by_cases e1 : l.getD 10 0 ≤ 255
    · have := m1 e1; exact ⟨_, _, right_46, d43, mask_facts ⟨by omega, e1⟩ ⟨Int.le_of_eq this.symm, Int.le_of_eq this⟩⟩
    by_cases e2 : l.getD 10 0 < 32768
    · have := m2 (by omega) e2; exact ⟨_, _, right_47, d43, mask_facts ⟨by omega, by omega⟩ ⟨this, Int.le_trans (Int.sub_le_self _ (Int.natCast_nonneg _)) (by omega)⟩⟩
    by_cases e3 : l.getD 10 0 ≤ 33023
    · have := m3 (by omega) e3; exact ⟨_, _, right_48, d43, mask_facts ⟨by omega, by omega⟩ ⟨Int.le_of_eq this.symm, Int.le_of_eq this⟩⟩
    · have := m4 (by omega); exact ⟨_, _, right_49, d43, mask_facts ⟨by omega, by omega⟩ ⟨this, Int.le_trans (Int.sub_le_self _ (Int.natCast_nonneg _)) (by omega)⟩⟩
  exfalso
  omega

theorem right_pcOk (l : List Int) (hl : l.length = 11) (hb : ∀ x ∈ l, -9223372036854775808 ≤ x ∧ x ≤ 9223372036854775807) {b : Int × Int} {fl : FL} (h : b.1 ≤ l.getD 0 0 ∧ l.getD 0 0 ≤ b.2) (hf : flOk (envW l) fl) : pcOk (envW l) (rightPc b fl) := by
  refine pcOf_ok (flOk_append hf (flOk_cons h ?_))
  intro f hf
  obtain ⟨i, hi, rfl⟩ := List.mem_map.1 hf
  have hi' : i + 1 < l.length := by rw [hl]; have := List.mem_range.1 hi; omega
  have e : (E.var (i + 1)).den (envW l) = l[i + 1] := by simp only [E.den, envW, List.getD, List.getElem?_eq_getElem hi', Option.getD_some]
  dsimp only
  rw [e]
  exact hb _ (List.getElem_mem hi')
theorem right_args (l : List Int) (hl : l.length = 11) {b : Int × Int} (h : b.1 ≤ l.getD 0 0 ∧ l.getD 0 0 ≤ b.2) : All2 (AV.Is (envW l) (tabPl [shTab])) [rightA b] [instVals l] := by
  obtain ⟨x, l', rfl⟩ : ∃ x l', l = x :: l' := by cases l with | nil => simp at hl | cons x l' => exact ⟨x, l', rfl⟩
  refine ⟨⟨_, rfl, ?_⟩, trivial⟩
  refine ⟨?_, ?_⟩
  · show Value.int .i64 x = .int .i64 _
    cases hd : decide (b.1 = b.2) with
    | true =>
      have : b.1 = b.2 := by simpa using hd
      have hx : x = b.1 := by simp only [List.getD_cons_zero] at h; omega
      rw [hx]; rfl
    | false => rfl
  · have := is_ints (k := .i64) (ρ := envW (x :: l')) (β := tabPl [shTab]) l' ((List.range 10).map (· + 1)) (by simpa using hl) fun j i hji => by
      simp only [List.getElem?_map, Option.map_eq_some_iff] at hji
      obtain ⟨j', hj', rfl⟩ := hji
      have hj10 : j < 10 := by have := (List.getElem?_eq_some_iff.1 hj').1; simpa using this
      have : j' = j := by rw [List.getElem?_range hj10] at hj'; cases hj'; rfl
      subst this
      have hlt : j' < l'.length := by simp at hl; omega
      show l'[j']? = some ((x :: l').getD (j' + 1) 0)
      rw [List.getD_eq_getElem?_getD, List.getElem?_cons_succ, List.getElem?_eq_getElem hlt]; rfl
    rw [List.map_map] at this
    exact this
theorem right_both (l : List Int) (hl : l.length = 11) (hb : ∀ x ∈ l, -9223372036854775808 ≤ x ∧ x ≤ 9223372036854775807) : ∃ b, ∀ w, jx2.J w →
    (Calls Tryz.prog 99 #[instVals l] w fun e w' => e = .returned (.bool b) ∧ Below w.heap.size w w') ∧
    (Calls Tryz.prog 129 #[instVals l] w fun e w' => e = .returned (.bool b) ∧ Below w.heap.size w w') := by
  obtain ⟨b, fl, hok, hin, hfl⟩ := right_cover l hb hl
  have hp := right_pcOk l hl hb hin hfl
  unfold rightOk at hok
  obtain ⟨v, h1, h2⟩ := agree_ok hp hok
  refine ⟨v, fun w hj => ⟨?_, ?_⟩⟩
  · exact boolAt_calls (cx := cx2) (jx := jx2) (vals := [instVals l]) (cxOk _ _) cx2_sums h1 rfl (fun t ht => by rw [List.mem_singleton] at ht; subst ht; exact jx2_sh hj) hp hj (right_args l hl hin)
  · exact boolAt_calls (cx := cx2) (jx := jx2) (vals := [instVals l]) (cxOk _ _) cx2_sums h2 rfl (fun t ht => by rw [List.mem_singleton] at ht; subst ht; exact jx2_sh hj) hp hj (right_args l hl hin)
/-- may an instruction be? -/
noncomputable def rightB (l : List Int) : Bool := by
  classical
  exact if h : l.length = 11 ∧ ∀ x ∈ l, -9223372036854775808 ≤ x ∧ x ≤ 9223372036854775807 then (right_both l h.1 h.2).choose else false
theorem rightB_calls (l : List Int) (hl : l.length = 11) (hb : ∀ x ∈ l, -9223372036854775808 ≤ x ∧ x ≤ 9223372036854775807) (w : World) (hj : jx2.J w) :
    (Calls Tryz.prog 99 #[instVals l] w fun e w' => e = .returned (.bool (rightB l)) ∧ Below w.heap.size w w') ∧
    (Calls Tryz.prog 129 #[instVals l] w fun e w' => e = .returned (.bool (rightB l)) ∧ Below w.heap.size w w') := by
  have : rightB l = (right_both l hl hb).choose := by unfold rightB; rw [dif_pos ⟨hl, hb⟩]
  rw [this]
  exact (right_both l hl hb).choose_spec w hj

end Go.Proofs.YtnbngokbamifbaaGreatDoor.Ev

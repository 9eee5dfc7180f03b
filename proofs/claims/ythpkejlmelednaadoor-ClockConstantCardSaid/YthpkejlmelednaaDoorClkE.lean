/- The clock's functions as the evaluator sees them. -/
import Derived.Test.YthpkejlmelednaaDoorEvN
import Derived.Test.YthpkejlmelednaaDoorInstV
import Derived.Test.YthpkejlmelednaaDoorClkB
import Derived.Lib.Agree
namespace Go.Proofs.YthpkejlmelednaaDoor
open Go.RowKit

theorem refdiv_any (a b : Int) (w : World) (ha0 : 0 ≤ a) (ha1 : a ≤ 4294967295) (hb0 : 0 ≤ b) (hb1 : b ≤ 4294967295) :
    Calls Tryd.prog 19 #[.int .u32 a, .int .u32 b] w fun e w' => e = .returned (.int .i64 (Rm.divN a b)) ∧ w = w' := by
  have h1 := Rm.bitLen_le32 a.toNat (by omega)
  have h2 := Rm.bitLen_le32 b.toNat (by omega)
  have hz : b = 0 ↔ Lib.bitLen b.toNat = 0 := by
    constructor
    · rintro rfl; rfl
    · intro h
      by_cases hb : b.toNat = 0
      · omega
      · have := Lib.bitLen_half b.toNat hb (by omega); omega
  by_cases hc : Lib.bitLen b.toNat = 0 ∨ Lib.bitLen a.toNat < Lib.bitLen b.toNat
  · have HF := Lib.hid (show Rm.divN a b = 2 by unfold Rm.divN; rw [if_pos (by omega)])
    go_enter Tryd.func19, Tryd.ntmps19
    go_wp2_with fail
    refine (reflen_any a _ ha0 ha1).mono ?_; rintro e w' ⟨rfl, rfl⟩
    go_wp2_with fail
    refine (reflen_any b _ hb0 hb1).mono ?_; rintro e w' ⟨rfl, rfl⟩
    go_wp2_with fail
    all_goals first
      | (go_ret; exact ⟨ret_i HF.out.symm, rfl⟩)
      | (exfalso; omega)
  · have HF := Lib.hid (show Rm.divN a b = 3 + ((Lib.bitLen a.toNat : Int) - Lib.bitLen b.toNat) / 4 by unfold Rm.divN; rw [if_neg (by omega)])
    have hc1 : ¬ Lib.bitLen b.toNat = 0 := by omega
    have hc2 : ¬ Lib.bitLen a.toNat < Lib.bitLen b.toNat := by omega
    go_enter Tryd.func19, Tryd.ntmps19
    go_wp2_with fail
    refine (reflen_any a _ ha0 ha1).mono ?_; rintro e w' ⟨rfl, rfl⟩
    go_wp2_with fail
    refine (reflen_any b _ hb0 hb1).mono ?_; rintro e w' ⟨rfl, rfl⟩
    go_wp2_with fail
    all_goals first
      | (go_ret; exact ⟨ret_i HF.out.symm, rfl⟩)
      | (exfalso; omega)

namespace Ev

/-- numbers from a list; whether an instruction may be; a division's cycles -/
noncomputable def envC (xs : List Int) : Env := ⟨fun i => xs.getD i 0, fun f a => bif Nat.beq f 2 then truth (rightB a) else bif Nat.beq f 6 then bits16 (a.getD 0 0) else Rm.divN (a.getD 0 0) (a.getD 1 0), fun _ => undef⟩
theorem rightC_ok {xs : List Int} : SumOk Tryd.prog jx2 (envC xs) rightSum := rightSum_is fun _ => rfl
theorem refRightC_ok {xs : List Int} : SumOk Tryd.prog jx2 (envC xs) refRightSum := refRightSum_is fun _ => rfl

theorem two_vals {ρ : Env} {β : Pl} {k : IntKind} {e f : E} {vals : List Value} (h : All2 (AV.Is ρ β) [.v (.c (.int k e)), .v (.c (.int k f))] vals) : vals = [.int k (e.den ρ), .int k (f.den ρ)] := by
  match vals, h with
  | [a, b], h => rw [show a = .int k (e.den ρ) from h.1, show b = .int k (f.den ρ) from h.2.1]
  | [], h => exact h.elim
  | [_], h => exact h.2.elim
  | _ :: _ :: _ :: _, h => exact h.2.2.elim
def divRun (pc : PC) (args : List AV) : Option (AV × FL) := match args with
  | [.v (.c (.int .u32 a)), .v (.c (.int .u32 b))] => if inR pc a 0 4294967295 && inR pc b 0 4294967295 then some (ret1 (.int .i64 (.ap 5 (.cons a (.cons b .nil)))), [(.ap 5 (.cons a (.cons b .nil)), 2, 10)]) else none
  | _ => none
theorem divRun_is {xs : List Int} {f : FuncId} (he : Enters Tryd.prog f) (hf : ∀ (a b : Int) (w : World), 0 ≤ a → a ≤ 4294967295 → 0 ≤ b → b ≤ 4294967295 → Calls Tryd.prog f #[.int .u32 a, .int .u32 b] w fun e w' => e = .returned (.int .i64 (Rm.divN a b)) ∧ w = w') : SumOk Tryd.prog jx2 (envC xs) (factSum f divRun) :=
  factSum_ok he fun pc args r vals w β hr hp hj ha => by
    unfold divRun at hr
    split at hr
    · rename_i a b
      split at hr
      · rename_i hc
        cases hr
        rw [Bool.and_eq_true] at hc
        have h1 := inR_ok hp hc.1
        have h2 := inR_ok hp hc.2
        rw [two_vals ha]
        refine ⟨flOk_cons (Rm.divN_bd _ _ h1.1 h1.2 h2.1 h2.2) flOk_nil, (hf _ _ w h1.1 h1.2 h2.1 h2.2).mono fun x w' ⟨he, hw⟩ => ⟨⟨_, he, rfl⟩, hw ▸ Below.refl _ _⟩⟩
      · cases hr
    · cases hr
def divSum : Sum := factSum 18 divRun
def refDivSum : Sum := factSum 19 divRun
def popSum : Sum := factSum 90 fun pc args => match args with
  | [.v (.c (.int .u32 e))] => if inR pc e 0 255 || inR pc e 16384 16639 || inR pc e 32768 33023 then some (ret1 (.int .i64 (.ap 6 (.cons e .nil))), [(.ap 6 (.cons e .nil), 0, 9)]) else none
  | _ => none
theorem popSum_ok {xs : List Int} : SumOk Tryd.prog jx2 (envC xs) popSum :=
  factSum_ok (enters_fn Tryd.func90 rfl (by decide)) fun pc args r vals w β hr hp hj ha => by
    split at hr
    · rename_i e
      split at hr
      · rename_i hc
        cases hr
        simp only [Bool.or_eq_true] at hc
        have hb : (0 ≤ e.den (envC xs) ∧ e.den (envC xs) ≤ 255) ∨ (16384 ≤ e.den (envC xs) ∧ e.den (envC xs) ≤ 16639) ∨ (32768 ≤ e.den (envC xs) ∧ e.den (envC xs) ≤ 33023) := by
          rcases hc with (hc | hc) | hc
          · exact .inl (inR_ok hp hc)
          · exact .inr (.inl (inR_ok hp hc))
          · exact .inr (.inr (inR_ok hp hc))
        rw [one_val ha]
        have h0 : 0 ≤ e.den (envC xs) := by omega
        have h1 : e.den (envC xs) ≤ 65535 := by omega
        exact ⟨flOk_cons ⟨(bits16_bd _ h0 h1).1, bits16_nine _ hb⟩ flOk_nil, (pop32_any _ w h0 h1).mono fun x w' ⟨he, hw⟩ => ⟨⟨_, he, rfl⟩, hw⟩⟩
      · cases hr
    · cases hr
def baseRun (pc : PC) (args : List AV) : Option AV := match args with
  | [.v (.g l), .v (.c (.bool _)), .v (.c (.int .u32 _)), .v (.c (.int .u32 _))] => match intsOf .i64 l with
    | some [.lit f, _, _, _, _, _, _, _, _, _, r] =>
      if decide (f = 42) && inR pc r 1 65535 then some (ret1 (.int .i64 (.add (.lit 1) (.ap 6 (.cons r .nil)))))
      else if decide (f = 43) && inR pc r 1 32767 then some (ret1 (.int .i64 (.add (.lit 1) (.ap 6 (.cons r .nil)))))
      else if decide (f = 43) && inR pc r 32768 65535 then some (ret1 (.int .i64 (.add (.add (.lit 1) (.ap 6 (.cons r .nil))) (.lit 2))))
      else none
    | _ => none
  | _ => none
def refBaseSum : Sum := pureSum 17 baseRun
theorem refBaseSum_ok {xs : List Int} : SumOk Tryd.prog jx2 (envC xs) refBaseSum :=
  pureSum_ok (enters_fn Tryd.func17 rfl (by decide)) fun pc args r vals w β hr hp hj ha => by
    unfold baseRun at hr
    split at hr
    · rename_i l t a b
      split at hr
      · rename_i f e1 e2 e3 e4 e5 e6 e7 e8 e9 e10 hi
        obtain ⟨v0, v1, v2, v3, rfl⟩ : ∃ v0 v1 v2 v3, vals = [v0, v1, v2, v3] := by
          match vals, ha with
          | [v0, v1, v2, v3], _ => exact ⟨v0, v1, v2, v3, rfl⟩
        obtain ⟨cs, rfl, hcs⟩ := ha.1
        have hv := ints_of hi hcs
        have hv' : (.agg cs : Value) = .agg #[.int .i64 f, .int .i64 (e1.den (envC xs)), .int .i64 (e2.den (envC xs)), .int .i64 (e3.den (envC xs)), .int .i64 (e4.den (envC xs)), .int .i64 (e5.den (envC xs)), .int .i64 (e6.den (envC xs)), .int .i64 (e7.den (envC xs)), .int .i64 (e8.den (envC xs)), .int .i64 (e9.den (envC xs)), .int .i64 (e10.den (envC xs))] := by
          rw [← Array.toArray_toList (xs := cs), hv]; rfl
        rw [hv']
        split at hr
        · rename_i hc
          cases hr
          simp only [Bool.and_eq_true, decide_eq_true_eq] at hc
          obtain ⟨rfl, hc⟩ := hc
          have hb := inR_ok hp hc
          exact (refbase_push _ _ _ _ _ _ _ _ _ _ _ _ _ w hb.1 hb.2).mono fun x w' ⟨he, hw⟩ => ⟨⟨_, he, rfl⟩, hw⟩
        split at hr
        · rename_i hc
          cases hr
          simp only [Bool.and_eq_true, decide_eq_true_eq] at hc
          obtain ⟨rfl, hc⟩ := hc
          have hb := inR_ok hp hc
          exact (refbase_pop1 _ _ _ _ _ _ _ _ _ _ _ _ _ w hb.1 hb.2).mono fun x w' ⟨he, hw⟩ => ⟨⟨_, he, rfl⟩, hw⟩
        split at hr
        · rename_i hc
          cases hr
          simp only [Bool.and_eq_true, decide_eq_true_eq] at hc
          obtain ⟨rfl, hc⟩ := hc
          have hb := inR_ok hp hc
          exact (refbase_pop2 _ _ _ _ _ _ _ _ _ _ _ _ _ w hb.1 hb.2).mono fun x w' ⟨he, hw⟩ => ⟨⟨_, he, rfl⟩, hw⟩
        · cases hr
      · cases hr
    · cases hr
def anchor05Sum : Sum := pureSum 13 fun _ args => match args with
  | [] => some (ret1 (.bool (.lit 1)))
  | _ => none
theorem anchor05Sum_ok {ρ : Env} : SumOk Tryd.prog jx2 ρ anchor05Sum :=
  pureSum_ok (enters_fn Tryd.func13 rfl (by decide)) fun pc args r vals w β hr hp hj ha => by
    split at hr
    · cases hr
      cases vals with
      | nil => exact (anchor05_any w).mono fun e w' ⟨he, hb⟩ => ⟨⟨_, he, rfl⟩, hb⟩
      | cons _ _ => exact ha.elim
    · cases hr
def sumsC : List Sum := [anchor05Sum, rightSum, refRightSum, divSum, refDivSum, popSum]
noncomputable def cxC (d : Bool) : Cx := cxOf (tabGlob 0 [shTab]) (bif d then refBaseSum :: sumsC else sumsC)
theorem sumsC_ok {xs : List Int} : ∀ m ∈ sumsC, SumOk Tryd.prog jx2 (envC xs) m := all_cons anchor05Sum_ok <| all_cons rightC_ok <| all_cons refRightC_ok <| all_cons (divRun_is (enters_fn Tryd.func18 rfl (by decide)) div_any) <| all_cons (divRun_is (enters_fn Tryd.func19 rfl (by decide)) refdiv_any) <| all_cons popSum_ok all_nil
theorem cxC_sums {xs : List Int} {d : Bool} : ∀ m ∈ (cxC d).sums, SumOk (cxC d).P jx2 (envC xs) m := by
  cases d
  · exact sumsC_ok
  · exact all_cons refBaseSum_ok sumsC_ok

/-! ### instructions that store, or load, no registers that may be -/
noncomputable def noneOk (b : Int × Int) (fl : FL) : Bool := allLeaves (boolIs fun _ => .lit 0) (rightT b fl)
theorem none_40 : noneOk (42, 42) ([(.var 10, -9223372036854775808, 0)]) = true := by kernel_rfl
theorem none_45 : noneOk (43, 43) ([(.var 10, -9223372036854775808, 0)]) = true := by kernel_rfl
theorem none_42 : noneOk (42, 42) (maskF 16639 256 16383 1 9223372036854775807) = true := by kernel_rfl
theorem none_47 : noneOk (43, 43) (maskF 33023 256 32767 1 9223372036854775807) = true := by kernel_rfl
theorem none_44 : noneOk (42, 42) (maskF 16639 16640 9223372036854775807 1 9223372036854775807) = true := by kernel_rfl
theorem none_49 : noneOk (43, 43) (maskF 33023 33024 9223372036854775807 1 9223372036854775807) = true := by kernel_rfl
theorem rightB_none (l : List Int) (hl : l.length = 11) (hb : ∀ x ∈ l, -9223372036854775808 ≤ x ∧ x ≤ 9223372036854775807) (w : World) (hj : jx2.J w) {b : Int × Int} {fl : FL} (h : noneOk b fl = true) (hin : b.1 ≤ l.getD 0 0 ∧ l.getD 0 0 ≤ b.2) (hfl : flOk (envW l) fl) : rightB l = false := by
  have hp := right_pcOk l hl hb hin hfl
  have h1 := (rightB_calls l hl hb w hj).1
  have h2 := bool_calls (cx := cx2) (jx := jx2) (ρ := envW l) (w := w) (vals := [instVals l]) (cxOk _ _) cx2_sums (fun _ => .lit 0) 0 h (fun _ _ => rfl) rfl (fun t ht => by rw [List.mem_singleton] at ht; subst ht; exact jx2_sh hj) hp hj (right_args l hl hin)
  have := Lib.agree (by kernel_rfl) h1 h2
  injection this
theorem rightB_push (l : List Int) (hl : l.length = 11) (hb : ∀ x ∈ l, -9223372036854775808 ≤ x ∧ x ≤ 9223372036854775807) (w : World) (hj : jx2.J w) (hf : l.getD 0 0 = 42) (hr : l.getD 10 0 ≤ 0 ∨ (256 ≤ l.getD 10 0 ∧ l.getD 10 0 ≤ 16383) ∨ 16640 ≤ l.getD 10 0) : rightB l = false := by
  have h10 : -9223372036854775808 ≤ l.getD 10 0 ∧ l.getD 10 0 ≤ 9223372036854775807 := hb _ (by rw [List.getD_eq_getElem?_getD, List.getElem?_eq_getElem (by omega), Option.getD_some]; exact List.getElem_mem _)
  have hin : (42, 42).1 ≤ l.getD 0 0 ∧ l.getD 0 0 ≤ ((42, 42) : Int × Int).2 := by rw [hf]; exact ⟨Int.le_refl _, Int.le_refl _⟩
  rcases hr with h | h | h
  · exact rightB_none l hl hb w hj none_40 hin (fun f hf => by rw [List.mem_singleton] at hf; subst hf; exact ⟨h10.1, h⟩)
  · have := (regs14 (l.getD 10 0) (by omega)).2.1 (by omega) (by omega)
    exact rightB_none l hl hb w hj none_42 hin (mask_facts ⟨by omega, by omega⟩ ⟨this, Int.le_trans (Int.sub_le_self _ (Int.natCast_nonneg _)) (by omega)⟩)
  · have := (regs14 (l.getD 10 0) (by omega)).2.2.2 (by omega)
    exact rightB_none l hl hb w hj none_44 hin (mask_facts ⟨by omega, by omega⟩ ⟨this, Int.le_trans (Int.sub_le_self _ (Int.natCast_nonneg _)) (by omega)⟩)
theorem rightB_pop (l : List Int) (hl : l.length = 11) (hb : ∀ x ∈ l, -9223372036854775808 ≤ x ∧ x ≤ 9223372036854775807) (w : World) (hj : jx2.J w) (hf : l.getD 0 0 = 43) (hr : l.getD 10 0 ≤ 0 ∨ (256 ≤ l.getD 10 0 ∧ l.getD 10 0 ≤ 32767) ∨ 33024 ≤ l.getD 10 0) : rightB l = false := by
  have h10 : -9223372036854775808 ≤ l.getD 10 0 ∧ l.getD 10 0 ≤ 9223372036854775807 := hb _ (by rw [List.getD_eq_getElem?_getD, List.getElem?_eq_getElem (by omega), Option.getD_some]; exact List.getElem_mem _)
  have hin : (43, 43).1 ≤ l.getD 0 0 ∧ l.getD 0 0 ≤ ((43, 43) : Int × Int).2 := by rw [hf]; exact ⟨Int.le_refl _, Int.le_refl _⟩
  rcases hr with h | h | h
  · exact rightB_none l hl hb w hj none_45 hin (fun f hf => by rw [List.mem_singleton] at hf; subst hf; exact ⟨h10.1, h⟩)
  · have := (regs15 (l.getD 10 0) (by omega)).2.1 (by omega) (by omega)
    exact rightB_none l hl hb w hj none_47 hin (mask_facts ⟨by omega, by omega⟩ ⟨this, Int.le_trans (Int.sub_le_self _ (Int.natCast_nonneg _)) (by omega)⟩)
  · have := (regs15 (l.getD 10 0) (by omega)).2.2.2 (by omega)
    exact rightB_none l hl hb w hj none_49 hin (mask_facts ⟨by omega, by omega⟩ ⟨this, Int.le_trans (Int.sub_le_self _ (Int.natCast_nonneg _)) (by omega)⟩)

end Ev

end Go.Proofs.YthpkejlmelednaaDoor

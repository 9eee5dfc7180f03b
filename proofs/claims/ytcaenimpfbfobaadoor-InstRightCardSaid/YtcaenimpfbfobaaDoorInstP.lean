/- What the evaluator says of the anchor and of InstForms. -/
import Derived.Test.YtcaenimpfbfobaaDoorEvX
import Derived.Test.YtcaenimpfbfobaaDoorEvJ
import Derived.Test.YtcaenimpfbfobaaDoorNumsF
namespace Go.Proofs.YtcaenimpfbfobaaDoor.Ev
open Go Go.RowKit

def shTab : Tab := (1, .i64, Rm.shapesL)
noncomputable def cx0 : Cx := cxOf (tabGlob 0 [shTab]) []

theorem anchor03_true : (rest [] (evFn cx0 1000 23 (tabBlks [shTab]) .nil [])).isEmpty = true := by kernel_rfl
theorem anchor03_calls (w : World) (h : TabOk w shTab) : Calls Tryd.prog 23 #[] w fun e w' => e = .returned (.bool true) ∧ Below w.heap.size w w' :=
  law_ok (cx := cx0) (jx := Jx.none) (ρ := envOf []) (vals := []) (cxOk _ _) (fun m hm => by cases hm) (rest_isNil anchor03_true) rfl (fun t ht => by rw [List.mem_singleton] at ht; subst ht; exact h) pcOk_nil trivial trivial

def anchor03Sum : Sum := pureSum 23 fun _ args => match args with
  | [] => some (ret1 (.bool (.lit 1)))
  | _ => none
theorem enters_fn {f : FuncId} {fn : Func} (hf : Tryd.prog.funcs[f]? = some fn) (hb : fn.body.isSome = true) (hn : (fn.name == "runtime.NumGoroutine") = false) : Enters Tryd.prog f := by
  obtain ⟨c, hc⟩ := Option.isSome_iff_exists.1 hb
  exact enters_of hf hc hn
theorem anchor03Sum_ok {ρ : Env} : SumOk Tryd.prog (jxTabs [shTab]) ρ anchor03Sum :=
  pureSum_ok (enters_fn Tryd.func23 rfl (by decide)) fun pc args r vals w β hr hp hj ha => by
    split at hr
    · cases hr
      cases vals with
      | nil => exact (anchor03_calls w (hj shTab (by simp))).mono fun e w' ⟨he, hb⟩ => ⟨⟨_, he, rfl⟩, hb⟩
      | cons _ _ => exact ha.elim
    · cases hr

noncomputable def cx1 : Cx := cxOf (tabGlob 0 [shTab]) [anchor03Sum]
theorem cx1_sums {ρ : Env} : ∀ m ∈ cx1.sums, SumOk cx1.P (jxTabs [shTab]) ρ m := all_cons anchor03Sum_ok all_nil

/-! ### InstForms -/
theorem forms_low : (rest [] (evFn cx1 1000 13 (tabBlks [shTab]) (pcOf [(.var 0, -9223372036854775808, 0)]) [.v (.c (.int .i64 (.var 0)))])).isEmpty = true := by kernel_rfl
theorem forms_high : (rest [] (evFn cx1 1000 13 (tabBlks [shTab]) (pcOf [(.var 0, 101, 9223372036854775807)]) [.v (.c (.int .i64 (.var 0)))])).isEmpty = true := by kernel_rfl
noncomputable def formOk (n : Nat) : Bool := (rest [] (evFn cx1 1000 13 (tabBlks [shTab]) .nil [.v (.c (.int .i64 (.lit n)))])).isEmpty
attribute [irreducible] formOk
noncomputable def formsOk : Nat → Nat → Bool
  | _, 0 => true
  | n, k + 1 => formOk n && formsOk (n + 1) k
theorem formsOk_at : ∀ {k n : Nat}, formsOk n k = true → ∀ m, n ≤ m → m < n + k → formOk m = true
  | 0, n, _, m, h0, h1 => by omega
  | k + 1, n, h, m, h0, h1 => by
    unfold formsOk at h
    rw [Bool.and_eq_true] at h
    by_cases hm : m = n
    · subst hm; exact h.1
    · exact formsOk_at h.2 m (by omega) (by omega)
theorem forms1 : formsOk 1 25 = true := by kernel_rfl
theorem forms2 : formsOk 26 25 = true := by kernel_rfl
theorem forms3 : formsOk 51 25 = true := by kernel_rfl
theorem forms4 : formsOk 76 25 = true := by kernel_rfl
theorem forms_all (n : Nat) (h0 : 1 ≤ n) (h1 : n ≤ 100) : formOk n = true := by
  by_cases h2 : n < 26
  · exact formsOk_at forms1 n h0 h2
  by_cases h3 : n < 51
  · exact formsOk_at forms2 n (by omega) h3
  by_cases h4 : n < 76
  · exact formsOk_at forms3 n (by omega) h4
  · exact formsOk_at forms4 n (by omega) (by omega)

end Go.Proofs.YtcaenimpfbfobaaDoor.Ev

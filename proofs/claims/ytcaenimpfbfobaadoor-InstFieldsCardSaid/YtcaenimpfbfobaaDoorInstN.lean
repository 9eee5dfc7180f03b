/- What the evaluator says of the anchor of chapter 3. -/
import Derived.Test.YtcaenimpfbfobaaDoorInstO
namespace Go.Proofs.YtcaenimpfbfobaaDoor.Ev
open Go Go.RowKit

theorem anchor03_true : (rest [] (evFn cx0 1000 23 (tabBlks [shTab]) .nil [])).isEmpty = true := by kernel_rfl
theorem anchor03_calls (w : World) (h : TabOk w shTab) : Calls Tryd.prog 23 #[] w fun e w' => e = .returned (.bool true) ∧ Below w.heap.size w w' :=
  law_ok (cx := cx0) (jx := Jx.none) (ρ := envOf []) (vals := []) (cxOk _ _) (fun m hm => by cases hm) (rest_isNil anchor03_true) rfl (fun t ht => by rw [List.mem_singleton] at ht; subst ht; exact h) pcOk_nil trivial trivial

def anchor03Sum : Sum := pureSum 23 fun _ args => match args with
  | [] => some (ret1 (.bool (.lit 1)))
  | _ => none
theorem anchor03Sum_ok {ρ : Env} : SumOk Tryd.prog (jxTabs [shTab]) ρ anchor03Sum :=
  pureSum_ok (enters_fn Tryd.func23 rfl (by decide)) fun pc args r vals w β hr hp hj ha => by
    split at hr
    · cases hr
      cases vals with
      | nil => exact (anchor03_calls w (hj shTab (by simp))).mono fun e w' ⟨he, hb⟩ => ⟨⟨_, he, rfl⟩, hb⟩
      | cons _ _ => exact ha.elim
    · cases hr

noncomputable def cx1 : Cx := cxOf (tabGlob 0 [shTab]) [anchor03Sum]
theorem cx1_sums {ρ : Env} : ∀ m ∈ cx1.sums, SumOk cx1.P (jxTabs [shTab]) ρ m := all_cons anchor03Sum_ok all_nil

end Go.Proofs.YtcaenimpfbfobaaDoor.Ev

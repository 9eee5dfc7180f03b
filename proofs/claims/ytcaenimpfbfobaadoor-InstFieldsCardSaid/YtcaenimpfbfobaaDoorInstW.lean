/- The walk of InstRight. -/
import Derived.Test.YtcaenimpfbfobaaDoorInstV
import Derived.Test.YtcaenimpfbfobaaDoorInstN
namespace Go.Proofs.YtcaenimpfbfobaaDoor.Ev
open Go Go.RowKit

theorem anchor03Sum2_ok {ρ : Env} : SumOk Tryd.prog jx2 ρ anchor03Sum :=
  pureSum_ok (enters_fn Tryd.func23 rfl (by decide)) fun pc args r vals w β hr hp hj ha => by
    split at hr
    · cases hr
      cases vals with
      | nil => exact (anchor03_calls w (jx2_sh hj)).mono fun e w' ⟨he, hb⟩ => ⟨⟨_, he, rfl⟩, hb⟩
      | cons _ _ => exact ha.elim
    · cases hr

noncomputable def cx3 : Cx := cxOf (tabGlob 0 [shTab]) [anchor03Sum, rightSum, refRightSum]
theorem cx3_sums {xs : List Int} : ∀ m ∈ cx3.sums, SumOk cx3.P jx2 (envV xs) m := all_cons anchor03Sum2_ok (all_cons rightSum_ok (all_cons refRightSum_ok all_nil))

theorem instRight_rest : (rest [] (evFn cx3 1000 9 (tabBlks [shTab]) (i64s 11) [instA])).isEmpty = true := by kernel_rfl
theorem InstRight_walk (l : List Int) (hl : l.length = 11) (hb : ∀ x ∈ l, -9223372036854775808 ≤ x ∧ x ≤ 9223372036854775807) (W : World) (hS : TabOk W facTab ∧ TabOk W shTab) :
    Calls Tryd.prog 9 #[instVals l] W fun e w' => e = .returned (.bool true) ∧ Below W.heap.size W w' := by
  have ha : All2 (AV.Is (envV l) (tabPl [shTab])) [instA] [instVals l] := ⟨by have := instA_is l [] hl (envV l).φ (envV l).o (tabPl [shTab]); rw [List.append_nil] at this; exact this, trivial⟩
  exact law_ok (cx := cx3) (jx := jx2) (ρ := envV l) (vals := [instVals l]) (cxOk _ _) cx3_sums (rest_isNil instRight_rest) rfl (fun t ht => by rw [List.mem_singleton] at ht; subst ht; exact hS.2) (i64s_ok l 11 _ _ hl hb) (jx2_mk hS.1 hS.2) ha

end Go.Proofs.YtcaenimpfbfobaaDoor.Ev

/- The walks of InstForms and InstBranches, by the evaluator. -/
import Derived.Test.YtcaenimpfbfobaaDoorInstP
namespace Go.Proofs.YtcaenimpfbfobaaDoor.Ev
open Go Go.RowKit

theorem formOk_rest {n : Nat} (h : formOk n = true) : (rest [] (evFn cx1 1000 13 (tabBlks [shTab]) .nil [.v (.c (.int .i64 (.lit n)))])).isEmpty = true := by unfold formOk at h; exact h
theorem InstForms_walk (a0 : Int) (b0 : -9223372036854775808 ≤ a0 ∧ a0 ≤ 9223372036854775807) (W : World) (hS : TabOk W shTab) :
    Calls Tryd.prog 13 #[.int .i64 a0] W fun e w' => e = .returned (.bool true) ∧ Below W.heap.size W w' := by
  have hj : (jxTabs [shTab]).J W := fun t ht => by rw [List.mem_singleton] at ht; subst ht; exact hS
  have ha : All2 (AV.Is (envOf [a0]) (tabPl [shTab])) [.v (.c (.int .i64 (.var 0)))] [.int .i64 a0] := ⟨rfl, trivial⟩
  by_cases h0 : a0 ≤ 0
  · exact law_ok (cx := cx1) (ρ := envOf [a0]) (vals := [.int .i64 a0]) (cxOk _ _) cx1_sums (rest_isNil forms_low) rfl hj (pcOk_one ⟨b0.1, h0⟩) hj ha
  by_cases h1 : 101 ≤ a0
  · exact law_ok (cx := cx1) (ρ := envOf [a0]) (vals := [.int .i64 a0]) (cxOk _ _) cx1_sums (rest_isNil forms_high) rfl hj (pcOk_one ⟨h1, b0.2⟩) hj ha
  obtain ⟨n, rfl⟩ : ∃ n : Nat, a0 = n := ⟨a0.toNat, by omega⟩
  exact law_ok (cx := cx1) (ρ := envOf [n]) (vals := [.int .i64 n]) (cxOk _ _) cx1_sums (rest_isNil (formOk_rest (forms_all n (by omega) (by omega)))) rfl hj pcOk_nil hj (⟨rfl, trivial⟩ : All2 (AV.Is (envOf [(n : Int)]) (tabPl [shTab])) [.v (.c (.int .i64 (.lit (n : Int))))] [.int .i64 n])

/-! ### InstBranches -/
def instVals (l : List Int) : Value := .agg (l.map (Value.int .i64)).toArray
def instA : AV := .v (.g ((List.range 11).map fun i => .int .i64 (.var i)))
def i64L (n : Nat) : FL := (List.range n).map fun i => (.var i, -9223372036854775808, 9223372036854775807)
def i64s (n : Nat) : PC := pcOf (i64L n)
theorem is_ints {k : IntKind} {ρ : Env} {β : Pl} : ∀ (l : List Int) (is : List Nat), l.length = is.length → (∀ (j i : Nat), is[j]? = some i → l[j]? = some (ρ.v i)) → All2 (AT.Is ρ β) (is.map fun i => .int k (.var i)) (l.map (Value.int k))
  | [], [], _, _ => trivial
  | x :: l, i :: is, h, hv => ⟨by have := hv 0 i rfl; simp at this; rw [this]; rfl, is_ints l is (by simpa using h) fun j i' hj => by simpa using hv (j + 1) i' (by simpa using hj)⟩
  | [], _ :: _, h, _ => by simp at h
  | _ :: _, [], h, _ => by simp at h
theorem branches_rest : (rest [] (evFn cx1 1000 11 (tabBlks [shTab]) (i64s 12) [instA, .v (.c (.int .i64 (.var 11)))])).isEmpty = true := by kernel_rfl
theorem InstBranches_walk (l : List Int) (hl : l.length = 11) (hb : ∀ x ∈ l, -9223372036854775808 ≤ x ∧ x ≤ 9223372036854775807) (a1 : Int) (b1 : -9223372036854775808 ≤ a1 ∧ a1 ≤ 9223372036854775807) (W : World) (hS : TabOk W shTab) :
    Calls Tryd.prog 11 #[instVals l, .int .i64 a1] W fun e w' => e = .returned (.bool true) ∧ Below W.heap.size W w' := by
  have hj : (jxTabs [shTab]).J W := fun t ht => by rw [List.mem_singleton] at ht; subst ht; exact hS
  have hlen : (l ++ [a1]).length = 12 := by simp [hl]
  have hp : pcOk (envOf (l ++ [a1])) (i64s 12) := by
    refine pcOf_ok fun f hf => ?_
    obtain ⟨i, hi, rfl⟩ := List.mem_map.1 hf
    have hi' : i < (l ++ [a1]).length := by rw [hlen]; exact List.mem_range.1 hi
    have hm : (l ++ [a1])[i] ∈ l ++ [a1] := List.getElem_mem hi'
    have e : (E.var i).den (envOf (l ++ [a1])) = (l ++ [a1])[i] := by simp only [E.den, envOf, List.getD, List.getElem?_eq_getElem hi', Option.getD_some]
    rw [e]
    rcases List.mem_append.1 hm with h | h
    · exact hb _ h
    · rw [List.mem_singleton] at h; rw [h]; exact b1
  have ha : All2 (AV.Is (envOf (l ++ [a1])) (tabPl [shTab])) [instA, .v (.c (.int .i64 (.var 11)))] [instVals l, .int .i64 a1] := by
    refine ⟨⟨_, rfl, ?_⟩, ?_, trivial⟩
    · refine is_ints l (List.range 11) (by simp [hl]) fun j i hji => ?_
      have hj11 : j < 11 := by have := (List.getElem?_eq_some_iff.1 hji).1; simpa using this
      have : i = j := by rw [List.getElem?_range hj11] at hji; cases hji; rfl
      subst this
      simp only [envOf, List.getD]
      rw [List.getElem?_append_left (by omega), List.getElem?_eq_getElem (by omega), Option.getD_some]
    · show Value.int .i64 a1 = .int .i64 ((l ++ [a1]).getD 11 0)
      simp [List.getD, List.getElem?_append_right, hl]
  exact law_ok (cx := cx1) (ρ := envOf (l ++ [a1])) (vals := [instVals l, .int .i64 a1]) (cxOk _ _) cx1_sums (rest_isNil branches_rest) rfl hj hp hj ha

end Go.Proofs.YtcaenimpfbfobaaDoor.Ev

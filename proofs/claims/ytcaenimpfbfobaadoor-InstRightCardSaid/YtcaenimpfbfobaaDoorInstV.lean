/- The walk of InstRight. -/
import Derived.Test.YtcaenimpfbfobaaDoorInstU
namespace Go.Proofs.YtcaenimpfbfobaaDoor.Ev
open Go Go.RowKit

/-- numbers from a list; whether an instruction may be -/
noncomputable def envV (xs : List Int) : Env := ⟨fun i => xs.getD i 0, fun _ a => truth (rightB a), fun _ => undef⟩
def instRun (pc : PC) (args : List AV) : Option AV := match args with
  | [.v (.g l)] => (intsOf .i64 l).bind fun es => if Nat.beq es.length 11 && es.all (fun e => inR pc e (-9223372036854775808) 9223372036854775807) then some (ret1 (.bool (.eq (.ap 2 (mkL es)) (.lit 1)))) else none
  | _ => none
theorem ints_of {ρ : Env} {β : Pl} {k : IntKind} : ∀ {l : List AT} {es : List E} {vs : List Value}, intsOf k l = some es → All2 (AT.Is ρ β) l vs → vs = (es.map (E.den ρ)).map (Value.int k)
  | [], es, [], h, _ => by cases h; rfl
  | [], _, _ :: _, _, ha => ha.elim
  | a :: l, _, [], _, ha => ha.elim
  | a :: l, es, v :: vs, h, ha => by
    cases a with
    | int k' e =>
      unfold intsOf at h
      split at h
      · rename_i hk
        simp only [decide_eq_true_eq] at hk
        subst hk
        rw [Option.map_eq_some_iff] at h
        obtain ⟨es', h', rfl⟩ := h
        rw [ints_of h' ha.2, show v = .int k (e.den ρ) from ha.1]; rfl
      · cases h
    | _ => simp [intsOf] at h
theorem instRun_is {ρ : Env} {β : Pl} {pc : PC} {args : List AV} {r : AV} {vals : List Value} (h : instRun pc args = some r) (hp : pcOk ρ pc) (ha : All2 (AV.Is ρ β) args vals) :
    ∃ l : List Int, vals = [instVals l] ∧ l.length = 11 ∧ (∀ x ∈ l, -9223372036854775808 ≤ x ∧ x ≤ 9223372036854775807) ∧ ∃ e : E, r = ret1 (.bool e) ∧ e.den ρ = truth (decide (ρ.φ 2 l = 1)) := by
  unfold instRun at h
  split at h
  · rename_i l
    rw [Option.bind_eq_some_iff] at h
    obtain ⟨es, he, h⟩ := h
    split at h
    · rename_i hc
      cases h
      rw [Bool.and_eq_true] at hc
      cases vals with
      | nil => exact ha.elim
      | cons v vs =>
        cases vs with
        | cons _ _ => exact ha.2.elim
        | nil =>
          obtain ⟨cs, rfl, hcs⟩ := ha.1
          refine ⟨es.map (E.den ρ), ?_, by rw [List.length_map]; exact Nat.eq_of_beq_eq_true hc.1, ?_, _, rfl, ?_⟩
          · have := ints_of he hcs
            unfold instVals
            rw [← this]
          · intro x hx
            obtain ⟨e, he', rfl⟩ := List.mem_map.1 hx
            exact inR_ok hp (List.all_eq_true.1 hc.2 e he')
          · show truth (decide (ρ.φ 2 ((mkL es).denL ρ) = 1)) = _
            rw [mkL_denL]
    · cases h
  · cases h
def rightSum : Sum := pureSum 24 instRun
def refRightSum : Sum := pureSum 26 instRun
theorem rightSum_ok {xs : List Int} : SumOk Tryd.prog jx2 (envV xs) rightSum :=
  pureSum_ok (enters_fn Tryd.func24 rfl (by decide)) fun pc args r vals w β hr hp hj ha => by
    obtain ⟨l, rfl, hl, hb, e, rfl, he⟩ := instRun_is hr hp ha
    refine (rightB_calls l hl hb w hj).1.mono fun x w' ⟨hx, hb'⟩ => ⟨⟨_, hx, ?_⟩, hb'⟩
    show Value.bool _ = .bool (tb _)
    rw [he]
    show _ = Value.bool (tb (truth (decide (truth (rightB l) = 1))))
    rw [tb_truth]; cases rightB l <;> rfl
theorem refRightSum_ok {xs : List Int} : SumOk Tryd.prog jx2 (envV xs) refRightSum :=
  pureSum_ok (enters_fn Tryd.func26 rfl (by decide)) fun pc args r vals w β hr hp hj ha => by
    obtain ⟨l, rfl, hl, hb, e, rfl, he⟩ := instRun_is hr hp ha
    refine (rightB_calls l hl hb w hj).2.mono fun x w' ⟨hx, hb'⟩ => ⟨⟨_, hx, ?_⟩, hb'⟩
    show Value.bool _ = .bool (tb _)
    rw [he]
    show _ = Value.bool (tb (truth (decide (truth (rightB l) = 1))))
    rw [tb_truth]; cases rightB l <;> rfl
noncomputable def cx3 : Cx := cxOf (tabGlob 0 [shTab]) [anchor03Sum, rightSum, refRightSum]
theorem cx3_sums {xs : List Int} : ∀ m ∈ cx3.sums, SumOk cx3.P jx2 (envV xs) m := all_cons anchor03Sum2_ok (all_cons rightSum_ok (all_cons refRightSum_ok all_nil))

theorem instRight_rest : (rest [] (evFn cx3 1000 9 (tabBlks [shTab]) (i64s 11) [instA])).isEmpty = true := by kernel_rfl
theorem i64s_ok (l : List Int) (n : Nat) (φ : Nat → List Int → Int) (o : Nat → Value) (hl : l.length = n) (hb : ∀ x ∈ l, -9223372036854775808 ≤ x ∧ x ≤ 9223372036854775807) : pcOk ⟨fun i => l.getD i 0, φ, o⟩ (i64s n) := by
  refine pcOf_ok fun f hf => ?_
  obtain ⟨i, hi, rfl⟩ := List.mem_map.1 hf
  have hi' : i < l.length := by rw [hl]; exact List.mem_range.1 hi
  have e : (E.var i).den ⟨fun i => l.getD i 0, φ, o⟩ = l[i] := by simp only [E.den, List.getD, List.getElem?_eq_getElem hi', Option.getD_some]
  dsimp only
  rw [e]
  exact hb _ (List.getElem_mem hi')
theorem instA_is (l m : List Int) (hl : l.length = 11) (φ : Nat → List Int → Int) (o : Nat → Value) (β : Pl) : AV.Is ⟨fun i => (l ++ m).getD i 0, φ, o⟩ β instA (instVals l) := by
  refine ⟨_, rfl, ?_⟩
  refine is_ints l (List.range 11) (by simp [hl]) fun j i hji => ?_
  have hj11 : j < 11 := by have := (List.getElem?_eq_some_iff.1 hji).1; simpa using this
  have : i = j := by rw [List.getElem?_range hj11] at hji; cases hji; rfl
  subst this
  dsimp only
  rw [List.getD_eq_getElem?_getD, List.getElem?_append_left (by omega), List.getElem?_eq_getElem (by omega), Option.getD_some]
theorem InstRight_walk (l : List Int) (hl : l.length = 11) (hb : ∀ x ∈ l, -9223372036854775808 ≤ x ∧ x ≤ 9223372036854775807) (W : World) (hS : TabOk W facTab ∧ TabOk W shTab) :
    Calls Tryd.prog 9 #[instVals l] W fun e w' => e = .returned (.bool true) ∧ Below W.heap.size W w' := by
  have ha : All2 (AV.Is (envV l) (tabPl [shTab])) [instA] [instVals l] := ⟨by have := instA_is l [] hl (envV l).φ (envV l).o (tabPl [shTab]); rw [List.append_nil] at this; exact this, trivial⟩
  exact law_ok (cx := cx3) (jx := jx2) (ρ := envV l) (vals := [instVals l]) (cxOk _ _) cx3_sums (rest_isNil instRight_rest) rfl (fun t ht => by rw [List.mem_singleton] at ht; subst ht; exact hS.2) (i64s_ok l 11 _ _ hl hb) (jx2_mk hS.1 hS.2) ha

end Go.Proofs.YtcaenimpfbfobaaDoor.Ev

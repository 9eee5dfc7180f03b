/- Right and the document's Right as one truth about an instruction's fields. -/
import Derived.Test.YthpkejlmelednaaDoorInstU
namespace Go.Proofs.YthpkejlmelednaaDoor.Ev
open Go Go.RowKit

/-- numbers from a list; whether an instruction may be -/
noncomputable def envV (xs : List Int) : Env := ⟨fun i => xs.getD i 0, fun _ a => truth (rightB a), fun _ => undef⟩
def instRun (pc : PC) (args : List AV) : Option AV := match args with
  | [.v (.g l)] => (intsOf .i64 l).bind fun es => if Nat.beq es.length 11 && es.all (fun e => inR pc e (-9223372036854775808) 9223372036854775807) then some (ret1 (.bool (.eq (.ap 2 (mkL es)) (.lit 1)))) else none
  | _ => none
theorem ints_of {ρ : Env} {β : Pl} {k : IntKind} : ∀ {l : List AT} {es : List E} {vs : List Value}, intsOf k l = some es → All2 (AT.Is ρ β) l vs → vs = (es.map (E.den ρ)).map (Value.int k)
  | [], es, [], h, _ => by cases h; rfl
  | [], _, _ :: _, _, ha => ha.elim
  | a :: l, _, [], _, ha => ha.elim
  | a :: l, es, v :: vs, h, ha => by
    cases a with
    | int k' e =>
      unfold intsOf at h
      split at h
      · rename_i hk
        simp only [decide_eq_true_eq] at hk
        subst hk
        rw [Option.map_eq_some_iff] at h
        obtain ⟨es', h', rfl⟩ := h
        rw [ints_of h' ha.2, show v = .int k (e.den ρ) from ha.1]; rfl
      · cases h
    | _ => simp [intsOf] at h
theorem instRun_is {ρ : Env} {β : Pl} {pc : PC} {args : List AV} {r : AV} {vals : List Value} (h : instRun pc args = some r) (hp : pcOk ρ pc) (ha : All2 (AV.Is ρ β) args vals) :
    ∃ l : List Int, vals = [instVals l] ∧ l.length = 11 ∧ (∀ x ∈ l, -9223372036854775808 ≤ x ∧ x ≤ 9223372036854775807) ∧ ∃ e : E, r = ret1 (.bool e) ∧ e.den ρ = truth (decide (ρ.φ 2 l = 1)) := by
  unfold instRun at h
  split at h
  · rename_i l
    rw [Option.bind_eq_some_iff] at h
    obtain ⟨es, he, h⟩ := h
    split at h
    · rename_i hc
      cases h
      rw [Bool.and_eq_true] at hc
      cases vals with
      | nil => exact ha.elim
      | cons v vs =>
        cases vs with
        | cons _ _ => exact ha.2.elim
        | nil =>
          obtain ⟨cs, rfl, hcs⟩ := ha.1
          refine ⟨es.map (E.den ρ), ?_, by rw [List.length_map]; exact Nat.eq_of_beq_eq_true hc.1, ?_, _, rfl, ?_⟩
          · have := ints_of he hcs
            unfold instVals
            rw [← this]
          · intro x hx
            obtain ⟨e, he', rfl⟩ := List.mem_map.1 hx
            exact inR_ok hp (List.all_eq_true.1 hc.2 e he')
          · show truth (decide (ρ.φ 2 ((mkL es).denL ρ) = 1)) = _
            rw [mkL_denL]
    · cases h
  · cases h
def rightSum : Sum := pureSum 35 instRun
def refRightSum : Sum := pureSum 16 instRun
theorem rightSum_is {ρ : Env} (hρ : ∀ a, ρ.φ 2 a = truth (rightB a)) : SumOk Tryd.prog jx2 ρ rightSum :=
  pureSum_ok (enters_fn Tryd.func35 rfl (by decide)) fun pc args r vals w β hr hp hj ha => by
    obtain ⟨l, rfl, hl, hb, e, rfl, he⟩ := instRun_is hr hp ha
    refine (rightB_calls l hl hb w hj).1.mono fun x w' ⟨hx, hb'⟩ => ⟨⟨_, hx, ?_⟩, hb'⟩
    show Value.bool _ = .bool (tb _)
    rw [he, hρ]
    rw [tb_truth]; cases rightB l <;> rfl
theorem refRightSum_is {ρ : Env} (hρ : ∀ a, ρ.φ 2 a = truth (rightB a)) : SumOk Tryd.prog jx2 ρ refRightSum :=
  pureSum_ok (enters_fn Tryd.func16 rfl (by decide)) fun pc args r vals w β hr hp hj ha => by
    obtain ⟨l, rfl, hl, hb, e, rfl, he⟩ := instRun_is hr hp ha
    refine (rightB_calls l hl hb w hj).2.mono fun x w' ⟨hx, hb'⟩ => ⟨⟨_, hx, ?_⟩, hb'⟩
    show Value.bool _ = .bool (tb _)
    rw [he, hρ]
    rw [tb_truth]; cases rightB l <;> rfl
theorem rightSum_ok {xs : List Int} : SumOk Tryd.prog jx2 (envV xs) rightSum := rightSum_is fun _ => rfl
theorem refRightSum_ok {xs : List Int} : SumOk Tryd.prog jx2 (envV xs) refRightSum := refRightSum_is fun _ => rfl

end Go.Proofs.YthpkejlmelednaaDoor.Ev

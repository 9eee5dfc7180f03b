/- What is left to be shown where two variables are equal: one is put in the other's place. -/
import Derived.Test.YtnjmfedleimlmaaDoorEvM
namespace Go.Proofs.YtnjmfedleimlmaaDoor.Ev
open Go Go.RowKit

def E.swp (a b : Nat) : E → E
  | .var i => bif Nat.beq i a then .var b else .var i
  | .eq x y => .eq (x.swp a b) (y.swp a b)
  | .not x => .not (x.swp a b)
  | .ap f l => .ap f (l.swp a b)
  | .cons x l => .cons (x.swp a b) (l.swp a b)
  | e => e
theorem sub_den {ρ : Env} {a b : Nat} (h : ρ.v a = ρ.v b) (e : E) : (e.swp a b).den ρ = e.den ρ ∧ (e.swp a b).denL ρ = e.denL ρ := by
  induction e with
  | var i =>
    unfold E.swp
    cases hb : Nat.beq i a with
    | true => have := Nat.eq_of_beq_eq_true hb; subst this; exact ⟨h.symm, rfl⟩
    | false => exact ⟨rfl, rfl⟩
  | eq x y hx hy => simp only [E.swp, E.den, E.denL, hx.1, hy.1, and_self]
  | not x hx => simp only [E.swp, E.den, E.denL, hx.1, and_self]
  | ap f l hl => simp only [E.swp, E.den, E.denL, hl.2, and_self]
  | cons x l hx hl => simp only [E.swp, E.den, E.denL, hx.1, hl.2, and_self]
  | _ => exact ⟨rfl, rfl⟩
/-- two variables that are the same where a truth is so -/
def eqOf : E → Option (Nat × Nat)
  | .eq (.var a) (.var b) => some (a, b)
  | .ite c x (.lit 0) => match eqOf c with
    | some p => some p
    | none => eqOf x
  | _ => none
theorem eqOf_ok {ρ : Env} : ∀ {e : E} {p : Nat × Nat}, eqOf e = some p → e.den ρ ≠ 0 → ρ.v p.1 = ρ.v p.2
  | .eq (.var a) (.var b), p, h, hd => by
    simp only [eqOf, Option.some.injEq] at h
    subst h
    by_cases hv : ρ.v a = ρ.v b
    · exact hv
    · exact absurd (by simp [E.den, truth, hv]) hd
  | .ite c x (.lit 0), p, h, hd => by
    have hc : c.den ρ ≠ 0 ∧ x.den ρ ≠ 0 := by
      simp only [E.den] at hd
      by_cases h0 : c.den ρ = 0
      · rw [if_pos h0] at hd; exact absurd rfl hd
      · rw [if_neg h0] at hd; exact ⟨h0, hd⟩
    have h' : (match eqOf c with
      | some p => some p
      | none => eqOf x) = some p := h
    cases hq : eqOf c with
    | some q => rw [hq] at h'; cases h'; exact eqOf_ok hq hc.1
    | none => rw [hq] at h'; exact eqOf_ok h' hc.2
def pairOf : E × Bool → Option (Nat × Nat)
  | (.not e, false) => eqOf e
  | (e, true) => eqOf e
  | _ => none
theorem pairOf_ok {ρ : Env} {q : E × Bool} {p : Nat × Nat} (h : pairOf q = some p) (hq : (q.1.den ρ ≠ 0) ↔ q.2 = true) : ρ.v p.1 = ρ.v p.2 := by
  unfold pairOf at h
  split at h
  · rename_i e
    refine eqOf_ok h fun h0 => ?_
    have := hq.1 (by simp [E.den, h0, truth])
    cases this
  · exact eqOf_ok h (hq.2 rfl)
  · cases h
def subsOf (l : List (E × Bool)) : List (Nat × Nat) := l.filterMap pairOf
theorem subsOf_ok {ρ : Env} {l : List (E × Bool)} (h : pathOk ρ l) (p : Nat × Nat) (hp : p ∈ subsOf l) : ρ.v p.1 = ρ.v p.2 := by
  obtain ⟨q, hq, hpq⟩ := List.mem_filterMap.1 hp
  exact pairOf_ok hpq (h q hq)
def subAll : List (Nat × Nat) → E → E
  | [], e => e
  | p :: l, e => subAll l (e.swp p.1 p.2)
theorem subAll_den {ρ : Env} : ∀ {l : List (Nat × Nat)}, (∀ p ∈ l, ρ.v p.1 = ρ.v p.2) → ∀ e : E, (subAll l e).den ρ = e.den ρ
  | [], _, _ => rfl
  | p :: l, h, e => by
    unfold subAll
    rw [subAll_den (fun q hq => h q (List.mem_cons_of_mem _ hq)), (sub_den (h p (List.mem_cons_self ..)) e).1]
def plainly : E → Bool
  | .eq x y => x.beq y
  | _ => false
theorem plainly_ok {ρ : Env} {e : E} (h : plainly e = true) : e.den ρ ≠ 0 := by
  unfold plainly at h
  split at h
  · rw [E.beq_eq h]; simp [E.den, truth]
  · cases h
def restS (l : List (List (E × Bool) × E)) : Bool := l.all fun x => plainly (subAll (subsOf x.1) x.2)
theorem restS_ok {ρ : Env} {t : Tr Leaf} (h : restS (rest [] t) = true) : t.All ρ (isTrue ρ) :=
  rest_ok (fun x hx hp => by
    have := plainly_ok (ρ := ρ) (List.all_eq_true.1 h x hx)
    rwa [subAll_den (subsOf_ok hp)] at this) (fun q hq => by cases hq)

end Go.Proofs.YtnjmfedleimlmaaDoor.Ev

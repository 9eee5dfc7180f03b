/- Functions that yield a truth or a number which a term says: by the evaluator's leaves. -/
import Derived.Test.YtnjmfedleimlmaaDoorEvJ
namespace Go.Proofs.YtnjmfedleimlmaaDoor.Ev
open Go Go.RowKit

def allLeaves (p : Leaf → Bool) : Tr Leaf → Bool
  | .leaf x => p x
  | .node _ t e => allLeaves p t && allLeaves p e
  | .bad _ => false
theorem allLeaves_ok {ρ : Env} {p : Leaf → Bool} : ∀ {t : Tr Leaf}, allLeaves p t = true → t.All ρ (fun r => p r = true)
  | .leaf _, h => h
  | .node c t e, h => by
    simp only [allLeaves, Bool.and_eq_true] at h
    exact ⟨fun _ => allLeaves_ok h.1, fun _ => allLeaves_ok h.2⟩
  | .bad _, h => by simp [allLeaves] at h
def boolIs (T : PC → E) (r : Leaf) : Bool := match r.1 with
  | .v (.c (.bool e)) => isLit 1 (mkEq r.2.2 e (T r.2.2))
  | _ => false
def intIs (k : IntKind) (T : PC → E) (r : Leaf) : Bool := match r.1 with
  | .v (.c (.int l e)) => decide (k = l) && isLit 1 (mkEq r.2.2 e (T r.2.2))
  | _ => false

section
variable {cx : Cx} {jx : Jx} {ρ : Env} {W : World} {wr : List Nat} {β : Pl} {heap : List Blk} {w : World}
theorem eq_of_lit {pc : PC} (hp : pcOk ρ pc) {a b : E} (h : isLit 1 (mkEq pc a b) = true) : a.den ρ = b.den ρ := by
  have h1 := isLit_den h (ρ := ρ)
  rw [mkEq_den hp] at h1
  by_cases he : a.den ρ = b.den ρ
  · exact he
  · simp [he, truth] at h1
theorem bool_calls (hO : CxOk cx) (hs : ∀ m ∈ cx.sums, SumOk cx.P jx ρ m) {fuel : Nat} {f : FuncId} {pc : PC} {args : List AV} {vals : List Value} {tabs : List Tab} (T : PC → E) (t : Int)
    (h : allLeaves (boolIs T) (evFn cx fuel f (tabBlks tabs) pc args) = true) (hT : ∀ pc, pcOk ρ pc → (T pc).den ρ = t) (hg : cx.glob = tabGlob 0 tabs) (ht : ∀ t ∈ tabs, TabOk w t) (hp : pcOk ρ pc) (hj : jx.J w)
    (ha : All2 (AV.Is ρ (tabPl tabs)) args vals) : Calls cx.P f vals.toArray w fun e w' => e = .returned (.bool (tb t)) ∧ Below w.heap.size w w' := by
  refine (calls_all (W := w) (wr := []) hO hs (allLeaves_ok h) (by rw [hg]; exact tabs_glob) (heapOk_tabs ht) (Fr.refl w []) hp hj ha).mono ?_
  rintro e w' ⟨r, hr, v, β', rfl, hb, hv, _, hfr, _, hp'⟩
  unfold boolIs at hr
  split at hr
  · rename_i c hc
    rw [hc] at hv
    have hv' : v = .bool (tb (c.den ρ)) := hv
    rw [hv', eq_of_lit hp' hr, hT _ hp']
    exact ⟨rfl, hfr.to_below⟩
  · cases hr
theorem int_calls (hO : CxOk cx) (hs : ∀ m ∈ cx.sums, SumOk cx.P jx ρ m) {fuel : Nat} {f : FuncId} {pc : PC} {args : List AV} {vals : List Value} {tabs : List Tab} (k : IntKind) (T : PC → E) (t : Int)
    (h : allLeaves (intIs k T) (evFn cx fuel f (tabBlks tabs) pc args) = true) (hT : ∀ pc, pcOk ρ pc → (T pc).den ρ = t) (hg : cx.glob = tabGlob 0 tabs) (ht : ∀ t ∈ tabs, TabOk w t) (hp : pcOk ρ pc) (hj : jx.J w)
    (ha : All2 (AV.Is ρ (tabPl tabs)) args vals) : Calls cx.P f vals.toArray w fun e w' => e = .returned (.int k t) ∧ Below w.heap.size w w' := by
  refine (calls_all (W := w) (wr := []) hO hs (allLeaves_ok h) (by rw [hg]; exact tabs_glob) (heapOk_tabs ht) (Fr.refl w []) hp hj ha).mono ?_
  rintro e w' ⟨r, hr, v, β', rfl, hb, hv, _, hfr, _, hp'⟩
  unfold intIs at hr
  split at hr
  · rename_i l c hc
    simp only [Bool.and_eq_true, decide_eq_true_eq] at hr
    obtain ⟨rfl, hr⟩ := hr
    rw [hc] at hv
    have hv' : v = .int k (c.den ρ) := hv
    rw [hv', eq_of_lit hp' hr, hT _ hp']
    exact ⟨rfl, hfr.to_below⟩
  · cases hr
end
/-- is a term surely within bounds? -/
def inR (pc : PC) (e : E) (lo hi : Int) : Bool := match rng pc e with
  | some r => decide (lo ≤ r.1) && decide (r.2 ≤ hi)
  | none => false
theorem inR_ok {ρ : Env} {pc : PC} (hp : pcOk ρ pc) {e : E} {lo hi : Int} (h : inR pc e lo hi = true) : lo ≤ e.den ρ ∧ e.den ρ ≤ hi := by
  unfold inR at h
  split at h
  · rename_i r hr
    simp only [Bool.and_eq_true, decide_eq_true_eq] at h
    have := rng_sound hp hr
    omega
  · cases h

end Go.Proofs.YtnjmfedleimlmaaDoor.Ev

/- Two ways that yield truths, set against each other: they agree wherever both may be. -/
import Derived.Test.YtnjmfedleimlmaaDoorEvK
namespace Go.Proofs.YtnjmfedleimlmaaDoor.Ev
open Go Go.RowKit

def agreeLeaf (e1 : E) : PC → Tr Leaf → Bool
  | pc, .leaf r => (match r.1 with
    | .v (.c (.bool e2)) => isLit 1 (mkEq pc e1 e2)
    | _ => false)
  | pc, .node c t e => match rng pc c with
    | some r => if decide (0 < r.1) || decide (r.2 < 0) then agreeLeaf e1 pc t else if decide (r.1 = 0) && decide (r.2 = 0) then agreeLeaf e1 pc e else
        (match assume pc c true with | some p => agreeLeaf e1 p t | none => true) && (match assume pc c false with | some p => agreeLeaf e1 p e | none => true)
    | none => (match assume pc c true with | some p => agreeLeaf e1 p t | none => true) && (match assume pc c false with | some p => agreeLeaf e1 p e | none => true)
  | _, .bad _ => false
def agree (t2 : Tr Leaf) : PC → Tr Leaf → Bool
  | pc, .leaf r => (match r.1 with
    | .v (.c (.bool e1)) => agreeLeaf e1 pc t2
    | _ => false)
  | pc, .node c t e => (match assume pc c true with | some p => agree t2 p t | none => true) && (match assume pc c false with | some p => agree t2 p e | none => true)
  | _, .bad _ => false
def BoolAt (ρ : Env) (t : Tr Leaf) (b : Bool) : Prop := ∃ r e, t.pick ρ = some r ∧ r.1 = .v (.c (.bool e)) ∧ tb (e.den ρ) = b

section
variable {ρ : Env}
theorem boolAt_node {c : E} {t e : Tr Leaf} {b : Bool} : BoolAt ρ (.node c t e) b ↔ if c.den ρ = 0 then BoolAt ρ e b else BoolAt ρ t b := by
  have hp : (Tr.node c t e).pick ρ = if c.den ρ = 0 then e.pick ρ else t.pick ρ := rfl
  unfold BoolAt
  rw [hp]
  by_cases h : c.den ρ = 0
  · rw [if_pos h, if_pos h]
  · rw [if_neg h, if_neg h]
theorem assume_step {pc : PC} (hp : pcOk ρ pc) {c : E} {v : Bool} (hv : (c.den ρ ≠ 0) ↔ v = true) {f : PC → Bool} (h : (match assume pc c v with | some p => f p | none => true) = true) : ∃ p, pcOk ρ p ∧ f p = true := by
  obtain ⟨p, h1, h2⟩ := assume_some hp hv
  rw [h1] at h
  exact ⟨p, h2, h⟩
theorem agreeLeaf_ok {e1 : E} : ∀ {t : Tr Leaf} {pc : PC}, pcOk ρ pc → agreeLeaf e1 pc t = true → BoolAt ρ t (tb (e1.den ρ))
  | .leaf r, pc, hp, h => by
    unfold agreeLeaf at h
    split at h
    · rename_i e2 he
      exact ⟨r, e2, rfl, he, by rw [eq_of_lit hp h]⟩
    · cases h
  | .node c t e, pc, hp, h => by
    have both : ((match assume pc c true with | some p => agreeLeaf e1 p t | none => true) && (match assume pc c false with | some p => agreeLeaf e1 p e | none => true)) = true → BoolAt ρ (.node c t e) (tb (e1.den ρ)) := by
      intro h
      rw [Bool.and_eq_true] at h
      rw [boolAt_node]
      by_cases hc : c.den ρ = 0
      · rw [if_pos hc]
        obtain ⟨p, hp', hf⟩ := assume_step hp (v := false) (by simp [hc]) h.2
        exact agreeLeaf_ok hp' hf
      · rw [if_neg hc]
        obtain ⟨p, hp', hf⟩ := assume_step hp (v := true) (by simp [hc]) h.1
        exact agreeLeaf_ok hp' hf
    unfold agreeLeaf at h
    split at h
    · rename_i r hr
      have hb := rng_sound hp hr
      split at h
      · rename_i hd
        rw [boolAt_node, if_neg (by simp at hd; omega)]
        exact agreeLeaf_ok hp h
      · split at h
        · rename_i hd
          rw [boolAt_node, if_pos (by simp at hd; omega)]
          exact agreeLeaf_ok hp h
        · exact both h
    · exact both h
  | .bad _, _, _, h => by simp [agreeLeaf] at h
theorem agree_ok {t2 : Tr Leaf} : ∀ {t : Tr Leaf} {pc : PC}, pcOk ρ pc → agree t2 pc t = true → ∃ b, BoolAt ρ t b ∧ BoolAt ρ t2 b
  | .leaf r, pc, hp, h => by
    unfold agree at h
    split at h
    · rename_i e1 he
      exact ⟨_, ⟨r, e1, rfl, he, rfl⟩, agreeLeaf_ok hp h⟩
    · cases h
  | .node c t e, pc, hp, h => by
    unfold agree at h
    rw [Bool.and_eq_true] at h
    by_cases hc : c.den ρ = 0
    · obtain ⟨p, hp', hf⟩ := assume_step hp (v := false) (by simp [hc]) h.2
      obtain ⟨b, h1, h2⟩ := agree_ok hp' hf
      exact ⟨b, by rw [boolAt_node, if_pos hc]; exact h1, h2⟩
    · obtain ⟨p, hp', hf⟩ := assume_step hp (v := true) (by simp [hc]) h.1
      obtain ⟨b, h1, h2⟩ := agree_ok hp' hf
      exact ⟨b, by rw [boolAt_node, if_neg hc]; exact h1, h2⟩
  | .bad _, _, _, h => by simp [agree] at h
variable {cx : Cx} {jx : Jx} {W : World} {w : World}
theorem boolAt_calls (hO : CxOk cx) (hs : ∀ m ∈ cx.sums, SumOk cx.P jx ρ m) {fuel : Nat} {f : FuncId} {pc : PC} {args : List AV} {vals : List Value} {tabs : List Tab} {b : Bool}
    (h : BoolAt ρ (evFn cx fuel f (tabBlks tabs) pc args) b) (hg : cx.glob = tabGlob 0 tabs) (ht : ∀ t ∈ tabs, TabOk w t) (hp : pcOk ρ pc) (hj : jx.J w)
    (ha : All2 (AV.Is ρ (tabPl tabs)) args vals) : Calls cx.P f vals.toArray w fun e w' => e = .returned (.bool b) ∧ Below w.heap.size w w' := by
  obtain ⟨r, c, hr, hc, hb⟩ := h
  refine (evFn_ok (W := w) (wr := []) hO hs (r := r.1) (heap' := r.2.1) (pc' := r.2.2) hr (by rw [hg]; exact tabs_glob) (heapOk_tabs ht) (Fr.refl w []) hp hj ha).mono ?_
  rintro e w' ⟨v, β', rfl, _, hv, _, hfr, _, _⟩
  rw [hc] at hv
  have hv' : v = .bool (tb (c.den ρ)) := hv
  rw [hv', hb]
  exact ⟨rfl, hfr.to_below⟩
end

end Go.Proofs.YtnjmfedleimlmaaDoor.Ev

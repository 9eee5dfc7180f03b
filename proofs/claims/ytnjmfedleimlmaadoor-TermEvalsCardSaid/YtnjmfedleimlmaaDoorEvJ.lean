/- How the evaluator's word is used: laws that yield true, functions that yield terms, functions that are summed up, tables. -/
import Derived.Test.YtnjmfedleimlmaaDoorEvI
namespace Go.Proofs.YtnjmfedleimlmaaDoor.Ev
open Go Go.RowKit

/-! ### leaves that are left to be shown -/
abbrev Leaf := AV × List Blk × PC
/-- of a law: the leaves at which it is not plain that it yields true: the way to each, and its truth -/
def rest : List (E × Bool) → Tr Leaf → List (List (E × Bool) × E)
  | p, .leaf r => match r.1 with
    | .v (.c (.bool e)) => (match e with
      | .lit n => if decide (n = 0) then [(p, .lit 0)] else []
      | _ => [(p, e)])
    | _ => [(p, .lit 0)]
  | p, .node c t e => rest ((c, true) :: p) t ++ rest ((c, false) :: p) e
  | p, .bad _ => [(p, .lit 0)]
def pathOk (ρ : Env) (p : List (E × Bool)) : Prop := ∀ q ∈ p, (q.1.den ρ ≠ 0) ↔ q.2 = true
def isTrue (ρ : Env) (r : Leaf) : Prop := ∃ e, r.1 = .v (.c (.bool e)) ∧ e.den ρ ≠ 0
theorem rest_ok {ρ : Env} : ∀ {t : Tr Leaf} {p : List (E × Bool)}, (∀ x ∈ rest p t, pathOk ρ x.1 → x.2.den ρ ≠ 0) → pathOk ρ p → t.All ρ (isTrue ρ)
  | .leaf r, p, h, hp => by
    unfold rest at h
    show isTrue ρ r
    split at h
    · rename_i e he
      refine ⟨e, he, ?_⟩
      split at h
      · rename_i n
        split at h
        · rename_i hn; exact absurd rfl (h _ (List.mem_singleton.2 rfl) hp)
        · rename_i hn; simpa [E.den] using hn
      · exact h _ (List.mem_singleton.2 rfl) hp
    · exact absurd rfl (h _ (List.mem_singleton.2 rfl) hp)
  | .node c t e, p, h, hp => by
    unfold rest at h
    refine ⟨fun hc => rest_ok (fun x hx => h x (List.mem_append.2 (.inl hx))) ?_, fun hc => rest_ok (fun x hx => h x (List.mem_append.2 (.inr hx))) ?_⟩
    · intro q hq
      rcases List.mem_cons.1 hq with rfl | hq
      · simp [hc]
      · exact hp q hq
    · intro q hq
      rcases List.mem_cons.1 hq with rfl | hq
      · simp [hc]
      · exact hp q hq
  | .bad _, p, h, hp => absurd rfl (h _ (List.mem_singleton.2 rfl) hp)
theorem rest_nil {ρ : Env} {t : Tr Leaf} (h : rest [] t = []) : t.All ρ (isTrue ρ) := rest_ok (by rw [h]; intro x hx; cases hx) (fun q hq => by cases hq)
theorem rest_isNil {ρ : Env} {t : Tr Leaf} (h : (rest [] t).isEmpty = true) : t.All ρ (isTrue ρ) := rest_nil (by simpa using h)

section
variable {P : Program} {cx : Cx} {jx : Jx} {ρ : Env} {W : World} {wr : List Nat} {β : Pl} {heap : List Blk} {w : World}

/-! ### known memory at the start -/
/-- tables of integers: the block, the kind, the numbers -/
abbrev Tab := Nat × IntKind × List Int
def tabBlks (l : List Tab) : List Blk := l.map fun t => ⟨0, t.2.2.map fun z => .int t.2.1 (.lit z), false⟩
def tabPl (l : List Tab) : Pl := l.map fun t => (t.1, 0)
def TabOk (w : World) (t : Tab) : Prop := ∃ ty fr, w.heap[t.1]? = some (.cells (t.2.2.map (Value.int t.2.1)).toArray ty fr)
theorem heapOk_nil : HeapOk ρ jx W wr [] [] w := ⟨rfl, fun l b h => by simp at h⟩
theorem heapOk_tabs {l : List Tab} (h : ∀ t ∈ l, TabOk w t) : HeapOk ρ jx W wr (tabPl l) (tabBlks l) w := by
  refine ⟨by simp [tabPl, tabBlks], fun i b hb => ?_⟩
  simp only [tabBlks, List.getElem?_map, Option.map_eq_some_iff] at hb
  obtain ⟨t, ht, rfl⟩ := hb
  obtain ⟨ty, fr, hh⟩ := h t (List.mem_of_getElem? ht)
  refine ⟨(t.1, 0), _, ty, fr, by simp [tabPl, ht], hh, fun j x hx => ?_, fun hrw => by cases hrw⟩
  simp only [List.getElem?_map, Option.map_eq_some_iff] at hx
  obtain ⟨z, hz, rfl⟩ := hx
  exact ⟨.int t.2.1 z, by simp [hz], rfl⟩
def tabGlob : Nat → List Tab → List (Nat × Nat)
  | _, [] => []
  | n, t :: l => (t.1, n) :: tabGlob (n + 1) l
theorem tabGlob_ok : ∀ {l : List Tab} {n : Nat} {g i : Nat}, assoc g (tabGlob n l) = some i → ∃ j, i = n + j ∧ (tabPl l)[j]? = some (g, 0)
  | [], n, g, i, h => by simp [tabGlob, assoc] at h
  | t :: l, n, g, i, h => by
    simp only [tabGlob, assoc] at h
    split at h
    · rename_i hg
      cases h
      refine ⟨0, rfl, ?_⟩
      rw [← Nat.eq_of_beq_eq_true hg]; rfl
    · obtain ⟨j, hj, hp⟩ := tabGlob_ok h
      exact ⟨j + 1, by omega, hp⟩
theorem tabs_glob {l : List Tab} : ∀ g i, assoc g (tabGlob 0 l) = some i → (tabPl l)[i]? = some (g, 0) := fun g i h => by
  obtain ⟨j, hj, hp⟩ := tabGlob_ok h
  rw [hj, Nat.zero_add]; exact hp

/-- the tables, as what is known of a world -/
def jxTabs (l : List Tab) : Jx where
  J w := ∀ t ∈ l, TabOk w t
  G := l.map (·.1)
  closed w w' h hb t ht := by
    obtain ⟨ty, fr, hh⟩ := h t ht
    exact ⟨ty, fr, (hb t.1 (List.mem_map.2 ⟨t, ht, rfl⟩)).trans hh⟩
  inb w h b hb := by
    obtain ⟨t, ht, rfl⟩ := List.mem_map.1 hb
    obtain ⟨ty, fr, hh⟩ := h t ht
    exact lt_of_heap hh

/-! ### laws -/
theorem calls_all (hO : CxOk cx) (hs : ∀ m ∈ cx.sums, SumOk cx.P jx ρ m) {fuel : Nat} {f : FuncId} {pc : PC} {args : List AV} {vals : List Value} {Φ : Leaf → Prop}
    (h : (evFn cx fuel f heap pc args).All ρ Φ) (hg : ∀ g l, assoc g cx.glob = some l → β[l]? = some (g, 0)) (hh : HeapOk ρ jx W wr β heap w) (hf : Fr W wr w) (hp : pcOk ρ pc) (hj : jx.J w)
    (ha : All2 (AV.Is ρ β) args vals) : Calls cx.P f vals.toArray w fun e w' => ∃ r, Φ r ∧ CallPost jx ρ W wr β r.1 r.2.1 r.2.2 e w' := by
  obtain ⟨r, hr, hΦ⟩ := Tr.pick_all h
  exact (evFn_ok hO hs (r := r.1) (heap' := r.2.1) (pc' := r.2.2) hr hg hh hf hp hj ha).mono fun e w' hc => ⟨r, hΦ, hc⟩
theorem law_ok (hO : CxOk cx) (hs : ∀ m ∈ cx.sums, SumOk cx.P jx ρ m) {fuel : Nat} {f : FuncId} {pc : PC} {args : List AV} {vals : List Value} {tabs : List Tab}
    (h : (evFn cx fuel f (tabBlks tabs) pc args).All ρ (isTrue ρ)) (hg : cx.glob = tabGlob 0 tabs) (ht : ∀ t ∈ tabs, TabOk w t) (hp : pcOk ρ pc) (hj : jx.J w)
    (ha : All2 (AV.Is ρ (tabPl tabs)) args vals) : Calls cx.P f vals.toArray w fun e w' => e = .returned (.bool true) ∧ Below w.heap.size w w' := by
  refine (calls_all (W := w) (wr := []) hO hs h (by rw [hg]; exact tabs_glob) (heapOk_tabs ht) (Fr.refl w []) hp hj ha).mono ?_
  rintro e w' ⟨r, ⟨c, hr, hc⟩, v, β', rfl, hb, hv, _, hfr, _⟩
  rw [hr] at hv
  have hv' : v = .bool (tb (c.den ρ)) := hv
  rw [hv', tb_one hc]
  exact ⟨rfl, hfr.to_below⟩

/-! ### functions that are summed up -/
/-- a function that yields what hangs on its arguments alone, and changes nothing that was there -/
def pureSum (f : FuncId) (run : PC → List AV → Option AV) : Sum := ⟨f, fun pc heap args => (run pc args).map fun r => (r, heap, pc)⟩
theorem pureSum_ok {f : FuncId} {run : PC → List AV → Option AV} (he : Enters P f)
    (hc : ∀ pc args r (vals : List Value) w β, run pc args = some r → pcOk ρ pc → jx.J w → All2 (AV.Is ρ β) args vals → Calls P f vals.toArray w fun e w' => (∃ v, e = .returned v ∧ r.Is ρ β v) ∧ Below w.heap.size w w') : SumOk P jx ρ (pureSum f run) := by
  refine ⟨he, fun W wr β heap w pc args vals r heap' pc' hr hp hh hf hj ha => ?_⟩
  simp only [pureSum, Option.map_eq_some_iff, Prod.mk.injEq] at hr
  obtain ⟨r', hr, rfl, rfl, rfl⟩ := hr
  exact (hc pc args r' vals w β hr hp hj ha).mono fun e w' ⟨⟨v, he, hv⟩, hb⟩ => ⟨v, β, he, List.prefix_refl _, hv, hh.below hb, hf.below hb, Jx.below hj hb, hp⟩

/-! ### numbers as arguments -/
theorem bounds_pc {ρ : Env} : ∀ {l : List (Nat × Int × Int)}, (∀ x ∈ l, x.2.1 ≤ ρ.v x.1 ∧ ρ.v x.1 ≤ x.2.2) → pcOk ρ (pcOf (l.map fun x => (.var x.1, x.2))) := by
  intro l h
  refine pcOf_ok fun f hf => ?_
  obtain ⟨x, hx, rfl⟩ := List.mem_map.1 hf
  exact h x hx
end

/-- numbers from a list -/
def envOf (xs : List Int) : Env := ⟨fun i => xs.getD i 0, fun _ _ => 0, fun _ => undef⟩

end Go.Proofs.YtnjmfedleimlmaaDoor.Ev

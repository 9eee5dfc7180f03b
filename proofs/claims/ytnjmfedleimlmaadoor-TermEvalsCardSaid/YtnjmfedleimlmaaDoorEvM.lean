/- Functions of one number that are tables: by the evaluator at each number. -/
import Derived.Test.YtnjmfedleimlmaaDoorEvL
namespace Go.Proofs.YtnjmfedleimlmaaDoor.Ev
open Go Go.RowKit

/-- a function that yields what hangs on its arguments alone, with facts about what it yields -/
def factSum (f : FuncId) (run : PC → List AV → Option (AV × FL)) : Sum := ⟨f, fun pc heap args => (run pc args).map fun r => (r.1, heap, addAll r.2 pc)⟩
theorem factSum_ok {P : Program} {jx : Jx} {ρ : Env} {f : FuncId} {run : PC → List AV → Option (AV × FL)} (he : Enters P f)
    (hc : ∀ pc args r (vals : List Value) w β, run pc args = some r → pcOk ρ pc → jx.J w → All2 (AV.Is ρ β) args vals → flOk ρ r.2 ∧ Calls P f vals.toArray w fun e w' => (∃ v, e = .returned v ∧ r.1.Is ρ β v) ∧ Below w.heap.size w w') : SumOk P jx ρ (factSum f run) := by
  refine ⟨he, fun W wr β heap w pc args vals r heap' pc' hr hp hh hf hj ha => ?_⟩
  simp only [factSum, Option.map_eq_some_iff, Prod.mk.injEq] at hr
  obtain ⟨r', hr, rfl, rfl, rfl⟩ := hr
  obtain ⟨hfl, hcl⟩ := hc pc args r' vals w β hr hp hj ha
  exact hcl.mono fun e w' ⟨⟨v, he, hv⟩, hb⟩ => ⟨v, β, he, List.prefix_refl _, hv, hh.below hb, hf.below hb, Jx.below hj hb, addAll_ok hfl hp⟩
def tabAt {α : Type} (lo : Int) (vals : List α) (mk : α → AT) (args : List AV) : Option AV := match args with
  | [.v (.c (.int .i64 (.lit n)))] => if decide (lo ≤ n) then (vals[(n - lo).toNat]?).map fun v => ret1 (mk v) else none
  | _ => none
def litSum (f : FuncId) (k : IntKind) (lo : Int) (vals : List Int) : Sum := pureSum f fun _ args => tabAt lo vals (fun v => .int k (.lit v)) args
def litSumB (f : FuncId) (lo : Int) (vals : List Int) : Sum := pureSum f fun _ args => tabAt lo vals (fun v => .bool (.lit v)) args
noncomputable def litsOk (cx : Cx) (f : FuncId) (tabs : List Tab) (p : Int → Leaf → Bool) : Int → List Int → Bool
  | _, [] => true
  | n, v :: l => allLeaves (p v) (evFn cx 1000 f (tabBlks tabs) .nil [.v (.c (.int .i64 (.lit n)))]) && litsOk cx f tabs p (n + 1) l
theorem litsOk_at {cx : Cx} {f : FuncId} {tabs : List Tab} {p : Int → Leaf → Bool} : ∀ {l : List Int} {n : Int}, litsOk cx f tabs p n l = true → ∀ (j : Nat) v, l[j]? = some v → allLeaves (p v) (evFn cx 1000 f (tabBlks tabs) .nil [.v (.c (.int .i64 (.lit (n + j))))]) = true
  | [], n, _, j, v, h => by simp at h
  | x :: l, n, hl, 0, v, h => by
    unfold litsOk at hl
    rw [Bool.and_eq_true] at hl
    simp at h; subst h
    simpa using hl.1
  | x :: l, n, hl, j + 1, v, h => by
    unfold litsOk at hl
    rw [Bool.and_eq_true] at hl
    have := litsOk_at hl.2 j v (by simpa using h)
    rwa [show n + 1 + (j : Int) = n + ((j + 1 : Nat) : Int) by omega] at this
theorem tabAt_some {α : Type} {lo : Int} {vals : List α} {mk : α → AT} {args : List AV} {r : AV} (h : tabAt lo vals mk args = some r) : ∃ (j : Nat) (v : α), args = [.v (.c (.int .i64 (.lit (lo + j))))] ∧ vals[j]? = some v ∧ r = ret1 (mk v) := by
  unfold tabAt at h
  split at h
  · rename_i n
    split at h
    · rename_i hn
      simp only [decide_eq_true_eq] at hn
      rw [Option.map_eq_some_iff] at h
      obtain ⟨v, hv, rfl⟩ := h
      exact ⟨(n - lo).toNat, v, by rw [show lo + (((n - lo).toNat : Nat) : Int) = n by omega], hv, rfl⟩
    · cases h
  · cases h
section
variable {cx : Cx} {jx : Jx} {ρ : Env}
theorem litSum_ok {f : FuncId} {k : IntKind} {lo : Int} {vals : List Int} {tabs : List Tab} (he : Enters cx.P f) (hO : CxOk cx) (hs : ∀ m ∈ cx.sums, SumOk cx.P jx ρ m) (hg : cx.glob = tabGlob 0 tabs) (ht : ∀ w, jx.J w → ∀ t ∈ tabs, TabOk w t)
    (h : litsOk cx f tabs (fun v => intIs k fun _ => .lit v) lo vals = true) : SumOk cx.P jx ρ (litSum f k lo vals) :=
  pureSum_ok he fun pc args r vs w β hr hp hj ha => by
    obtain ⟨j, v, rfl, hv, rfl⟩ := tabAt_some hr
    have hl := litsOk_at h j v hv
    cases vs with
    | nil => exact ha.elim
    | cons x l =>
      cases l with
      | cons _ _ => exact ha.2.elim
      | nil =>
        obtain rfl : x = .int .i64 (lo + j) := ha.1
        exact (int_calls (jx := jx) (ρ := ρ) (vals := [.int .i64 (lo + j)]) hO hs k (fun _ => .lit v) v hl (fun _ _ => rfl) hg (ht w hj) trivial hj ⟨rfl, trivial⟩).mono fun e w' ⟨he, hb⟩ => ⟨⟨_, he, rfl⟩, hb⟩
theorem litSumB_ok {f : FuncId} {lo : Int} {vals : List Int} {tabs : List Tab} (he : Enters cx.P f) (hO : CxOk cx) (hs : ∀ m ∈ cx.sums, SumOk cx.P jx ρ m) (hg : cx.glob = tabGlob 0 tabs) (ht : ∀ w, jx.J w → ∀ t ∈ tabs, TabOk w t)
    (h : litsOk cx f tabs (fun v => boolIs fun _ => .lit v) lo vals = true) : SumOk cx.P jx ρ (litSumB f lo vals) :=
  pureSum_ok he fun pc args r vs w β hr hp hj ha => by
    obtain ⟨j, v, rfl, hv, rfl⟩ := tabAt_some hr
    have hl := litsOk_at h j v hv
    cases vs with
    | nil => exact ha.elim
    | cons x l =>
      cases l with
      | cons _ _ => exact ha.2.elim
      | nil =>
        obtain rfl : x = .int .i64 (lo + j) := ha.1
        exact (bool_calls (jx := jx) (ρ := ρ) (vals := [.int .i64 (lo + j)]) hO hs (fun _ => .lit v) v hl (fun _ _ => rfl) hg (ht w hj) trivial hj ⟨rfl, trivial⟩).mono fun e w' ⟨he, hb⟩ => ⟨⟨_, he, rfl⟩, hb⟩
end

end Go.Proofs.YtnjmfedleimlmaaDoor.Ev

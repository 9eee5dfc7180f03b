/- What the laws of this claim are proved with, joined (join.py) of 7 texts: no condition. -/
import Derived.Test.YtjcacjeoddnmhaaDoorNa1
import Derived.Test.YtjcacjeoddnmhaaDoorChecked
set_option linter.unusedVariables false
set_option linter.unusedSimpArgs false

/- Calls, and every operation, are carried out as the evaluator says. -/
namespace Go.Proofs.YtjcacjeoddnmhaaDoor.Ev
open Go Go.RowKit

structure Rel (cx : Cx) (jx : Jx) (ρ : Env) (W : World) (wr : List Nat) (β : Pl) (s : St) (a : Act) (w : World) : Prop where
  tm : Tmps cx ρ β s a
  heap : HeapOk ρ jx W wr β s.heap w
  fr : Fr W wr w
  pc : pcOk ρ s.pc
  j : jx.J w

/-- what a call leaves -/
def CallPost (jx : Jx) (ρ : Env) (W : World) (wr : List Nat) (β : Pl) (r : AV) (heap' : List Blk) (pc' : PC) (e : Ending) (w' : World) : Prop :=
  ∃ v β', e = .returned v ∧ β <+: β' ∧ r.Is ρ β' v ∧ HeapOk ρ jx W wr β' heap' w' ∧ Fr W wr w' ∧ jx.J w' ∧ pcOk ρ pc'
def Enters (P : Program) (f : FuncId) : Prop := ∀ args w, (callFunc f args).run P w = .ok (.enter f args) w
structure SumOk (P : Program) (jx : Jx) (ρ : Env) (m : Sum) : Prop where
  enters : Enters P m.f
  calls : ∀ W wr β heap w pc args vals r heap' pc', m.run pc heap args = some (r, heap', pc') → pcOk ρ pc → HeapOk ρ jx W wr β heap w → Fr W wr w → jx.J w → All2 (AV.Is ρ β) args vals →
    Calls P m.f vals.toArray w (CallPost jx ρ W wr β r heap' pc')
def QX (Q : Exit → Act → World → Prop) : X → Act → World → Prop
  | .nml, a, w => Q .normal a w
  | .exit id, a, w => Q (.exit id) a w
  | .ret, a, w => Q .ret a w
def IhOk (cx : Cx) (jx : Jx) (ρ : Env) (ih : Code → St → Tr (X × St)) : Prop :=
  ∀ W wr β s a w c Q x s', (ih c s).pick ρ = some (x, s') → Rel cx jx ρ W wr β s a w → (∀ β' a' w', β <+: β' → Rel cx jx ρ W wr β' s' a' w' → QX Q x a' w') → Code.wp cx.P c Q a w

section
variable {P : Program} {cx : Cx} {jx : Jx} {ρ : Env} {W : World} {wr : List Nat} {β β' : Pl} {heap : List Blk} {w w' : World}

/-! ### what a function yields -/
theorem run_mapM_list {α γ : Type} {f : α → Sem γ} {R : α → γ → Prop} : ∀ (l : List α), (∀ x ∈ l, ∃ y, (f x).run P w = .ok y w ∧ R x y) → ∃ r, (l.mapM f).run P w = .ok r w ∧ All2 R l r
  | [], _ => ⟨[], rfl, trivial⟩
  | x :: l, h => by
    obtain ⟨y, hy, hR⟩ := h x (by simp)
    obtain ⟨r, hr, hA⟩ := run_mapM_list l fun z hz => h z (by simp [hz])
    exact ⟨y :: r, by simp [List.mapM_cons, hy, hr], hR, hA⟩
theorem trans_allSome {α γ δ : Type} {f : α → Option γ} {S : γ → δ → Prop} : ∀ {l : List α} {r : List δ} {q : List γ}, All2 (fun x y => ∃ z, f x = some z ∧ S z y) l r → allSome (l.map f) = some q → All2 S q r
  | [], [], q, _, h => by simp only [List.map_nil, allSome, Option.some.injEq] at h; subst h; trivial
  | x :: l, y :: r, q, ⟨⟨z, hz, hS⟩, hr⟩, h => by
    simp only [List.map_cons, hz, allSome, Option.map_eq_some_iff] at h
    obtain ⟨q', hq, rfl⟩ := h
    exact ⟨hS, trans_allSome hr hq⟩
  | [], _ :: _, _, h, _ => h.elim
  | _ :: _, [], _, h, _ => h.elim
theorem allSome_mem {α γ : Type} {f : α → Option γ} : ∀ {l : List α} {q : List γ}, allSome (l.map f) = some q → ∀ x ∈ l, ∃ z, f x = some z
  | [], _, _, x, hx => by cases hx
  | y :: l, q, h, x, hx => by
    simp only [List.map_cons] at h
    cases hy : f y with
    | none => rw [hy] at h; simp [allSome] at h
    | some z =>
      rw [hy] at h
      simp only [allSome, Option.map_eq_some_iff] at h
      obtain ⟨q', hq, _⟩ := h
      rcases List.mem_cons.1 hx with rfl | hx
      · exact ⟨z, hy⟩
      · exact allSome_mem hq x hx
theorem resA_ok {s : St} {a : Act} (h : Rel cx jx ρ W wr β s a w) {rv : ResultVar} {x : A1} (hr : resA cx s rv = some x) :
    ∃ v, ((match rv with
      | .tmp t => pure (a.tmps.getD t undef)
      | .cell b t => do loadVar t (← asAddr (a.tmps.getD b undef)) : Sem Value)).run cx.P w = .ok v w ∧ x.Is ρ β v := by
  cases rv with
  | tmp t =>
    simp only [resA, Option.bind_eq_some_iff] at hr
    obtain ⟨y, hy, hx⟩ := hr
    obtain ⟨v, hv, hi⟩ := h.tm.get t y hy
    refine ⟨v, by simp [hv], ?_⟩
    cases y with
    | v q => simp only [asV, Option.some.injEq] at hx; subst hx; exact hi
    | t l => simp [asV] at hx
  | cell b t =>
    simp only [resA, Option.bind_eq_some_iff] at hr
    obtain ⟨y, hy, hx⟩ := hr
    obtain ⟨v, hv, hi⟩ := h.tm.get b y hy
    split at hx
    · rename_i l off
      obtain ⟨r, hri, hrun⟩ := evLoad_ok h.tm.ok h.heap h.pc hi hx
      obtain ⟨p, hp, rfl⟩ := hi
      refine ⟨r, ?_, hri⟩
      simp only [Instr.loadAt, Instr.sureAddr, Sem.run_bind, Sem.run_pure, Result.andThen_ok] at hrun
      simp [hv, asAddr, hrun]
    · cases hx
theorem resultsA_ok {s : St} {a : Act} {fn : Func} (h : Rel cx jx ρ W wr β s a w) {x : AV} (hr : resultsA cx fn.results.toList s = some x) : ∃ v, (results fn a.tmps).run cx.P w = .ok v w ∧ x.Is ρ β v := by
  have key : ∀ q, allSome (fn.results.toList.map (resA cx s)) = some q → x = (match q with | [x] => .v x | l => .t l) → ∃ v, (results fn a.tmps).run cx.P w = .ok v w ∧ x.Is ρ β v := by
    intro q hq hxq
    obtain ⟨r, hrun, hA⟩ := run_mapM_list (P := cx.P) (w := w) (f := fun rv : ResultVar => (match rv with
      | .tmp t => pure (a.tmps.getD t undef)
      | .cell b t => do loadVar t (← asAddr (a.tmps.getD b undef)) : Sem Value)) (R := fun rv v => ∃ z, resA cx s rv = some z ∧ z.Is ρ β v) fn.results.toList (fun rv hrv => by
        obtain ⟨z, hz⟩ := allSome_mem hq rv hrv
        obtain ⟨v, h1, h2⟩ := resA_ok h hz
        exact ⟨v, h1, z, hz, h2⟩)
    have hAq := trans_allSome hA hq
    have hres : (results fn a.tmps).run cx.P w = .ok (if h : r.toArray.size = 1 then r.toArray[0] else .tuple r.toArray) w := by
      unfold results
      rw [Array.mapM_eq_mapM_toList]
      simp only [Sem.run_bind, Sem.run_map]
      erw [hrun]
      rfl
    rw [hres]
    refine ⟨_, rfl, ?_⟩
    match q, r, hAq, hxq with
    | [], [], _, hxq => subst hxq; exact ⟨#[], rfl, trivial⟩
    | [z], [v], hA, hxq => subst hxq; exact hA.1
    | z :: z' :: q, v :: v' :: r, hA, hxq => subst hxq; rw [dif_neg (by simp)]; exact ⟨_, rfl, by simpa using hA⟩
  unfold resultsA at hr
  split at hr
  · rename_i t heq
    obtain ⟨v, hv, hi⟩ := h.tm.get t x hr
    refine ⟨v, ?_, hi⟩
    have hfr : fn.results = #[.tmp t] := by rw [← Array.toList_inj]; simpa using heq
    simp [results, hfr, hv]
  · rw [Option.map_eq_some_iff] at hr
    obtain ⟨q, hq, rfl⟩ := hr
    exact key q hq rfl

/-! ### what is let go -/
theorem AT.below_is {n : Nat} {a : AT} {v : Value} (hb : a.below n = true) (h : a.Is ρ β v) : a.Is ρ (β.take n) v := by
  have g : ∀ {l : Nat} {p : Nat × Nat}, Nat.blt l n = true → β[l]? = some p → (β.take n)[l]? = some p := fun hl hp => by
    have hl' : _ < n := Nat.le_of_ble_eq_true hl
    rw [List.getElem?_take, if_pos hl']; exact hp
  cases a <;> simp only [AT.Is, AT.below] at h hb ⊢
  case int => exact h
  case bool => exact h
  case val => exact h
  case ptr => obtain ⟨p, hp, e⟩ := h; exact ⟨p, g hb hp, e⟩
  case pti => obtain ⟨p, hp, e⟩ := h; exact ⟨p, g hb hp, e⟩
  case slc => obtain ⟨p, hp, e⟩ := h; exact ⟨p, g hb hp, e⟩
  case opq => exact h
theorem mem_imp {α γ : Type} {R S : α → γ → Prop} : ∀ {l : List α} {m : List γ}, (∀ a ∈ l, ∀ b, R a b → S a b) → All2 R l m → All2 S l m
  | [], [], _, _ => trivial
  | a :: l, b :: m, hi, h => ⟨hi a (by simp) b h.1, mem_imp (fun x hx => hi x (by simp [hx])) h.2⟩
  | [], _ :: _, _, h => h.elim
  | _ :: _, [], _, h => h.elim
theorem A1.below_is {n : Nat} {x : A1} {v : Value} (hb : x.below n = true) (h : x.Is ρ β v) : x.Is ρ (β.take n) v := by
  cases x with
  | c a => exact AT.below_is (by simpa [A1.below, A1.cells] using hb) h
  | g l =>
    obtain ⟨cs, e, hc⟩ := h
    exact ⟨cs, e, mem_imp (fun a ha v hv => AT.below_is (List.all_eq_true.1 (show l.all (·.below n) = true from hb) a ha) hv) hc⟩
theorem AV.below_is {n : Nat} {x : AV} {v : Value} (hb : x.below n = true) (h : x.Is ρ β v) : x.Is ρ (β.take n) v := by
  cases x with
  | v x => exact A1.below_is hb h
  | t l =>
    obtain ⟨cs, e, hc⟩ := h
    exact ⟨cs, e, mem_imp (fun a ha v hv => A1.below_is (List.all_eq_true.1 (show l.all (·.below n) = true from hb) a ha) hv) hc⟩
theorem HeapOk.take {n : Nat} (h : HeapOk ρ jx W wr β heap w) (hb : (heap.take n).all (fun b => b.cells.all (·.below n)) = true) : HeapOk ρ jx W wr (β.take n) (heap.take n) w := by
  refine ⟨by simp [h.1], fun l b hl => ?_⟩
  have hmem : b ∈ heap.take n := List.mem_of_getElem? hl
  have hbb := List.all_eq_true.1 hb b hmem
  rw [List.getElem?_take] at hl
  split at hl
  · rename_i hln
    obtain ⟨p, arr, ty, fr, h1, h2, h3, h4⟩ := h.2 l b hl
    refine ⟨p, arr, ty, fr, by rw [List.getElem?_take, if_pos hln]; exact h1, h2, fun j x hx => ?_, fun hrw => ?_⟩
    · obtain ⟨v, hv, hi⟩ := h3 j x hx
      exact ⟨v, hv, AT.below_is (List.all_eq_true.1 hbb x (List.mem_of_getElem? hx)) hi⟩
    · obtain ⟨g1, g2, g3, g4⟩ := h4 hrw
      refine ⟨g1, fun l' q hne hq => ?_, g3, g4⟩
      rw [List.getElem?_take] at hq
      split at hq
      · exact g2 l' q hne hq
      · cases hq
  · cases hl
theorem trim_ok {n : Nat} {x : AV} {v : Value} (hn : n = β.length) (hb : β <+: β') (h : HeapOk ρ jx W wr β' heap w) (hx : x.Is ρ β' v) :
    ∃ β'', β <+: β'' ∧ x.Is ρ β'' v ∧ HeapOk ρ jx W wr β'' (trim n x heap) w := by
  unfold trim
  split
  · rename_i hc
    simp only [Bool.and_eq_true] at hc
    refine ⟨β'.take n, ?_, AV.below_is hc.1 hx, h.take hc.2⟩
    obtain ⟨t, rfl⟩ := hb
    subst hn
    simp
  · exact ⟨β', hb, hx, h⟩

/-! ### calls -/
theorem get_number {args : List AV} : ∀ {k : Nat} {m : TM} {t : Nat}, k + args.length ≤ 16777215 → (number k args m).get t = if k ≤ t ∧ t < k + args.length then args[t - k]? else m.get t := by
  induction args with
  | nil => intro k m t _; rw [if_neg (fun h => by simp at h; omega)]; rfl
  | cons y l ih =>
    intro k m t hk
    simp only [List.length_cons] at hk ⊢
    simp only [number]
    rw [ih (by omega), TM.set_get _ _ _ (by omega)]
    by_cases h1 : k + 1 ≤ t ∧ t < k + 1 + l.length
    · rw [if_pos h1, if_pos (by omega), show t - k = (t - (k + 1)) + 1 by omega, List.getElem?_cons_succ]
    · rw [if_neg h1]
      by_cases h2 : t = k
      · subst h2; rw [if_pos rfl, if_pos (by omega)]; simp
      · rw [if_neg h2, if_neg (by omega)]
theorem find_number {args : List AV} {t : Nat} {x : AV} (hk : args.length ≤ 16777215) (h : find t (number 0 args .nil) = some x) : args[t]? = some x := by
  unfold find at h
  rw [get_number (by omega)] at h
  split at h
  · simpa using h
  · cases h

theorem sumOf_mem : ∀ {l : List Sum} {f : FuncId} {m : Sum}, sumOf f l = some m → m ∈ l ∧ m.f = f
  | [], f, m, h => by simp [sumOf] at h
  | s :: l, f, m, h => by
    simp only [sumOf] at h
    split at h
    · rename_i he; cases h; exact ⟨by simp, Nat.eq_of_beq_eq_true he⟩
    · obtain ⟨h1, h2⟩ := sumOf_mem h; exact ⟨by simp [h1], h2⟩

theorem enters_of {f : FuncId} {fn : Func} {c : Code} (hf : P.funcs[f]? = some fn) (hb : fn.body = some c) (hn : (fn.name == "runtime.NumGoroutine") = false) : Enters P f := fun args w => by
  have hn' : fn.name ≠ "runtime.NumGoroutine" := by simpa using hn
  simp [callFunc, hf, hb, hn']

theorem evCall_ok (hO : CxOk cx) {ih : Code → St → Tr (X × St)} (hih : IhOk cx jx ρ ih) (hs : ∀ m ∈ cx.sums, SumOk cx.P jx ρ m) {s : St} {f : FuncId} {args : List AV} {vals : List Value} {r : AV} {heap' : List Blk} {pc' : PC}
    (hg : ∀ g l, assoc g cx.glob = some l → β[l]? = some (g, 0)) (hh : HeapOk ρ jx W wr β s.heap w) (hf : Fr W wr w) (hp : pcOk ρ s.pc) (hj : jx.J w)
    (ha : All2 (AV.Is ρ β) args vals) (h : (evCall cx ih s f args).pick ρ = some (r, heap', pc')) : Enters cx.P f ∧ Calls cx.P f vals.toArray w (CallPost jx ρ W wr β r heap' pc') := by
  unfold evCall at h
  split at h
  · rename_i m hm
    obtain ⟨y, hy, h⟩ := must_pick h
    cases leaf_eq h
    obtain ⟨hmem, rfl⟩ := sumOf_mem hm
    exact ⟨(hs m hmem).enters, (hs m hmem).calls W wr β _ w _ _ _ _ _ _ hy hp hh hf hj ha⟩
  · split at h
    · rename_i fn hfn
      have hfn := hO.fn _ (lkT_mem hfn)
      split at h
      · rename_i c hc
        split at h
        · rename_i hle
          simp only [Bool.and_eq_true, Bool.not_eq_true'] at hle
          have hle' : args.length ≤ fn.ntmps := Nat.le_of_ble_eq_true hle.1.1
          have hlim : fn.ntmps ≤ 16777215 := Nat.le_of_ble_eq_true hle.1.2
          obtain ⟨⟨x, s'⟩, hx, h⟩ := Tr.pick_bind_some h
          have hal := ha.length
          have hRel : Rel cx jx ρ W wr β { n := fn.ntmps, tmps := number 0 args .nil, heap := s.heap, pc := s.pc } { tmps := vals.toArray ++ Array.replicate (fn.ntmps - vals.toArray.size) undef, defers := [] } w := by
            refine ⟨⟨hO, hlim, rfl, by simp; omega, fun t y hy => ?_, hg⟩, hh, hf, hp, hj⟩
            have h2 := find_number (by omega) hy
            obtain ⟨v, hv, hi⟩ := ha.get h2
            have ht : t < vals.length := (List.getElem?_eq_some_iff.1 hv).1
            exact ⟨v, by rw [Array.getElem?_append_left (by simpa using ht)]; simpa using hv, hi⟩
          have fin : ∀ v, resultsA cx fn.results.toList s' = some v → (v, trim s.heap.length v s'.heap, s'.pc) = (r, heap', pc') → ∀ β' a' w', β <+: β' → Rel cx jx ρ W wr β' s' a' w' →
              a'.defers = [] ∧ ∃ v, (results fn a'.tmps).run cx.P w' = .ok v w' ∧ CallPost jx ρ W wr β r heap' pc' (.returned v) w' := by
            intro v hv he β' a' w' hb hR
            cases he
            obtain ⟨u, hu, hui⟩ := resultsA_ok hR hv
            obtain ⟨β'', h1, h2, h3⟩ := trim_ok (hh.1).symm hb hR.heap hui
            exact ⟨hR.tm.defers, u, hu, u, β'', rfl, h1, h2, h3, hR.fr, hR.j, hR.pc⟩
          refine ⟨enters_of hfn hc hle.2, calls_of_wp hfn hc (hih W wr β _ _ w c _ x s' hx hRel fun β' a' w' hb hR => ?_)⟩
          cases x with
          | nml =>
            obtain ⟨v, hv, h⟩ := must_pick h
            exact fin v hv (leaf_eq h) β' a' w' hb hR
          | ret =>
            obtain ⟨v, hv, h⟩ := must_pick h
            exact fin v hv (leaf_eq h) β' a' w' hb hR
          | exit id => simp [Tr.pick] at h
        · simp [Tr.pick] at h
      · simp [Tr.pick] at h
    · simp [Tr.pick] at h

/-! ### an operation -/
theorem asArgs_ok {s : St} {a : Act} (hT : Tmps cx ρ β s a) {l : List Operand} {q : List AV} (h : asArgs cx s l = some q) : All2 (AV.Is ρ β) q (l.map a.eval) :=
  All2.allSome (fun _ _ hc => hT.ev hc) l h
theorem replicate_all2 {z : List AT} {v : Array Value} (h : All2 (AT.Is ρ β) z v.toList) : ∀ n, All2 (AT.Is ρ β) ((List.replicate n z).flatten) ((List.replicate n v.toList).flatten)
  | 0 => trivial
  | n + 1 => by simp only [List.replicate_succ, List.flatten_cons]; exact h.append (replicate_all2 h n)
theorem zeros_eq {v : Array Value} (n : Nat) (hv : 0 < v.size) : ((Array.range (n * v.size)).map fun i => v[i % v.size]!).toList = (List.replicate n v.toList).flatten := by
  apply List.ext_getElem?
  intro i
  simp only [Array.toList_map, Array.toList_range, List.getElem?_map]
  by_cases hi : i < n * v.size
  · rw [List.getElem?_range hi]
    have hm : i % v.size < v.size := Nat.mod_lt _ hv
    have key : ∀ n i, i < n * v.size → (List.replicate n v.toList).flatten[i]? = v.toList[i % v.size]? := by
      intro n
      induction n with
      | zero => intro i hi; simp at hi
      | succ n ih =>
        intro i hi
        simp only [List.replicate_succ, List.flatten_cons]
        by_cases h : i < v.size
        · rw [List.getElem?_append_left (by simpa using h), Nat.mod_eq_of_lt h]
        · rw [List.getElem?_append_right (by simp; omega), ih _ (by simp; rw [Nat.succ_mul] at hi; omega)]
          simp only [Array.length_toList]
          rw [← Nat.mod_eq_sub_mod (by omega)]
    rw [key n i hi]
    simp [hm]
  · have h1 : (List.replicate n v.toList).flatten.length = n * v.size := by simp
    rw [List.getElem?_eq_none (by simp; omega), List.getElem?_eq_none (by omega)]
    rfl

/-- an operation's result, where it yields a value and does not fall -/
def resE (P : Program) (K : Value → World → Prop) : Result Next → Prop
  | .ok (.value u) w' => K u w'
  | .ok .skip w' => K undef w'
  | .ok (.enter f args) w' => Calls P f args w' (fun e w'' => ∃ u, e = .returned u ∧ K u w'')
  | _ => False
theorem resE_mono {K K' : Value → World → Prop} (hK : ∀ v w, K v w → K' v w) {r : Result Next} (h : resE P K r) : resE P K' r := by
  cases r with
  | ok n w =>
    cases n <;> simp only [resE] at h ⊢
    case enter f args => exact h.mono fun e w' ⟨u, he, hu⟩ => ⟨u, he, hK _ _ hu⟩
    all_goals exact hK _ _ h
  | halt x w => exact h.elim
theorem resE_wp {o : Oper} {a : Act} {K : Value → World → Prop} {K' : Act → World → Prop} {Q : Exit → Act → World → Prop} (h : resE P K ((execOp a.eval o).run P w)) (hK : ∀ v w', K v w' → K' (a.put o.dst v) w') : o.wp P a w K' Q := by
  unfold Oper.wp
  generalize (execOp a.eval o).run P w = r at *
  cases r with
  | ok n w =>
    cases n <;> simp only [resE] at h
    case value u => exact hK _ _ h
    case skip => exact hK _ _ h
    case enter f args => exact h.mono fun e w' ⟨u, he, hu⟩ => by subst he; exact hK _ _ hu
  | halt x w => exact h.elim

/-- the operation's own post: what the temporary will be, and the world -/
def OpPost (cx : Cx) (jx : Jx) (ρ : Env) (W : World) (wr : List Nat) (β : Pl) (s' : St) (a : Act) (x : AV) (v : Value) (w' : World) : Prop :=
  ∃ β', β <+: β' ∧ Rel cx jx ρ W wr β' s' a w' ∧ x.Is ρ β' v
theorem evOp_ok {ih : Code → St → Tr (X × St)} (hih : IhOk cx jx ρ ih) (hs : ∀ m ∈ cx.sums, SumOk cx.P jx ρ m) {s s' : St} {a : Act} {o : Oper} {x : AV}
    (hR : Rel cx jx ρ W wr β s a w) (h : (evOp cx ih s o).pick ρ = some (x, s')) : resE cx.P (OpPost cx jx ρ W wr β s' a x) ((execOp a.eval o).run cx.P w) := by
  have pureCase : (∀ z pc', (evPure cx s o).pick ρ = some (z, pc') → (z, { s with pc := pc' }) = (x, s') → resE cx.P (OpPost cx jx ρ W wr β s' a x) ((execOp a.eval o).run cx.P w)) := by
    intro z pc' hz he
    cases he
    obtain ⟨h1, r, h2, h3⟩ := evPure_ok hR.tm hR.pc hz
    rw [h3 w]
    exact ⟨β, List.prefix_refl _, ⟨hR.tm.of rfl rfl, hR.heap, hR.fr, h1, hR.j⟩, h2⟩
  have newCase : ∀ {cs : List AT} {vs : Array Value} {ty ty' : TypeId} {y : AV} {v : Value}, All2 (AT.Is ρ β) cs vs.toList → (y, { s with heap := s.heap ++ [⟨ty', cs, true⟩] }) = (x, s') → y.Is ρ (β ++ [(w.heap.size, 0)]) v →
      (execOp a.eval o).run cx.P w = .ok (.value v) (w.alloc (.cells vs ty)) → resE cx.P (OpPost cx jx ρ W wr β s' a x) ((execOp a.eval o).run cx.P w) := by
    intro cs vs ty ty' y v hc he hy hrun
    cases he
    rw [hrun]
    have hpre : β <+: β ++ [(w.heap.size, 0)] := List.prefix_append _ _
    have hb : Below w.heap.size w (w.alloc (.cells vs ty)) := (Below.refl _ w).alloc (Nat.le_refl _) _
    exact ⟨_, hpre, ⟨(hR.tm.mono hpre).of rfl rfl, hR.heap.alloc hR.fr hR.j hc, hR.fr.below hb, hR.pc, Jx.below hR.j hb⟩, hy⟩
  have hnew : (β ++ [(w.heap.size, 0)])[s.heap.length]? = some (w.heap.size, 0) := by rw [← hR.heap.1]; simp
  unfold evOp at h
  split at h
  · -- load
    rename_i t ad hop
    obtain ⟨v, hv, h⟩ := must_pick h
    rw [Option.bind_eq_some_iff] at hv
    obtain ⟨y, hy, hv⟩ := hv
    cases leaf_eq h
    obtain ⟨r, hr, hrun⟩ := evLoad_ok hR.tm.ok hR.heap hR.pc (hR.tm.ev hy) hv
    unfold execOp
    rw [hop]
    simp only [Sem.run_bind, hrun, Result.andThen_ok, Sem.run_pure]
    exact ⟨β, List.prefix_refl _, hR, hr⟩
  · -- store
    rename_i t ad y hop
    split at h
    · rename_i u v hu hv
      obtain ⟨h', hst, h⟩ := must_pick h
      cases leaf_eq h
      obtain ⟨w', h1, h2, h3, hrun⟩ := evStore_ok hR.tm.ok hR.heap hR.fr hR.j hR.pc (hR.tm.ev hu) (hR.tm.ev hv) hst
      unfold execOp
      rw [hop]
      simp only [Sem.run_bind, hrun, Result.andThen_ok, Sem.run_pure]
      exact ⟨β, List.prefix_refl _, ⟨hR.tm.of rfl rfl, h1, h2, hR.pc, h3⟩, #[], rfl, trivial⟩
    · simp [Tr.pick] at h
  · -- alloc
    rename_i t hop
    obtain ⟨z, hz, h⟩ := must_pick h
    obtain ⟨i, v, hi, hzv, hzz⟩ := zeroA_ok (ρ := ρ) (β := β) hR.tm.ok hz
    refine newCase hzz (leaf_eq h) ⟨_, hnew, rfl⟩ (ty := t) ?_
    unfold execOp
    rw [hop]
    simp [Instr.alloc, zeroValue, typeInfo, hi, hzv, newVar, newRow]
  · -- box
    rename_i t y hop
    obtain ⟨z, hz, h⟩ := must_pick h
    rw [Option.bind_eq_some_iff] at hz
    obtain ⟨u, hu, hz⟩ := hz
    have hzi : z.Is ρ β (a.eval y) := by
      have := hR.tm.ev hu
      cases u with
      | v q => simp only [asV, Option.some.injEq] at hz; subst hz; exact this
      | t l => simp [asV] at hz
    refine newCase hzi.cells (leaf_eq h) ⟨_, hnew, rfl⟩ (ty := t) ?_
    unfold execOp
    rw [hop]
    simp [Instr.box, newVar, newRow]
  · -- buildSlice
    rename_i t len ps hop
    split at h
    · rename_i elem hu
      obtain ⟨size, hsz, h⟩ := must_pick h
      obtain ⟨z, hz, h⟩ := must_pick h
      obtain ⟨l, hl, h⟩ := must_pick h
      split at h
      · rename_i hc
        simp only [Bool.and_eq_true] at hc
        have hzl : z.length = size := Nat.eq_of_beq_eq_true hc.1
        have hlim : len * size ≤ 16777216 := Nat.le_of_ble_eq_true hc.2
        obtain ⟨cs, hfill, h⟩ := must_pick h
        obtain ⟨i, v, hi, hzv, hzz⟩ := zeroA_ok (ρ := ρ) (β := β) hR.tm.ok hz
        have hzs := hzz.length
        simp only [Array.length_toList] at hzs
        have hzeros : All2 (AT.Is ρ β) ((List.replicate len z).flatten) ((Array.range (len * size)).map fun i => v.cells[i % v.cells.size]!).toList := by
          by_cases h0 : 0 < v.cells.size
          · rw [show size = v.cells.size by omega, zeros_eq len h0]; exact replicate_all2 hzz len
          · have : size = 0 := by omega
            have hz0 : z = [] := List.eq_nil_of_length_eq_zero (by omega)
            subst this; subst hz0
            simp [All2]
        obtain ⟨B, hB, hBB⟩ := fillA_ok (fillB_ok hfill) hzeros (partsOf_ok hR.tm hl)
        refine newCase hBB (leaf_eq h) ⟨_, hnew, rfl⟩ (ty := elem) ?_
        unfold execOp
        rw [hop]
        have hB' : Instr.fill (fun i => some (i * size, size)) ((Array.range (len * size)).map fun i => v.cells[i % v.cells.size]!) (ps.map fun (i, y) => (i, a.eval y)).toList = some B := by
          rw [← hB]; simp
        have hlim' : ¬ (len * size > 2 ^ 24) := by omega
        by_cases h0 : len * size = 0
        · have hE : ∀ g : Nat → Value, (Array.range (len * size)).map g = #[] := fun g => by rw [h0]; simp
          rw [hE] at hB'
          simp only [Instr.buildSlice, Sem.run_bind, run_underlying (hR.tm.ok.un hu), Result.andThen_ok, size_run hR.tm.ok hsz, if_neg hlim', if_pos h0, Sem.run_pure, hE, hB']
          simp [newRow]
        · have hzr : (zeroValue elem).run cx.P w = .ok v w := by simp [zeroValue, typeInfo, hi, hzv]
          simp only [Instr.buildSlice, Sem.run_bind, run_underlying (hR.tm.ok.un hu), Result.andThen_ok, size_run hR.tm.ok hsz, if_neg hlim', if_neg h0, Sem.run_pure, hzr, hB']
          simp [newRow]
      · simp [Tr.pick] at h
    · simp [Tr.pick] at h
  · -- call
    rename_i y args argTypes hop
    obtain ⟨f, hf, h⟩ := must_pick h
    obtain ⟨l, hl, h⟩ := must_pick h
    obtain ⟨⟨r, heap', pc'⟩, hr, h⟩ := Tr.pick_bind_some h
    cases leaf_eq h
    have hfv : a.eval y = .func (.func f) #[] #[] := by
      unfold calleeOf at hf
      dsimp only at hf
      split at hf
      · rename_i g first captured hy
        split at hf
        · rename_i hc
          simp only [Bool.and_eq_true, Array.isEmpty_iff] at hc
          cases hf
          obtain ⟨he, _⟩ := hR.tm.ev hy
          rw [he, hc.1, hc.2]
        · cases hf
      · cases hf
    obtain ⟨hent, hcall⟩ := evCall_ok hR.tm.ok hih hs hR.tm.glob hR.heap hR.fr hR.pc hR.j (asArgs_ok hR.tm hl) hr
    have hrun : (execOp a.eval o).run cx.P w = .ok (.enter f (args.toList.map a.eval).toArray) w := by
      unfold execOp
      rw [hop]
      have e1 : args.map a.eval = (args.toList.map a.eval).toArray := by rw [← Array.toList_map, Array.toArray_toList]
      rw [← e1]
      simp only [resolve, hfv, Deferred.ofValue, Sem.run_bind, Sem.run_pure, Result.andThen_ok, invoke]
      simp only [Array.empty_append, Array.append_empty]
      exact hent _ w
    rw [hrun]
    refine hcall.mono fun e w' hpost => ?_
    obtain ⟨v, β', rfl, hb, hvi, hhp, hfr, hj, hpc⟩ := hpost
    exact ⟨v, rfl, β', hb, ⟨(hR.tm.mono hb).of rfl rfl, hhp, hfr, hpc, hj⟩, hvi⟩
  · obtain ⟨⟨z, pc'⟩, hz, h⟩ := Tr.pick_bind_some h
    exact pureCase z pc' hz (leaf_eq h)

end
end Go.Proofs.YtjcacjeoddnmhaaDoor.Ev

/- Lists of operations, and regions that draw their order, are carried out as the evaluator says. -/
namespace Go.Proofs.YtjcacjeoddnmhaaDoor.Ev
open Go Go.RowKit

section
variable {P : Program} {cx : Cx} {jx : Jx} {ρ : Env} {W : World} {wr : List Nat} {β β' : Pl} {heap : List Blk} {w w' : World}

theorem guard_ok {ops : Array Oper} {s : St} {a : Act} {o : Oper} (hT : Tmps cx ρ β s a) {g : Option (E × Bool)} (h : guardE ops s o = some g) :
    match g with
    | none => Region.wanted o (yielded ops a.tmps) = true
    | some (e, want) => Region.wanted o (yielded ops a.tmps) = (tb (e.den ρ) == want) := by
  unfold guardE at h
  cases hg : o.guard with
  | none => rw [hg] at h; cases h; simp [Region.wanted, hg]
  | some jw =>
    obtain ⟨j, want⟩ := jw
    rw [hg] at h
    simp only at h
    split at h
    · rename_i e he
      cases h
      rw [Option.bind_eq_some_iff] at he
      obtain ⟨t, ht, hf⟩ := he
      obtain ⟨v, hv, hi⟩ := hT.get t _ hf
      have hy : yielded ops a.tmps j = some (tb (e.den ρ)) := by
        simp only [AV.Is, A1.Is, AT.Is] at hi
        subst hi
        unfold yielded
        rw [Option.bind_eq_some_iff.2 ⟨t, ht, hv⟩]
      simp [Region.wanted, hg, hy]
    · rename_i he
      cases h
      rw [Option.bind_eq_some_iff] at he
      obtain ⟨t, ht, hf⟩ := he
      obtain ⟨v, hv, hi⟩ := hT.get t _ hf
      have hy : yielded ops a.tmps j = none := by
        obtain ⟨vs, rfl, _⟩ := hi
        unfold yielded
        rw [Option.bind_eq_some_iff.2 ⟨t, ht, hv⟩]
      simp only [Region.wanted, hg, hy, E.den, tb_truth]
      cases want <;> rfl
    · cases h

theorem Rel.put {s s' : St} {a : Act} (h : Rel cx jx ρ W wr β s a w) {dst : Option Tmp} {x : AV} {v : Value} (hx : x.Is ρ β v) (hp : s.put dst x = some s') : Rel cx jx ρ W wr β s' (a.put dst v) w := by
  obtain ⟨h1, h2, h3⟩ := put_heap hp
  exact ⟨h.tm.put hx hp, by rw [h1]; exact h.heap, h.fr, by rw [h2]; exact h.pc, h.j⟩
theorem Rel.pcs {s : St} {a : Act} (h : Rel cx jx ρ W wr β s a w) {pc : PC} (hp : pcOk ρ pc) : Rel cx jx ρ W wr β { s with pc := pc } a w := ⟨h.tm.of rfl rfl, h.heap, h.fr, hp, h.j⟩

theorem undef_is : AV.Is ρ β (.t []) undef := ⟨#[], rfl, trivial⟩

theorem evOps_ok {ih : Code → St → Tr (X × St)} (hih : IhOk cx jx ρ ih) (hs : ∀ m ∈ cx.sums, SumOk cx.P jx ρ m) {ops : Array Oper} {Q : Exit → Act → World → Prop} {x : X} {s' : St} :
    ∀ (l : List Oper) {s : St} {a : Act} {β : Pl} {w : World}, (evOps cx ih ops l s).pick ρ = some (x, s') → Rel cx jx ρ W wr β s a w →
      (∀ β' a' w', β <+: β' → Rel cx jx ρ W wr β' s' a' w' → QX Q x a' w') → wpList cx.P ops Q l a w
  | [], s, a, β, w, h, hR, hQ => by
    cases leaf_eq h
    exact hQ β a w (List.prefix_refl _) hR
  | o :: l, s, a, β, w, h, hR, hQ => by
    simp only [evOps] at h
    obtain ⟨g, hg, h⟩ := must_pick h
    have hgo := guard_ok hR.tm hg
    have run : ∀ {s1 : St}, Rel cx jx ρ W wr β s1 a w → ((evOp cx ih s1 o).bind fun r => must (r.2.put o.dst r.1) "put" (evOps cx ih ops l)).pick ρ = some (x, s') → o.wp cx.P a w (wpList cx.P ops Q l) Q := by
      intro s1 hR1 h1
      obtain ⟨⟨y, s2⟩, h2, h3⟩ := Tr.pick_bind_some h1
      obtain ⟨s3, h4, h5⟩ := must_pick h3
      refine resE_wp (evOp_ok hih hs hR1 h2) fun v w' ⟨β', hb, hR2, hx⟩ => ?_
      exact evOps_ok hih hs l h5 (hR2.put hx h4) fun β'' a' w'' hb' hR' => hQ β'' a' w'' (hb.trans hb') hR'
    unfold wpList
    cases g with
    | none =>
      rw [if_pos hgo]
      exact .inl (run hR h)
    | some ew =>
      obtain ⟨e, want⟩ := ew
      simp only at h hgo
      obtain ⟨v, pc1, hv, hp1, h⟩ := branch_pick hR.pc h
      have htb : tb (e.den ρ) = v := by
        cases v with
        | true => exact tb_one (hv.2 rfl)
        | false => exact tb_zero (by simpa using hv)
      rw [htb] at hgo
      rw [hgo]
      by_cases hvw : (v == want) = true
      · rw [if_pos hvw]
        rw [if_pos hvw] at h
        exact .inl (run (hR.pcs hp1) h)
      · rw [if_neg hvw]
        rw [if_neg hvw] at h
        obtain ⟨s3, h4, h5⟩ := must_pick h
        exact evOps_ok hih hs l h5 ((hR.pcs hp1).put undef_is h4) hQ

/-! ### regions that draw -/
/-- a condition on worlds that new blocks do not turn -/
def Closed (S : World → Prop) : Prop := ∀ w w', S w → Below w.heap.size w w' → S w'
/-- in every world that meets S the operation leaves v, and nothing that was there is changed -/
def YieldsK (P : Program) (ops : Array Oper) (S : World → Prop) (o : Oper) (v : Value) (a : Act) : Prop :=
  (Region.wanted o (yielded ops a.tmps) = true ∧ ∀ w, S w → resE P (fun u w' => u = v ∧ Below w.heap.size w w') ((execOp a.eval o).run P w)) ∨
  (Region.wanted o (yielded ops a.tmps) = false ∧ v = undef)
theorem YieldsK.mono {ops : Array Oper} {S S' : World → Prop} {o : Oper} {v : Value} {a : Act} (hS : ∀ w, S' w → S w) (h : YieldsK P ops S o v a) : YieldsK P ops S' o v a :=
  h.imp (fun ⟨h1, h2⟩ => ⟨h1, fun w hw => h2 w (hS w hw)⟩) id
theorem YieldsK.of_same {ops : Array Oper} {S : World → Prop} {o : Oper} {v : Value} {a a' : Act} (hy : YieldsK P ops S o v a) (he : execOp a'.eval o = execOp a.eval o)
    (hw : Region.wanted o (yielded ops a'.tmps) = Region.wanted o (yielded ops a.tmps)) : YieldsK P ops S o v a' := by
  unfold YieldsK at *; rw [he, hw]; exact hy
/-- an operation that does more -/
def Does (P : Program) (ops : Array Oper) (o : Oper) (a : Act) (w : World) (K : Value → World → Prop) : Prop :=
  (Region.wanted o (yielded ops a.tmps) = true ∧ resE P K ((execOp a.eval o).run P w)) ∨ (Region.wanted o (yielded ops a.tmps) = false ∧ K undef w)
theorem Does.mono {ops : Array Oper} {o : Oper} {a : Act} {K K' : Value → World → Prop} (hK : ∀ v w, K v w → K' v w) (h : Does P ops o a w K) : Does P ops o a w K' :=
  h.imp (fun ⟨h1, h2⟩ => ⟨h1, resE_mono hK h2⟩) (fun ⟨h1, h2⟩ => ⟨h1, hK _ _ h2⟩)

/-- whatever order is picked from here on: operations of level 0 yield a value that no order turns -/
def Any (P : Program) (ops : Array Oper) (Q : Exit → Act → World → Prop) : Nat → Array Bool → Act → (World → Prop) → Prop
  | 0, l, a, S => Region.ready .any ops l = [] ∧ ∀ w, S w → Q .normal a w
  | f + 1, l, a, S => (Region.ready .any ops l = [] → ∀ w, S w → Q .normal a w) ∧ ∀ i ∈ Region.ready .any ops l, ∀ o, ops[i]? = some o →
      (level o.op = 0 → ∃ v, YieldsK P ops S o v a ∧ Any P ops Q f (l.setIfInBounds i true) (a.put o.dst v) S) ∧
      (level o.op ≠ 0 → ∀ w, S w → Does P ops o a w fun v w' => ∃ S', Closed S' ∧ (level o.op = 1 → ∀ w, S' w → S w) ∧ S' w' ∧ Any P ops Q f (l.setIfInBounds i true) (a.put o.dst v) S')

theorem ready_op {ops : Array Oper} {l : Array Bool} {i : Nat} (h : i ∈ Region.ready .any ops l) : ∃ o, ops[i]? = some o := by
  obtain ⟨_, o, ho, _⟩ := mem_ready.1 h; exact ⟨o, ho⟩

theorem Any.sound {ops : Array Oper} {Q : Exit → Act → World → Prop} : ∀ (f : Nat) (l : Array Bool) (a : Act) (S : World → Prop) (w : World), Closed S → Any P ops Q f l a S → S w → wpAny P .any ops Q f l a w
  | 0, l, a, S, w, _, h, hw => ⟨h.1, h.2 w hw⟩
  | f + 1, l, a, S, w, hc, h, hw => by
    refine ⟨fun h0 => h.1 h0 w hw, fun i hi => ?_⟩
    obtain ⟨o, ho⟩ := ready_op hi
    obtain ⟨h0, h1⟩ := h.2 i hi o ho
    unfold wpOp
    rw [ho]
    simp only
    by_cases hl : level o.op = 0
    · obtain ⟨v, hy, hn⟩ := h0 hl
      rcases hy with ⟨hwant, hy⟩ | ⟨hwant, rfl⟩
      · rw [if_pos hwant]
        refine .inl (resE_wp (hy w hw) fun u w' ⟨hu, hb⟩ => ?_)
        subst hu
        exact Any.sound f _ _ S w' hc hn (hc w w' hw hb)
      · rw [if_neg (by rw [hwant]; simp)]
        exact Any.sound f _ _ S w hc hn hw
    · rcases h1 hl w hw with ⟨hwant, hd⟩ | ⟨hwant, S', hc', _, hS', hn⟩
      · rw [if_pos hwant]
        refine .inl (resE_wp hd fun u w' ⟨S', hc', _, hS', hn⟩ => ?_)
        exact Any.sound f _ _ S' w' hc' hn hS'
      · rw [if_neg (by rw [hwant]; simp)]
        exact Any.sound f _ _ S' w hc' hn hS'

/-- an operation of level 0 may be taken first -/
theorem Any.first {ops : Array Oper} {Q : Exit → Act → World → Prop} {i : Nat} {oi : Oper} {v : Value} (hi : ops[i]? = some oi) (hli : level oi.op = 0) (hsel : Region.noSelect ops = true) :
    ∀ (f : Nat) (l : Array Bool) (a : Act) (S : World → Prop),
      (∀ j oj, ops[j]? = some oj → j ≠ i → l.getD j true = false → (∀ e ∈ oj.after, Region.binds .any e = true → e.on ≠ i) → oi.apart ops oj = true) →
      ((∀ S, YieldsK P ops S oi v a) ∨ (YieldsK P ops S oi v a ∧ ∀ j oj, ops[j]? = some oj → j ≠ i → l.getD j true = false → (∀ e ∈ oj.after, Region.binds .any e = true → e.on ≠ i) → level oj.op ≤ 1)) →
      i ∈ Region.ready .any ops l → Any P ops Q f (l.setIfInBounds i true) (a.put oi.dst v) S → Any P ops Q (f + 1) l a S := by
  intro f
  induction f with
  | zero =>
    intro l a S _ hY hr H
    refine ⟨fun h0 => (by rw [h0] at hr; cases hr), fun j hj o ho => ?_⟩
    by_cases hji : j = i
    · subst hji
      rw [hi] at ho; cases ho
      exact ⟨fun _ => ⟨v, hY.elim (fun h => h S) And.left, H⟩, fun h => absurd hli h⟩
    · have := ready_mono hj hji
      rw [H.1] at this
      cases this
  | succ f ih =>
    intro l a S hfree hY hr H
    refine ⟨fun h0 => (by rw [h0] at hr; cases hr), fun j hj oj hoj => ?_⟩
    by_cases hji : j = i
    · subst hji
      rw [hi] at hoj; cases hoj
      exact ⟨fun _ => ⟨v, hY.elim (fun h => h S) And.left, H⟩, fun h => absurd hli h⟩
    · obtain ⟨hjun, oj', hoj', hall⟩ := mem_ready.1 hj
      rw [hoj] at hoj'; cases hoj'
      have hnot : ∀ e ∈ oj.after, Region.binds .any e = true → e.on ≠ i := fun e he hb heq => by
        have h1 := hall e he hb
        have h0 := (mem_ready.1 hr).1
        rw [heq] at h1
        rcases Nat.lt_or_ge i l.size with h' | h'
        · simp [h'] at h0 h1; rw [h0] at h1; cases h1
        · simp [Array.getElem?_eq_none h'] at h1
      have hap := hfree j oj hoj hji hjun hnot
      obtain ⟨a1, a2, a3⟩ := Oper.apart_spec hap
      have hsi := fun cs b => Region.noSelect_spec hsel i oi cs b hi
      have hsj := fun cs b => Region.noSelect_spec hsel j oj cs b hoj
      have ej : execOp (a.put oi.dst v).eval oj = execOp a.eval oj := execOp_put oj hsj a oi.dst v a1
      have wj : Region.wanted oj (yielded ops (a.put oi.dst v).tmps) = Region.wanted oj (yielded ops a.tmps) := wanted_put oj a oi.dst v a1
      have ei : ∀ u, execOp (a.put oj.dst u).eval oi = execOp a.eval oi := fun u => execOp_put oi hsi a oj.dst u a3
      have wi : ∀ u, Region.wanted oi (yielded ops (a.put oj.dst u).tmps) = Region.wanted oi (yielded ops a.tmps) := fun u => wanted_put oi a oj.dst u a3
      have hfree' : ∀ k ok, ops[k]? = some ok → k ≠ i → (l.setIfInBounds j true).getD k true = false → (∀ e ∈ ok.after, Region.binds .any e = true → e.on ≠ i) → oi.apart ops ok = true := fun k ok hk hki hun hno => by
        refine hfree k ok hk hki ?_ hno
        by_cases hjk : j = k
        · subst hjk; exact hjun
        · rw [getD_set_ne true hjk] at hun; exact hun
      have hY' : ∀ (u : Value) (S' : World → Prop), (level oj.op ≤ 1 → ∀ w, S' w → S w) → ((∀ S, YieldsK P ops S oi v (a.put oj.dst u)) ∨ (YieldsK P ops S' oi v (a.put oj.dst u) ∧ ∀ k ok, ops[k]? = some ok → k ≠ i → (l.setIfInBounds j true).getD k true = false → (∀ e ∈ ok.after, Region.binds .any e = true → e.on ≠ i) → level ok.op ≤ 1)) := by
        intro u S' hSS
        rcases hY with hY | ⟨hY, hlev⟩
        · exact .inl fun S => (hY S).of_same (ei u) (wi u)
        · refine .inr ⟨(hY.mono (hSS (hlev j oj hoj hji hjun hnot))).of_same (ei u) (wi u), fun k ok hk hki hun hno => hlev k ok hk hki ?_ hno⟩
          by_cases hjk : j = k
          · subst hjk; exact hjun
          · rw [getD_set_ne true hjk] at hun; exact hun
      obtain ⟨h0, h1⟩ := H.2 j (ready_mono hj hji) oj hoj
      refine ⟨fun hl => ?_, fun hl w hw => ?_⟩
      · obtain ⟨u, hu, hn⟩ := h0 hl
        refine ⟨u, hu.of_same ej.symm wj.symm, ?_⟩
        refine ih (l.setIfInBounds j true) (a.put oj.dst u) S hfree' (hY' u S fun _ w hw => hw) (ready_mono hr (Ne.symm hji)) ?_
        rw [Array.setIfInBounds_comm _ _ hji, ← Act.put_comm a v u a2]
        exact hn
      · have hd := h1 hl w hw
        unfold Does at hd ⊢
        rw [ej, wj] at hd
        have step : ∀ u w', (∃ S', Closed S' ∧ (level oj.op = 1 → ∀ w, S' w → S w) ∧ S' w' ∧ Any P ops Q f ((l.setIfInBounds i true).setIfInBounds j true) ((a.put oi.dst v).put oj.dst u) S') →
            ∃ S', Closed S' ∧ (level oj.op = 1 → ∀ w, S' w → S w) ∧ S' w' ∧ Any P ops Q (f + 1) (l.setIfInBounds j true) (a.put oj.dst u) S' := by
          rintro u w' ⟨S', hc, hsub, hS', hn⟩
          refine ⟨S', hc, hsub, hS', ih (l.setIfInBounds j true) (a.put oj.dst u) S' hfree' (hY' u S' fun hle => hsub (by omega)) (ready_mono hr (Ne.symm hji)) ?_⟩
          rw [Array.setIfInBounds_comm _ _ hji, ← Act.put_comm a v u a2]
          exact hn
        rcases hd with ⟨hw1, hd⟩ | ⟨hw1, hd⟩
        · exact .inl ⟨hw1, resE_mono step hd⟩
        · exact .inr ⟨hw1, step _ _ hd⟩

end
end Go.Proofs.YtjcacjeoddnmhaaDoor.Ev

/- The evaluator's word on regions that draw, on code, and on a call. -/
namespace Go.Proofs.YtjcacjeoddnmhaaDoor.Ev
open Go Go.RowKit

section
variable {P : Program} {cx : Cx} {jx : Jx} {ρ : Env} {W : World} {wr : List Nat} {β β' : Pl} {heap : List Blk} {w w' : World}

/-! ### what a term stands for is one value -/
theorem AT.Is.det {a : AT} {u v : Value} (hu : a.Is ρ β u) (hv : a.Is ρ β v) : u = v := by
  cases a <;> simp only [AT.Is] at hu hv
  case int => exact hu.trans hv.symm
  case bool => exact hu.trans hv.symm
  case val => exact hu.1.trans hv.1.symm
  case ptr => obtain ⟨p, hp, e⟩ := hu; obtain ⟨q, hq, f⟩ := hv; rw [hp] at hq; cases hq; exact e.trans f.symm
  case pti => obtain ⟨p, hp, e⟩ := hu; obtain ⟨q, hq, f⟩ := hv; rw [hp] at hq; cases hq; exact e.trans f.symm
  case slc => obtain ⟨p, hp, e⟩ := hu; obtain ⟨q, hq, f⟩ := hv; rw [hp] at hq; cases hq; exact e.trans f.symm
  case opq => exact hu.1.trans hv.1.symm
theorem All2.det {α γ : Type} {R : α → γ → Prop} (h : ∀ a u v, R a u → R a v → u = v) : ∀ {l : List α} {m n : List γ}, All2 R l m → All2 R l n → m = n
  | [], [], [], _, _ => rfl
  | a :: l, b :: m, c :: n, h1, h2 => by rw [h a b c h1.1 h2.1, All2.det h h1.2 h2.2]
  | [], _ :: _, _, h, _ => h.elim
  | _ :: _, [], _, h, _ => h.elim
  | [], [], _ :: _, _, h => h.elim
  | _ :: _, _ :: _, [], _, h => h.elim
theorem A1.Is.det {a : A1} {u v : Value} (hu : a.Is ρ β u) (hv : a.Is ρ β v) : u = v := by
  cases a with
  | c a => exact AT.Is.det hu hv
  | g l => obtain ⟨x, e, hx⟩ := hu; obtain ⟨y, f, hy⟩ := hv; rw [e, f, Array.toList_inj.1 (All2.det (R := AT.Is ρ β) (fun _ _ _ => AT.Is.det) hx hy)]
theorem AV.Is.det {a : AV} {u v : Value} (hu : a.Is ρ β u) (hv : a.Is ρ β v) : u = v := by
  cases a with
  | v a => exact A1.Is.det hu hv
  | t l => obtain ⟨x, e, hx⟩ := hu; obtain ⟨y, f, hy⟩ := hv; rw [e, f, Array.toList_inj.1 (All2.det (R := A1.Is ρ β) (fun _ _ _ => A1.Is.det) hx hy)]

/-! ### regions that draw -/
/-- the worlds in which the state's memory is as the evaluator knows it -/
def SS (jx : Jx) (ρ : Env) (W : World) (wr : List Nat) (β : Pl) (heap : List Blk) (w : World) : Prop := HeapOk ρ jx W wr β heap w ∧ Fr W wr w ∧ jx.J w
theorem SS.closed : Closed (SS jx ρ W wr β heap) := fun _ _ ⟨h1, h2, h3⟩ hb => ⟨h1.below hb, h2.below hb, Jx.below h3 hb⟩
theorem frozen_ok (h : HeapOk ρ jx W wr β heap w) (W' : World) (wr' : List Nat) : HeapOk ρ jx W' wr' β (freeze heap) w := by
  refine ⟨by simp [freeze, h.1], fun l b hl => ?_⟩
  unfold freeze at hl
  rw [List.getElem?_map, Option.map_eq_some_iff] at hl
  obtain ⟨b', hb', rfl⟩ := hl
  obtain ⟨p, arr, ty, fr, h1, h2, h3, _⟩ := h.2 l b' hb'
  exact ⟨p, arr, ty, fr, h1, h2, h3, fun hrw => by simp at hrw⟩
theorem dr_pick {α : Type} {t : Tr α} {x : α} (h : t.dr = .ok x) : t.pick ρ = some x := by
  cases t <;> simp only [Tr.dr] at h <;> cases h; rfl
theorem dr_bind {α γ : Type} {t : DR α} {f : α → DR γ} {y : γ} (h : t.bind f = .ok y) : ∃ x, t = .ok x ∧ f x = .ok y := by
  cases t <;> simp only [DR.bind] at h
  · exact ⟨_, rfl, h⟩
  · cases h
  · cases h

theorem resE_some {K : Value → World → Prop} {r : Result Next} (h : resE P K r) : ∃ v w, K v w := by
  cases r with
  | ok n w =>
    cases n <;> simp only [resE] at h
    case value u => exact ⟨_, _, h⟩
    case skip => exact ⟨_, _, h⟩
    case enter f args => obtain ⟨e, w', fr, ⟨u, _, hu⟩, _⟩ := h []; exact ⟨u, w', hu⟩
  | halt x w => exact h.elim
theorem evCalm_ok {ih : Code → St → Tr (X × St)} (hih : IhOk cx jx ρ ih) (hs : ∀ m ∈ cx.sums, SumOk cx.P jx ρ m) {s : St} {a : Act} {o : Oper} {x : AV} {pc' : PC} {ops : Array Oper}
    (hT : Tmps cx ρ β s a) (hp : pcOk ρ s.pc) (hlen : β.length = s.heap.length) (hw : Region.wanted o (yielded ops a.tmps) = true) (h : evCalm cx ih s o = .ok (x, pc')) (hne : ∃ w, SS jx ρ W wr β s.heap w) :
    pcOk ρ pc' ∧ ∃ v, x.Is ρ β v ∧ YieldsK cx.P ops (SS jx ρ W wr β s.heap) o v a ∧ (pureOp o.op = true → ∀ S, YieldsK cx.P ops S o v a) := by
  unfold evCalm at h
  split at h
  · obtain ⟨h1, r, h2, h3⟩ := evPure_ok hT hp (dr_pick (ρ := ρ) h)
    have hy : ∀ S, YieldsK cx.P ops S o r a := fun S => .inl ⟨hw, fun w _ => by rw [h3 w]; exact ⟨rfl, Below.refl _ _⟩⟩
    exact ⟨h1, r, h2, hy _, fun _ => hy⟩
  · rename_i hpo
    obtain ⟨ys, h1, h2⟩ := dr_bind h
    obtain ⟨y, s2⟩ := ys
    simp only at h2
    split at h2
    · rename_i hbel
      cases h2
      have run : ∀ w, SS jx ρ W wr β s.heap w → resE cx.P (OpPost cx jx ρ w [] β s2 a x) ((execOp a.eval o).run cx.P w) := fun w hS =>
        evOp_ok hih hs (s := { s with heap := freeze s.heap }) ⟨hT.of rfl rfl, frozen_ok hS.1 w [], Fr.refl w [], hp, hS.2.2⟩ (dr_pick h1)
      have old : ∀ {w : World} {v : Value} {w' : World}, OpPost cx jx ρ w [] β s2 a x v w' → x.Is ρ β v ∧ Below w.heap.size w w' ∧ pcOk ρ s2.pc := by
        rintro w v w' ⟨β', hb, hR, hx⟩
        have := AV.below_is hbel hx
        obtain ⟨t, rfl⟩ := hb
        rw [← hlen, List.take_left'] at this
        · exact ⟨this, hR.fr.to_below, hR.pc⟩
        · rfl
      obtain ⟨w0, hw0⟩ := hne
      obtain ⟨v, w1, hv⟩ := resE_some (run w0 hw0)
      obtain ⟨h1, h2, h3⟩ := old hv
      refine ⟨h3, v, h1, .inl ⟨hw, fun w hS => resE_mono (fun u w' hu => ?_) (run w hS)⟩, fun h => absurd h hpo⟩
      obtain ⟨g1, g2, _⟩ := old hu
      exact ⟨g1.det h1, g2⟩
    · cases h2

theorem HeapOk.prefix_ok {t : List Blk} (h : HeapOk ρ jx W wr β' (heap ++ t) w) (hb : β <+: β') (hl : β.length = heap.length) {w0 : World} {W0 : World} {wr0 : List Nat} (h0 : HeapOk ρ jx W0 wr0 β heap w0) : HeapOk ρ jx W wr β heap w := by
  refine ⟨hl, fun l b hlb => ?_⟩
  have hlt : l < heap.length := (List.getElem?_eq_some_iff.1 hlb).1
  obtain ⟨p, arr, ty, fr, h1, h2, h3, h4⟩ := h.2 l b (by rw [List.getElem?_append_left hlt]; exact hlb)
  obtain ⟨q, arr0, _, _, k1, _, k3, _⟩ := h0.2 l b hlb
  have hpq := Pl.mono_get hb k1
  rw [h1] at hpq
  cases hpq
  refine ⟨p, arr, ty, fr, k1, h2, fun j x hx => ?_, fun hrw => ?_⟩
  · obtain ⟨v, hv, hi⟩ := h3 j x hx
    obtain ⟨v0, _, hi0⟩ := k3 j x hx
    have := (hi0.mono hb).det hi
    subst this
    exact ⟨v0, hv, hi0⟩
  · obtain ⟨g1, g2, g3, g4⟩ := h4 hrw
    exact ⟨g1, fun l' q hne hq => g2 l' q hne (Pl.mono_get hb hq), g3, g4⟩

theorem level1_op {o : Op} (h : level o = 1) : (∃ t, o = .alloc t) ∨ (∃ t x, o = .box t x) ∨ (∃ t n ps, o = .buildSlice t n ps) := by
  unfold level at h
  split at h <;> simp_all
theorem evOp_level1 {ih : Code → St → Tr (X × St)} {s s2 : St} {o : Oper} {x : AV} (hl : level o.op = 1) (h : (evOp cx ih s o).pick ρ = some (x, s2)) : ∃ b, s2.heap = s.heap ++ [b] := by
  unfold evOp at h
  rcases level1_op hl with ⟨t, hop⟩ | ⟨t, y, hop⟩ | ⟨t, n, ps, hop⟩
  · rw [hop] at h
    obtain ⟨z, _, h⟩ := must_pick h
    cases leaf_eq h; exact ⟨_, rfl⟩
  · rw [hop] at h
    obtain ⟨z, _, h⟩ := must_pick h
    cases leaf_eq h; exact ⟨_, rfl⟩
  · rw [hop] at h
    simp only at h
    split at h
    · obtain ⟨_, _, h⟩ := must_pick h
      obtain ⟨_, _, h⟩ := must_pick h
      obtain ⟨_, _, h⟩ := must_pick h
      split at h
      · obtain ⟨_, _, h⟩ := must_pick h
        cases leaf_eq h; exact ⟨_, rfl⟩
      · simp [Tr.pick] at h
    · simp [Tr.pick] at h

theorem level_le {ops : Array Oper} {l : Array Bool} {i : Nat} (h : calm ops l i = true) (j : Nat) (oj : Oper) (hj : ops[j]? = some oj) (hne : j ≠ i) (hun : l.getD j true = false) (hno : ∀ e ∈ oj.after, Region.binds .any e = true → e.on ≠ i) : level oj.op ≤ 1 := by
  unfold calm at h
  rw [List.all_eq_true] at h
  have hjs : j < ops.size := (Array.getElem?_eq_some_iff.1 hj).1
  have := h j (List.mem_range.2 hjs)
  rw [hun, hj] at this
  simp only [Bool.or_false, Bool.or_eq_true, beq_iff_eq] at this
  rcases this with h | h | h
  · exact absurd h hne
  · rw [Array.any_eq_true] at h
    obtain ⟨k, hk, h⟩ := h
    simp only [Bool.and_eq_true, beq_iff_eq] at h
    exact absurd h.2 (hno _ (Array.getElem_mem hk) h.1)
  · exact Nat.le_of_ble_eq_true h
theorem firstOf_some {p : Nat → Bool} : ∀ {l : List Nat} {i : Nat}, firstOf p l = some i → i ∈ l ∧ p i = true
  | [], i, h => by simp [firstOf] at h
  | j :: l, i, h => by
    simp only [firstOf] at h
    split at h
    · rename_i hp; cases h; exact ⟨by simp, hp⟩
    · obtain ⟨h1, h2⟩ := firstOf_some h; exact ⟨by simp [h1], h2⟩

theorem tb_of {n : Int} : tb n = decide (n ≠ 0) := by unfold tb; split <;> simp [*]

theorem drn_ok {ih : Code → St → Tr (X × St)} (hih : IhOk cx jx ρ ih) (hs : ∀ m ∈ cx.sums, SumOk cx.P jx ρ m) {ops : Array Oper} (hsel : Region.noSelect ops = true) {Q : Exit → Act → World → Prop} {s' : St} :
    ∀ (fuel : Nat) (l : Array Bool) (s : St) (a : Act) (β : Pl), drn cx ih ops fuel l s = .ok s' → Tmps cx ρ β s a → pcOk ρ s.pc → (∃ w, SS jx ρ W wr β s.heap w) →
      (∀ β' a' w', β <+: β' → Rel cx jx ρ W wr β' s' a' w' → Q .normal a' w') → Any cx.P ops Q fuel l a (SS jx ρ W wr β s.heap) := by
  intro fuel
  induction fuel with
  | zero =>
    intro l s a β h hT hp _ hQ
    unfold drn at h
    split at h
    · rename_i hr
      cases h
      exact ⟨by simpa using hr, fun w hw => hQ β a w (List.prefix_refl _) ⟨hT, hw.1, hw.2.1, hp, hw.2.2⟩⟩
    · cases h
  | succ fuel ihf =>
    intro l s a β h hT hp hne hQ
    have hlen : β.length = s.heap.length := by obtain ⟨w, hw⟩ := hne; exact hw.1.1
    unfold drn at h
    split at h
    · rename_i hr
      have hr' : Region.ready .any ops l = [] := by simpa using hr
      cases h
      exact ⟨fun _ w hw => hQ β a w (List.prefix_refl _) ⟨hT, hw.1, hw.2.1, hp, hw.2.2⟩, fun i hi => by rw [hr'] at hi; cases hi⟩
    · rename_i hr
      split at h
      · -- one is taken first
        rename_i i hfirst
        obtain ⟨hmem, htake⟩ := firstOf_some hfirst
        split at h
        · rename_i o ho
          obtain ⟨s1, h1, h2⟩ := dr_bind h
          unfold takeable at htake
          rw [ho] at htake
          simp only [Bool.and_eq_true, Bool.or_eq_true] at htake
          have hl0 : level o.op = 0 := Nat.eq_of_beq_eq_true htake.1.1
          -- what it yields
          have key : ∃ v, YieldsK cx.P ops (SS jx ρ W wr β s.heap) o v a ∧ (pureOp o.op = true → ∀ S, YieldsK cx.P ops S o v a) ∧ Tmps cx ρ β s1 (a.put o.dst v) ∧ pcOk ρ s1.pc ∧ s1.heap = s.heap := by
            have run : Region.wanted o (yielded ops a.tmps) = true → ((evCalm cx ih s o).bind fun r => match St.put { s with pc := r.2 } o.dst r.1 with
                | some s => .ok s
                | none => .bad "put") = .ok s1 → ∃ v, YieldsK cx.P ops (SS jx ρ W wr β s.heap) o v a ∧ (pureOp o.op = true → ∀ S, YieldsK cx.P ops S o v a) ∧ Tmps cx ρ β s1 (a.put o.dst v) ∧ pcOk ρ s1.pc ∧ s1.heap = s.heap := by
              intro hw h
              obtain ⟨⟨x, pc1⟩, hc, h⟩ := dr_bind h
              obtain ⟨hp1, v, hx, hy, hyp⟩ := evCalm_ok hih hs hT hp hlen hw hc hne
              split at h
              · rename_i s2 hput
                cases h
                obtain ⟨e1, e2, _⟩ := put_heap hput
                refine ⟨v, hy, hyp, Tmps.put (s := { s with pc := pc1 }) (hT.of rfl rfl) hx hput, by rw [e2]; exact hp1, e1⟩
              · cases h
            unfold evOne at h1
            simp only [if_true] at h1
            split at h1
            · cases h1
            · rename_i hg
              exact run (guard_ok hT hg) h1
            · rename_i e want hg
              have hgo := guard_ok hT hg
              simp only at hgo
              split at h1
              · cases h1
              · rename_i n hn
                have hen := one_den hp hn
                rw [hen, tb_of] at hgo
                split at h1
                · rename_i hc
                  rw [hc] at hgo
                  exact run hgo h1
                · rename_i hc
                  split at h1
                  · rename_i s2 hput
                    cases h1
                    obtain ⟨e1, e2, _⟩ := put_heap hput
                    have hy : ∀ S, YieldsK cx.P ops S o undef a := fun S => .inr ⟨by rw [hgo]; simpa using hc, rfl⟩
                    exact ⟨undef, hy _, fun _ => hy, hT.put undef_is hput, by rw [e2]; exact hp, e1⟩
                  · cases h1
          obtain ⟨v, hy, hyp, hT1, hp1, hheap⟩ := key
          refine Any.first (v := v) ho hl0 hsel fuel l a _ (Region.free_spec ho htake.1.2) ?_ hmem ?_
          · rcases htake.2 with hpu | hca
            · exact .inl (hyp hpu)
            · exact .inr ⟨hy, level_le hca⟩
          · rw [← hheap]
            exact ihf _ s1 _ β h2 hT1 hp1 (by rw [hheap]; exact hne) hQ
        · cases h
      · -- the only one
        split at h
        · rename_i i hri
          split at h
          · rename_i o ho
            split at h
            · cases h
            · rename_i hlev
              have hl0 : level o.op ≠ 0 := fun e => hlev (by rw [e]; rfl)
              obtain ⟨s1, h1, h2⟩ := dr_bind h
              refine ⟨fun h0 => absurd h0 (by rw [hri]; simp), fun j hj oj hoj => ?_⟩
              have hji : j = i := by rw [hri] at hj; simpa using hj
              subst hji
              rw [ho] at hoj
              cases hoj
              refine ⟨fun hl => absurd hl hl0, fun _ w hw => ?_⟩
              have run : ∀ {s0 : St}, s0.tmps = s.tmps → s0.n = s.n → s0.heap = s.heap → pcOk ρ s0.pc → Region.wanted o (yielded ops a.tmps) = true → ((evOp cx ih s0 o).dr.bind fun r => match r.2.put o.dst r.1 with
                  | some s => .ok s
                  | none => .bad "put") = .ok s1 → Does cx.P ops o a w fun v w' => ∃ S', Closed S' ∧ (level o.op = 1 → ∀ w, S' w → SS jx ρ W wr β s.heap w) ∧ S' w' ∧ Any cx.P ops Q fuel (l.setIfInBounds j true) (a.put o.dst v) S' := by
                intro s0 e1 e2 e3 hp0 hwant h
                obtain ⟨⟨x, s2⟩, hx, h⟩ := dr_bind h
                have hx' := dr_pick (ρ := ρ) hx
                split at h
                · rename_i s3 hput
                  cases h
                  obtain ⟨g1, g2, _⟩ := put_heap hput
                  refine .inl ⟨hwant, resE_mono ?_ (evOp_ok (W := W) (wr := wr) (β := β) (w := w) (a := a) hih hs ⟨hT.of e2 e1, by rw [e3]; exact hw.1, hw.2.1, hp0, hw.2.2⟩ hx')⟩
                  rintro v w' ⟨β', hb, hR, hvi⟩
                  have hR1 := hR.put hvi hput
                  refine ⟨SS jx ρ W wr β' s1.heap, SS.closed, fun hl1 w2 hw2 => ?_, ⟨hR1.heap, hR1.fr, hR1.j⟩, ihf _ s1 _ β' h2 hR1.tm hR1.pc ⟨w', hR1.heap, hR1.fr, hR1.j⟩ fun β'' a' w2 hb2 hR2 => hQ β'' a' w2 (hb.trans hb2) hR2⟩
                  obtain ⟨b, hbk⟩ := evOp_level1 hl1 hx'
                  have hh := hw2.1
                  rw [g1, hbk, e3] at hh
                  exact ⟨hh.prefix_ok hb hlen hw.1, hw2.2⟩
                · cases h
              unfold evOne at h1
              simp only [Bool.false_eq_true, if_false] at h1
              split at h1
              · cases h1
              · rename_i hg
                exact run rfl rfl rfl hp (guard_ok hT hg) h1
              · rename_i e want hg
                have hgo := guard_ok hT hg
                simp only at hgo
                split at h1
                · cases h1
                · rename_i n hn
                  have hen := one_den hp hn
                  rw [hen, tb_of] at hgo
                  split at h1
                  · rename_i hc
                    rw [hc] at hgo
                    exact run rfl rfl rfl hp hgo h1
                  · rename_i hc
                    split at h1
                    · rename_i s2 hput
                      cases h1
                      obtain ⟨e1, e2, _⟩ := put_heap hput
                      refine .inr ⟨by rw [hgo]; simpa using hc, SS jx ρ W wr β s.heap, SS.closed, fun _ _ h => h, hw, ?_⟩
                      rw [← e1]
                      exact ihf _ s1 _ β h2 (hT.put undef_is hput) (by rw [e2]; exact hp) (by rw [e1]; exact hne) hQ
                    · cases h1
          · cases h
        · cases h

theorem drew_below (w : World) : Below w.heap.size w { w with drawn := w.drawn + 1 } := ⟨rfl, rfl, rfl, Nat.le_refl _, fun _ _ => rfl⟩
theorem evDrawn_ok {ih : Code → St → Tr (X × St)} (hO : CxOk cx) (hih : IhOk cx jx ρ ih) (hs : ∀ m ∈ cx.sums, SumOk cx.P jx ρ m) {ops : Array Oper} {id : Nat} {Q : Exit → Act → World → Prop} {x : X} {s' : St} :
    ∀ (fuel : Nat) {s : St} {a : Act} {β : Pl} {w : World}, (evDrawn cx ih ops fuel s).pick ρ = some (x, s') → Rel cx jx ρ W wr β s a w →
      (∀ β' a' w', β <+: β' → Rel cx jx ρ W wr β' s' a' w' → QX Q x a' w') → (Code.region id ops true).wp cx.P Q a w
  | 0, s, a, β, w, h, _, _ => by simp [evDrawn, Tr.pick] at h
  | fuel + 1, s, a, β, w, h, hR, hQ => by
    unfold evDrawn at h
    split at h
    · simp [Tr.pick] at h
    · rename_i hsel
      have hsel' : Region.noSelect ops = true := by simpa using hsel
      split at h
      · rename_i s1 hd
        cases leaf_eq h
        have hSS : SS jx ρ W wr β s.heap { w with drawn := w.drawn + 1 } := SS.closed w _ ⟨hR.heap, hR.fr, hR.j⟩ (drew_below w)
        have hA := drn_ok (W := W) (wr := wr) hih hs hsel' ops.size _ s a β hd hR.tm hR.pc ⟨_, hSS⟩ hQ
        exact wp_region_any hO.mix (Any.sound _ _ _ _ _ SS.closed hA hSS)
      · simp [Tr.pick] at h
      · obtain ⟨v, pc1, _, hp1, h⟩ := branch_pick hR.pc h
        exact evDrawn_ok hO hih hs fuel h (hR.pcs hp1) hQ

/-! ### code -/
theorem evLoop_ok {ih : Code → St → Tr (X × St)} (hih : IhOk cx jx ρ ih) {c : Code} {Q : Exit → Act → World → Prop} {x : X} {s' : St} :
    ∀ (n : Nat) {s : St} {a : Act} {β : Pl} {w : World}, (evLoop ih c n s).pick ρ = some (x, s') → Rel cx jx ρ W wr β s a w →
      (∀ β' a' w', β <+: β' → Rel cx jx ρ W wr β' s' a' w' → QX Q x a' w') → Code.rounds cx.P c Q n a w
  | 0, s, a, β, w, h, _, _ => by simp [evLoop, Tr.pick] at h
  | n + 1, s, a, β, w, h, hR, hQ => by
    simp only [evLoop] at h
    obtain ⟨⟨y, s1⟩, h1, h2⟩ := Tr.pick_bind_some h
    rw [rounds_succ]
    refine hih W wr β s a w c _ y s1 h1 hR fun β' a' w' hb hR' => ?_
    cases y with
    | nml => exact evLoop_ok hih n h2 hR' fun β'' a'' w'' hb' hR'' => hQ β'' a'' w'' (hb.trans hb') hR''
    | exit id => cases leaf_eq h2; exact hQ β' a' w' hb hR'
    | ret => cases leaf_eq h2; exact hQ β' a' w' hb hR'

theorem step_ok {ih : Code → St → Tr (X × St)} (hO : CxOk cx) (hih : IhOk cx jx ρ ih) (hs : ∀ m ∈ cx.sums, SumOk cx.P jx ρ m) : IhOk cx jx ρ (step cx ih) := by
  intro W wr β s a w c Q x s' h hR hQ
  unfold step at h
  split at h
  · cases leaf_eq h; exact wp_skip (hQ β a w (List.prefix_refl _) hR)
  · cases leaf_eq h; exact wp_label (hQ β a w (List.prefix_refl _) hR)
  · cases leaf_eq h; exact wp_ret (hQ β a w (List.prefix_refl _) hR)
  · cases leaf_eq h; exact wp_exit (hQ β a w (List.prefix_refl _) hR)
  · rename_i c1 c2
    obtain ⟨⟨y, s1⟩, h1, h2⟩ := Tr.pick_bind_some h
    refine wp_seq (hih W wr β s a w c1 _ y s1 h1 hR fun β' a' w' hb hR' => ?_)
    cases y with
    | nml => exact hih W wr β' s1 a' w' c2 Q x s' h2 hR' fun β'' a'' w'' hb' hR'' => hQ β'' a'' w'' (hb.trans hb') hR''
    | exit id => cases leaf_eq h2; exact hQ β' a' w' hb hR'
    | ret => cases leaf_eq h2; exact hQ β' a' w' hb hR'
  · rename_i cd c1 c2
    split at h
    · rename_i e he
      have hi := hR.tm.ev he
      simp only [AV.Is, A1.Is, AT.Is] at hi
      obtain ⟨v, pc1, hv, hp1, h⟩ := branch_pick hR.pc h
      have htb : tb (e.den ρ) = v := by
        cases v with
        | true => exact tb_one (hv.2 rfl)
        | false => exact tb_zero (by simpa using hv)
      rw [htb] at hi
      exact wp_cond hi (hih W wr β _ a w _ Q x s' h (hR.pcs hp1) hQ)
    · simp [Tr.pick] at h
  · rename_i id c1
    obtain ⟨⟨y, s1⟩, h1, h2⟩ := Tr.pick_bind_some h
    refine wp_block (hih W wr β s a w c1 _ y s1 h1 hR fun β' a' w' hb hR' => ?_)
    cases y with
    | nml => cases leaf_eq h2; exact hQ β' a' w' hb hR'
    | exit j =>
      cases leaf_eq h2
      have := hQ β' a' w' hb hR'
      show Exit.inBlock id Q (.exit j) a' w'
      simp only [Exit.inBlock]
      by_cases hj : j = id
      · subst hj; rw [if_pos rfl]; simpa [Nat.beq_refl, QX] using this
      · have hb' : Nat.beq j id = false := by rw [Bool.eq_false_iff]; exact fun e => hj (Nat.eq_of_beq_eq_true e)
        rw [if_neg hj]; simpa [hb', QX] using this
    | ret => cases leaf_eq h2; exact hQ β' a' w' hb hR'
  · exact wp_loop_rounds _ (evLoop_ok hih _ h hR hQ)
  · rename_i id ops draw
    cases draw with
    | true => exact evDrawn_ok hO hih hs _ h hR hQ
    | false => exact wp_region_list (evOps_ok hih hs _ h hR hQ)
  · simp [Tr.pick] at h

theorem ev_ok (hO : CxOk cx) (hs : ∀ m ∈ cx.sums, SumOk cx.P jx ρ m) : ∀ n, IhOk cx jx ρ (ev cx n)
  | 0 => fun _ _ _ _ _ _ _ _ _ _ h _ _ => by simp [ev, Tr.pick] at h
  | n + 1 => step_ok hO (ev_ok hO hs n) hs

/-- A call, from arguments and known memory: what the evaluator comes to on the way that the numbers take. -/
theorem evFn_ok (hO : CxOk cx) (hs : ∀ m ∈ cx.sums, SumOk cx.P jx ρ m) {fuel : Nat} {f : FuncId} {pc : PC} {args : List AV} {vals : List Value} {r : AV} {heap' : List Blk} {pc' : PC}
    (h : (evFn cx fuel f heap pc args).pick ρ = some (r, heap', pc')) (hg : ∀ g l, assoc g cx.glob = some l → β[l]? = some (g, 0)) (hh : HeapOk ρ jx W wr β heap w) (hf : Fr W wr w) (hp : pcOk ρ pc) (hj : jx.J w)
    (ha : All2 (AV.Is ρ β) args vals) : Calls cx.P f vals.toArray w (CallPost jx ρ W wr β r heap' pc') :=
  (evCall_ok hO (ev_ok hO hs fuel) hs hg hh hf hp hj ha (by unfold evFn at h; exact h)).2

end

theorem all_cons {α : Type} {Q : α → Prop} {a : α} {l : List α} (h : Q a) (t : ∀ x ∈ l, Q x) : ∀ x ∈ a :: l, Q x := fun x hx => by
  rcases List.mem_cons.1 hx with rfl | hx
  · exact h
  · exact t x hx
theorem all_nil {α : Type} {Q : α → Prop} : ∀ x ∈ ([] : List α), Q x := fun x hx => by cases hx

end Go.Proofs.YtjcacjeoddnmhaaDoor.Ev

/- The types and the functions that the evaluator asks for. Written by a program (mkcx.py) off the given program. -/
namespace Go.Proofs.YtjcacjeoddnmhaaDoor.Ev
open Go

noncomputable def tt : List (Nat × TI) := [(3, ⟨Tryd.t3.desc, Tryd.t3.size, Tryd.t3.zero⟩),
  (24, ⟨Tryd.t23.desc, Tryd.t24.size, Tryd.t24.zero⟩),
  (29, ⟨Tryd.t28.desc, Tryd.t29.size, Tryd.t29.zero⟩),
  (26, ⟨Tryd.t25.desc, Tryd.t26.size, Tryd.t26.zero⟩),
  (74, ⟨Tryd.t3.desc, Tryd.t74.size, Tryd.t74.zero⟩),
  (72, ⟨Tryd.t71.desc, Tryd.t72.size, Tryd.t72.zero⟩),
  (42, ⟨Tryd.t42.desc, Tryd.t42.size, Tryd.t42.zero⟩),
  (63, ⟨Tryd.t63.desc, Tryd.t63.size, Tryd.t63.zero⟩),
  (37, ⟨Tryd.t37.desc, Tryd.t37.size, Tryd.t37.zero⟩),
  (44, ⟨Tryd.t43.desc, Tryd.t44.size, Tryd.t44.zero⟩),
  (22, ⟨Tryd.t3.desc, Tryd.t22.size, Tryd.t22.zero⟩),
  (41, ⟨Tryd.t41.desc, Tryd.t41.size, Tryd.t41.zero⟩),
  (60, ⟨Tryd.t59.desc, Tryd.t60.size, Tryd.t60.zero⟩),
  (31, ⟨Tryd.t30.desc, Tryd.t31.size, Tryd.t31.zero⟩),
  (70, ⟨Tryd.t69.desc, Tryd.t70.size, Tryd.t70.zero⟩),
  (45, ⟨Tryd.t3.desc, Tryd.t45.size, Tryd.t45.zero⟩),
  (5, ⟨Tryd.t5.desc, Tryd.t5.size, Tryd.t5.zero⟩),
  (68, ⟨Tryd.t3.desc, Tryd.t68.size, Tryd.t68.zero⟩),
  (80, ⟨Tryd.t80.desc, Tryd.t80.size, Tryd.t80.zero⟩),
  (4, ⟨Tryd.t4.desc, Tryd.t4.size, Tryd.t4.zero⟩),
  (105, ⟨Tryd.t105.desc, Tryd.t105.size, Tryd.t105.zero⟩),
  (90, ⟨Tryd.t90.desc, Tryd.t90.size, Tryd.t90.zero⟩),
  (102, ⟨Tryd.t102.desc, Tryd.t102.size, Tryd.t102.zero⟩),
  (9, ⟨Tryd.t9.desc, Tryd.t9.size, Tryd.t9.zero⟩),
  (38, ⟨Tryd.t38.desc, Tryd.t38.size, Tryd.t38.zero⟩),
  (58, ⟨Tryd.t58.desc, Tryd.t58.size, Tryd.t58.zero⟩),
  (86, ⟨Tryd.t86.desc, Tryd.t86.size, Tryd.t86.zero⟩),
  (101, ⟨Tryd.t101.desc, Tryd.t101.size, Tryd.t101.zero⟩)]
noncomputable def fns : List (Nat × Func) := [(3, Tryd.f3),
  (7, Tryd.f7),
  (13, Tryd.f13),
  (11, Tryd.f11),
  (12, Tryd.f12),
  (16, Tryd.f16),
  (25, Tryd.f25),
  (8, Tryd.f8),
  (21, Tryd.f21),
  (33, Tryd.f33),
  (35, Tryd.f35),
  (34, Tryd.f34),
  (54, Tryd.f54),
  (36, Tryd.f36),
  (55, Tryd.f55),
  (37, Tryd.f37),
  (38, Tryd.f38),
  (39, Tryd.f39),
  (40, Tryd.f40),
  (56, Tryd.f56),
  (41, Tryd.f41),
  (57, Tryd.f57),
  (81, Tryd.f81),
  (90, Tryd.f90),
  (20, Tryd.f20),
  (22, Tryd.f22),
  (14, Tryd.f14),
  (26, Tryd.f26),
  (45, Tryd.f45),
  (19, Tryd.f19),
  (32, Tryd.f32),
  (49, Tryd.f49),
  (27, Tryd.f27),
  (46, Tryd.f46),
  (65, Tryd.f65),
  (28, Tryd.f28),
  (47, Tryd.f47),
  (66, Tryd.f66),
  (48, Tryd.f48),
  (67, Tryd.f67),
  (53, Tryd.f53),
  (50, Tryd.f50),
  (68, Tryd.f68),
  (79, Tryd.f79),
  (85, Tryd.f85),
  (86, Tryd.f86),
  (83, Tryd.f83),
  (87, Tryd.f87),
  (88, Tryd.f88),
  (84, Tryd.f84),
  (80, Tryd.f80),
  (89, Tryd.f89),
  (17, Tryd.f17),
  (29, Tryd.f29),
  (30, Tryd.f30),
  (31, Tryd.f31),
  (51, Tryd.f51),
  (69, Tryd.f69),
  (70, Tryd.f70),
  (71, Tryd.f71),
  (72, Tryd.f72),
  (52, Tryd.f52),
  (73, Tryd.f73),
  (74, Tryd.f74),
  (75, Tryd.f75),
  (76, Tryd.f76),
  (77, Tryd.f77),
  (78, Tryd.f78),
  (9, Tryd.f9),
  (10, Tryd.f10),
  (23, Tryd.f23),
  (42, Tryd.f42),
  (43, Tryd.f43),
  (58, Tryd.f58),
  (59, Tryd.f59),
  (60, Tryd.f60),
  (44, Tryd.f44),
  (61, Tryd.f61),
  (62, Tryd.f62),
  (82, Tryd.f82),
  (91, Tryd.f91),
  (93, Tryd.f93),
  (92, Tryd.f92),
  (63, Tryd.f63),
  (64, Tryd.f64),
  (24, Tryd.f24),
  (4, Tryd.f4),
  (15, Tryd.f15),
  (5, Tryd.f5),
  (18, Tryd.f18),
  (6, Tryd.f6)]
theorem tt_und : ∀ p ∈ tt, Tryd.prog.underlying p.1 = some p.2.desc :=
  all_cons (by kernel_rfl) <|
  all_cons (by kernel_rfl) <|
  all_cons (by kernel_rfl) <|
  all_cons (by kernel_rfl) <|
  all_cons (by kernel_rfl) <|
  all_cons (by kernel_rfl) <|
  all_cons (by kernel_rfl) <|
  all_cons (by kernel_rfl) <|
  all_cons (by kernel_rfl) <|
  all_cons (by kernel_rfl) <|
  all_cons (by kernel_rfl) <|
  all_cons (by kernel_rfl) <|
  all_cons (by kernel_rfl) <|
  all_cons (by kernel_rfl) <|
  all_cons (by kernel_rfl) <|
  all_cons (by kernel_rfl) <|
  all_cons (by kernel_rfl) <|
  all_cons (by kernel_rfl) <|
  all_cons (by kernel_rfl) <|
  all_cons (by kernel_rfl) <|
  all_cons (by kernel_rfl) <|
  all_cons (by kernel_rfl) <|
  all_cons (by kernel_rfl) <|
  all_cons (by kernel_rfl) <|
  all_cons (by kernel_rfl) <|
  all_cons (by kernel_rfl) <|
  all_cons (by kernel_rfl) <|
  all_cons (by kernel_rfl) <| all_nil
theorem tt_inf : ∀ p ∈ tt, ∃ i, Tryd.prog.info? p.1 = some i ∧ i.size = p.2.size ∧ i.zero = p.2.zero :=
  all_cons ⟨Tryd.t3, by kernel_rfl, rfl, rfl⟩ <|
  all_cons ⟨Tryd.t24, by kernel_rfl, rfl, rfl⟩ <|
  all_cons ⟨Tryd.t29, by kernel_rfl, rfl, rfl⟩ <|
  all_cons ⟨Tryd.t26, by kernel_rfl, rfl, rfl⟩ <|
  all_cons ⟨Tryd.t74, by kernel_rfl, rfl, rfl⟩ <|
  all_cons ⟨Tryd.t72, by kernel_rfl, rfl, rfl⟩ <|
  all_cons ⟨Tryd.t42, by kernel_rfl, rfl, rfl⟩ <|
  all_cons ⟨Tryd.t63, by kernel_rfl, rfl, rfl⟩ <|
  all_cons ⟨Tryd.t37, by kernel_rfl, rfl, rfl⟩ <|
  all_cons ⟨Tryd.t44, by kernel_rfl, rfl, rfl⟩ <|
  all_cons ⟨Tryd.t22, by kernel_rfl, rfl, rfl⟩ <|
  all_cons ⟨Tryd.t41, by kernel_rfl, rfl, rfl⟩ <|
  all_cons ⟨Tryd.t60, by kernel_rfl, rfl, rfl⟩ <|
  all_cons ⟨Tryd.t31, by kernel_rfl, rfl, rfl⟩ <|
  all_cons ⟨Tryd.t70, by kernel_rfl, rfl, rfl⟩ <|
  all_cons ⟨Tryd.t45, by kernel_rfl, rfl, rfl⟩ <|
  all_cons ⟨Tryd.t5, by kernel_rfl, rfl, rfl⟩ <|
  all_cons ⟨Tryd.t68, by kernel_rfl, rfl, rfl⟩ <|
  all_cons ⟨Tryd.t80, by kernel_rfl, rfl, rfl⟩ <|
  all_cons ⟨Tryd.t4, by kernel_rfl, rfl, rfl⟩ <|
  all_cons ⟨Tryd.t105, by kernel_rfl, rfl, rfl⟩ <|
  all_cons ⟨Tryd.t90, by kernel_rfl, rfl, rfl⟩ <|
  all_cons ⟨Tryd.t102, by kernel_rfl, rfl, rfl⟩ <|
  all_cons ⟨Tryd.t9, by kernel_rfl, rfl, rfl⟩ <|
  all_cons ⟨Tryd.t38, by kernel_rfl, rfl, rfl⟩ <|
  all_cons ⟨Tryd.t58, by kernel_rfl, rfl, rfl⟩ <|
  all_cons ⟨Tryd.t86, by kernel_rfl, rfl, rfl⟩ <|
  all_cons ⟨Tryd.t101, by kernel_rfl, rfl, rfl⟩ <| all_nil
theorem fns_ok : ∀ p ∈ fns, Tryd.prog.funcs[p.1]? = some p.2 :=
  all_cons Tryd.func3 <|
  all_cons Tryd.func7 <|
  all_cons Tryd.func13 <|
  all_cons Tryd.func11 <|
  all_cons Tryd.func12 <|
  all_cons Tryd.func16 <|
  all_cons Tryd.func25 <|
  all_cons Tryd.func8 <|
  all_cons Tryd.func21 <|
  all_cons Tryd.func33 <|
  all_cons Tryd.func35 <|
  all_cons Tryd.func34 <|
  all_cons Tryd.func54 <|
  all_cons Tryd.func36 <|
  all_cons Tryd.func55 <|
  all_cons Tryd.func37 <|
  all_cons Tryd.func38 <|
  all_cons Tryd.func39 <|
  all_cons Tryd.func40 <|
  all_cons Tryd.func56 <|
  all_cons Tryd.func41 <|
  all_cons Tryd.func57 <|
  all_cons Tryd.func81 <|
  all_cons Tryd.func90 <|
  all_cons Tryd.func20 <|
  all_cons Tryd.func22 <|
  all_cons Tryd.func14 <|
  all_cons Tryd.func26 <|
  all_cons Tryd.func45 <|
  all_cons Tryd.func19 <|
  all_cons Tryd.func32 <|
  all_cons Tryd.func49 <|
  all_cons Tryd.func27 <|
  all_cons Tryd.func46 <|
  all_cons Tryd.func65 <|
  all_cons Tryd.func28 <|
  all_cons Tryd.func47 <|
  all_cons Tryd.func66 <|
  all_cons Tryd.func48 <|
  all_cons Tryd.func67 <|
  all_cons Tryd.func53 <|
  all_cons Tryd.func50 <|
  all_cons Tryd.func68 <|
  all_cons Tryd.func79 <|
  all_cons Tryd.func85 <|
  all_cons Tryd.func86 <|
  all_cons Tryd.func83 <|
  all_cons Tryd.func87 <|
  all_cons Tryd.func88 <|
  all_cons Tryd.func84 <|
  all_cons Tryd.func80 <|
  all_cons Tryd.func89 <|
  all_cons Tryd.func17 <|
  all_cons Tryd.func29 <|
  all_cons Tryd.func30 <|
  all_cons Tryd.func31 <|
  all_cons Tryd.func51 <|
  all_cons Tryd.func69 <|
  all_cons Tryd.func70 <|
  all_cons Tryd.func71 <|
  all_cons Tryd.func72 <|
  all_cons Tryd.func52 <|
  all_cons Tryd.func73 <|
  all_cons Tryd.func74 <|
  all_cons Tryd.func75 <|
  all_cons Tryd.func76 <|
  all_cons Tryd.func77 <|
  all_cons Tryd.func78 <|
  all_cons Tryd.func9 <|
  all_cons Tryd.func10 <|
  all_cons Tryd.func23 <|
  all_cons Tryd.func42 <|
  all_cons Tryd.func43 <|
  all_cons Tryd.func58 <|
  all_cons Tryd.func59 <|
  all_cons Tryd.func60 <|
  all_cons Tryd.func44 <|
  all_cons Tryd.func61 <|
  all_cons Tryd.func62 <|
  all_cons Tryd.func82 <|
  all_cons Tryd.func91 <|
  all_cons Tryd.func93 <|
  all_cons Tryd.func92 <|
  all_cons Tryd.func63 <|
  all_cons Tryd.func64 <|
  all_cons Tryd.func24 <|
  all_cons Tryd.func4 <|
  all_cons Tryd.func15 <|
  all_cons Tryd.func5 <|
  all_cons Tryd.func18 <|
  all_cons Tryd.func6 <| all_nil
def eqs : List Nat := [26, 24]
theorem eqs_ok : ∀ t ∈ eqs, Tryd.prog.eqGuardType Tryd.prog.depth t = false ∧ Tryd.prog.stoodInHeld t = false ∧ (Tryd.prog.fieldsOf t).toList.all (fun f => decide (f.name ≠ "_")) = true :=
  all_cons ⟨by kernel_rfl, by kernel_rfl, by kernel_rfl⟩ <|
  all_cons ⟨by kernel_rfl, by kernel_rfl, by kernel_rfl⟩ <| all_nil
theorem mixed : Tryd.prog.follows .mixedOrders = true := by kernel_rfl
noncomputable def cxOf (glob : List (Nat × Nat)) (sums : List Sum) : Cx := { P := Tryd.prog, glob := glob, sums := sums, tt := tt, fns := fns, eqs := eqs }
theorem cxOk (glob : List (Nat × Nat)) (sums : List Sum) : CxOk (cxOf glob sums) := ⟨tt_und, tt_inf, fns_ok, mixed, eqs_ok⟩

end Go.Proofs.YtjcacjeoddnmhaaDoor.Ev

/- How the evaluator's word is used: laws that yield true, functions that yield terms, functions that are summed up, tables. -/
namespace Go.Proofs.YtjcacjeoddnmhaaDoor.Ev
open Go Go.RowKit

/-! ### leaves that are left to be shown -/
abbrev Leaf := AV × List Blk × PC
/-- of a law: the leaves at which it is not plain that it yields true: the way to each, and its truth -/
def rest : List (E × Bool) → Tr Leaf → List (List (E × Bool) × E)
  | p, .leaf r => match r.1 with
    | .v (.c (.bool e)) => (match e with
      | .lit n => if decide (n = 0) then [(p, .lit 0)] else []
      | _ => [(p, e)])
    | _ => [(p, .lit 0)]
  | p, .node c t e => rest ((c, true) :: p) t ++ rest ((c, false) :: p) e
  | p, .bad _ => [(p, .lit 0)]
section
variable {P : Program} {cx : Cx} {jx : Jx} {ρ : Env} {W : World} {wr : List Nat} {β : Pl} {heap : List Blk} {w : World}

/-! ### known memory at the start -/
/-- tables of integers: the block, the kind, the numbers -/
abbrev Tab := Nat × IntKind × List Int
def tabBlks (l : List Tab) : List Blk := l.map fun t => ⟨0, t.2.2.map fun z => .int t.2.1 (.lit z), false⟩
def tabPl (l : List Tab) : Pl := l.map fun t => (t.1, 0)
def TabOk (w : World) (t : Tab) : Prop := ∃ ty fr, w.heap[t.1]? = some (.cells (t.2.2.map (Value.int t.2.1)).toArray ty fr)
theorem heapOk_tabs {l : List Tab} (h : ∀ t ∈ l, TabOk w t) : HeapOk ρ jx W wr (tabPl l) (tabBlks l) w := by
  refine ⟨by simp [tabPl, tabBlks], fun i b hb => ?_⟩
  simp only [tabBlks, List.getElem?_map, Option.map_eq_some_iff] at hb
  obtain ⟨t, ht, rfl⟩ := hb
  obtain ⟨ty, fr, hh⟩ := h t (List.mem_of_getElem? ht)
  refine ⟨(t.1, 0), _, ty, fr, by simp [tabPl, ht], hh, fun j x hx => ?_, fun hrw => by cases hrw⟩
  simp only [List.getElem?_map, Option.map_eq_some_iff] at hx
  obtain ⟨z, hz, rfl⟩ := hx
  exact ⟨.int t.2.1 z, by simp [hz], rfl⟩
def tabGlob : Nat → List Tab → List (Nat × Nat)
  | _, [] => []
  | n, t :: l => (t.1, n) :: tabGlob (n + 1) l
theorem tabGlob_ok : ∀ {l : List Tab} {n : Nat} {g i : Nat}, assoc g (tabGlob n l) = some i → ∃ j, i = n + j ∧ (tabPl l)[j]? = some (g, 0)
  | [], n, g, i, h => by simp [tabGlob, assoc] at h
  | t :: l, n, g, i, h => by
    simp only [tabGlob, assoc] at h
    split at h
    · rename_i hg
      cases h
      refine ⟨0, rfl, ?_⟩
      rw [← Nat.eq_of_beq_eq_true hg]; rfl
    · obtain ⟨j, hj, hp⟩ := tabGlob_ok h
      exact ⟨j + 1, by omega, hp⟩
theorem tabs_glob {l : List Tab} : ∀ g i, assoc g (tabGlob 0 l) = some i → (tabPl l)[i]? = some (g, 0) := fun g i h => by
  obtain ⟨j, hj, hp⟩ := tabGlob_ok h
  rw [hj, Nat.zero_add]; exact hp

/-- the tables, as what is known of a world -/
def jxTabs (l : List Tab) : Jx where
  J w := ∀ t ∈ l, TabOk w t
  G := l.map (·.1)
  closed w w' h hb t ht := by
    obtain ⟨ty, fr, hh⟩ := h t ht
    exact ⟨ty, fr, (hb t.1 (List.mem_map.2 ⟨t, ht, rfl⟩)).trans hh⟩
  inb w h b hb := by
    obtain ⟨t, ht, rfl⟩ := List.mem_map.1 hb
    obtain ⟨ty, fr, hh⟩ := h t ht
    exact lt_of_heap hh

/-! ### laws -/
theorem calls_all (hO : CxOk cx) (hs : ∀ m ∈ cx.sums, SumOk cx.P jx ρ m) {fuel : Nat} {f : FuncId} {pc : PC} {args : List AV} {vals : List Value} {Φ : Leaf → Prop}
    (h : (evFn cx fuel f heap pc args).All ρ Φ) (hg : ∀ g l, assoc g cx.glob = some l → β[l]? = some (g, 0)) (hh : HeapOk ρ jx W wr β heap w) (hf : Fr W wr w) (hp : pcOk ρ pc) (hj : jx.J w)
    (ha : All2 (AV.Is ρ β) args vals) : Calls cx.P f vals.toArray w fun e w' => ∃ r, Φ r ∧ CallPost jx ρ W wr β r.1 r.2.1 r.2.2 e w' := by
  obtain ⟨r, hr, hΦ⟩ := Tr.pick_all h
  exact (evFn_ok hO hs (r := r.1) (heap' := r.2.1) (pc' := r.2.2) hr hg hh hf hp hj ha).mono fun e w' hc => ⟨r, hΦ, hc⟩
/-! ### functions that are summed up -/
/-- a function that yields what hangs on its arguments alone, and changes nothing that was there -/
def pureSum (f : FuncId) (run : PC → List AV → Option AV) : Sum := ⟨f, fun pc heap args => (run pc args).map fun r => (r, heap, pc)⟩
theorem pureSum_ok {f : FuncId} {run : PC → List AV → Option AV} (he : Enters P f)
    (hc : ∀ pc args r (vals : List Value) w β, run pc args = some r → pcOk ρ pc → jx.J w → All2 (AV.Is ρ β) args vals → Calls P f vals.toArray w fun e w' => (∃ v, e = .returned v ∧ r.Is ρ β v) ∧ Below w.heap.size w w') : SumOk P jx ρ (pureSum f run) := by
  refine ⟨he, fun W wr β heap w pc args vals r heap' pc' hr hp hh hf hj ha => ?_⟩
  simp only [pureSum, Option.map_eq_some_iff, Prod.mk.injEq] at hr
  obtain ⟨r', hr, rfl, rfl, rfl⟩ := hr
  exact (hc pc args r' vals w β hr hp hj ha).mono fun e w' ⟨⟨v, he, hv⟩, hb⟩ => ⟨v, β, he, List.prefix_refl _, hv, hh.below hb, hf.below hb, Jx.below hj hb, hp⟩

/-! ### numbers as arguments -/
end

/-- numbers from a list -/
def envOf (xs : List Int) : Env := ⟨fun i => xs.getD i 0, fun _ _ => 0, fun _ => undef⟩

end Go.Proofs.YtjcacjeoddnmhaaDoor.Ev

/- Functions that yield a truth or a number which a term says: by the evaluator's leaves. -/
namespace Go.Proofs.YtjcacjeoddnmhaaDoor.Ev
open Go Go.RowKit

def allLeaves (p : Leaf → Bool) : Tr Leaf → Bool
  | .leaf x => p x
  | .node _ t e => allLeaves p t && allLeaves p e
  | .bad _ => false
theorem allLeaves_ok {ρ : Env} {p : Leaf → Bool} : ∀ {t : Tr Leaf}, allLeaves p t = true → t.All ρ (fun r => p r = true)
  | .leaf _, h => h
  | .node c t e, h => by
    simp only [allLeaves, Bool.and_eq_true] at h
    exact ⟨fun _ => allLeaves_ok h.1, fun _ => allLeaves_ok h.2⟩
  | .bad _, h => by simp [allLeaves] at h
def boolIs (T : PC → E) (r : Leaf) : Bool := match r.1 with
  | .v (.c (.bool e)) => isLit 1 (mkEq r.2.2 e (T r.2.2))
  | _ => false
section
variable {cx : Cx} {jx : Jx} {ρ : Env} {W : World} {wr : List Nat} {β : Pl} {heap : List Blk} {w : World}
theorem eq_of_lit {pc : PC} (hp : pcOk ρ pc) {a b : E} (h : isLit 1 (mkEq pc a b) = true) : a.den ρ = b.den ρ := by
  have h1 := isLit_den h (ρ := ρ)
  rw [mkEq_den hp] at h1
  by_cases he : a.den ρ = b.den ρ
  · exact he
  · simp [he, truth] at h1
theorem bool_calls (hO : CxOk cx) (hs : ∀ m ∈ cx.sums, SumOk cx.P jx ρ m) {fuel : Nat} {f : FuncId} {pc : PC} {args : List AV} {vals : List Value} {tabs : List Tab} (T : PC → E) (t : Int)
    (h : allLeaves (boolIs T) (evFn cx fuel f (tabBlks tabs) pc args) = true) (hT : ∀ pc, pcOk ρ pc → (T pc).den ρ = t) (hg : cx.glob = tabGlob 0 tabs) (ht : ∀ t ∈ tabs, TabOk w t) (hp : pcOk ρ pc) (hj : jx.J w)
    (ha : All2 (AV.Is ρ (tabPl tabs)) args vals) : Calls cx.P f vals.toArray w fun e w' => e = .returned (.bool (tb t)) ∧ Below w.heap.size w w' := by
  refine (calls_all (W := w) (wr := []) hO hs (allLeaves_ok h) (by rw [hg]; exact tabs_glob) (heapOk_tabs ht) (Fr.refl w []) hp hj ha).mono ?_
  rintro e w' ⟨r, hr, v, β', rfl, hb, hv, _, hfr, _, hp'⟩
  unfold boolIs at hr
  split at hr
  · rename_i c hc
    rw [hc] at hv
    have hv' : v = .bool (tb (c.den ρ)) := hv
    rw [hv', eq_of_lit hp' hr, hT _ hp']
    exact ⟨rfl, hfr.to_below⟩
  · cases hr
end
/-- is a term surely within bounds? -/
def inR (pc : PC) (e : E) (lo hi : Int) : Bool := match rng pc e with
  | some r => decide (lo ≤ r.1) && decide (r.2 ≤ hi)
  | none => false
theorem inR_ok {ρ : Env} {pc : PC} (hp : pcOk ρ pc) {e : E} {lo hi : Int} (h : inR pc e lo hi = true) : lo ≤ e.den ρ ∧ e.den ρ ≤ hi := by
  unfold inR at h
  split at h
  · rename_i r hr
    simp only [Bool.and_eq_true, decide_eq_true_eq] at h
    have := rng_sound hp hr
    omega
  · cases h

end Go.Proofs.YtjcacjeoddnmhaaDoor.Ev

/- Two ways that yield truths, set against each other: they agree wherever both may be. -/
namespace Go.Proofs.YtjcacjeoddnmhaaDoor.Ev
open Go Go.RowKit

def agreeLeaf (e1 : E) : PC → Tr Leaf → Bool
  | pc, .leaf r => (match r.1 with
    | .v (.c (.bool e2)) => isLit 1 (mkEq pc e1 e2)
    | _ => false)
  | pc, .node c t e => match rng pc c with
    | some r => if decide (0 < r.1) || decide (r.2 < 0) then agreeLeaf e1 pc t else if decide (r.1 = 0) && decide (r.2 = 0) then agreeLeaf e1 pc e else
        (match assume pc c true with | some p => agreeLeaf e1 p t | none => true) && (match assume pc c false with | some p => agreeLeaf e1 p e | none => true)
    | none => (match assume pc c true with | some p => agreeLeaf e1 p t | none => true) && (match assume pc c false with | some p => agreeLeaf e1 p e | none => true)
  | _, .bad _ => false
def agree (t2 : Tr Leaf) : PC → Tr Leaf → Bool
  | pc, .leaf r => (match r.1 with
    | .v (.c (.bool e1)) => agreeLeaf e1 pc t2
    | _ => false)
  | pc, .node c t e => (match assume pc c true with | some p => agree t2 p t | none => true) && (match assume pc c false with | some p => agree t2 p e | none => true)
  | _, .bad _ => false
def BoolAt (ρ : Env) (t : Tr Leaf) (b : Bool) : Prop := ∃ r e, t.pick ρ = some r ∧ r.1 = .v (.c (.bool e)) ∧ tb (e.den ρ) = b

section
variable {ρ : Env}
theorem boolAt_node {c : E} {t e : Tr Leaf} {b : Bool} : BoolAt ρ (.node c t e) b ↔ if c.den ρ = 0 then BoolAt ρ e b else BoolAt ρ t b := by
  have hp : (Tr.node c t e).pick ρ = if c.den ρ = 0 then e.pick ρ else t.pick ρ := rfl
  unfold BoolAt
  rw [hp]
  by_cases h : c.den ρ = 0
  · rw [if_pos h, if_pos h]
  · rw [if_neg h, if_neg h]
theorem assume_step {pc : PC} (hp : pcOk ρ pc) {c : E} {v : Bool} (hv : (c.den ρ ≠ 0) ↔ v = true) {f : PC → Bool} (h : (match assume pc c v with | some p => f p | none => true) = true) : ∃ p, pcOk ρ p ∧ f p = true := by
  obtain ⟨p, h1, h2⟩ := assume_some hp hv
  rw [h1] at h
  exact ⟨p, h2, h⟩
theorem agreeLeaf_ok {e1 : E} : ∀ {t : Tr Leaf} {pc : PC}, pcOk ρ pc → agreeLeaf e1 pc t = true → BoolAt ρ t (tb (e1.den ρ))
  | .leaf r, pc, hp, h => by
    unfold agreeLeaf at h
    split at h
    · rename_i e2 he
      exact ⟨r, e2, rfl, he, by rw [eq_of_lit hp h]⟩
    · cases h
  | .node c t e, pc, hp, h => by
    have both : ((match assume pc c true with | some p => agreeLeaf e1 p t | none => true) && (match assume pc c false with | some p => agreeLeaf e1 p e | none => true)) = true → BoolAt ρ (.node c t e) (tb (e1.den ρ)) := by
      intro h
      rw [Bool.and_eq_true] at h
      rw [boolAt_node]
      by_cases hc : c.den ρ = 0
      · rw [if_pos hc]
        obtain ⟨p, hp', hf⟩ := assume_step hp (v := false) (by simp [hc]) h.2
        exact agreeLeaf_ok hp' hf
      · rw [if_neg hc]
        obtain ⟨p, hp', hf⟩ := assume_step hp (v := true) (by simp [hc]) h.1
        exact agreeLeaf_ok hp' hf
    unfold agreeLeaf at h
    split at h
    · rename_i r hr
      have hb := rng_sound hp hr
      split at h
      · rename_i hd
        rw [boolAt_node, if_neg (by simp at hd; omega)]
        exact agreeLeaf_ok hp h
      · split at h
        · rename_i hd
          rw [boolAt_node, if_pos (by simp at hd; omega)]
          exact agreeLeaf_ok hp h
        · exact both h
    · exact both h
  | .bad _, _, _, h => by simp [agreeLeaf] at h
theorem agree_ok {t2 : Tr Leaf} : ∀ {t : Tr Leaf} {pc : PC}, pcOk ρ pc → agree t2 pc t = true → ∃ b, BoolAt ρ t b ∧ BoolAt ρ t2 b
  | .leaf r, pc, hp, h => by
    unfold agree at h
    split at h
    · rename_i e1 he
      exact ⟨_, ⟨r, e1, rfl, he, rfl⟩, agreeLeaf_ok hp h⟩
    · cases h
  | .node c t e, pc, hp, h => by
    unfold agree at h
    rw [Bool.and_eq_true] at h
    by_cases hc : c.den ρ = 0
    · obtain ⟨p, hp', hf⟩ := assume_step hp (v := false) (by simp [hc]) h.2
      obtain ⟨b, h1, h2⟩ := agree_ok hp' hf
      exact ⟨b, by rw [boolAt_node, if_pos hc]; exact h1, h2⟩
    · obtain ⟨p, hp', hf⟩ := assume_step hp (v := true) (by simp [hc]) h.1
      obtain ⟨b, h1, h2⟩ := agree_ok hp' hf
      exact ⟨b, by rw [boolAt_node, if_neg hc]; exact h1, h2⟩
  | .bad _, _, _, h => by simp [agree] at h
variable {cx : Cx} {jx : Jx} {W : World} {w : World}
theorem boolAt_calls (hO : CxOk cx) (hs : ∀ m ∈ cx.sums, SumOk cx.P jx ρ m) {fuel : Nat} {f : FuncId} {pc : PC} {args : List AV} {vals : List Value} {tabs : List Tab} {b : Bool}
    (h : BoolAt ρ (evFn cx fuel f (tabBlks tabs) pc args) b) (hg : cx.glob = tabGlob 0 tabs) (ht : ∀ t ∈ tabs, TabOk w t) (hp : pcOk ρ pc) (hj : jx.J w)
    (ha : All2 (AV.Is ρ (tabPl tabs)) args vals) : Calls cx.P f vals.toArray w fun e w' => e = .returned (.bool b) ∧ Below w.heap.size w w' := by
  obtain ⟨r, c, hr, hc, hb⟩ := h
  refine (evFn_ok (W := w) (wr := []) hO hs (r := r.1) (heap' := r.2.1) (pc' := r.2.2) hr (by rw [hg]; exact tabs_glob) (heapOk_tabs ht) (Fr.refl w []) hp hj ha).mono ?_
  rintro e w' ⟨v, β', rfl, _, hv, _, hfr, _, _⟩
  rw [hc] at hv
  have hv' : v = .bool (tb (c.den ρ)) := hv
  rw [hv', hb]
  exact ⟨rfl, hfr.to_below⟩
end

end Go.Proofs.YtjcacjeoddnmhaaDoor.Ev

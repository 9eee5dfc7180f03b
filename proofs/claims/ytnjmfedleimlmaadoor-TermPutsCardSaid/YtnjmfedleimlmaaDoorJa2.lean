/- What the laws of this claim are proved with, joined (join.py) of 10 texts: no condition. -/
import Derived.Test.YtnjmfedleimlmaaDoorJa1
import Derived.Test.YtnjmfedleimlmaaDoorChecked
import Derived.Deep.AppendLies
set_option linter.unusedVariables false

/- Calls, and every operation, are carried out as the evaluator says. -/
namespace Go.Proofs.YtnjmfedleimlmaaDoor.Ev
open Go Go.RowKit

structure Rel (cx : Cx) (jx : Jx) (ρ : Env) (W : World) (wr : List Nat) (β : Pl) (s : St) (a : Act) (w : World) : Prop where
  tm : Tmps cx ρ β s a
  heap : HeapOk ρ jx W wr β s.heap w
  fr : Fr W wr w
  pc : pcOk ρ s.pc
  j : jx.J w

/-- what a call leaves -/
def CallPost (jx : Jx) (ρ : Env) (W : World) (wr : List Nat) (β : Pl) (r : AV) (heap' : List Blk) (pc' : PC) (e : Ending) (w' : World) : Prop :=
  ∃ v β', e = .returned v ∧ β <+: β' ∧ r.Is ρ β' v ∧ HeapOk ρ jx W wr β' heap' w' ∧ Fr W wr w' ∧ jx.J w' ∧ pcOk ρ pc'
def Enters (P : Program) (f : FuncId) : Prop := ∀ args w, (callFunc f args).run P w = .ok (.enter f args) w
structure SumOk (P : Program) (jx : Jx) (ρ : Env) (m : Sum) : Prop where
  enters : Enters P m.f
  calls : ∀ W wr β heap w pc args vals r heap' pc', m.run pc heap args = some (r, heap', pc') → pcOk ρ pc → HeapOk ρ jx W wr β heap w → Fr W wr w → jx.J w → All2 (AV.Is ρ β) args vals →
    Calls P m.f vals.toArray w (CallPost jx ρ W wr β r heap' pc')
def QX (Q : Exit → Act → World → Prop) : X → Act → World → Prop
  | .nml, a, w => Q .normal a w
  | .exit id, a, w => Q (.exit id) a w
  | .ret, a, w => Q .ret a w
def IhOk (cx : Cx) (jx : Jx) (ρ : Env) (ih : Code → St → Tr (X × St)) : Prop :=
  ∀ W wr β s a w c Q x s', (ih c s).pick ρ = some (x, s') → Rel cx jx ρ W wr β s a w → (∀ β' a' w', β <+: β' → Rel cx jx ρ W wr β' s' a' w' → QX Q x a' w') → Code.wp cx.P c Q a w

section
variable {P : Program} {cx : Cx} {jx : Jx} {ρ : Env} {W : World} {wr : List Nat} {β β' : Pl} {heap : List Blk} {w w' : World}

/-! ### what a function yields -/
theorem run_mapM_list {α γ : Type} {f : α → Sem γ} {R : α → γ → Prop} : ∀ (l : List α), (∀ x ∈ l, ∃ y, (f x).run P w = .ok y w ∧ R x y) → ∃ r, (l.mapM f).run P w = .ok r w ∧ All2 R l r
  | [], _ => ⟨[], rfl, trivial⟩
  | x :: l, h => by
    obtain ⟨y, hy, hR⟩ := h x (by simp)
    obtain ⟨r, hr, hA⟩ := run_mapM_list l fun z hz => h z (by simp [hz])
    exact ⟨y :: r, by simp [List.mapM_cons, hy, hr], hR, hA⟩
theorem trans_allSome {α γ δ : Type} {f : α → Option γ} {S : γ → δ → Prop} : ∀ {l : List α} {r : List δ} {q : List γ}, All2 (fun x y => ∃ z, f x = some z ∧ S z y) l r → allSome (l.map f) = some q → All2 S q r
  | [], [], q, _, h => by simp only [List.map_nil, allSome, Option.some.injEq] at h; subst h; trivial
  | x :: l, y :: r, q, ⟨⟨z, hz, hS⟩, hr⟩, h => by
    simp only [List.map_cons, hz, allSome, Option.map_eq_some_iff] at h
    obtain ⟨q', hq, rfl⟩ := h
    exact ⟨hS, trans_allSome hr hq⟩
  | [], _ :: _, _, h, _ => h.elim
  | _ :: _, [], _, h, _ => h.elim
theorem allSome_mem {α γ : Type} {f : α → Option γ} : ∀ {l : List α} {q : List γ}, allSome (l.map f) = some q → ∀ x ∈ l, ∃ z, f x = some z
  | [], _, _, x, hx => by cases hx
  | y :: l, q, h, x, hx => by
    simp only [List.map_cons] at h
    cases hy : f y with
    | none => rw [hy] at h; simp [allSome] at h
    | some z =>
      rw [hy] at h
      simp only [allSome, Option.map_eq_some_iff] at h
      obtain ⟨q', hq, _⟩ := h
      rcases List.mem_cons.1 hx with rfl | hx
      · exact ⟨z, hy⟩
      · exact allSome_mem hq x hx
theorem resA_ok {s : St} {a : Act} (h : Rel cx jx ρ W wr β s a w) {rv : ResultVar} {x : A1} (hr : resA cx s rv = some x) :
    ∃ v, ((match rv with
      | .tmp t => pure (a.tmps.getD t undef)
      | .cell b t => do loadVar t (← asAddr (a.tmps.getD b undef)) : Sem Value)).run cx.P w = .ok v w ∧ x.Is ρ β v := by
  cases rv with
  | tmp t =>
    simp only [resA, Option.bind_eq_some_iff] at hr
    obtain ⟨y, hy, hx⟩ := hr
    obtain ⟨v, hv, hi⟩ := h.tm.get t y hy
    refine ⟨v, by simp [hv], ?_⟩
    cases y with
    | v q => simp only [asV, Option.some.injEq] at hx; subst hx; exact hi
    | t l => simp [asV] at hx
  | cell b t =>
    simp only [resA, Option.bind_eq_some_iff] at hr
    obtain ⟨y, hy, hx⟩ := hr
    obtain ⟨v, hv, hi⟩ := h.tm.get b y hy
    split at hx
    · rename_i l off
      obtain ⟨r, hri, hrun⟩ := evLoad_ok h.tm.ok h.heap h.pc hi hx
      obtain ⟨p, hp, rfl⟩ := hi
      refine ⟨r, ?_, hri⟩
      simp only [Instr.loadAt, Instr.sureAddr, Sem.run_bind, Sem.run_pure, Result.andThen_ok] at hrun
      simp [hv, asAddr, hrun]
    · cases hx
theorem resultsA_ok {s : St} {a : Act} {fn : Func} (h : Rel cx jx ρ W wr β s a w) {x : AV} (hr : resultsA cx fn.results.toList s = some x) : ∃ v, (results fn a.tmps).run cx.P w = .ok v w ∧ x.Is ρ β v := by
  have key : ∀ q, allSome (fn.results.toList.map (resA cx s)) = some q → x = (match q with | [x] => .v x | l => .t l) → ∃ v, (results fn a.tmps).run cx.P w = .ok v w ∧ x.Is ρ β v := by
    intro q hq hxq
    obtain ⟨r, hrun, hA⟩ := run_mapM_list (P := cx.P) (w := w) (f := fun rv : ResultVar => (match rv with
      | .tmp t => pure (a.tmps.getD t undef)
      | .cell b t => do loadVar t (← asAddr (a.tmps.getD b undef)) : Sem Value)) (R := fun rv v => ∃ z, resA cx s rv = some z ∧ z.Is ρ β v) fn.results.toList (fun rv hrv => by
        obtain ⟨z, hz⟩ := allSome_mem hq rv hrv
        obtain ⟨v, h1, h2⟩ := resA_ok h hz
        exact ⟨v, h1, z, hz, h2⟩)
    have hAq := trans_allSome hA hq
    have hres : (results fn a.tmps).run cx.P w = .ok (if h : r.toArray.size = 1 then r.toArray[0] else .tuple r.toArray) w := by
      unfold results
      rw [Array.mapM_eq_mapM_toList]
      simp only [Sem.run_bind, Sem.run_map]
      erw [hrun]
      rfl
    rw [hres]
    refine ⟨_, rfl, ?_⟩
    match q, r, hAq, hxq with
    | [], [], _, hxq => subst hxq; exact ⟨#[], rfl, trivial⟩
    | [z], [v], hA, hxq => subst hxq; exact hA.1
    | z :: z' :: q, v :: v' :: r, hA, hxq => subst hxq; rw [dif_neg (by simp)]; exact ⟨_, rfl, by simpa using hA⟩
  unfold resultsA at hr
  split at hr
  · rename_i t heq
    obtain ⟨v, hv, hi⟩ := h.tm.get t x hr
    refine ⟨v, ?_, hi⟩
    have hfr : fn.results = #[.tmp t] := by rw [← Array.toList_inj]; simpa using heq
    simp [results, hfr, hv]
  · rw [Option.map_eq_some_iff] at hr
    obtain ⟨q, hq, rfl⟩ := hr
    exact key q hq rfl

/-! ### what is let go -/
theorem AT.below_is {n : Nat} {a : AT} {v : Value} (hb : a.below n = true) (h : a.Is ρ β v) : a.Is ρ (β.take n) v := by
  have g : ∀ {l : Nat} {p : Nat × Nat}, Nat.blt l n = true → β[l]? = some p → (β.take n)[l]? = some p := fun hl hp => by
    have hl' : _ < n := Nat.le_of_ble_eq_true hl
    rw [List.getElem?_take, if_pos hl']; exact hp
  cases a <;> simp only [AT.Is, AT.below] at h hb ⊢
  case int => exact h
  case bool => exact h
  case val => exact h
  case ptr => obtain ⟨p, hp, e⟩ := h; exact ⟨p, g hb hp, e⟩
  case pti => obtain ⟨p, hp, e⟩ := h; exact ⟨p, g hb hp, e⟩
  case slc => obtain ⟨p, hp, e⟩ := h; exact ⟨p, g hb hp, e⟩
  case opq => exact h
theorem mem_imp {α γ : Type} {R S : α → γ → Prop} : ∀ {l : List α} {m : List γ}, (∀ a ∈ l, ∀ b, R a b → S a b) → All2 R l m → All2 S l m
  | [], [], _, _ => trivial
  | a :: l, b :: m, hi, h => ⟨hi a (by simp) b h.1, mem_imp (fun x hx => hi x (by simp [hx])) h.2⟩
  | [], _ :: _, _, h => h.elim
  | _ :: _, [], _, h => h.elim
theorem A1.below_is {n : Nat} {x : A1} {v : Value} (hb : x.below n = true) (h : x.Is ρ β v) : x.Is ρ (β.take n) v := by
  cases x with
  | c a => exact AT.below_is (by simpa [A1.below, A1.cells] using hb) h
  | g l =>
    obtain ⟨cs, e, hc⟩ := h
    exact ⟨cs, e, mem_imp (fun a ha v hv => AT.below_is (List.all_eq_true.1 (show l.all (·.below n) = true from hb) a ha) hv) hc⟩
theorem AV.below_is {n : Nat} {x : AV} {v : Value} (hb : x.below n = true) (h : x.Is ρ β v) : x.Is ρ (β.take n) v := by
  cases x with
  | v x => exact A1.below_is hb h
  | t l =>
    obtain ⟨cs, e, hc⟩ := h
    exact ⟨cs, e, mem_imp (fun a ha v hv => A1.below_is (List.all_eq_true.1 (show l.all (·.below n) = true from hb) a ha) hv) hc⟩
theorem HeapOk.take {n : Nat} (h : HeapOk ρ jx W wr β heap w) (hb : (heap.take n).all (fun b => b.cells.all (·.below n)) = true) : HeapOk ρ jx W wr (β.take n) (heap.take n) w := by
  refine ⟨by simp [h.1], fun l b hl => ?_⟩
  have hmem : b ∈ heap.take n := List.mem_of_getElem? hl
  have hbb := List.all_eq_true.1 hb b hmem
  rw [List.getElem?_take] at hl
  split at hl
  · rename_i hln
    obtain ⟨p, arr, ty, fr, h1, h2, h3, h4⟩ := h.2 l b hl
    refine ⟨p, arr, ty, fr, by rw [List.getElem?_take, if_pos hln]; exact h1, h2, fun j x hx => ?_, fun hrw => ?_⟩
    · obtain ⟨v, hv, hi⟩ := h3 j x hx
      exact ⟨v, hv, AT.below_is (List.all_eq_true.1 hbb x (List.mem_of_getElem? hx)) hi⟩
    · obtain ⟨g1, g2, g3, g4⟩ := h4 hrw
      refine ⟨g1, fun l' q hne hq => ?_, g3, g4⟩
      rw [List.getElem?_take] at hq
      split at hq
      · exact g2 l' q hne hq
      · cases hq
  · cases hl
theorem trim_ok {n : Nat} {x : AV} {v : Value} (hn : n = β.length) (hb : β <+: β') (h : HeapOk ρ jx W wr β' heap w) (hx : x.Is ρ β' v) :
    ∃ β'', β <+: β'' ∧ x.Is ρ β'' v ∧ HeapOk ρ jx W wr β'' (trim n x heap) w := by
  unfold trim
  split
  · rename_i hc
    simp only [Bool.and_eq_true] at hc
    refine ⟨β'.take n, ?_, AV.below_is hc.1 hx, h.take hc.2⟩
    obtain ⟨t, rfl⟩ := hb
    subst hn
    simp
  · exact ⟨β', hb, hx, h⟩

/-! ### calls -/
theorem get_number {args : List AV} : ∀ {k : Nat} {m : TM} {t : Nat}, k + args.length ≤ 16777215 → (number k args m).get t = if k ≤ t ∧ t < k + args.length then args[t - k]? else m.get t := by
  induction args with
  | nil => intro k m t _; rw [if_neg (fun h => by simp at h; omega)]; rfl
  | cons y l ih =>
    intro k m t hk
    simp only [List.length_cons] at hk ⊢
    simp only [number]
    rw [ih (by omega), TM.set_get _ _ _ (by omega)]
    by_cases h1 : k + 1 ≤ t ∧ t < k + 1 + l.length
    · rw [if_pos h1, if_pos (by omega), show t - k = (t - (k + 1)) + 1 by omega, List.getElem?_cons_succ]
    · rw [if_neg h1]
      by_cases h2 : t = k
      · subst h2; rw [if_pos rfl, if_pos (by omega)]; simp
      · rw [if_neg h2, if_neg (by omega)]
theorem find_number {args : List AV} {t : Nat} {x : AV} (hk : args.length ≤ 16777215) (h : find t (number 0 args .nil) = some x) : args[t]? = some x := by
  unfold find at h
  rw [get_number (by omega)] at h
  split at h
  · simpa using h
  · cases h

theorem sumOf_mem : ∀ {l : List Sum} {f : FuncId} {m : Sum}, sumOf f l = some m → m ∈ l ∧ m.f = f
  | [], f, m, h => by simp [sumOf] at h
  | s :: l, f, m, h => by
    simp only [sumOf] at h
    split at h
    · rename_i he; cases h; exact ⟨by simp, Nat.eq_of_beq_eq_true he⟩
    · obtain ⟨h1, h2⟩ := sumOf_mem h; exact ⟨by simp [h1], h2⟩

theorem enters_of {f : FuncId} {fn : Func} {c : Code} (hf : P.funcs[f]? = some fn) (hb : fn.body = some c) (hn : (fn.name == "runtime.NumGoroutine") = false) : Enters P f := fun args w => by
  have hn' : fn.name ≠ "runtime.NumGoroutine" := by simpa using hn
  simp [callFunc, hf, hb, hn']

theorem evCall_ok (hO : CxOk cx) {ih : Code → St → Tr (X × St)} (hih : IhOk cx jx ρ ih) (hs : ∀ m ∈ cx.sums, SumOk cx.P jx ρ m) {s : St} {f : FuncId} {args : List AV} {vals : List Value} {r : AV} {heap' : List Blk} {pc' : PC}
    (hg : ∀ g l, assoc g cx.glob = some l → β[l]? = some (g, 0)) (hh : HeapOk ρ jx W wr β s.heap w) (hf : Fr W wr w) (hp : pcOk ρ s.pc) (hj : jx.J w)
    (ha : All2 (AV.Is ρ β) args vals) (h : (evCall cx ih s f args).pick ρ = some (r, heap', pc')) : Enters cx.P f ∧ Calls cx.P f vals.toArray w (CallPost jx ρ W wr β r heap' pc') := by
  unfold evCall at h
  split at h
  · rename_i m hm
    obtain ⟨y, hy, h⟩ := must_pick h
    cases leaf_eq h
    obtain ⟨hmem, rfl⟩ := sumOf_mem hm
    exact ⟨(hs m hmem).enters, (hs m hmem).calls W wr β _ w _ _ _ _ _ _ hy hp hh hf hj ha⟩
  · split at h
    · rename_i fn hfn
      have hfn := hO.fn _ (lkT_mem hfn)
      split at h
      · rename_i c hc
        split at h
        · rename_i hle
          simp only [Bool.and_eq_true, Bool.not_eq_true'] at hle
          have hle' : args.length ≤ fn.ntmps := Nat.le_of_ble_eq_true hle.1.1
          have hlim : fn.ntmps ≤ 16777215 := Nat.le_of_ble_eq_true hle.1.2
          obtain ⟨⟨x, s'⟩, hx, h⟩ := Tr.pick_bind_some h
          have hal := ha.length
          have hRel : Rel cx jx ρ W wr β { n := fn.ntmps, tmps := number 0 args .nil, heap := s.heap, pc := s.pc } { tmps := vals.toArray ++ Array.replicate (fn.ntmps - vals.toArray.size) undef, defers := [] } w := by
            refine ⟨⟨hO, hlim, rfl, by simp; omega, fun t y hy => ?_, hg⟩, hh, hf, hp, hj⟩
            have h2 := find_number (by omega) hy
            obtain ⟨v, hv, hi⟩ := ha.get h2
            have ht : t < vals.length := (List.getElem?_eq_some_iff.1 hv).1
            exact ⟨v, by rw [Array.getElem?_append_left (by simpa using ht)]; simpa using hv, hi⟩
          have fin : ∀ v, resultsA cx fn.results.toList s' = some v → (v, trim s.heap.length v s'.heap, s'.pc) = (r, heap', pc') → ∀ β' a' w', β <+: β' → Rel cx jx ρ W wr β' s' a' w' →
              a'.defers = [] ∧ ∃ v, (results fn a'.tmps).run cx.P w' = .ok v w' ∧ CallPost jx ρ W wr β r heap' pc' (.returned v) w' := by
            intro v hv he β' a' w' hb hR
            cases he
            obtain ⟨u, hu, hui⟩ := resultsA_ok hR hv
            obtain ⟨β'', h1, h2, h3⟩ := trim_ok (hh.1).symm hb hR.heap hui
            exact ⟨hR.tm.defers, u, hu, u, β'', rfl, h1, h2, h3, hR.fr, hR.j, hR.pc⟩
          refine ⟨enters_of hfn hc hle.2, calls_of_wp hfn hc (hih W wr β _ _ w c _ x s' hx hRel fun β' a' w' hb hR => ?_)⟩
          cases x with
          | nml =>
            obtain ⟨v, hv, h⟩ := must_pick h
            exact fin v hv (leaf_eq h) β' a' w' hb hR
          | ret =>
            obtain ⟨v, hv, h⟩ := must_pick h
            exact fin v hv (leaf_eq h) β' a' w' hb hR
          | exit id => simp [Tr.pick] at h
        · simp [Tr.pick] at h
      · simp [Tr.pick] at h
    · simp [Tr.pick] at h

/-! ### an operation -/
theorem asArgs_ok {s : St} {a : Act} (hT : Tmps cx ρ β s a) {l : List Operand} {q : List AV} (h : asArgs cx s l = some q) : All2 (AV.Is ρ β) q (l.map a.eval) :=
  All2.allSome (fun _ _ hc => hT.ev hc) l h
theorem fill_len {place : Nat → Option (Nat × Nat)} : ∀ {vs : List (Nat × Value)} {A B : Array Value}, Instr.fill place A vs = some B → True
  | _, _, _, _ => trivial
theorem replicate_all2 {z : List AT} {v : Array Value} (h : All2 (AT.Is ρ β) z v.toList) : ∀ n, All2 (AT.Is ρ β) ((List.replicate n z).flatten) ((List.replicate n v.toList).flatten)
  | 0 => trivial
  | n + 1 => by simp only [List.replicate_succ, List.flatten_cons]; exact h.append (replicate_all2 h n)
theorem zeros_eq {v : Array Value} (n : Nat) (hv : 0 < v.size) : ((Array.range (n * v.size)).map fun i => v[i % v.size]!).toList = (List.replicate n v.toList).flatten := by
  apply List.ext_getElem?
  intro i
  simp only [Array.toList_map, Array.toList_range, List.getElem?_map]
  by_cases hi : i < n * v.size
  · rw [List.getElem?_range hi]
    have hm : i % v.size < v.size := Nat.mod_lt _ hv
    have key : ∀ n i, i < n * v.size → (List.replicate n v.toList).flatten[i]? = v.toList[i % v.size]? := by
      intro n
      induction n with
      | zero => intro i hi; simp at hi
      | succ n ih =>
        intro i hi
        simp only [List.replicate_succ, List.flatten_cons]
        by_cases h : i < v.size
        · rw [List.getElem?_append_left (by simpa using h), Nat.mod_eq_of_lt h]
        · rw [List.getElem?_append_right (by simp; omega), ih _ (by simp; rw [Nat.succ_mul] at hi; omega)]
          simp only [Array.length_toList]
          rw [← Nat.mod_eq_sub_mod (by omega)]
    rw [key n i hi]
    simp [hm]
  · have h1 : (List.replicate n v.toList).flatten.length = n * v.size := by simp
    rw [List.getElem?_eq_none (by simp; omega), List.getElem?_eq_none (by omega)]
    rfl

/-- an operation's result, where it yields a value and does not fall -/
def resE (P : Program) (K : Value → World → Prop) : Result Next → Prop
  | .ok (.value u) w' => K u w'
  | .ok .skip w' => K undef w'
  | .ok (.enter f args) w' => Calls P f args w' (fun e w'' => ∃ u, e = .returned u ∧ K u w'')
  | _ => False
theorem resE_mono {K K' : Value → World → Prop} (hK : ∀ v w, K v w → K' v w) {r : Result Next} (h : resE P K r) : resE P K' r := by
  cases r with
  | ok n w =>
    cases n <;> simp only [resE] at h ⊢
    case enter f args => exact h.mono fun e w' ⟨u, he, hu⟩ => ⟨u, he, hK _ _ hu⟩
    all_goals exact hK _ _ h
  | halt x w => exact h.elim
theorem resE_wp {o : Oper} {a : Act} {K : Value → World → Prop} {K' : Act → World → Prop} {Q : Exit → Act → World → Prop} (h : resE P K ((execOp a.eval o).run P w)) (hK : ∀ v w', K v w' → K' (a.put o.dst v) w') : o.wp P a w K' Q := by
  unfold Oper.wp
  generalize (execOp a.eval o).run P w = r at *
  cases r with
  | ok n w =>
    cases n <;> simp only [resE] at h
    case value u => exact hK _ _ h
    case skip => exact hK _ _ h
    case enter f args => exact h.mono fun e w' ⟨u, he, hu⟩ => by subst he; exact hK _ _ hu
  | halt x w => exact h.elim

/-- the operation's own post: what the temporary will be, and the world -/
def OpPost (cx : Cx) (jx : Jx) (ρ : Env) (W : World) (wr : List Nat) (β : Pl) (s' : St) (a : Act) (x : AV) (v : Value) (w' : World) : Prop :=
  ∃ β', β <+: β' ∧ Rel cx jx ρ W wr β' s' a w' ∧ x.Is ρ β' v
theorem evOp_ok {ih : Code → St → Tr (X × St)} (hih : IhOk cx jx ρ ih) (hs : ∀ m ∈ cx.sums, SumOk cx.P jx ρ m) {s s' : St} {a : Act} {o : Oper} {x : AV}
    (hR : Rel cx jx ρ W wr β s a w) (h : (evOp cx ih s o).pick ρ = some (x, s')) : resE cx.P (OpPost cx jx ρ W wr β s' a x) ((execOp a.eval o).run cx.P w) := by
  have pureCase : (∀ z pc', (evPure cx s o).pick ρ = some (z, pc') → (z, { s with pc := pc' }) = (x, s') → resE cx.P (OpPost cx jx ρ W wr β s' a x) ((execOp a.eval o).run cx.P w)) := by
    intro z pc' hz he
    cases he
    obtain ⟨h1, r, h2, h3⟩ := evPure_ok hR.tm hR.pc hz
    rw [h3 w]
    exact ⟨β, List.prefix_refl _, ⟨hR.tm.of rfl rfl, hR.heap, hR.fr, h1, hR.j⟩, h2⟩
  have newCase : ∀ {cs : List AT} {vs : Array Value} {ty ty' : TypeId} {y : AV} {v : Value}, All2 (AT.Is ρ β) cs vs.toList → (y, { s with heap := s.heap ++ [⟨ty', cs, true⟩] }) = (x, s') → y.Is ρ (β ++ [(w.heap.size, 0)]) v →
      (execOp a.eval o).run cx.P w = .ok (.value v) (w.alloc (.cells vs ty)) → resE cx.P (OpPost cx jx ρ W wr β s' a x) ((execOp a.eval o).run cx.P w) := by
    intro cs vs ty ty' y v hc he hy hrun
    cases he
    rw [hrun]
    have hpre : β <+: β ++ [(w.heap.size, 0)] := List.prefix_append _ _
    have hb : Below w.heap.size w (w.alloc (.cells vs ty)) := (Below.refl _ w).alloc (Nat.le_refl _) _
    exact ⟨_, hpre, ⟨(hR.tm.mono hpre).of rfl rfl, hR.heap.alloc hR.fr hR.j hc, hR.fr.below hb, hR.pc, Jx.below hR.j hb⟩, hy⟩
  have hnew : (β ++ [(w.heap.size, 0)])[s.heap.length]? = some (w.heap.size, 0) := by rw [← hR.heap.1]; simp
  unfold evOp at h
  split at h
  · -- load
    rename_i t ad hop
    obtain ⟨v, hv, h⟩ := must_pick h
    rw [Option.bind_eq_some_iff] at hv
    obtain ⟨y, hy, hv⟩ := hv
    cases leaf_eq h
    obtain ⟨r, hr, hrun⟩ := evLoad_ok hR.tm.ok hR.heap hR.pc (hR.tm.ev hy) hv
    unfold execOp
    rw [hop]
    simp only [Sem.run_bind, hrun, Result.andThen_ok, Sem.run_pure]
    exact ⟨β, List.prefix_refl _, hR, hr⟩
  · -- store
    rename_i t ad y hop
    split at h
    · rename_i u v hu hv
      obtain ⟨h', hst, h⟩ := must_pick h
      cases leaf_eq h
      obtain ⟨w', h1, h2, h3, hrun⟩ := evStore_ok hR.tm.ok hR.heap hR.fr hR.j hR.pc (hR.tm.ev hu) (hR.tm.ev hv) hst
      unfold execOp
      rw [hop]
      simp only [Sem.run_bind, hrun, Result.andThen_ok, Sem.run_pure]
      exact ⟨β, List.prefix_refl _, ⟨hR.tm.of rfl rfl, h1, h2, hR.pc, h3⟩, #[], rfl, trivial⟩
    · simp [Tr.pick] at h
  · -- alloc
    rename_i t hop
    obtain ⟨z, hz, h⟩ := must_pick h
    obtain ⟨i, v, hi, hzv, hzz⟩ := zeroA_ok (ρ := ρ) (β := β) hR.tm.ok hz
    refine newCase hzz (leaf_eq h) ⟨_, hnew, rfl⟩ (ty := t) ?_
    unfold execOp
    rw [hop]
    simp [Instr.alloc, zeroValue, typeInfo, hi, hzv, newVar, newRow]
  · -- box
    rename_i t y hop
    obtain ⟨z, hz, h⟩ := must_pick h
    rw [Option.bind_eq_some_iff] at hz
    obtain ⟨u, hu, hz⟩ := hz
    have hzi : z.Is ρ β (a.eval y) := by
      have := hR.tm.ev hu
      cases u with
      | v q => simp only [asV, Option.some.injEq] at hz; subst hz; exact this
      | t l => simp [asV] at hz
    refine newCase hzi.cells (leaf_eq h) ⟨_, hnew, rfl⟩ (ty := t) ?_
    unfold execOp
    rw [hop]
    simp [Instr.box, newVar, newRow]
  · -- buildSlice
    rename_i t len ps hop
    split at h
    · rename_i elem hu
      obtain ⟨size, hsz, h⟩ := must_pick h
      obtain ⟨z, hz, h⟩ := must_pick h
      obtain ⟨l, hl, h⟩ := must_pick h
      split at h
      · rename_i hc
        simp only [Bool.and_eq_true] at hc
        have hzl : z.length = size := Nat.eq_of_beq_eq_true hc.1
        have hlim : len * size ≤ 16777216 := Nat.le_of_ble_eq_true hc.2
        obtain ⟨cs, hfill, h⟩ := must_pick h
        obtain ⟨i, v, hi, hzv, hzz⟩ := zeroA_ok (ρ := ρ) (β := β) hR.tm.ok hz
        have hzs := hzz.length
        simp only [Array.length_toList] at hzs
        have hzeros : All2 (AT.Is ρ β) ((List.replicate len z).flatten) ((Array.range (len * size)).map fun i => v.cells[i % v.cells.size]!).toList := by
          by_cases h0 : 0 < v.cells.size
          · rw [show size = v.cells.size by omega, zeros_eq len h0]; exact replicate_all2 hzz len
          · have : size = 0 := by omega
            have hz0 : z = [] := List.eq_nil_of_length_eq_zero (by omega)
            subst this; subst hz0
            simp [All2]
        obtain ⟨B, hB, hBB⟩ := fillA_ok (fillB_ok hfill) hzeros (partsOf_ok hR.tm hl)
        refine newCase hBB (leaf_eq h) ⟨_, hnew, rfl⟩ (ty := elem) ?_
        unfold execOp
        rw [hop]
        have hB' : Instr.fill (fun i => some (i * size, size)) ((Array.range (len * size)).map fun i => v.cells[i % v.cells.size]!) (ps.map fun (i, y) => (i, a.eval y)).toList = some B := by
          rw [← hB]; simp
        have hlim' : ¬ (len * size > 2 ^ 24) := by omega
        by_cases h0 : len * size = 0
        · have hE : ∀ g : Nat → Value, (Array.range (len * size)).map g = #[] := fun g => by rw [h0]; simp
          rw [hE] at hB'
          simp only [Instr.buildSlice, Sem.run_bind, run_underlying (hR.tm.ok.un hu), Result.andThen_ok, size_run hR.tm.ok hsz, if_neg hlim', if_pos h0, Sem.run_pure, hE, hB']
          simp [newRow]
        · have hzr : (zeroValue elem).run cx.P w = .ok v w := by simp [zeroValue, typeInfo, hi, hzv]
          simp only [Instr.buildSlice, Sem.run_bind, run_underlying (hR.tm.ok.un hu), Result.andThen_ok, size_run hR.tm.ok hsz, if_neg hlim', if_neg h0, Sem.run_pure, hzr, hB']
          simp [newRow]
      · simp [Tr.pick] at h
    · simp [Tr.pick] at h
  · -- call
    rename_i y args argTypes hop
    obtain ⟨f, hf, h⟩ := must_pick h
    obtain ⟨l, hl, h⟩ := must_pick h
    obtain ⟨⟨r, heap', pc'⟩, hr, h⟩ := Tr.pick_bind_some h
    cases leaf_eq h
    have hfv : a.eval y = .func (.func f) #[] #[] := by
      unfold calleeOf at hf
      dsimp only at hf
      split at hf
      · rename_i g first captured hy
        split at hf
        · rename_i hc
          simp only [Bool.and_eq_true, Array.isEmpty_iff] at hc
          cases hf
          obtain ⟨he, _⟩ := hR.tm.ev hy
          rw [he, hc.1, hc.2]
        · cases hf
      · cases hf
    obtain ⟨hent, hcall⟩ := evCall_ok hR.tm.ok hih hs hR.tm.glob hR.heap hR.fr hR.pc hR.j (asArgs_ok hR.tm hl) hr
    have hrun : (execOp a.eval o).run cx.P w = .ok (.enter f (args.toList.map a.eval).toArray) w := by
      unfold execOp
      rw [hop]
      have e1 : args.map a.eval = (args.toList.map a.eval).toArray := by rw [← Array.toList_map, Array.toArray_toList]
      rw [← e1]
      simp only [resolve, hfv, Deferred.ofValue, Sem.run_bind, Sem.run_pure, Result.andThen_ok, invoke]
      simp only [Array.empty_append, Array.append_empty]
      exact hent _ w
    rw [hrun]
    refine hcall.mono fun e w' hpost => ?_
    obtain ⟨v, β', rfl, hb, hvi, hhp, hfr, hj, hpc⟩ := hpost
    exact ⟨v, rfl, β', hb, ⟨(hR.tm.mono hb).of rfl rfl, hhp, hfr, hpc, hj⟩, hvi⟩
  · obtain ⟨⟨z, pc'⟩, hz, h⟩ := Tr.pick_bind_some h
    exact pureCase z pc' hz (leaf_eq h)

end
end Go.Proofs.YtnjmfedleimlmaaDoor.Ev

/- Lists of operations, and regions that draw their order, are carried out as the evaluator says. -/
namespace Go.Proofs.YtnjmfedleimlmaaDoor.Ev
open Go Go.RowKit

section
variable {P : Program} {cx : Cx} {jx : Jx} {ρ : Env} {W : World} {wr : List Nat} {β β' : Pl} {heap : List Blk} {w w' : World}

theorem guard_ok {ops : Array Oper} {s : St} {a : Act} {o : Oper} (hT : Tmps cx ρ β s a) {g : Option (E × Bool)} (h : guardE ops s o = some g) :
    match g with
    | none => Region.wanted o (yielded ops a.tmps) = true
    | some (e, want) => Region.wanted o (yielded ops a.tmps) = (tb (e.den ρ) == want) := by
  unfold guardE at h
  cases hg : o.guard with
  | none => rw [hg] at h; cases h; simp [Region.wanted, hg]
  | some jw =>
    obtain ⟨j, want⟩ := jw
    rw [hg] at h
    simp only at h
    split at h
    · rename_i e he
      cases h
      rw [Option.bind_eq_some_iff] at he
      obtain ⟨t, ht, hf⟩ := he
      obtain ⟨v, hv, hi⟩ := hT.get t _ hf
      have hy : yielded ops a.tmps j = some (tb (e.den ρ)) := by
        simp only [AV.Is, A1.Is, AT.Is] at hi
        subst hi
        unfold yielded
        rw [Option.bind_eq_some_iff.2 ⟨t, ht, hv⟩]
      simp [Region.wanted, hg, hy]
    · rename_i he
      cases h
      rw [Option.bind_eq_some_iff] at he
      obtain ⟨t, ht, hf⟩ := he
      obtain ⟨v, hv, hi⟩ := hT.get t _ hf
      have hy : yielded ops a.tmps j = none := by
        obtain ⟨vs, rfl, _⟩ := hi
        unfold yielded
        rw [Option.bind_eq_some_iff.2 ⟨t, ht, hv⟩]
      simp only [Region.wanted, hg, hy, E.den, tb_truth]
      cases want <;> rfl
    · cases h

theorem Rel.put {s s' : St} {a : Act} (h : Rel cx jx ρ W wr β s a w) {dst : Option Tmp} {x : AV} {v : Value} (hx : x.Is ρ β v) (hp : s.put dst x = some s') : Rel cx jx ρ W wr β s' (a.put dst v) w := by
  obtain ⟨h1, h2, h3⟩ := put_heap hp
  exact ⟨h.tm.put hx hp, by rw [h1]; exact h.heap, h.fr, by rw [h2]; exact h.pc, h.j⟩
theorem Rel.pcs {s : St} {a : Act} (h : Rel cx jx ρ W wr β s a w) {pc : PC} (hp : pcOk ρ pc) : Rel cx jx ρ W wr β { s with pc := pc } a w := ⟨h.tm.of rfl rfl, h.heap, h.fr, hp, h.j⟩

theorem undef_is : AV.Is ρ β (.t []) undef := ⟨#[], rfl, trivial⟩

theorem evOps_ok {ih : Code → St → Tr (X × St)} (hih : IhOk cx jx ρ ih) (hs : ∀ m ∈ cx.sums, SumOk cx.P jx ρ m) {ops : Array Oper} {Q : Exit → Act → World → Prop} {x : X} {s' : St} :
    ∀ (l : List Oper) {s : St} {a : Act} {β : Pl} {w : World}, (evOps cx ih ops l s).pick ρ = some (x, s') → Rel cx jx ρ W wr β s a w →
      (∀ β' a' w', β <+: β' → Rel cx jx ρ W wr β' s' a' w' → QX Q x a' w') → wpList cx.P ops Q l a w
  | [], s, a, β, w, h, hR, hQ => by
    cases leaf_eq h
    exact hQ β a w (List.prefix_refl _) hR
  | o :: l, s, a, β, w, h, hR, hQ => by
    simp only [evOps] at h
    obtain ⟨g, hg, h⟩ := must_pick h
    have hgo := guard_ok hR.tm hg
    have run : ∀ {s1 : St}, Rel cx jx ρ W wr β s1 a w → ((evOp cx ih s1 o).bind fun r => must (r.2.put o.dst r.1) "put" (evOps cx ih ops l)).pick ρ = some (x, s') → o.wp cx.P a w (wpList cx.P ops Q l) Q := by
      intro s1 hR1 h1
      obtain ⟨⟨y, s2⟩, h2, h3⟩ := Tr.pick_bind_some h1
      obtain ⟨s3, h4, h5⟩ := must_pick h3
      refine resE_wp (evOp_ok hih hs hR1 h2) fun v w' ⟨β', hb, hR2, hx⟩ => ?_
      exact evOps_ok hih hs l h5 (hR2.put hx h4) fun β'' a' w'' hb' hR' => hQ β'' a' w'' (hb.trans hb') hR'
    unfold wpList
    cases g with
    | none =>
      rw [if_pos hgo]
      exact .inl (run hR h)
    | some ew =>
      obtain ⟨e, want⟩ := ew
      simp only at h hgo
      obtain ⟨v, pc1, hv, hp1, h⟩ := branch_pick hR.pc h
      have htb : tb (e.den ρ) = v := by
        cases v with
        | true => exact tb_one (hv.2 rfl)
        | false => exact tb_zero (by simpa using hv)
      rw [htb] at hgo
      rw [hgo]
      by_cases hvw : (v == want) = true
      · rw [if_pos hvw]
        rw [if_pos hvw] at h
        exact .inl (run (hR.pcs hp1) h)
      · rw [if_neg hvw]
        rw [if_neg hvw] at h
        obtain ⟨s3, h4, h5⟩ := must_pick h
        exact evOps_ok hih hs l h5 ((hR.pcs hp1).put undef_is h4) hQ

/-! ### regions that draw -/
/-- a condition on worlds that new blocks do not turn -/
def Closed (S : World → Prop) : Prop := ∀ w w', S w → Below w.heap.size w w' → S w'
/-- in every world that meets S the operation leaves v, and nothing that was there is changed -/
def YieldsK (P : Program) (ops : Array Oper) (S : World → Prop) (o : Oper) (v : Value) (a : Act) : Prop :=
  (Region.wanted o (yielded ops a.tmps) = true ∧ ∀ w, S w → resE P (fun u w' => u = v ∧ Below w.heap.size w w') ((execOp a.eval o).run P w)) ∨
  (Region.wanted o (yielded ops a.tmps) = false ∧ v = undef)
theorem YieldsK.mono {ops : Array Oper} {S S' : World → Prop} {o : Oper} {v : Value} {a : Act} (hS : ∀ w, S' w → S w) (h : YieldsK P ops S o v a) : YieldsK P ops S' o v a :=
  h.imp (fun ⟨h1, h2⟩ => ⟨h1, fun w hw => h2 w (hS w hw)⟩) id
theorem YieldsK.of_same {ops : Array Oper} {S : World → Prop} {o : Oper} {v : Value} {a a' : Act} (hy : YieldsK P ops S o v a) (he : execOp a'.eval o = execOp a.eval o)
    (hw : Region.wanted o (yielded ops a'.tmps) = Region.wanted o (yielded ops a.tmps)) : YieldsK P ops S o v a' := by
  unfold YieldsK at *; rw [he, hw]; exact hy
/-- an operation that does more -/
def Does (P : Program) (ops : Array Oper) (o : Oper) (a : Act) (w : World) (K : Value → World → Prop) : Prop :=
  (Region.wanted o (yielded ops a.tmps) = true ∧ resE P K ((execOp a.eval o).run P w)) ∨ (Region.wanted o (yielded ops a.tmps) = false ∧ K undef w)
theorem Does.mono {ops : Array Oper} {o : Oper} {a : Act} {K K' : Value → World → Prop} (hK : ∀ v w, K v w → K' v w) (h : Does P ops o a w K) : Does P ops o a w K' :=
  h.imp (fun ⟨h1, h2⟩ => ⟨h1, resE_mono hK h2⟩) (fun ⟨h1, h2⟩ => ⟨h1, hK _ _ h2⟩)

/-- whatever order is picked from here on: operations of level 0 yield a value that no order turns -/
def Any (P : Program) (ops : Array Oper) (Q : Exit → Act → World → Prop) : Nat → Array Bool → Act → (World → Prop) → Prop
  | 0, l, a, S => Region.ready .any ops l = [] ∧ ∀ w, S w → Q .normal a w
  | f + 1, l, a, S => (Region.ready .any ops l = [] → ∀ w, S w → Q .normal a w) ∧ ∀ i ∈ Region.ready .any ops l, ∀ o, ops[i]? = some o →
      (level o.op = 0 → ∃ v, YieldsK P ops S o v a ∧ Any P ops Q f (l.setIfInBounds i true) (a.put o.dst v) S) ∧
      (level o.op ≠ 0 → ∀ w, S w → Does P ops o a w fun v w' => ∃ S', Closed S' ∧ (level o.op = 1 → ∀ w, S' w → S w) ∧ S' w' ∧ Any P ops Q f (l.setIfInBounds i true) (a.put o.dst v) S')

theorem ready_op {ops : Array Oper} {l : Array Bool} {i : Nat} (h : i ∈ Region.ready .any ops l) : ∃ o, ops[i]? = some o := by
  obtain ⟨_, o, ho, _⟩ := mem_ready.1 h; exact ⟨o, ho⟩

theorem Any.sound {ops : Array Oper} {Q : Exit → Act → World → Prop} : ∀ (f : Nat) (l : Array Bool) (a : Act) (S : World → Prop) (w : World), Closed S → Any P ops Q f l a S → S w → wpAny P .any ops Q f l a w
  | 0, l, a, S, w, _, h, hw => ⟨h.1, h.2 w hw⟩
  | f + 1, l, a, S, w, hc, h, hw => by
    refine ⟨fun h0 => h.1 h0 w hw, fun i hi => ?_⟩
    obtain ⟨o, ho⟩ := ready_op hi
    obtain ⟨h0, h1⟩ := h.2 i hi o ho
    unfold wpOp
    rw [ho]
    simp only
    by_cases hl : level o.op = 0
    · obtain ⟨v, hy, hn⟩ := h0 hl
      rcases hy with ⟨hwant, hy⟩ | ⟨hwant, rfl⟩
      · rw [if_pos hwant]
        refine .inl (resE_wp (hy w hw) fun u w' ⟨hu, hb⟩ => ?_)
        subst hu
        exact Any.sound f _ _ S w' hc hn (hc w w' hw hb)
      · rw [if_neg (by rw [hwant]; simp)]
        exact Any.sound f _ _ S w hc hn hw
    · rcases h1 hl w hw with ⟨hwant, hd⟩ | ⟨hwant, S', hc', _, hS', hn⟩
      · rw [if_pos hwant]
        refine .inl (resE_wp hd fun u w' ⟨S', hc', _, hS', hn⟩ => ?_)
        exact Any.sound f _ _ S' w' hc' hn hS'
      · rw [if_neg (by rw [hwant]; simp)]
        exact Any.sound f _ _ S' w hc' hn hS'

/-- an operation of level 0 may be taken first -/
theorem Any.first {ops : Array Oper} {Q : Exit → Act → World → Prop} {i : Nat} {oi : Oper} {v : Value} (hi : ops[i]? = some oi) (hli : level oi.op = 0) (hsel : Region.noSelect ops = true) :
    ∀ (f : Nat) (l : Array Bool) (a : Act) (S : World → Prop),
      (∀ j oj, ops[j]? = some oj → j ≠ i → l.getD j true = false → (∀ e ∈ oj.after, Region.binds .any e = true → e.on ≠ i) → oi.apart ops oj = true) →
      ((∀ S, YieldsK P ops S oi v a) ∨ (YieldsK P ops S oi v a ∧ ∀ j oj, ops[j]? = some oj → j ≠ i → l.getD j true = false → (∀ e ∈ oj.after, Region.binds .any e = true → e.on ≠ i) → level oj.op ≤ 1)) →
      i ∈ Region.ready .any ops l → Any P ops Q f (l.setIfInBounds i true) (a.put oi.dst v) S → Any P ops Q (f + 1) l a S := by
  intro f
  induction f with
  | zero =>
    intro l a S _ hY hr H
    refine ⟨fun h0 => (by rw [h0] at hr; cases hr), fun j hj o ho => ?_⟩
    by_cases hji : j = i
    · subst hji
      rw [hi] at ho; cases ho
      exact ⟨fun _ => ⟨v, hY.elim (fun h => h S) And.left, H⟩, fun h => absurd hli h⟩
    · have := ready_mono hj hji
      rw [H.1] at this
      cases this
  | succ f ih =>
    intro l a S hfree hY hr H
    refine ⟨fun h0 => (by rw [h0] at hr; cases hr), fun j hj oj hoj => ?_⟩
    by_cases hji : j = i
    · subst hji
      rw [hi] at hoj; cases hoj
      exact ⟨fun _ => ⟨v, hY.elim (fun h => h S) And.left, H⟩, fun h => absurd hli h⟩
    · obtain ⟨hjun, oj', hoj', hall⟩ := mem_ready.1 hj
      rw [hoj] at hoj'; cases hoj'
      have hnot : ∀ e ∈ oj.after, Region.binds .any e = true → e.on ≠ i := fun e he hb heq => by
        have h1 := hall e he hb
        have h0 := (mem_ready.1 hr).1
        rw [heq] at h1
        rcases Nat.lt_or_ge i l.size with h' | h'
        · simp [h'] at h0 h1; rw [h0] at h1; cases h1
        · simp [Array.getElem?_eq_none h'] at h1
      have hap := hfree j oj hoj hji hjun hnot
      obtain ⟨a1, a2, a3⟩ := Oper.apart_spec hap
      have hsi := fun cs b => Region.noSelect_spec hsel i oi cs b hi
      have hsj := fun cs b => Region.noSelect_spec hsel j oj cs b hoj
      have ej : execOp (a.put oi.dst v).eval oj = execOp a.eval oj := execOp_put oj hsj a oi.dst v a1
      have wj : Region.wanted oj (yielded ops (a.put oi.dst v).tmps) = Region.wanted oj (yielded ops a.tmps) := wanted_put oj a oi.dst v a1
      have ei : ∀ u, execOp (a.put oj.dst u).eval oi = execOp a.eval oi := fun u => execOp_put oi hsi a oj.dst u a3
      have wi : ∀ u, Region.wanted oi (yielded ops (a.put oj.dst u).tmps) = Region.wanted oi (yielded ops a.tmps) := fun u => wanted_put oi a oj.dst u a3
      have hfree' : ∀ k ok, ops[k]? = some ok → k ≠ i → (l.setIfInBounds j true).getD k true = false → (∀ e ∈ ok.after, Region.binds .any e = true → e.on ≠ i) → oi.apart ops ok = true := fun k ok hk hki hun hno => by
        refine hfree k ok hk hki ?_ hno
        by_cases hjk : j = k
        · subst hjk; exact hjun
        · rw [getD_set_ne true hjk] at hun; exact hun
      have hY' : ∀ (u : Value) (S' : World → Prop), (level oj.op ≤ 1 → ∀ w, S' w → S w) → ((∀ S, YieldsK P ops S oi v (a.put oj.dst u)) ∨ (YieldsK P ops S' oi v (a.put oj.dst u) ∧ ∀ k ok, ops[k]? = some ok → k ≠ i → (l.setIfInBounds j true).getD k true = false → (∀ e ∈ ok.after, Region.binds .any e = true → e.on ≠ i) → level ok.op ≤ 1)) := by
        intro u S' hSS
        rcases hY with hY | ⟨hY, hlev⟩
        · exact .inl fun S => (hY S).of_same (ei u) (wi u)
        · refine .inr ⟨(hY.mono (hSS (hlev j oj hoj hji hjun hnot))).of_same (ei u) (wi u), fun k ok hk hki hun hno => hlev k ok hk hki ?_ hno⟩
          by_cases hjk : j = k
          · subst hjk; exact hjun
          · rw [getD_set_ne true hjk] at hun; exact hun
      obtain ⟨h0, h1⟩ := H.2 j (ready_mono hj hji) oj hoj
      refine ⟨fun hl => ?_, fun hl w hw => ?_⟩
      · obtain ⟨u, hu, hn⟩ := h0 hl
        refine ⟨u, hu.of_same ej.symm wj.symm, ?_⟩
        refine ih (l.setIfInBounds j true) (a.put oj.dst u) S hfree' (hY' u S fun _ w hw => hw) (ready_mono hr (Ne.symm hji)) ?_
        rw [Array.setIfInBounds_comm _ _ hji, ← Act.put_comm a v u a2]
        exact hn
      · have hd := h1 hl w hw
        unfold Does at hd ⊢
        rw [ej, wj] at hd
        have step : ∀ u w', (∃ S', Closed S' ∧ (level oj.op = 1 → ∀ w, S' w → S w) ∧ S' w' ∧ Any P ops Q f ((l.setIfInBounds i true).setIfInBounds j true) ((a.put oi.dst v).put oj.dst u) S') →
            ∃ S', Closed S' ∧ (level oj.op = 1 → ∀ w, S' w → S w) ∧ S' w' ∧ Any P ops Q (f + 1) (l.setIfInBounds j true) (a.put oj.dst u) S' := by
          rintro u w' ⟨S', hc, hsub, hS', hn⟩
          refine ⟨S', hc, hsub, hS', ih (l.setIfInBounds j true) (a.put oj.dst u) S' hfree' (hY' u S' fun hle => hsub (by omega)) (ready_mono hr (Ne.symm hji)) ?_⟩
          rw [Array.setIfInBounds_comm _ _ hji, ← Act.put_comm a v u a2]
          exact hn
        rcases hd with ⟨hw1, hd⟩ | ⟨hw1, hd⟩
        · exact .inl ⟨hw1, resE_mono step hd⟩
        · exact .inr ⟨hw1, step _ _ hd⟩

end
end Go.Proofs.YtnjmfedleimlmaaDoor.Ev

/- The evaluator's word on regions that draw, on code, and on a call. -/
namespace Go.Proofs.YtnjmfedleimlmaaDoor.Ev
open Go Go.RowKit

section
variable {P : Program} {cx : Cx} {jx : Jx} {ρ : Env} {W : World} {wr : List Nat} {β β' : Pl} {heap : List Blk} {w w' : World}

/-! ### what a term stands for is one value -/
theorem AT.Is.det {a : AT} {u v : Value} (hu : a.Is ρ β u) (hv : a.Is ρ β v) : u = v := by
  cases a <;> simp only [AT.Is] at hu hv
  case int => exact hu.trans hv.symm
  case bool => exact hu.trans hv.symm
  case val => exact hu.1.trans hv.1.symm
  case ptr => obtain ⟨p, hp, e⟩ := hu; obtain ⟨q, hq, f⟩ := hv; rw [hp] at hq; cases hq; exact e.trans f.symm
  case pti => obtain ⟨p, hp, e⟩ := hu; obtain ⟨q, hq, f⟩ := hv; rw [hp] at hq; cases hq; exact e.trans f.symm
  case slc => obtain ⟨p, hp, e⟩ := hu; obtain ⟨q, hq, f⟩ := hv; rw [hp] at hq; cases hq; exact e.trans f.symm
  case opq => exact hu.1.trans hv.1.symm
theorem All2.det {α γ : Type} {R : α → γ → Prop} (h : ∀ a u v, R a u → R a v → u = v) : ∀ {l : List α} {m n : List γ}, All2 R l m → All2 R l n → m = n
  | [], [], [], _, _ => rfl
  | a :: l, b :: m, c :: n, h1, h2 => by rw [h a b c h1.1 h2.1, All2.det h h1.2 h2.2]
  | [], _ :: _, _, h, _ => h.elim
  | _ :: _, [], _, h, _ => h.elim
  | [], [], _ :: _, _, h => h.elim
  | _ :: _, _ :: _, [], _, h => h.elim
theorem A1.Is.det {a : A1} {u v : Value} (hu : a.Is ρ β u) (hv : a.Is ρ β v) : u = v := by
  cases a with
  | c a => exact AT.Is.det hu hv
  | g l => obtain ⟨x, e, hx⟩ := hu; obtain ⟨y, f, hy⟩ := hv; rw [e, f, Array.toList_inj.1 (All2.det (R := AT.Is ρ β) (fun _ _ _ => AT.Is.det) hx hy)]
theorem AV.Is.det {a : AV} {u v : Value} (hu : a.Is ρ β u) (hv : a.Is ρ β v) : u = v := by
  cases a with
  | v a => exact A1.Is.det hu hv
  | t l => obtain ⟨x, e, hx⟩ := hu; obtain ⟨y, f, hy⟩ := hv; rw [e, f, Array.toList_inj.1 (All2.det (R := A1.Is ρ β) (fun _ _ _ => A1.Is.det) hx hy)]

/-! ### regions that draw -/
/-- the worlds in which the state's memory is as the evaluator knows it -/
def SS (jx : Jx) (ρ : Env) (W : World) (wr : List Nat) (β : Pl) (heap : List Blk) (w : World) : Prop := HeapOk ρ jx W wr β heap w ∧ Fr W wr w ∧ jx.J w
theorem SS.closed : Closed (SS jx ρ W wr β heap) := fun _ _ ⟨h1, h2, h3⟩ hb => ⟨h1.below hb, h2.below hb, Jx.below h3 hb⟩
theorem frozen_ok (h : HeapOk ρ jx W wr β heap w) (W' : World) (wr' : List Nat) : HeapOk ρ jx W' wr' β (freeze heap) w := by
  refine ⟨by simp [freeze, h.1], fun l b hl => ?_⟩
  unfold freeze at hl
  rw [List.getElem?_map, Option.map_eq_some_iff] at hl
  obtain ⟨b', hb', rfl⟩ := hl
  obtain ⟨p, arr, ty, fr, h1, h2, h3, _⟩ := h.2 l b' hb'
  exact ⟨p, arr, ty, fr, h1, h2, h3, fun hrw => by simp at hrw⟩
theorem dr_pick {α : Type} {t : Tr α} {x : α} (h : t.dr = .ok x) : t.pick ρ = some x := by
  cases t <;> simp only [Tr.dr] at h <;> cases h; rfl
theorem dr_bind {α γ : Type} {t : DR α} {f : α → DR γ} {y : γ} (h : t.bind f = .ok y) : ∃ x, t = .ok x ∧ f x = .ok y := by
  cases t <;> simp only [DR.bind] at h
  · exact ⟨_, rfl, h⟩
  · cases h
  · cases h

theorem resE_some {K : Value → World → Prop} {r : Result Next} (h : resE P K r) : ∃ v w, K v w := by
  cases r with
  | ok n w =>
    cases n <;> simp only [resE] at h
    case value u => exact ⟨_, _, h⟩
    case skip => exact ⟨_, _, h⟩
    case enter f args => obtain ⟨e, w', fr, ⟨u, _, hu⟩, _⟩ := h []; exact ⟨u, w', hu⟩
  | halt x w => exact h.elim
theorem evCalm_ok {ih : Code → St → Tr (X × St)} (hih : IhOk cx jx ρ ih) (hs : ∀ m ∈ cx.sums, SumOk cx.P jx ρ m) {s : St} {a : Act} {o : Oper} {x : AV} {pc' : PC} {ops : Array Oper}
    (hT : Tmps cx ρ β s a) (hp : pcOk ρ s.pc) (hlen : β.length = s.heap.length) (hw : Region.wanted o (yielded ops a.tmps) = true) (h : evCalm cx ih s o = .ok (x, pc')) (hne : ∃ w, SS jx ρ W wr β s.heap w) :
    pcOk ρ pc' ∧ ∃ v, x.Is ρ β v ∧ YieldsK cx.P ops (SS jx ρ W wr β s.heap) o v a ∧ (pureOp o.op = true → ∀ S, YieldsK cx.P ops S o v a) := by
  unfold evCalm at h
  split at h
  · obtain ⟨h1, r, h2, h3⟩ := evPure_ok hT hp (dr_pick (ρ := ρ) h)
    have hy : ∀ S, YieldsK cx.P ops S o r a := fun S => .inl ⟨hw, fun w _ => by rw [h3 w]; exact ⟨rfl, Below.refl _ _⟩⟩
    exact ⟨h1, r, h2, hy _, fun _ => hy⟩
  · rename_i hpo
    obtain ⟨ys, h1, h2⟩ := dr_bind h
    obtain ⟨y, s2⟩ := ys
    simp only at h2
    split at h2
    · rename_i hbel
      cases h2
      have run : ∀ w, SS jx ρ W wr β s.heap w → resE cx.P (OpPost cx jx ρ w [] β s2 a x) ((execOp a.eval o).run cx.P w) := fun w hS =>
        evOp_ok hih hs (s := { s with heap := freeze s.heap }) ⟨hT.of rfl rfl, frozen_ok hS.1 w [], Fr.refl w [], hp, hS.2.2⟩ (dr_pick h1)
      have old : ∀ {w : World} {v : Value} {w' : World}, OpPost cx jx ρ w [] β s2 a x v w' → x.Is ρ β v ∧ Below w.heap.size w w' ∧ pcOk ρ s2.pc := by
        rintro w v w' ⟨β', hb, hR, hx⟩
        have := AV.below_is hbel hx
        obtain ⟨t, rfl⟩ := hb
        rw [← hlen, List.take_left'] at this
        · exact ⟨this, hR.fr.to_below, hR.pc⟩
        · rfl
      obtain ⟨w0, hw0⟩ := hne
      obtain ⟨v, w1, hv⟩ := resE_some (run w0 hw0)
      obtain ⟨h1, h2, h3⟩ := old hv
      refine ⟨h3, v, h1, .inl ⟨hw, fun w hS => resE_mono (fun u w' hu => ?_) (run w hS)⟩, fun h => absurd h hpo⟩
      obtain ⟨g1, g2, _⟩ := old hu
      exact ⟨g1.det h1, g2⟩
    · cases h2

theorem HeapOk.prefix_ok {t : List Blk} (h : HeapOk ρ jx W wr β' (heap ++ t) w) (hb : β <+: β') (hl : β.length = heap.length) {w0 : World} {W0 : World} {wr0 : List Nat} (h0 : HeapOk ρ jx W0 wr0 β heap w0) : HeapOk ρ jx W wr β heap w := by
  refine ⟨hl, fun l b hlb => ?_⟩
  have hlt : l < heap.length := (List.getElem?_eq_some_iff.1 hlb).1
  obtain ⟨p, arr, ty, fr, h1, h2, h3, h4⟩ := h.2 l b (by rw [List.getElem?_append_left hlt]; exact hlb)
  obtain ⟨q, arr0, _, _, k1, _, k3, _⟩ := h0.2 l b hlb
  have hpq := Pl.mono_get hb k1
  rw [h1] at hpq
  cases hpq
  refine ⟨p, arr, ty, fr, k1, h2, fun j x hx => ?_, fun hrw => ?_⟩
  · obtain ⟨v, hv, hi⟩ := h3 j x hx
    obtain ⟨v0, _, hi0⟩ := k3 j x hx
    have := (hi0.mono hb).det hi
    subst this
    exact ⟨v0, hv, hi0⟩
  · obtain ⟨g1, g2, g3, g4⟩ := h4 hrw
    exact ⟨g1, fun l' q hne hq => g2 l' q hne (Pl.mono_get hb hq), g3, g4⟩

theorem level1_op {o : Op} (h : level o = 1) : (∃ t, o = .alloc t) ∨ (∃ t x, o = .box t x) ∨ (∃ t n ps, o = .buildSlice t n ps) := by
  unfold level at h
  split at h <;> simp_all
theorem evOp_level1 {ih : Code → St → Tr (X × St)} {s s2 : St} {o : Oper} {x : AV} (hl : level o.op = 1) (h : (evOp cx ih s o).pick ρ = some (x, s2)) : ∃ b, s2.heap = s.heap ++ [b] := by
  unfold evOp at h
  rcases level1_op hl with ⟨t, hop⟩ | ⟨t, y, hop⟩ | ⟨t, n, ps, hop⟩
  · rw [hop] at h
    obtain ⟨z, _, h⟩ := must_pick h
    cases leaf_eq h; exact ⟨_, rfl⟩
  · rw [hop] at h
    obtain ⟨z, _, h⟩ := must_pick h
    cases leaf_eq h; exact ⟨_, rfl⟩
  · rw [hop] at h
    simp only at h
    split at h
    · obtain ⟨_, _, h⟩ := must_pick h
      obtain ⟨_, _, h⟩ := must_pick h
      obtain ⟨_, _, h⟩ := must_pick h
      split at h
      · obtain ⟨_, _, h⟩ := must_pick h
        cases leaf_eq h; exact ⟨_, rfl⟩
      · simp [Tr.pick] at h
    · simp [Tr.pick] at h

theorem level_le {ops : Array Oper} {l : Array Bool} {i : Nat} (h : calm ops l i = true) (j : Nat) (oj : Oper) (hj : ops[j]? = some oj) (hne : j ≠ i) (hun : l.getD j true = false) (hno : ∀ e ∈ oj.after, Region.binds .any e = true → e.on ≠ i) : level oj.op ≤ 1 := by
  unfold calm at h
  rw [List.all_eq_true] at h
  have hjs : j < ops.size := (Array.getElem?_eq_some_iff.1 hj).1
  have := h j (List.mem_range.2 hjs)
  rw [hun, hj] at this
  simp only [Bool.or_false, Bool.or_eq_true, beq_iff_eq] at this
  rcases this with h | h | h
  · exact absurd h hne
  · rw [Array.any_eq_true] at h
    obtain ⟨k, hk, h⟩ := h
    simp only [Bool.and_eq_true, beq_iff_eq] at h
    exact absurd h.2 (hno _ (Array.getElem_mem hk) h.1)
  · exact Nat.le_of_ble_eq_true h
theorem firstOf_some {p : Nat → Bool} : ∀ {l : List Nat} {i : Nat}, firstOf p l = some i → i ∈ l ∧ p i = true
  | [], i, h => by simp [firstOf] at h
  | j :: l, i, h => by
    simp only [firstOf] at h
    split at h
    · rename_i hp; cases h; exact ⟨by simp, hp⟩
    · obtain ⟨h1, h2⟩ := firstOf_some h; exact ⟨by simp [h1], h2⟩

theorem tb_of {n : Int} : tb n = decide (n ≠ 0) := by unfold tb; split <;> simp [*]

theorem drn_ok {ih : Code → St → Tr (X × St)} (hih : IhOk cx jx ρ ih) (hs : ∀ m ∈ cx.sums, SumOk cx.P jx ρ m) {ops : Array Oper} (hsel : Region.noSelect ops = true) {Q : Exit → Act → World → Prop} {s' : St} :
    ∀ (fuel : Nat) (l : Array Bool) (s : St) (a : Act) (β : Pl), drn cx ih ops fuel l s = .ok s' → Tmps cx ρ β s a → pcOk ρ s.pc → (∃ w, SS jx ρ W wr β s.heap w) →
      (∀ β' a' w', β <+: β' → Rel cx jx ρ W wr β' s' a' w' → Q .normal a' w') → Any cx.P ops Q fuel l a (SS jx ρ W wr β s.heap) := by
  intro fuel
  induction fuel with
  | zero =>
    intro l s a β h hT hp _ hQ
    unfold drn at h
    split at h
    · rename_i hr
      cases h
      exact ⟨by simpa using hr, fun w hw => hQ β a w (List.prefix_refl _) ⟨hT, hw.1, hw.2.1, hp, hw.2.2⟩⟩
    · cases h
  | succ fuel ihf =>
    intro l s a β h hT hp hne hQ
    have hlen : β.length = s.heap.length := by obtain ⟨w, hw⟩ := hne; exact hw.1.1
    unfold drn at h
    split at h
    · rename_i hr
      have hr' : Region.ready .any ops l = [] := by simpa using hr
      cases h
      exact ⟨fun _ w hw => hQ β a w (List.prefix_refl _) ⟨hT, hw.1, hw.2.1, hp, hw.2.2⟩, fun i hi => by rw [hr'] at hi; cases hi⟩
    · rename_i hr
      split at h
      · -- one is taken first
        rename_i i hfirst
        obtain ⟨hmem, htake⟩ := firstOf_some hfirst
        split at h
        · rename_i o ho
          obtain ⟨s1, h1, h2⟩ := dr_bind h
          unfold takeable at htake
          rw [ho] at htake
          simp only [Bool.and_eq_true, Bool.or_eq_true] at htake
          have hl0 : level o.op = 0 := Nat.eq_of_beq_eq_true htake.1.1
          -- what it yields
          have key : ∃ v, YieldsK cx.P ops (SS jx ρ W wr β s.heap) o v a ∧ (pureOp o.op = true → ∀ S, YieldsK cx.P ops S o v a) ∧ Tmps cx ρ β s1 (a.put o.dst v) ∧ pcOk ρ s1.pc ∧ s1.heap = s.heap := by
            have run : Region.wanted o (yielded ops a.tmps) = true → ((evCalm cx ih s o).bind fun r => match St.put { s with pc := r.2 } o.dst r.1 with
                | some s => .ok s
                | none => .bad "put") = .ok s1 → ∃ v, YieldsK cx.P ops (SS jx ρ W wr β s.heap) o v a ∧ (pureOp o.op = true → ∀ S, YieldsK cx.P ops S o v a) ∧ Tmps cx ρ β s1 (a.put o.dst v) ∧ pcOk ρ s1.pc ∧ s1.heap = s.heap := by
              intro hw h
              obtain ⟨⟨x, pc1⟩, hc, h⟩ := dr_bind h
              obtain ⟨hp1, v, hx, hy, hyp⟩ := evCalm_ok hih hs hT hp hlen hw hc hne
              split at h
              · rename_i s2 hput
                cases h
                obtain ⟨e1, e2, _⟩ := put_heap hput
                refine ⟨v, hy, hyp, Tmps.put (s := { s with pc := pc1 }) (hT.of rfl rfl) hx hput, by rw [e2]; exact hp1, e1⟩
              · cases h
            unfold evOne at h1
            simp only [if_true] at h1
            split at h1
            · cases h1
            · rename_i hg
              exact run (guard_ok hT hg) h1
            · rename_i e want hg
              have hgo := guard_ok hT hg
              simp only at hgo
              split at h1
              · cases h1
              · rename_i n hn
                have hen := one_den hp hn
                rw [hen, tb_of] at hgo
                split at h1
                · rename_i hc
                  rw [hc] at hgo
                  exact run hgo h1
                · rename_i hc
                  split at h1
                  · rename_i s2 hput
                    cases h1
                    obtain ⟨e1, e2, _⟩ := put_heap hput
                    have hy : ∀ S, YieldsK cx.P ops S o undef a := fun S => .inr ⟨by rw [hgo]; simpa using hc, rfl⟩
                    exact ⟨undef, hy _, fun _ => hy, hT.put undef_is hput, by rw [e2]; exact hp, e1⟩
                  · cases h1
          obtain ⟨v, hy, hyp, hT1, hp1, hheap⟩ := key
          refine Any.first (v := v) ho hl0 hsel fuel l a _ (Region.free_spec ho htake.1.2) ?_ hmem ?_
          · rcases htake.2 with hpu | hca
            · exact .inl (hyp hpu)
            · exact .inr ⟨hy, level_le hca⟩
          · rw [← hheap]
            exact ihf _ s1 _ β h2 hT1 hp1 (by rw [hheap]; exact hne) hQ
        · cases h
      · -- the only one
        split at h
        · rename_i i hri
          split at h
          · rename_i o ho
            split at h
            · cases h
            · rename_i hlev
              have hl0 : level o.op ≠ 0 := fun e => hlev (by rw [e]; rfl)
              obtain ⟨s1, h1, h2⟩ := dr_bind h
              refine ⟨fun h0 => absurd h0 (by rw [hri]; simp), fun j hj oj hoj => ?_⟩
              have hji : j = i := by rw [hri] at hj; simpa using hj
              subst hji
              rw [ho] at hoj
              cases hoj
              refine ⟨fun hl => absurd hl hl0, fun _ w hw => ?_⟩
              have run : ∀ {s0 : St}, s0.tmps = s.tmps → s0.n = s.n → s0.heap = s.heap → pcOk ρ s0.pc → Region.wanted o (yielded ops a.tmps) = true → ((evOp cx ih s0 o).dr.bind fun r => match r.2.put o.dst r.1 with
                  | some s => .ok s
                  | none => .bad "put") = .ok s1 → Does cx.P ops o a w fun v w' => ∃ S', Closed S' ∧ (level o.op = 1 → ∀ w, S' w → SS jx ρ W wr β s.heap w) ∧ S' w' ∧ Any cx.P ops Q fuel (l.setIfInBounds j true) (a.put o.dst v) S' := by
                intro s0 e1 e2 e3 hp0 hwant h
                obtain ⟨⟨x, s2⟩, hx, h⟩ := dr_bind h
                have hx' := dr_pick (ρ := ρ) hx
                split at h
                · rename_i s3 hput
                  cases h
                  obtain ⟨g1, g2, _⟩ := put_heap hput
                  refine .inl ⟨hwant, resE_mono ?_ (evOp_ok (W := W) (wr := wr) (β := β) (w := w) (a := a) hih hs ⟨hT.of e2 e1, by rw [e3]; exact hw.1, hw.2.1, hp0, hw.2.2⟩ hx')⟩
                  rintro v w' ⟨β', hb, hR, hvi⟩
                  have hR1 := hR.put hvi hput
                  refine ⟨SS jx ρ W wr β' s1.heap, SS.closed, fun hl1 w2 hw2 => ?_, ⟨hR1.heap, hR1.fr, hR1.j⟩, ihf _ s1 _ β' h2 hR1.tm hR1.pc ⟨w', hR1.heap, hR1.fr, hR1.j⟩ fun β'' a' w2 hb2 hR2 => hQ β'' a' w2 (hb.trans hb2) hR2⟩
                  obtain ⟨b, hbk⟩ := evOp_level1 hl1 hx'
                  have hh := hw2.1
                  rw [g1, hbk, e3] at hh
                  exact ⟨hh.prefix_ok hb hlen hw.1, hw2.2⟩
                · cases h
              unfold evOne at h1
              simp only [Bool.false_eq_true, if_false] at h1
              split at h1
              · cases h1
              · rename_i hg
                exact run rfl rfl rfl hp (guard_ok hT hg) h1
              · rename_i e want hg
                have hgo := guard_ok hT hg
                simp only at hgo
                split at h1
                · cases h1
                · rename_i n hn
                  have hen := one_den hp hn
                  rw [hen, tb_of] at hgo
                  split at h1
                  · rename_i hc
                    rw [hc] at hgo
                    exact run rfl rfl rfl hp hgo h1
                  · rename_i hc
                    split at h1
                    · rename_i s2 hput
                      cases h1
                      obtain ⟨e1, e2, _⟩ := put_heap hput
                      refine .inr ⟨by rw [hgo]; simpa using hc, SS jx ρ W wr β s.heap, SS.closed, fun _ _ h => h, hw, ?_⟩
                      rw [← e1]
                      exact ihf _ s1 _ β h2 (hT.put undef_is hput) (by rw [e2]; exact hp) (by rw [e1]; exact hne) hQ
                    · cases h1
          · cases h
        · cases h

theorem drew_below (w : World) : Below w.heap.size w { w with drawn := w.drawn + 1 } := ⟨rfl, rfl, rfl, Nat.le_refl _, fun _ _ => rfl⟩
theorem evDrawn_ok {ih : Code → St → Tr (X × St)} (hO : CxOk cx) (hih : IhOk cx jx ρ ih) (hs : ∀ m ∈ cx.sums, SumOk cx.P jx ρ m) {ops : Array Oper} {id : Nat} {Q : Exit → Act → World → Prop} {x : X} {s' : St} :
    ∀ (fuel : Nat) {s : St} {a : Act} {β : Pl} {w : World}, (evDrawn cx ih ops fuel s).pick ρ = some (x, s') → Rel cx jx ρ W wr β s a w →
      (∀ β' a' w', β <+: β' → Rel cx jx ρ W wr β' s' a' w' → QX Q x a' w') → (Code.region id ops true).wp cx.P Q a w
  | 0, s, a, β, w, h, _, _ => by simp [evDrawn, Tr.pick] at h
  | fuel + 1, s, a, β, w, h, hR, hQ => by
    unfold evDrawn at h
    split at h
    · simp [Tr.pick] at h
    · rename_i hsel
      have hsel' : Region.noSelect ops = true := by simpa using hsel
      split at h
      · rename_i s1 hd
        cases leaf_eq h
        have hSS : SS jx ρ W wr β s.heap { w with drawn := w.drawn + 1 } := SS.closed w _ ⟨hR.heap, hR.fr, hR.j⟩ (drew_below w)
        have hA := drn_ok (W := W) (wr := wr) hih hs hsel' ops.size _ s a β hd hR.tm hR.pc ⟨_, hSS⟩ hQ
        exact wp_region_any hO.mix (Any.sound _ _ _ _ _ SS.closed hA hSS)
      · simp [Tr.pick] at h
      · obtain ⟨v, pc1, _, hp1, h⟩ := branch_pick hR.pc h
        exact evDrawn_ok hO hih hs fuel h (hR.pcs hp1) hQ

/-! ### code -/
theorem QX_mono {Q Q' : Exit → Act → World → Prop} (h : ∀ e a w, Q e a w → Q' e a w) {x : X} {a : Act} {w : World} (hq : QX Q x a w) : QX Q' x a w := by
  cases x <;> exact h _ _ _ hq

theorem evLoop_ok {ih : Code → St → Tr (X × St)} (hih : IhOk cx jx ρ ih) {c : Code} {Q : Exit → Act → World → Prop} {x : X} {s' : St} :
    ∀ (n : Nat) {s : St} {a : Act} {β : Pl} {w : World}, (evLoop ih c n s).pick ρ = some (x, s') → Rel cx jx ρ W wr β s a w →
      (∀ β' a' w', β <+: β' → Rel cx jx ρ W wr β' s' a' w' → QX Q x a' w') → Code.rounds cx.P c Q n a w
  | 0, s, a, β, w, h, _, _ => by simp [evLoop, Tr.pick] at h
  | n + 1, s, a, β, w, h, hR, hQ => by
    simp only [evLoop] at h
    obtain ⟨⟨y, s1⟩, h1, h2⟩ := Tr.pick_bind_some h
    rw [rounds_succ]
    refine hih W wr β s a w c _ y s1 h1 hR fun β' a' w' hb hR' => ?_
    cases y with
    | nml => exact evLoop_ok hih n h2 hR' fun β'' a'' w'' hb' hR'' => hQ β'' a'' w'' (hb.trans hb') hR''
    | exit id => cases leaf_eq h2; exact hQ β' a' w' hb hR'
    | ret => cases leaf_eq h2; exact hQ β' a' w' hb hR'

theorem step_ok {ih : Code → St → Tr (X × St)} (hO : CxOk cx) (hih : IhOk cx jx ρ ih) (hs : ∀ m ∈ cx.sums, SumOk cx.P jx ρ m) : IhOk cx jx ρ (step cx ih) := by
  intro W wr β s a w c Q x s' h hR hQ
  unfold step at h
  split at h
  · cases leaf_eq h; exact wp_skip (hQ β a w (List.prefix_refl _) hR)
  · cases leaf_eq h; exact wp_label (hQ β a w (List.prefix_refl _) hR)
  · cases leaf_eq h; exact wp_ret (hQ β a w (List.prefix_refl _) hR)
  · cases leaf_eq h; exact wp_exit (hQ β a w (List.prefix_refl _) hR)
  · rename_i c1 c2
    obtain ⟨⟨y, s1⟩, h1, h2⟩ := Tr.pick_bind_some h
    refine wp_seq (hih W wr β s a w c1 _ y s1 h1 hR fun β' a' w' hb hR' => ?_)
    cases y with
    | nml => exact hih W wr β' s1 a' w' c2 Q x s' h2 hR' fun β'' a'' w'' hb' hR'' => hQ β'' a'' w'' (hb.trans hb') hR''
    | exit id => cases leaf_eq h2; exact hQ β' a' w' hb hR'
    | ret => cases leaf_eq h2; exact hQ β' a' w' hb hR'
  · rename_i cd c1 c2
    split at h
    · rename_i e he
      have hi := hR.tm.ev he
      simp only [AV.Is, A1.Is, AT.Is] at hi
      obtain ⟨v, pc1, hv, hp1, h⟩ := branch_pick hR.pc h
      have htb : tb (e.den ρ) = v := by
        cases v with
        | true => exact tb_one (hv.2 rfl)
        | false => exact tb_zero (by simpa using hv)
      rw [htb] at hi
      exact wp_cond hi (hih W wr β _ a w _ Q x s' h (hR.pcs hp1) hQ)
    · simp [Tr.pick] at h
  · rename_i id c1
    obtain ⟨⟨y, s1⟩, h1, h2⟩ := Tr.pick_bind_some h
    refine wp_block (hih W wr β s a w c1 _ y s1 h1 hR fun β' a' w' hb hR' => ?_)
    cases y with
    | nml => cases leaf_eq h2; exact hQ β' a' w' hb hR'
    | exit j =>
      cases leaf_eq h2
      have := hQ β' a' w' hb hR'
      show Exit.inBlock id Q (.exit j) a' w'
      simp only [Exit.inBlock]
      by_cases hj : j = id
      · subst hj; rw [if_pos rfl]; simpa [Nat.beq_refl, QX] using this
      · have hb' : Nat.beq j id = false := by rw [Bool.eq_false_iff]; exact fun e => hj (Nat.eq_of_beq_eq_true e)
        rw [if_neg hj]; simpa [hb', QX] using this
    | ret => cases leaf_eq h2; exact hQ β' a' w' hb hR'
  · exact wp_loop_rounds _ (evLoop_ok hih _ h hR hQ)
  · rename_i id ops draw
    cases draw with
    | true => exact evDrawn_ok hO hih hs _ h hR hQ
    | false => exact wp_region_list (evOps_ok hih hs _ h hR hQ)
  · simp [Tr.pick] at h

theorem ev_ok (hO : CxOk cx) (hs : ∀ m ∈ cx.sums, SumOk cx.P jx ρ m) : ∀ n, IhOk cx jx ρ (ev cx n)
  | 0 => fun _ _ _ _ _ _ _ _ _ _ h _ _ => by simp [ev, Tr.pick] at h
  | n + 1 => step_ok hO (ev_ok hO hs n) hs

/-- A call, from arguments and known memory: what the evaluator comes to on the way that the numbers take. -/
theorem evFn_ok (hO : CxOk cx) (hs : ∀ m ∈ cx.sums, SumOk cx.P jx ρ m) {fuel : Nat} {f : FuncId} {pc : PC} {args : List AV} {vals : List Value} {r : AV} {heap' : List Blk} {pc' : PC}
    (h : (evFn cx fuel f heap pc args).pick ρ = some (r, heap', pc')) (hg : ∀ g l, assoc g cx.glob = some l → β[l]? = some (g, 0)) (hh : HeapOk ρ jx W wr β heap w) (hf : Fr W wr w) (hp : pcOk ρ pc) (hj : jx.J w)
    (ha : All2 (AV.Is ρ β) args vals) : Calls cx.P f vals.toArray w (CallPost jx ρ W wr β r heap' pc') :=
  (evCall_ok hO (ev_ok hO hs fuel) hs hg hh hf hp hj ha (by unfold evFn at h; exact h)).2

end

theorem all_cons {α : Type} {Q : α → Prop} {a : α} {l : List α} (h : Q a) (t : ∀ x ∈ l, Q x) : ∀ x ∈ a :: l, Q x := fun x hx => by
  rcases List.mem_cons.1 hx with rfl | hx
  · exact h
  · exact t x hx
theorem all_nil {α : Type} {Q : α → Prop} : ∀ x ∈ ([] : List α), Q x := fun x hx => by cases hx

end Go.Proofs.YtnjmfedleimlmaaDoor.Ev

/- The types and the functions that the evaluator asks for. Written by a program (mkcx.py) off the given program. -/
namespace Go.Proofs.YtnjmfedleimlmaaDoor.Ev
open Go

noncomputable def tt : List (Nat × TI) := [(28, ⟨Tryd.t27.desc, Tryd.t28.size, Tryd.t28.zero⟩),
  (25, ⟨Tryd.t25.desc, Tryd.t25.size, Tryd.t25.zero⟩),
  (3, ⟨Tryd.t3.desc, Tryd.t3.size, Tryd.t3.zero⟩),
  (85, ⟨Tryd.t84.desc, Tryd.t85.size, Tryd.t85.zero⟩),
  (26, ⟨Tryd.t26.desc, Tryd.t26.size, Tryd.t26.zero⟩),
  (45, ⟨Tryd.t44.desc, Tryd.t45.size, Tryd.t45.zero⟩),
  (39, ⟨Tryd.t39.desc, Tryd.t39.size, Tryd.t39.zero⟩),
  (23, ⟨Tryd.t23.desc, Tryd.t23.size, Tryd.t23.zero⟩),
  (36, ⟨Tryd.t36.desc, Tryd.t36.size, Tryd.t36.zero⟩),
  (115, ⟨Tryd.t114.desc, Tryd.t115.size, Tryd.t115.zero⟩),
  (4, ⟨Tryd.t4.desc, Tryd.t4.size, Tryd.t4.zero⟩),
  (22, ⟨Tryd.t22.desc, Tryd.t22.size, Tryd.t22.zero⟩),
  (123, ⟨Tryd.t123.desc, Tryd.t123.size, Tryd.t123.zero⟩),
  (144, ⟨Tryd.t144.desc, Tryd.t144.size, Tryd.t144.zero⟩)]
noncomputable def fns : List (Nat × Func) := [(3, Tryd.f3),
  (14, Tryd.f14),
  (38, Tryd.f38),
  (39, Tryd.f39),
  (17, Tryd.f17),
  (43, Tryd.f43),
  (44, Tryd.f44),
  (45, Tryd.f45),
  (46, Tryd.f46),
  (70, Tryd.f70),
  (97, Tryd.f97),
  (16, Tryd.f16),
  (42, Tryd.f42),
  (68, Tryd.f68),
  (69, Tryd.f69),
  (95, Tryd.f95),
  (114, Tryd.f114),
  (96, Tryd.f96),
  (115, Tryd.f115),
  (15, Tryd.f15),
  (40, Tryd.f40),
  (19, Tryd.f19),
  (41, Tryd.f41),
  (67, Tryd.f67),
  (4, Tryd.f4),
  (18, Tryd.f18),
  (47, Tryd.f47),
  (71, Tryd.f71),
  (5, Tryd.f5),
  (20, Tryd.f20),
  (6, Tryd.f6),
  (21, Tryd.f21),
  (48, Tryd.f48),
  (7, Tryd.f7),
  (22, Tryd.f22),
  (49, Tryd.f49),
  (72, Tryd.f72),
  (73, Tryd.f73),
  (24, Tryd.f24),
  (23, Tryd.f23),
  (8, Tryd.f8),
  (25, Tryd.f25),
  (27, Tryd.f27),
  (50, Tryd.f50),
  (74, Tryd.f74),
  (75, Tryd.f75),
  (98, Tryd.f98),
  (76, Tryd.f76),
  (26, Tryd.f26),
  (51, Tryd.f51),
  (9, Tryd.f9)]
theorem tt_und : ∀ p ∈ tt, Tryd.prog.underlying p.1 = some p.2.desc :=
  all_cons (by kernel_rfl) <|
  all_cons (by kernel_rfl) <|
  all_cons (by kernel_rfl) <|
  all_cons (by kernel_rfl) <|
  all_cons (by kernel_rfl) <|
  all_cons (by kernel_rfl) <|
  all_cons (by kernel_rfl) <|
  all_cons (by kernel_rfl) <|
  all_cons (by kernel_rfl) <|
  all_cons (by kernel_rfl) <|
  all_cons (by kernel_rfl) <|
  all_cons (by kernel_rfl) <|
  all_cons (by kernel_rfl) <|
  all_cons (by kernel_rfl) <| all_nil
theorem tt_inf : ∀ p ∈ tt, ∃ i, Tryd.prog.info? p.1 = some i ∧ i.size = p.2.size ∧ i.zero = p.2.zero :=
  all_cons ⟨Tryd.t28, by kernel_rfl, rfl, rfl⟩ <|
  all_cons ⟨Tryd.t25, by kernel_rfl, rfl, rfl⟩ <|
  all_cons ⟨Tryd.t3, by kernel_rfl, rfl, rfl⟩ <|
  all_cons ⟨Tryd.t85, by kernel_rfl, rfl, rfl⟩ <|
  all_cons ⟨Tryd.t26, by kernel_rfl, rfl, rfl⟩ <|
  all_cons ⟨Tryd.t45, by kernel_rfl, rfl, rfl⟩ <|
  all_cons ⟨Tryd.t39, by kernel_rfl, rfl, rfl⟩ <|
  all_cons ⟨Tryd.t23, by kernel_rfl, rfl, rfl⟩ <|
  all_cons ⟨Tryd.t36, by kernel_rfl, rfl, rfl⟩ <|
  all_cons ⟨Tryd.t115, by kernel_rfl, rfl, rfl⟩ <|
  all_cons ⟨Tryd.t4, by kernel_rfl, rfl, rfl⟩ <|
  all_cons ⟨Tryd.t22, by kernel_rfl, rfl, rfl⟩ <|
  all_cons ⟨Tryd.t123, by kernel_rfl, rfl, rfl⟩ <|
  all_cons ⟨Tryd.t144, by kernel_rfl, rfl, rfl⟩ <| all_nil
theorem fns_ok : ∀ p ∈ fns, Tryd.prog.funcs[p.1]? = some p.2 :=
  all_cons Tryd.func3 <|
  all_cons Tryd.func14 <|
  all_cons Tryd.func38 <|
  all_cons Tryd.func39 <|
  all_cons Tryd.func17 <|
  all_cons Tryd.func43 <|
  all_cons Tryd.func44 <|
  all_cons Tryd.func45 <|
  all_cons Tryd.func46 <|
  all_cons Tryd.func70 <|
  all_cons Tryd.func97 <|
  all_cons Tryd.func16 <|
  all_cons Tryd.func42 <|
  all_cons Tryd.func68 <|
  all_cons Tryd.func69 <|
  all_cons Tryd.func95 <|
  all_cons Tryd.func114 <|
  all_cons Tryd.func96 <|
  all_cons Tryd.func115 <|
  all_cons Tryd.func15 <|
  all_cons Tryd.func40 <|
  all_cons Tryd.func19 <|
  all_cons Tryd.func41 <|
  all_cons Tryd.func67 <|
  all_cons Tryd.func4 <|
  all_cons Tryd.func18 <|
  all_cons Tryd.func47 <|
  all_cons Tryd.func71 <|
  all_cons Tryd.func5 <|
  all_cons Tryd.func20 <|
  all_cons Tryd.func6 <|
  all_cons Tryd.func21 <|
  all_cons Tryd.func48 <|
  all_cons Tryd.func7 <|
  all_cons Tryd.func22 <|
  all_cons Tryd.func49 <|
  all_cons Tryd.func72 <|
  all_cons Tryd.func73 <|
  all_cons Tryd.func24 <|
  all_cons Tryd.func23 <|
  all_cons Tryd.func8 <|
  all_cons Tryd.func25 <|
  all_cons Tryd.func27 <|
  all_cons Tryd.func50 <|
  all_cons Tryd.func74 <|
  all_cons Tryd.func75 <|
  all_cons Tryd.func98 <|
  all_cons Tryd.func76 <|
  all_cons Tryd.func26 <|
  all_cons Tryd.func51 <|
  all_cons Tryd.func9 <| all_nil
def eqs : List Nat := [45]
theorem eqs_ok : ∀ t ∈ eqs, Tryd.prog.eqGuardType Tryd.prog.depth t = false ∧ Tryd.prog.stoodInHeld t = false ∧ (Tryd.prog.fieldsOf t).toList.all (fun f => decide (f.name ≠ "_")) = true :=
  all_cons ⟨by kernel_rfl, by kernel_rfl, by kernel_rfl⟩ <| all_nil
theorem mixed : Tryd.prog.follows .mixedOrders = true := by kernel_rfl
noncomputable def cxOf (glob : List (Nat × Nat)) (sums : List Sum) : Cx := { P := Tryd.prog, glob := glob, sums := sums, tt := tt, fns := fns, eqs := eqs }
theorem cxOk (glob : List (Nat × Nat)) (sums : List Sum) : CxOk (cxOf glob sums) := ⟨tt_und, tt_inf, fns_ok, mixed, eqs_ok⟩

end Go.Proofs.YtnjmfedleimlmaaDoor.Ev

/- Values without a heap; what they stand for in a world; what a state of such values says of an activation; the statements 'a function does' and 'a piece of code does' over them. No program in sight. -/
namespace Go.Proofs.YtnjmfedleimlmaaDoor.Pw
open Go Go.RowKit

/-- a value: lit, tt, ff are known; int, bool are told by a term; sl is a slice whose elements never change; wref, ref are slices of a block of the store, ptr a cell's address in one; ep is the address of a cell of an element that never changes; gp of a table's -/
inductive PV where
  | lit (k : IntKind) (n : Int) | int (k : IntKind) (n : Int)
  | tt | ff | bool (p : Prop)
  | val (v : Value)
  | clo (f : FuncId) (cs : List PV)
  | nil | sl (n : Nat) (es : List PV)
  | wref (l : Nat) | ref (l off len : Nat)
  | ptr (l off : Nat) | pti (l off : Nat) (i : Int) (size : Nat) | dpt (l i size off : Nat)
  | ep (cs : List PV) (off : Nat) | gp (g off : Nat) | gpi (g off : Nat) (i : Int) (size : Nat)
  | agg (cs : List PV) | tup (vs : List PV)
  deriving Inhabited
def PV.cells : PV → List PV
  | .agg cs => cs
  | v => [v]

/-- a block's kind: a variable; a slice's array that is known; one whose elements are told by a list -/
inductive BK where
  | loc | arr | dyn
  deriving DecidableEq
/-- a block may be written; or it is not to be written now; or never more -/
inductive Md where
  | w | p | r
  deriving DecidableEq
/-- a block of the store: dyn: cs are its elements; else its cells -/
structure PBlk where
  k : BK
  ty : TypeId
  size : Nat
  m : Md
  live : Bool
  cs : List PV
/-- where a block lies: none: nowhere (no element yet) -/
structure Plc where
  a : Option (Nat × Nat)
  len : Nat
  cap : Nat
def Plc.whole (p : Plc) : Value := match p.a with
  | none => .slice none 0 0
  | some (g, o) => .slice (some ⟨g, o, none⟩) p.len p.cap
abbrev Places := Nat → Option Plc

open Classical in
noncomputable def pb (p : Prop) : Bool := decide p
theorem pb_true {p : Prop} (h : p) : pb p = true := @decide_eq_true p (Classical.propDecidable p) h
theorem pb_false {p : Prop} (h : ¬ p) : pb p = false := @decide_eq_false p (Classical.propDecidable p) h
theorem pb_iff {p : Prop} : pb p = true ↔ p := by unfold pb; simp
theorem pb_dec {p : Prop} [Decidable p] : pb p = decide p := by
  by_cases h : p
  · rw [pb_true h, decide_eq_true h]
  · rw [pb_false h, decide_eq_false h]

section
variable (w : World) (I : Nat → Prop)
mutual
def PV.Is : PV → Places → Value → Prop
  | .lit k n, _, v => v = .int k n
  | .int k n, _, v => v = .int k n
  | .tt, _, v => v = .bool true
  | .ff, _, v => v = .bool false
  | .bool p, _, v => v = .bool (pb p)
  | .val x, _, v => v = x ∧ Ev.flat x = true
  | .clo f cs, β, v => ∃ caps : Array Value, v = .func (.func f) #[] caps ∧ IsL cs β caps.toList
  | .nil, _, v => v = .slice none 0 0
  | .sl n es, _, v => ∃ a cap, v = .slice a es.length cap ∧ es.length ≤ cap ∧ es.length ≤ maxLen ∧ (∀ g o, a = some ⟨g, o, none⟩ → IsEs es n g o) ∧ (es.length ≠ 0 → ∃ g o, a = some ⟨g, o, none⟩ ∧ I g ∧ 0 < n)
  | .wref l, β, v => ∃ p, β l = some p ∧ v = p.whole
  | .ref l off len, β, v => ∃ p g o cap, β l = some p ∧ p.a = some (g, o) ∧ v = .slice (some ⟨g, o + off, none⟩) len cap ∧ len ≤ cap
  | .ptr l off, β, v => ∃ p g o, β l = some p ∧ p.a = some (g, o) ∧ v = .pointer (some ⟨g, o + off, none⟩)
  | .pti l off i n, β, v => ∃ p g o, β l = some p ∧ p.a = some (g, o) ∧ v = .pointer (some ⟨g, o + (off + i.toNat * n), none⟩)
  | .dpt l i n off, β, v => ∃ p g o, β l = some p ∧ p.a = some (g, o) ∧ v = .pointer (some ⟨g, o + (i * n + off), none⟩)
  | .ep cs off, _, v => ∃ g o, v = .pointer (some ⟨g, o + off, none⟩) ∧ I g ∧ IsAt cs g o
  | .gp g off, _, v => v = .pointer (some ⟨g, off, none⟩)
  | .gpi g off i n, _, v => v = .pointer (some ⟨g, off + i.toNat * n, none⟩)
  | .agg cs, β, v => ∃ vs : Array Value, v = .agg vs ∧ IsL cs β vs.toList
  | .tup cs, β, v => ∃ vs : Array Value, v = .tuple vs ∧ IsL cs β vs.toList
def IsL : List PV → Places → List Value → Prop
  | [], _, [] => True
  | c :: cs, β, v :: vs => c.Is β v ∧ IsL cs β vs
  | _, _, _ => False
/-- cells, one behind the other, from a place on -/
def IsAt : List PV → Nat → Nat → Prop
  | [], _, _ => True
  | c :: cs, g, o => (∃ v, w.cell? ⟨g, o, none⟩ = some v ∧ c.Is (fun _ => none) v ∧ v.oneCell' = true) ∧ IsAt cs g (o + 1)
/-- elements of n cells each -/
def IsEs : List PV → Nat → Nat → Nat → Prop
  | [], _, _, _ => True
  | .agg cs :: es, n, g, o => (cs.length = n ∧ IsAt cs g o) ∧ IsEs es n g (o + n)
  | e :: es, n, g, o => (n = 1 ∧ ∃ v, w.cell? ⟨g, o, none⟩ = some v ∧ e.Is (fun _ => none) v ∧ v.oneCell' = true) ∧ IsEs es n g (o + n)
end
end

/-- numbers of slots to values, by the bits of the numbers -/
inductive TM where
  | nil | node (v : Option PV) (l r : TM)
  deriving Inhabited
def TM.get : TM → Nat → Option PV
  | .nil, _ => none
  | .node v l r, n => bif Nat.beq n 0 then v else bif Nat.beq (n % 2) 1 then l.get ((n - 1) / 2) else r.get ((n - 1) / 2)
def TM.setK (v : Option PV) : Nat → TM → Nat → (TM → Prop) → Prop
  | 0, _, _, _ => False
  | f + 1, .nil, n, k => bif Nat.beq n 0 then k (.node v .nil .nil) else bif Nat.beq (n % 2) 1 then TM.setK v f .nil ((n - 1) / 2) (fun t => k (.node none t .nil)) else TM.setK v f .nil ((n - 1) / 2) (fun t => k (.node none .nil t))
  | f + 1, .node u l r, n, k => bif Nat.beq n 0 then k (.node v l r) else bif Nat.beq (n % 2) 1 then TM.setK v f l ((n - 1) / 2) (fun t => k (.node u t r)) else TM.setK v f r ((n - 1) / 2) (fun t => k (.node u l t))

/-- a state: how many slots, the slots, the store; the blocks below base are the caller's; those of rl may lie elsewhere afterwards -/
structure PSt where
  n : Nat
  t : TM
  st : List PBlk
  base : Nat
  rl : List Nat

structure Gx where
  cx : Ev.Cx
  tabs : List (Nat × List PV)
  bt : List (Nat × Nat)

def Own (I : Nat → Prop) (β : Places) (st : List PBlk) (l g : Nat) (fr : Nat × Nat) (b : PBlk) : Prop :=
  (b.m ≠ .r → fr = (0, 0) ∧ ¬ I g ∧ ∀ l' b', l' ≠ l → st[l']? = some b' → b'.live = true → ∀ p g' o', β l' = some p → p.a = some (g', o') → g' ≠ g) ∧ (b.m = .r → I g)
def CellsAt (w : World) (I : Nat → Prop) (β : Places) (cs : List PV) (arr : Array Value) (o : Nat) : Prop := ∀ i c, cs[i]? = some c → ∃ v, arr[o + i]? = some v ∧ c.Is w I β v ∧ v.oneCell' = true
def BlkOk (I : Nat → Prop) (β : Places) (st : List PBlk) (w : World) (l : Nat) (b : PBlk) : Prop :=
  ∃ p, β l = some p ∧ match b.k with
  | .loc => ∃ g o arr ty fr, p.a = some (g, o) ∧ w.heap[g]? = some (.cells arr ty fr) ∧ CellsAt w I β b.cs arr o ∧ Own I β st l g fr b
  | .arr => ∃ g arr fr, p.a = some (g, 0) ∧ w.heap[g]? = some (.cells arr b.ty fr) ∧ CellsAt w I β b.cs arr 0 ∧ Own I β st l g fr b ∧ b.cs.length = p.len * b.size ∧ p.len ≤ p.cap ∧ p.cap ≤ maxLen ∧ arr.size = p.cap * b.size ∧ 0 < b.size
  | .dyn => (0 < b.size ∧ b.cs.length = p.len ∧ p.len ≤ p.cap ∧ p.cap ≤ maxLen) ∧ ((p.a = none ∧ p.cap = 0) ∨ ∃ g arr fr, p.a = some (g, 0) ∧ w.heap[g]? = some (.cells arr b.ty fr) ∧ IsEs w I b.cs b.size g 0 ∧ Own I β st l g fr b ∧ arr.size = p.cap * b.size)
structure HeapOk (I : Nat → Prop) (β : Places) (st : List PBlk) (w : World) : Prop where
  far : ∀ l, st.length ≤ l → β l = none
  blk : ∀ l b, st[l]? = some b → b.live = true → BlkOk I β st w l b
/-- what never changes lies in known memory; the tables -/
structure ImmOk (G : Gx) (I : Nat → Prop) (w : World) : Prop where
  imm : ∀ g, I g → g < w.heap.size
  tab : ∀ g cs, (g, cs) ∈ G.tabs → I g ∧ IsAt w I cs g 0
structure Rel (G : Gx) (I : Nat → Prop) (β : Places) (s : PSt) (a : Act) (w : World) : Prop where
  small : s.n ≤ 16777215
  defers : a.defers = []
  size : a.tmps.size = s.n
  base : s.base ≤ s.st.length
  get : ∀ t x, s.t.get t = some x → ∃ v, a.tmps[t]? = some v ∧ x.Is w I β v
  heap : HeapOk I β s.st w
  imm : ImmOk G I w
/-- the blocks that may be written -/
def Wr (β : Places) (st : List PBlk) (g : Nat) : Prop := ∃ l b p o, st[l]? = some b ∧ b.live = true ∧ b.m = .w ∧ β l = some p ∧ p.a = some (g, o)
/-- from one state of memory to another: what was there and may not be written is as it was -/
structure Ext (I : Nat → Prop) (β : Places) (st : List PBlk) (w : World) (I' : Nat → Prop) (β' : Places) (st' : List PBlk) (w' : World) : Prop where
  os : w'.os = w.os
  tape : w'.tape = w.tape
  output : w'.output = w.output
  size : w.heap.size ≤ w'.heap.size
  block : ∀ g, g < w.heap.size → ¬ Wr β st g → w'.heap[g]? = w.heap[g]?
  wr : ∀ g, g < w.heap.size → Wr β' st' g → Wr β st g
  imm : ∀ g, I g → I' g
  new : ∀ g, g < w.heap.size → I' g → I g ∨ Wr β st g

inductive X where
  | nml | exit (id : Nat) | ret
def X.e : X → Exit
  | .nml => .normal
  | .exit id => .exit id
  | .ret => .ret

/-- a function, called at args and a store, yields a value and a store that meet K -/
@[irreducible] def Spec (G : Gx) (f : FuncId) (args : List PV) (S : List PBlk) (rl : List Nat) (K : PV → List PBlk → Prop) : Prop :=
  Ev.Enters G.cx.P f ∧ ∀ I β w vals, HeapOk I β S w → ImmOk G I w → IsL w I args β vals →
    Calls G.cx.P f vals.toArray w fun e w' => ∃ v r S' I' β', e = .returned v ∧ K r S' ∧ r.Is w' I' β' v ∧ HeapOk I' β' S' w' ∧ ImmOk G I' w' ∧ Ext I β S w I' β' S' w' ∧ S.length ≤ S'.length ∧ ∀ l, l < S.length → l ∉ rl → β' l = β l
/-- what a piece of code leaves -/
def Post (G : Gx) (s : PSt) (I : Nat → Prop) (β : Places) (w : World) (Q : X → PSt → Prop) (e : Exit) (a' : Act) (w' : World) : Prop :=
  ∃ x s' I' β', e = X.e x ∧ Q x s' ∧ Rel G I' β' s' a' w' ∧ Ext I β s.st w I' β' s'.st w' ∧ s'.base = s.base ∧ s'.rl = s.rl ∧ s'.n = s.n ∧ ∀ l, l < s.base → l ∉ s.rl → β' l = β l
@[irreducible] def SW (G : Gx) (c : Code) (Q : X → PSt → Prop) (s : PSt) : Prop :=
  ∀ I β a w, Rel G I β s a w → c.wp G.cx.P (Post G s I β w Q) a w

end Go.Proofs.YtnjmfedleimlmaaDoor.Pw

/- Values and memory: what stays true as a world goes on. -/
namespace Go.Proofs.YtnjmfedleimlmaaDoor.Pw
open Go Go.RowKit

mutual
/-- the blocks that a value leads to -/
def PV.uses : PV → List Nat
  | .wref l => [l] | .ref l _ _ => [l] | .ptr l _ => [l] | .pti l _ _ _ => [l] | .dpt l _ _ _ => [l]
  | .clo _ cs => usesL cs | .agg cs => usesL cs | .tup cs => usesL cs
  | _ => []
def usesL : List PV → List Nat
  | [] => []
  | c :: cs => c.uses ++ usesL cs
end

section
variable {w w' : World} {I I' : Nat → Prop} {β β' : Places}
mutual
theorem PV.Is.mono (hI : ∀ g, I g → I' g) (hw : ∀ g, I g → w'.heap[g]? = w.heap[g]?) : ∀ (x : PV) (β β' : Places) (v : Value), (∀ l p, l ∈ x.uses → β l = some p → β' l = some p) → x.Is w I β v → x.Is w' I' β' v
  | .lit .., _, _, _, _, h => by simp only [PV.Is] at h ⊢; exact h
  | .int .., _, _, _, _, h => by simp only [PV.Is] at h ⊢; exact h
  | .tt, _, _, _, _, h => by simp only [PV.Is] at h ⊢; exact h
  | .ff, _, _, _, _, h => by simp only [PV.Is] at h ⊢; exact h
  | .bool _, _, _, _, _, h => by simp only [PV.Is] at h ⊢; exact h
  | .val _, _, _, _, _, h => by simp only [PV.Is] at h ⊢; exact h
  | .nil, _, _, _, _, h => by simp only [PV.Is] at h ⊢; exact h
  | .gp .., _, _, _, _, h => by simp only [PV.Is] at h ⊢; exact h
  | .gpi .., _, _, _, _, h => by simp only [PV.Is] at h ⊢; exact h
  | .clo f cs, β, β', v, hb, h => by
    simp only [PV.Is] at h ⊢
    obtain ⟨caps, rfl, h⟩ := h
    exact ⟨caps, rfl, IsL.mono hI hw cs β β' _ (fun l p hl => hb l p (by simpa only [PV.uses] using hl)) h⟩
  | .agg cs, β, β', v, hb, h => by
    simp only [PV.Is] at h ⊢
    obtain ⟨caps, rfl, h⟩ := h
    exact ⟨caps, rfl, IsL.mono hI hw cs β β' _ (fun l p hl => hb l p (by simpa only [PV.uses] using hl)) h⟩
  | .tup cs, β, β', v, hb, h => by
    simp only [PV.Is] at h ⊢
    obtain ⟨caps, rfl, h⟩ := h
    exact ⟨caps, rfl, IsL.mono hI hw cs β β' _ (fun l p hl => hb l p (by simpa only [PV.uses] using hl)) h⟩
  | .sl n es, _, _, v, _, h => by
    simp only [PV.Is] at h ⊢
    obtain ⟨a, cap, rfl, h1, h2, h3, h4⟩ := h
    refine ⟨a, cap, rfl, h1, h2, fun g o ha => ?_, fun hn => ?_⟩
    · by_cases hl : es.length = 0
      · have : es = [] := List.eq_nil_of_length_eq_zero hl
        subst this; simp only [IsEs]
      · obtain ⟨g', o', ha', hg, _⟩ := h4 hl
        rw [ha] at ha'
        cases ha'
        exact IsEs.mono hI hw es n g o (hw g hg) (h3 g o ha)
    · obtain ⟨g, o, ha, hg, hn⟩ := h4 hn
      exact ⟨g, o, ha, hI g hg, hn⟩
  | .wref l, β, β', v, hb, h => by
    simp only [PV.Is] at h ⊢
    obtain ⟨p, hp, h⟩ := h
    exact ⟨p, hb l p (by simp [PV.uses]) hp, h⟩
  | .ref l _ _, β, β', v, hb, h => by
    simp only [PV.Is] at h ⊢
    obtain ⟨p, g, o, c, hp, h⟩ := h
    exact ⟨p, g, o, c, hb l p (by simp [PV.uses]) hp, h⟩
  | .ptr l _, β, β', v, hb, h => by
    simp only [PV.Is] at h ⊢
    obtain ⟨p, g, o, hp, h⟩ := h
    exact ⟨p, g, o, hb l p (by simp [PV.uses]) hp, h⟩
  | .pti l _ _ _, β, β', v, hb, h => by
    simp only [PV.Is] at h ⊢
    obtain ⟨p, g, o, hp, h⟩ := h
    exact ⟨p, g, o, hb l p (by simp [PV.uses]) hp, h⟩
  | .dpt l _ _ _, β, β', v, hb, h => by
    simp only [PV.Is] at h ⊢
    obtain ⟨p, g, o, hp, h⟩ := h
    exact ⟨p, g, o, hb l p (by simp [PV.uses]) hp, h⟩
  | .ep cs _, _, _, v, _, h => by
    simp only [PV.Is] at h ⊢
    obtain ⟨g, o, rfl, hg, h⟩ := h
    exact ⟨g, o, rfl, hI g hg, IsAt.mono hI hw cs g o (hw g hg) h⟩
theorem IsL.mono (hI : ∀ g, I g → I' g) (hw : ∀ g, I g → w'.heap[g]? = w.heap[g]?) : ∀ (cs : List PV) (β β' : Places) (vs : List Value), (∀ l p, l ∈ usesL cs → β l = some p → β' l = some p) → IsL w I cs β vs → IsL w' I' cs β' vs
  | [], _, _, [], _, _ => by simp only [IsL]
  | c :: cs, β, β', v :: vs, hb, h => by
    simp only [IsL] at h ⊢
    exact ⟨PV.Is.mono hI hw c β β' v (fun l p hl => hb l p (by simp only [usesL, List.mem_append]; exact .inl hl)) h.1, IsL.mono hI hw cs β β' vs (fun l p hl => hb l p (by simp only [usesL, List.mem_append]; exact .inr hl)) h.2⟩
  | [], _, _, _ :: _, _, h => by simp only [IsL] at h
  | _ :: _, _, _, [], _, h => by simp only [IsL] at h
theorem IsAt.mono (hI : ∀ g, I g → I' g) (hw : ∀ g, I g → w'.heap[g]? = w.heap[g]?) : ∀ (cs : List PV) (g o : Nat), w'.heap[g]? = w.heap[g]? → IsAt w I cs g o → IsAt w' I' cs g o
  | [], _, _, _, _ => by simp only [IsAt]
  | c :: cs, g, o, hg, h => by
    simp only [IsAt] at h ⊢
    obtain ⟨⟨v, h1, h2, h3⟩, h4⟩ := h
    exact ⟨⟨v, (World.cell?_of_block (a := ⟨g, o, none⟩) hg).trans h1, PV.Is.mono hI hw c _ _ v (fun _ _ _ h => h) h2, h3⟩, IsAt.mono hI hw cs g (o + 1) hg h4⟩
theorem IsEs.mono (hI : ∀ g, I g → I' g) (hw : ∀ g, I g → w'.heap[g]? = w.heap[g]?) : ∀ (es : List PV) (n g o : Nat), w'.heap[g]? = w.heap[g]? → IsEs w I es n g o → IsEs w' I' es n g o
  | [], _, _, _, _, _ => by simp only [IsEs]
  | e :: es, n, g, o, hg, h => by
    have one : (n = 1 ∧ ∃ v, w.cell? ⟨g, o, none⟩ = some v ∧ e.Is w I (fun _ => none) v ∧ v.oneCell' = true) → (n = 1 ∧ ∃ v, w'.cell? ⟨g, o, none⟩ = some v ∧ e.Is w' I' (fun _ => none) v ∧ v.oneCell' = true) := by
      rintro ⟨h0, v, h1, h2, h3⟩
      exact ⟨h0, v, (World.cell?_of_block (a := ⟨g, o, none⟩) hg).trans h1, PV.Is.mono hI hw e _ _ v (fun _ _ _ h => h) h2, h3⟩
    cases e with
    | agg cs =>
      simp only [IsEs] at h ⊢
      exact ⟨⟨h.1.1, IsAt.mono hI hw cs g o hg h.1.2⟩, IsEs.mono hI hw es n g (o + n) hg h.2⟩
    | _ => simp only [IsEs] at h ⊢; exact ⟨one h.1, IsEs.mono hI hw es n g (o + n) hg h.2⟩
end
end

/-- an element at a place -/
def ElAt (w : World) (I : Nat → Prop) (n : Nat) (e : PV) (g o : Nat) : Prop := e.cells.length = n ∧ IsAt w I e.cells g o
section
variable {w w' : World} {I I' : Nat → Prop} {β β' : Places} {G : Gx}
theorem IsEs.cons {e : PV} {es : List PV} {n g o : Nat} : IsEs w I (e :: es) n g o ↔ ElAt w I n e g o ∧ IsEs w I es n g (o + n) := by
  cases e <;> simp only [IsEs, ElAt, PV.cells, IsAt, List.length_cons, List.length_nil, and_true, Nat.zero_add] <;> exact and_congr_left fun _ => and_congr_left fun _ => ⟨fun h => h.symm, fun h => h.symm⟩
theorem IsEs.get : ∀ {es : List PV} {n g o i : Nat} {e : PV}, IsEs w I es n g o → es[i]? = some e → ElAt w I n e g (o + i * n)
  | [], _, _, _, _, _, _, h => by simp at h
  | x :: es, n, g, o, 0, e, h, he => by
    simp at he; subst he
    simpa using (IsEs.cons.1 h).1
  | x :: es, n, g, o, i + 1, e, h, he => by
    have := IsEs.get (i := i) (IsEs.cons.1 h).2 (by simpa using he)
    rw [show o + (i + 1) * n = o + n + i * n by rw [Nat.succ_mul]; omega]
    exact this
theorem IsEs.of : ∀ {es : List PV} {n g o : Nat}, (∀ i e, es[i]? = some e → ElAt w I n e g (o + i * n)) → IsEs w I es n g o
  | [], _, _, _, _ => by simp only [IsEs]
  | x :: es, n, g, o, h => IsEs.cons.2 ⟨by simpa using h 0 x rfl, IsEs.of fun i e he => by
    have := h (i + 1) e (by simpa using he)
    rw [show o + (i + 1) * n = o + n + i * n by rw [Nat.succ_mul]; omega] at this
    exact this⟩
theorem IsEs.append {es fs : List PV} {n g o : Nat} (h : IsEs w I es n g o) (h' : IsEs w I fs n g (o + es.length * n)) : IsEs w I (es ++ fs) n g o := by
  refine IsEs.of fun i e he => ?_
  by_cases hi : i < es.length
  · rw [List.getElem?_append_left hi] at he; exact h.get he
  · rw [List.getElem?_append_right (by omega)] at he
    have := h'.get he
    rw [show o + es.length * n + (i - es.length) * n = o + i * n by rw [Nat.sub_mul]; have : es.length * n ≤ i * n := Nat.mul_le_mul_right _ (by omega); omega] at this
    exact this
theorem IsAt.get : ∀ {cs : List PV} {g o i : Nat} {c : PV}, IsAt w I cs g o → cs[i]? = some c → ∃ v, w.cell? ⟨g, o + i, none⟩ = some v ∧ c.Is w I (fun _ => none) v ∧ v.oneCell' = true
  | [], _, _, _, _, _, h => by simp at h
  | x :: es, g, o, 0, e, h, he => by
    simp at he; subst he
    simp only [IsAt] at h
    exact h.1
  | x :: es, g, o, i + 1, e, h, he => by
    simp only [IsAt] at h
    have := IsAt.get (i := i) h.2 (by simpa using he)
    rw [show o + (i + 1) = o + 1 + i by omega]
    exact this
theorem IsAt.of : ∀ {cs : List PV} {g o : Nat}, (∀ i c, cs[i]? = some c → ∃ v, w.cell? ⟨g, o + i, none⟩ = some v ∧ c.Is w I (fun _ => none) v ∧ v.oneCell' = true) → IsAt w I cs g o
  | [], _, _, _ => by simp only [IsAt]
  | x :: es, g, o, h => by
    simp only [IsAt]
    refine ⟨h 0 x rfl, IsAt.of fun i c hc => ?_⟩
    have := h (i + 1) c (by simpa using hc)
    rw [show o + (i + 1) = o + 1 + i by omega] at this
    exact this
theorem IsL.length : ∀ {cs : List PV} {β : Places} {vs : List Value}, IsL w I cs β vs → cs.length = vs.length
  | [], _, [], _ => rfl
  | _ :: cs, _, _ :: vs, h => by simp only [IsL] at h; simp only [List.length_cons, IsL.length h.2]
  | [], _, _ :: _, h => by simp only [IsL] at h
  | _ :: _, _, [], h => by simp only [IsL] at h
theorem IsL.get : ∀ {cs : List PV} {β : Places} {vs : List Value} {i : Nat} {c : PV}, IsL w I cs β vs → cs[i]? = some c → ∃ v, vs[i]? = some v ∧ c.Is w I β v
  | [], _, _, _, _, _, h => by simp at h
  | x :: cs, _, v :: vs, 0, c, h, hc => by simp at hc; subst hc; simp only [IsL] at h; exact ⟨v, rfl, h.1⟩
  | x :: cs, _, v :: vs, i + 1, c, h, hc => by simp only [IsL] at h; simpa using IsL.get (i := i) h.2 (by simpa using hc)
  | _ :: _, _, [], _, _, h, _ => by simp only [IsL] at h
theorem IsL.of : ∀ {cs : List PV} {β : Places} {vs : List Value}, cs.length = vs.length → (∀ (i : Nat) (c : PV), cs[i]? = some c → ∃ v, vs[i]? = some v ∧ c.Is w I β v) → IsL w I cs β vs
  | [], _, [], _, _ => by simp only [IsL]
  | x :: cs, _, v :: vs, hl, h => by
    simp only [IsL]
    refine ⟨?_, IsL.of (by simpa using hl) fun i c hc => by simpa using h (i + 1) c (by simpa using hc)⟩
    obtain ⟨u, hu, hi⟩ := h 0 x rfl
    simp at hu; subst hu; exact hi
  | [], _, _ :: _, h, _ => by simp at h
  | _ :: _, _, [], h, _ => by simp at h
theorem IsL.append {cs ds : List PV} {vs us : List Value} (h : IsL w I cs β vs) (h' : IsL w I ds β us) : IsL w I (cs ++ ds) β (vs ++ us) := by
  refine IsL.of (by simp [h.length, h'.length]) fun i c hc => ?_
  have hl := h.length
  by_cases hi : i < cs.length
  · rw [List.getElem?_append_left hi] at hc
    rw [List.getElem?_append_left (by omega)]; exact h.get hc
  · rw [List.getElem?_append_right (by omega)] at hc
    rw [List.getElem?_append_right (by omega), ← hl]; exact h'.get hc
theorem IsL.take {cs : List PV} {vs : List Value} (n : Nat) (h : IsL w I cs β vs) : IsL w I (cs.take n) β (vs.take n) := by
  refine IsL.of (by simp [h.length]) fun i c hc => ?_
  rw [List.getElem?_take] at hc ⊢
  split at hc
  · rename_i hi; rw [if_pos hi]; exact h.get hc
  · cases hc
theorem IsL.drop {cs : List PV} {vs : List Value} (n : Nat) (h : IsL w I cs β vs) : IsL w I (cs.drop n) β (vs.drop n) := by
  refine IsL.of (by simp [h.length]) fun i c hc => ?_
  rw [List.getElem?_drop] at hc ⊢
  exact h.get hc
theorem IsL.one {c : PV} {v : Value} (h : c.Is w I β v) : IsL w I [c] β [v] := by simp only [IsL, and_true]; exact h

/-- one cell's values -/
def PV.cell1 : PV → Bool
  | .agg _ | .tup _ => false
  | _ => true
theorem PV.Is.flat {x : PV} {v : Value} (hx : x.cell1 = true) (h : x.Is w I β v) : Ev.flat v = true := by
  cases x <;> simp only [PV.Is] at h
  case lit => subst h; rfl
  case int => subst h; rfl
  case tt => subst h; rfl
  case ff => subst h; rfl
  case bool => subst h; rfl
  case val => rw [h.1]; exact h.2
  case clo => obtain ⟨_, rfl, _⟩ := h; rfl
  case nil => subst h; rfl
  case sl => obtain ⟨_, _, rfl, _⟩ := h; rfl
  case wref => obtain ⟨p, _, rfl⟩ := h; unfold Plc.whole; split <;> rfl
  case ref => obtain ⟨_, _, _, _, _, _, rfl, _⟩ := h; rfl
  case ptr => obtain ⟨_, _, _, _, _, rfl⟩ := h; rfl
  case pti => obtain ⟨_, _, _, _, _, rfl⟩ := h; rfl
  case dpt => obtain ⟨_, _, _, _, _, rfl⟩ := h; rfl
  case ep => obtain ⟨_, _, rfl, _⟩ := h; rfl
  case gp => subst h; rfl
  case gpi => subst h; rfl
  case agg => cases hx
  case tup => cases hx
theorem flat_one {v : Value} (h : Ev.flat v = true) : v.oneCell' = true := by cases v <;> simp_all [Ev.flat, Value.oneCell']
theorem PV.Is.cellsL {x : PV} {v : Value} (hx : ∀ vs, x ≠ .tup vs) (h : x.Is w I β v) : IsL w I x.cells β v.cells.toList := by
  cases x with
  | agg cs => simp only [PV.Is] at h; obtain ⟨vs, rfl, h⟩ := h; exact h
  | tup vs => exact absurd rfl (hx vs)
  | _ => rw [Ev.cells_flat (h.flat rfl)]; simp only [PV.cells]; exact IsL.one h

/-! ### memory -/
theorem CellsAt.mono {cs : List PV} {arr : Array Value} {o : Nat} (hI : ∀ g, I g → I' g) (hw : ∀ g, I g → w'.heap[g]? = w.heap[g]?) (hb : ∀ l p, β l = some p → β' l = some p) (h : CellsAt w I β cs arr o) : CellsAt w' I' β' cs arr o :=
  fun i c hc => let ⟨v, h1, h2, h3⟩ := h i c hc; ⟨v, h1, PV.Is.mono hI hw c β β' v (fun l p _ => hb l p) h2, h3⟩
theorem lt_of_heap {o : Obj} {b : Nat} (h : w.heap[b]? = some o) : b < w.heap.size := (Array.getElem?_eq_some_iff.1 h).1
theorem Ext.refl {st : List PBlk} : Ext I β st w I β st w := ⟨rfl, rfl, rfl, Nat.le_refl _, fun _ _ _ => rfl, fun _ _ h => h, fun _ h => h, fun _ _ h => .inl h⟩
theorem Ext.trans {I'' : Nat → Prop} {β'' : Places} {st st' st'' : List PBlk} {w'' : World} (h : Ext I β st w I' β' st' w') (k : Ext I' β' st' w' I'' β'' st'' w'') : Ext I β st w I'' β'' st'' w'' where
  os := k.os.trans h.os
  tape := k.tape.trans h.tape
  output := k.output.trans h.output
  size := Nat.le_trans h.size k.size
  block := fun g hg hn => (k.block g (Nat.lt_of_lt_of_le hg h.size) fun hw => hn (h.wr g hg hw)).trans (h.block g hg hn)
  wr := fun g hg hw => h.wr g hg (k.wr g (Nat.lt_of_lt_of_le hg h.size) hw)
  imm := fun g hg => k.imm g (h.imm g hg)
  new := fun g hg hi => (k.new g (Nat.lt_of_lt_of_le hg h.size) hi).elim (fun h1 => h.new g hg h1) fun h1 => .inr (h.wr g hg h1)
theorem Own.mono {st st' : List PBlk} {l g : Nat} {fr : Nat × Nat} {b : PBlk} (hI : ∀ g, I g → I' g) (hn : ¬ I g → ¬ I' g)
    (hs : ∀ l' b', l' ≠ l → st'[l']? = some b' → b'.live = true → ∀ p g' o', β' l' = some p → p.a = some (g', o') → g' ≠ g ∨ ∃ b'', st[l']? = some b'' ∧ b''.live = true ∧ β l' = some p) (h : Own I β st l g fr b) : Own I' β' st' l g fr b :=
  ⟨fun hr => let ⟨h1, h2, h3⟩ := h.1 hr; ⟨h1, hn h2, fun l' b' hne hb hl p g' o' hp ha => (hs l' b' hne hb hl p g' o' hp ha).elim id fun ⟨b'', hb'', hl'', hp'⟩ => h3 l' b'' hne hb'' hl'' p g' o' hp' ha⟩, fun hr => hI g (h.2 hr)⟩
/-- a writable block is no immutable one -/
theorem HeapOk.wr_imm {st : List PBlk} (h : HeapOk I β st w) {g : Nat} (hg : Wr β st g) : ¬ I g := by
  obtain ⟨l, b, p, o, h1, h2, h3, h4, h5⟩ := hg
  obtain ⟨q, hq, hk⟩ := h.blk l b h1 h2
  rw [h4] at hq
  cases hq
  split at hk
  · obtain ⟨g', o', arr, ty, fr, ha, _, _, ho, _⟩ := hk
    rw [h5] at ha; cases ha; exact (ho (by rw [h3]; decide)).2.1
  · obtain ⟨g', arr, fr, ha, _, _, ho, _⟩ := hk
    rw [h5] at ha; cases ha; exact (ho.1 (by rw [h3]; decide)).2.1
  · obtain ⟨_, hk⟩ := hk
    rcases hk with ⟨ha, _⟩ | ⟨g', arr, fr, ha, _, _, ho, _⟩
    · rw [h5] at ha; cases ha
    · rw [h5] at ha; cases ha; exact (ho.1 (by rw [h3]; decide)).2.1
theorem ImmOk.ext {st st' : List PBlk} (h : ImmOk G I w) (hk : HeapOk I β st w) (he : Ext I β st w I' β' st' w') (hlt : ∀ g, I' g → g < w'.heap.size) : ImmOk G I' w' where
  imm := hlt
  tab := fun g cs hg => by
    obtain ⟨h1, h2⟩ := h.tab g cs hg
    have hw : ∀ g, I g → w'.heap[g]? = w.heap[g]? := fun g hg => he.block g (h.imm g hg) fun hw => hk.wr_imm hw hg
    exact ⟨he.imm g h1, IsAt.mono he.imm hw cs g 0 (hw g h1) h2⟩
/-- immutable blocks are as they were -/
theorem Ext.keeps {st st' : List PBlk} (he : Ext I β st w I' β' st' w') (hk : HeapOk I β st w) (hm : ∀ g, I g → g < w.heap.size) : ∀ g, I g → w'.heap[g]? = w.heap[g]? := fun g hg => he.block g (hm g hg) fun hw => hk.wr_imm hw hg
end

end Go.Proofs.YtnjmfedleimlmaaDoor.Pw

/- An evaluator of the model's code over values without a heap: it yields the condition under which the code does what is asked. No program in sight. -/
namespace Go.Proofs.YtnjmfedleimlmaaDoor.Pw
open Go

def need {α : Type} (o : Option α) (k : α → Prop) : Prop := match o with
  | some x => k x
  | none => False

def lenK {α : Type} : List α → Nat → (Nat → Prop) → Prop
  | [], n, q => q n
  | _ :: l, n, q => lenK l (n + 1) q
def lenO {α β : Type} : List α → Nat → (Nat → Option β) → Option β
  | [], n, q => q n
  | _ :: l, n, q => lenO l (n + 1) q
theorem lenO_eq {α β : Type} : ∀ (l : List α) (n : Nat) (q : Nat → Option β), lenO l n q = q (n + l.length)
  | [], _, _ => rfl
  | _ :: l, n, q => by rw [lenO, lenO_eq l, List.length_cons, show n + 1 + l.length = n + (l.length + 1) by omega]
theorem lenK_eq {α : Type} : ∀ (l : List α) (n : Nat) (q : Nat → Prop), lenK l n q = q (n + l.length)
  | [], _, _ => rfl
  | _ :: l, n, q => by rw [lenK, lenK_eq l, List.length_cons, show n + 1 + l.length = n + (l.length + 1) by omega]

/-- a block's size, laid bare -/
def PBlk.szK {α : Sort _} (b : PBlk) (q : Nat → α) : α := match b with
  | ⟨_, _, n, _, _, _⟩ => q n
theorem PBlk.szK_eq {α : Sort _} (b : PBlk) (q : Nat → α) : b.szK q = q b.size := by cases b; rfl

/-! ### values are laid bare -/
def fc1 (x : PV) (q : PV → Prop) : Prop := match x with
  | .lit k n => q (.lit k n) | .int k n => q (.int k n) | .tt => q .tt | .ff => q .ff | .bool p => q (.bool p) | .val v => q (.val v)
  | .clo f cs => q (.clo f cs) | .nil => q .nil | .sl n es => q (.sl n es) | .wref l => q (.wref l) | .ref l o n => q (.ref l o n)
  | .ptr l o => q (.ptr l o) | .pti l o i n => q (.pti l o i n) | .dpt l i n o => q (.dpt l i n o) | .ep cs o => q (.ep cs o)
  | .gp g o => q (.gp g o) | .gpi g o i n => q (.gpi g o i n) | .agg cs => q (.agg cs) | .tup vs => q (.tup vs)
def forceL : List PV → (List PV → Prop) → Prop
  | [], q => q []
  | c :: cs, q => fc1 c fun c => forceL cs fun cs => q (c :: cs)
def fcA (x : PV) (q : PV → Prop) : Prop := match x with
  | .agg cs => forceL cs fun cs => q (.agg cs)
  | .clo f cs => forceL cs fun cs => q (.clo f cs)
  | x => fc1 x q
def forceT : List PV → (List PV → Prop) → Prop
  | [], q => q []
  | c :: cs, q => fcA c fun c => forceT cs fun cs => q (c :: cs)
def fc (x : PV) (q : PV → Prop) : Prop := match x with
  | .tup cs => forceT cs fun cs => q (.tup cs)
  | x => fcA x q

def PSt.put (s : PSt) (dst : Option Tmp) (x : PV) (k : PSt → Prop) : Prop := match s with
  | ⟨n, t, st, b, rl⟩ => (match dst with
    | none => k ⟨n, t, st, b, rl⟩
    | some d => bif Nat.blt d n then fc x fun x => t.setK (some x) 24 d fun t => k ⟨n, t, st, b, rl⟩ else False)
def PSt.store (s : PSt) (st : List PBlk) : PSt := match s with
  | ⟨n, t, _, b, rl⟩ => ⟨n, t, st, b, rl⟩

def konstL (k : Value → (PV → Prop) → Prop) : List Value → (List PV → Prop) → Prop
  | [], q => q []
  | v :: vs, q => k v fun x => konstL k vs fun xs => q (x :: xs)
def konst1 (v : Value) (q : PV → Prop) : Prop := match v with
  | .int k n => q (.lit k n)
  | .bool true => q .tt
  | .bool false => q .ff
  | .slice none 0 0 => q .nil
  | .func (.func f) ⟨[]⟩ ⟨[]⟩ => q (.clo f [])
  | v => bif Ev.flat v then q (.val v) else False
def konst (v : Value) (q : PV → Prop) : Prop := match v with
  | .agg ⟨cs⟩ => konstL konst1 cs fun cs => q (.agg cs)
  | v => konst1 v q
def PSt.ev (s : PSt) (o : Operand) (q : PV → Prop) : Prop := match o with
  | .tmp t => need (s.t.get t) q
  | .const v => konst v q
  | .global g => q (.gp g 0)
  | .func f => q (.clo f [])

/-! ### numbers -/
def PV.num : PV → Option (Bool × IntKind × Int)
  | .lit k n => some (true, k, n)
  | .int k n => some (false, k, n)
  | _ => none
def PV.bl : PV → Option Prop
  | .tt => some True
  | .ff => some False
  | .bool p => some p
  | _ => none
def InR (k : IntKind) (z : Int) : Prop := Ev.kmin k ≤ z ∧ z ≤ Ev.kmax k
/-- a number that is within its kind's bounds; or it is wrapped -/
def outN (k : IntKind) (z : Int) (q : PV → Prop) : Prop := (InR k z ∧ q (.int k z)) ∨ q (.int k (k.wrap z))
def bopD (op : BinOp) (k : IntKind) (a b : Int) (q : PV → Prop) : Prop := match op with
  | .add => outN k (a + b) q
  | .sub => outN k (a - b) q
  | .mul => outN k (a * b) q
  | .quo => b ≠ 0 ∧ ((0 ≤ a ∧ a ≤ Ev.kmax k ∧ 0 < b ∧ q (.int k (a / b))) ∨ q (.int k (k.wrap (a.tdiv b))))
  | .rem => b ≠ 0 ∧ ((0 ≤ a ∧ 0 < b ∧ q (.int k (a % b))) ∨ q (.int k (a.tmod b)))
  | .and => q (.int k (bits .and k a b))
  | .or => q (.int k (bits .or k a b))
  | .xor => q (.int k (bits .xor k a b))
  | .andNot => q (.int k (bits .andNot k a b))
  | .eql => q (.bool (a = b))
  | .neq => q (.bool (¬ a = b))
  | .lss => q (.bool (a < b))
  | .leq => q (.bool (a ≤ b))
  | .gtr => q (.bool (b < a))
  | .geq => q (.bool (b ≤ a))
  | _ => False
def tf (b : Bool) (q : PV → Prop) : Prop := match b with
  | true => q .tt
  | false => q .ff
def bopS (op : BinOp) (k : IntKind) (a b : Int) (q : PV → Prop) : Prop := match op with
  | .add => q (.lit k (k.wrap (a + b)))
  | .sub => q (.lit k (k.wrap (a - b)))
  | .mul => q (.lit k (k.wrap (a * b)))
  | .quo => bif decide (b = 0) then False else q (.lit k (k.wrap (a.tdiv b)))
  | .rem => bif decide (b = 0) then False else q (.lit k (a.tmod b))
  | .and => q (.lit k (bits .and k a b))
  | .or => q (.lit k (bits .or k a b))
  | .xor => q (.lit k (bits .xor k a b))
  | .andNot => q (.lit k (bits .andNot k a b))
  | .eql => tf (decide (a = b)) q
  | .neq => tf (!decide (a = b)) q
  | .lss => tf (decide (a < b)) q
  | .leq => tf (decide (a ≤ b)) q
  | .gtr => tf (decide (b < a)) q
  | .geq => tf (decide (b ≤ a)) q
  | _ => False
def shift (op : BinOp) (st : Bool) (k : IntKind) (a b : Int) (q : PV → Prop) : Prop := match op, st with
  | .shl, true => bif decide (0 ≤ b) then q (.lit k (k.wrap (a * Ev.pow2 k b))) else False
  | .shr, true => bif decide (0 ≤ b) then q (.lit k (a / Ev.pow2 k b)) else False
  | .shl, false => 0 ≤ b ∧ outN k (a * Ev.pow2 k b) q
  | .shr, false => 0 ≤ b ∧ q (.int k (a / Ev.pow2 k b))
  | _, _ => False
def nump (op : BinOp) (sx sy : Bool) (k k' : IntKind) (a b : Int) (q : PV → Prop) : Prop := match op with
  | .shl => shift .shl (sx && sy) k a b q
  | .shr => shift .shr (sx && sy) k a b q
  | op => bif decide (k = k') then (match sx && sy with
      | true => bopS op k a b q
      | false => bopD op k a b q) else False
/-- a truth, or its contrary -/
def eqn (op : BinOp) (p : Prop) (q : PV → Prop) : Prop := match op with
  | .eql => q (.bool p)
  | .neq => q (.bool (¬ p))
  | _ => False
def eqb (op : BinOp) (b : Bool) (q : PV → Prop) : Prop := match op with
  | .eql => tf b q
  | .neq => tf (!b) q
  | _ => False

def partO (cx : Ev.Cx) (t : TypeId) (cs : List PV) (off : Nat) : Option PV :=
  match Ev.isAggT cx t, Ev.sizeT cx t with
  | some true, some n => if Nat.ble (off + n) cs.length then some (.agg ((cs.drop off).take n)) else none
  | some false, _ => cs[off]?
  | _, _ => none
def part (cx : Ev.Cx) (t : TypeId) (cs : List PV) (off : Nat) (q : PV → Prop) : Prop := need (partO cx t cs off) fun x => fcA x q

/-- '==' of structs, field by field -/
def eqFs (r : TypeId → PV → PV → Option Prop) (cx : Ev.Cx) (xs ys : List PV) : List Field → Option Prop
  | [] => some True
  | f :: fs => match partO cx f.type xs f.offset, partO cx f.type ys f.offset with
    | some a, some b => (match r f.type a b, eqFs r cx xs ys fs with
      | some e, some e' => some (e ∧ e')
      | _, _ => none)
    | _, _ => none
def eqElems (r : TypeId → PV → PV → Option Prop) (cx : Ev.Cx) (t : TypeId) (size : Nat) (xs ys : List PV) : Nat → Nat → Option Prop
  | 0, _ => some True
  | n + 1, off => match partO cx t xs off, partO cx t ys off with
    | some a, some b => (match r t a b, eqElems r cx t size xs ys n (off + size) with
      | some e, some e' => some (e ∧ e')
      | _, _ => none)
    | _, _ => none
def eqT (cx : Ev.Cx) : Nat → TypeId → PV → PV → Option Prop
  | 0, _, _, _ => none
  | n + 1, t, a, b => match cx.und t with
    | some (.int _) => (match a.num, b.num with
      | some (_, k, x), some (_, l, y) => if decide (k = l) then some (x = y) else none
      | _, _ => none)
    | some .bool => (match a.bl, b.bl with
      | some p, some q => some (p ↔ q)
      | _, _ => none)
    | some (.struct fs) => (match a, b with
      | .agg xs, .agg ys => if cx.eqs.any (Nat.beq t) then eqFs (eqT cx n) cx xs ys fs.toList else none
      | _, _ => none)
    | _ => none

def eqNil (st : List PBlk) (op : BinOp) (x : PV) (q : PV → Prop) : Prop := match x with
  | .nil => eqb op true q
  | .ref _ _ _ => eqb op false q
  | .wref l => need st[l]? fun b => bif b.live then (match b.k with
    | .arr => eqb op false q
    | .dyn => b.cs.length ≠ 0 ∧ eqb op false q
    | .loc => False) else False
  | .sl _ es => es.length ≠ 0 ∧ eqb op false q
  | _ => False
def pbin (cx : Ev.Cx) (st : List PBlk) (op : BinOp) (t : TypeId) (x y : PV) (q : PV → Prop) : Prop :=
  match x.num with
  | some (sx, k, a) => need y.num fun z => (match z with
    | (sy, k', b) => nump op sx sy k k' a b q)
  | none => need (cx.und t) fun d => match d with
    | .bool => need x.bl fun p => need y.bl fun p' => eqn op (p ↔ p') q
    | .string => (match x, y with
      | .val (.string a), .val (.string b) => eqb op (a.toList == b.toList) q
      | _, _ => False)
    | .slice _ => (match y with
      | .nil => eqNil st op x q
      | _ => False)
    | .pointer _ => (match x, y with
      | .val (.pointer none), .val (.pointer none) => eqb op true q
      | .ptr _ _, .val (.pointer none) => eqb op false q
      | _, _ => False)
    | .struct _ => (match x, y with
      | .agg xs, .agg ys => bif cx.eqs.any (Nat.beq t) then need (eqT cx 6 t (.agg xs) (.agg ys)) fun p => eqn op p q else False
      | _, _ => False)
    | _ => False
def pun (op : UnOp) (x : PV) (q : PV → Prop) : Prop := match op, x with
  | .neg, .lit k a => q (.lit k (k.wrap (-a)))
  | .neg, .int k a => outN k (-a) q
  | .xor, .lit k a => q (.lit k (bits .xor k (if k.signed then -1 else k.max) a))
  | .xor, .int k a => q (.int k (bits .xor k (if k.signed then -1 else k.max) a))
  | .not, .tt => q .ff
  | .not, .ff => q .tt
  | .not, .bool p => q (.bool (¬ p))
  | _, _ => False
def pconv (cx : Ev.Cx) (src dst : TypeId) (x : PV) (q : PV → Prop) : Prop :=
  need (cx.und src) fun _ => need (cx.und dst) fun d => match d, x with
  | .int k, .lit _ n => q (.lit k (k.wrap n))
  | .int k, .int _ n => outN k n q
  | _, _ => False

/-! ### aggregates and addresses -/
def zerosO (cx : Ev.Cx) (t : TypeId) (q : List PV → Prop) : Prop := need ((Ev.lkT t cx.tt).bind Ev.TI.zero) fun v => konst v fun x => q x.cells
def fillP (place : Nat → Option (Nat × Nat)) : List PV → List (Nat × PV) → Option (List PV)
  | cells, [] => some cells
  | cells, (i, v) :: rest => match place i with
    | none => none
    | some (off, size) => if Nat.beq v.cells.length size && Nat.ble (off + size) cells.length then fillP place (cells.take off ++ v.cells ++ cells.drop (off + size)) rest else none
def partsK (s : PSt) : List (Nat × Operand) → (List (Nat × PV) → Prop) → Prop
  | [], q => q []
  | (i, o) :: r, q => s.ev o fun x => (match x with
    | .tup _ => False
    | x => partsK s r fun l => q ((i, x) :: l))
def placeF (cx : Ev.Cx) (fs : List Field) : Option (List (Nat × Nat)) := Ev.placeF cx fs
def pbuild (cx : Ev.Cx) (s : PSt) (t : TypeId) (ps : List (Nat × Operand)) (q : PV → Prop) : Prop :=
  zerosO cx t fun z => partsK s ps fun l => need (cx.und t) fun d => match d with
  | .struct fs => need (placeF cx fs.toList) fun pl => need (fillP (pl[·]?) z l) fun cs => forceL cs fun cs => q (.agg cs)
  | .array _ elem => need (Ev.sizeT cx elem) fun n => need (fillP (fun i => some (i * n, n)) z l) fun cs => forceL cs fun cs => q (.agg cs)
  | _ => False
def pfieldAddr (cx : Ev.Cx) (t : TypeId) (x : PV) (f : Nat) (q : PV → Prop) : Prop :=
  need (cx.und t) fun d => match d with
  | .struct fs => need fs.toList[f]? fun fd => need (Ev.sizeT cx fd.type) fun n => bif Nat.beq n 0 then False else (match x with
    | .ptr l off => q (.ptr l (off + fd.offset))
    | .pti l off i n => q (.pti l (off + fd.offset) i n)
    | .dpt l i n off => q (.dpt l i n (off + fd.offset))
    | .ep cs off => q (.ep cs (off + fd.offset))
    | .gp g off => q (.gp g (off + fd.offset))
    | .gpi g off i n => q (.gpi g (off + fd.offset) i n)
    | _ => False)
  | _ => False
/-- an element of a list, by a view of the list -/
def elemK (es : List PV) (i : Int) (q : PV → Prop) : Prop :=
  ∃ (α : Type) (l : List α) (enc : α → PV), es = l.map enc ∧ 0 ≤ i ∧ i < l.length ∧ ∀ x, l[i.toNat]? = some x → q (enc x)
/-- an index within: a number, or a term -/
def within (st : Bool) (i : Int) (len : Nat) (f : Nat → Prop) (g : Prop) : Prop := match st with
  | true => bif decide (0 ≤ i) && decide (i < len) then f i.toNat else False
  | false => 0 ≤ i ∧ i < len ∧ g
def pindexAddr (cx : Ev.Cx) (st : List PBlk) (t : TypeId) (x i : PV) (q : PV → Prop) : Prop :=
  need i.num fun z => match z with
  | (sti, _, n0) => need (cx.und t) fun d => match d with
  | .array len elem => need (Ev.sizeT cx elem) fun n => (match x with
    | .ptr l off => within sti n0 len (fun j => q (.ptr l (off + j * n))) (q (.pti l off n0 n))
    | .gp g off => within sti n0 len (fun j => q (.gp g (off + j * n))) (q (.gpi g off n0 n))
    | .ep cs off => within sti n0 len (fun j => q (.ep cs (off + j * n))) False
    | _ => False)
  | .slice elem => need (Ev.sizeT cx elem) fun n => (match x with
    | .sl m es => bif Nat.beq m n then elemK es n0 fun e => forceL e.cells fun cs => q (.ep cs 0) else False
    | .ref l off len => within sti n0 len (fun j => q (.ptr l (off + j * n))) (q (.pti l off n0 n))
    | .wref l => need st[l]? fun b => bif b.live && Nat.beq b.size n && Nat.blt 0 n then (match b.k with
      | .arr => lenK b.cs 0 fun m => within sti n0 (m / n) (fun j => q (.ptr l (j * n))) (q (.pti l 0 n0 n))
      | .dyn => 0 ≤ n0 ∧ n0 < b.cs.length ∧ q (.dpt l n0.toNat n 0)
      | .loc => False) else False
    | _ => False)
  | _ => False
def pindex (cx : Ev.Cx) (t : TypeId) (x i : PV) (q : PV → Prop) : Prop :=
  need i.num fun z => match z with
  | (sti, _, n0) => need (cx.und t) fun d => match d, x with
  | .array len elem, .agg cs => need (Ev.sizeT cx elem) fun n => within sti n0 len (fun j => part cx elem cs (j * n) q)
      (need (Ev.isAggT cx elem) fun ag => bif !ag && Nat.beq n 1 && Nat.beq cs.length len then ∀ c, cs[n0.toNat]? = some c → q c else False)
  | .string, .val (.string s) => 0 ≤ n0 ∧ n0 < s.size ∧ q (.int .u8 (((s.data.toList.map fun b => ((b.toNat : Nat) : Int))[n0.toNat]?).getD 0))
  | _, _ => False
/-- a bound of a slice: what is typed, or the other -/
def bnd (s : PSt) (o : Option Operand) (d : Bool × Int) (q : Bool × Int → Prop) : Prop := match o with
  | none => q d
  | some o => s.ev o fun x => need x.num fun z => (match z with
    | (sti, _, n) => q (sti, n))
def pslice (cx : Ev.Cx) (s : PSt) (t : TypeId) (x : PV) (lo hi mx : Option Operand) (q : PV → Prop) : Prop :=
  need (cx.und t) fun d => match mx, d with
  | none, .array n elem => need (Ev.sizeT cx elem) fun m => bif Nat.blt 0 m && Nat.blt 0 n then bnd s lo (true, 0) fun l => bnd s hi (true, n) fun h =>
    (match x with
    | .ptr b off => bif l.1 && h.1 && decide (0 ≤ l.2) && decide (l.2 < n) && decide (l.2 ≤ h.2) && decide (h.2 ≤ n) then q (.ref b (off + l.2.toNat * m) (h.2 - l.2).toNat) else False
    | _ => False) else False
  | none, .slice elem => need (Ev.sizeT cx elem) fun m => bnd s lo (true, 0) fun l =>
    (match x with
    | .nil => bnd s hi (true, 0) fun h => l.2 = 0 ∧ h.2 = 0 ∧ q .nil
    | .ref b off len => bnd s hi (true, len) fun h => bif l.1 && h.1 && decide (0 ≤ l.2) && decide (l.2 < len) && decide (l.2 ≤ h.2) && decide (h.2 ≤ len) then q (.ref b (off + l.2.toNat * m) (h.2 - l.2).toNat) else False
    | .sl n es => bnd s hi (false, es.length) fun h => bif Nat.beq n m && Nat.blt 0 m then 0 ≤ l.2 ∧ l.2 ≤ h.2 ∧ h.2 ≤ es.length ∧ q (.sl n ((es.drop l.2.toNat).take (h.2 - l.2).toNat)) else False
    | .wref b => need s.st[b]? fun k => (match k.k with
      | .arr => bif k.live && Nat.beq k.size m && Nat.blt 0 m then lenK k.cs 0 fun len => bnd s hi (true, (len / m : Nat)) fun h =>
          (bif l.1 && h.1 && decide (0 ≤ l.2) && decide (l.2 < (len / m : Nat)) && decide (l.2 ≤ h.2) && decide (h.2 ≤ (len / m : Nat)) then q (.ref b (l.2.toNat * m) (h.2 - l.2).toNat) else False) else False
      | _ => False)
    | _ => False)
  | _, _ => False
def plen (st : List PBlk) (x : PV) (q : PV → Prop) : Prop := match x with
  | .nil => q (.lit .i64 0)
  | .sl _ es => es.length ≤ maxLen → q (.int .i64 es.length)
  | .ref _ _ len => q (.lit .i64 len)
  | .wref l => need st[l]? fun b => bif b.live then (match b.k with
    | .arr => lenK b.cs 0 fun m => b.szK fun n => q (.lit .i64 (m / n : Nat))
    | .dyn => b.cs.length ≤ maxLen → q (.int .i64 b.cs.length)
    | .loc => False) else False
  | _ => False
def pminmax (f : Int → Int → Int) (x y : PV) (q : PV → Prop) : Prop := match x, y with
  | .lit k a, .lit _ b => q (.lit k (f a b))
  | .lit k a, .int _ b => q (.int k (f a b))
  | .int k a, .lit _ b => q (.int k (f a b))
  | .int k a, .int _ b => q (.int k (f a b))
  | _, _ => False

/-- of operations that look at no memory: the value -/
def ppure (cx : Ev.Cx) (s : PSt) (op : Op) (q : PV → Prop) : Prop := match op with
  | .move x | .assign x => s.ev x q
  | .pick c a b => s.ev c fun c => (match c with
    | .tt => s.ev a q
    | .ff => s.ev b q
    | .bool p => (p → s.ev a q) ∧ (¬ p → s.ev b q)
    | _ => False)
  | .binOp op t x y _ => s.ev x fun x => s.ev y fun y => pbin cx s.st op t x y q
  | .unOp op _ x => s.ev x fun x => pun op x q
  | .convert src dst x => s.ev x fun x => pconv cx src dst x q
  | .nilCheck x => s.ev x fun x => (match x with
    | .ptr .. | .pti .. | .dpt .. | .ep .. | .gp .. | .gpi .. => q x
    | _ => False)
  | .build t ps => pbuild cx s t ps.toList q
  | .fieldAddr t x f => s.ev x fun x => pfieldAddr cx t x f q
  | .field t x f => need (cx.und t) fun d => s.ev x fun x => (match d, x with
    | .struct fs, .agg cs => need fs.toList[f]? fun fd => part cx fd.type cs fd.offset q
    | _, _ => False)
  | .indexAddr t x i => s.ev x fun x => s.ev i fun i => pindexAddr cx s.st t x i q
  | .index t x i => s.ev x fun x => s.ev i fun i => pindex cx t x i q
  | .extract x i => s.ev x fun x => (match x with
    | .tup l => need l[i]? q
    | _ => False)
  | .slice t x lo hi mx => s.ev x fun x => pslice cx s t x lo hi mx q
  | .makeFunc (.func f) ⟨[]⟩ ⟨caps⟩ => konstOps s caps fun cs => q (.clo f cs)
  | .call { callee := .builtin .len, args := ⟨[x]⟩, argTypes := ⟨[t]⟩ } => need (cx.und t) fun d => s.ev x fun x => (match d with
    | .slice _ => plen s.st x q
    | .array n _ => q (.lit .i64 n)
    | .string => (match x with
      | .val (.string b) => q (.lit .i64 b.size)
      | _ => False)
    | _ => False)
  | .call { callee := .builtin .min, args := ⟨[x, y]⟩, argTypes := _ } => s.ev x fun x => s.ev y fun y => pminmax min x y q
  | .call { callee := .builtin .max, args := ⟨[x, y]⟩, argTypes := _ } => s.ev x fun x => s.ev y fun y => pminmax max x y q
  | _ => False
where konstOps (s : PSt) : List Operand → (List PV → Prop) → Prop
  | [], q => q []
  | o :: os, q => s.ev o fun x => (match x with
    | .tup _ | .agg _ => False
    | x => konstOps s os fun xs => q (x :: xs))

/-! ### memory -/
def setB : List PBlk → Nat → PBlk → (List PBlk → Prop) → Prop
  | [], _, _, _ => False
  | _ :: l, 0, b, q => q (b :: l)
  | a :: l, n + 1, b, q => setB l n b fun l => q (a :: l)
def addB : List PBlk → PBlk → (List PBlk → Prop) → Prop
  | [], b, q => q [b]
  | a :: l, b, q => addB l b fun l => q (a :: l)
def PBlk.mem (b : PBlk) : Bool := b.live && (match b.k with
  | .dyn => false
  | _ => true)
def ptab (tabs : List (Nat × List PV)) (g : Nat) : Option (List PV) := Ev.lkT g tabs
def pload (G : Gx) (st : List PBlk) (t : TypeId) (x : PV) (q : PV → Prop) : Prop := match x with
  | .ptr l off => need st[l]? fun b => bif b.mem then part G.cx t b.cs off q else False
  | .pti l off i n => need st[l]? fun b => bif b.mem then (∃ m : Nat, i = m ∧ part G.cx t b.cs (off + m * n) q) ∨ (Ev.isAggT G.cx t = some false ∧ 0 ≤ i ∧ off + i.toNat * n < b.cs.length ∧ ∀ c, b.cs[off + i.toNat * n]? = some c → q c) else False
  | .dpt l i n off => need st[l]? fun b => (match b.k with
    | .dyn => bif b.live && Nat.beq b.size n then ∃ (α : Type) (l : List α) (enc : α → PV), b.cs = l.map enc ∧ i < l.length ∧ ∀ x, l[i]? = some x → part G.cx t (enc x).cells off q else False
    | _ => False)
  | .ep cs off => part G.cx t cs off q
  | .gp g off => need (ptab G.tabs g) fun cs => part G.cx t cs off q
  | .gpi g off i n => need (ptab G.tabs g) fun cs => (∃ m : Nat, i = m ∧ part G.cx t cs (off + m * n) q) ∨ (Ev.isAggT G.cx t = some false ∧ 0 ≤ i ∧ off + i.toNat * n < cs.length ∧ ∀ c, cs[off + i.toNat * n]? = some c → q c)
  | _ => False
/-- the block that an address leads to -/
def PV.blk : PV → Option Nat
  | .ptr l _ => some l
  | .pti l _ _ _ => some l
  | .dpt l _ _ _ => some l
  | _ => none
def putC (cs new : List PV) (off : Nat) : Option (List PV) := if Nat.ble (off + new.length) cs.length then some (cs.take off ++ new ++ cs.drop (off + new.length)) else none
def PV.noRef : PV → Bool
  | .wref _ | .ref .. | .ptr .. | .pti .. | .dpt .. | .clo .. | .agg _ | .tup _ => false
  | _ => true
/-- an element that leads to no block of the store -/
def PV.elem : PV → Bool
  | .agg cs => cs.all PV.noRef
  | x => x.noRef
/-- a cell that is put where the index is m -/
def mix (p : Prop) [Decidable p] : PV → PV → Option PV
  | .int k a, .int l b => if decide (k = l) then some (.int k (if p then a else b)) else none
  | .int k a, .lit l b => if decide (k = l) then some (.int k (if p then a else b)) else none
  | .lit k a, .int l b => if decide (k = l) then some (.int k (if p then a else b)) else none
  | .lit k a, .lit l b => if decide (k = l) then some (.int k (if p then a else b)) else none
  | _, _ => none
def mixEach (i : Int) (v : PV) (n : Nat) : Nat → List PV → Option (List PV)
  | _, [] => some []
  | m, c :: cs => if Nat.beq (m % n) 0 then (match mix (i = ((m / n : Nat) : Int)) v c, mixEach i v n (m + 1) cs with
      | some x, some l => some (x :: l)
      | _, _ => none) else (mixEach i v n (m + 1) cs).map (c :: ·)
def PBlk.withCs (b : PBlk) (cs : List PV) : PBlk := match b with
  | ⟨k, ty, n, m, live, _⟩ => ⟨k, ty, n, m, live, cs⟩
def PBlk.can (b : PBlk) : Bool := b.live && (match b.m with
  | .w => true
  | _ => false)
def pstore (G : Gx) (st : List PBlk) (t : TypeId) (x v : PV) (q : List PBlk → Prop) : Prop :=
  need (Ev.sizeT G.cx t) fun n => bif Nat.beq v.cells.length n && Nat.blt 0 n && v.cells.all PV.cell1 then (match v with
  | .tup _ => False
  | v => (match x with
    | .ptr l off => need st[l]? fun b => bif b.mem && b.can then need (putC b.cs v.cells off) fun cs => forceL cs fun cs => setB st l (b.withCs cs) q else False
    | .dpt l i m off => need st[l]? fun b => (match b.k with
      | .dyn => bif b.can && Nat.beq b.size n && Nat.beq m n && Nat.beq off 0 && v.elem then i < b.cs.length ∧ setB st l (b.withCs (b.cs.set i v)) q else False
      | _ => False)
    | _ => False)) else False
def pnew (s : PSt) (b : PBlk) (q : PV → PSt → Prop) : Prop := lenK s.st 0 fun l => addB s.st b fun st => q (.ptr l 0) (s.store st)
def pnewS (s : PSt) (b : PBlk) (q : PV → PSt → Prop) : Prop := lenK s.st 0 fun l => addB s.st b fun st => q (.wref l) (s.store st)

/-- cells as elements -/
def chunk (ag : Bool) (n : Nat) : Nat → List PV → List PV
  | 0, _ => []
  | k + 1, cs => (if ag then .agg (cs.take n) else (match cs with
    | c :: _ => c
    | [] => .nil)) :: chunk ag n k (cs.drop n)
/-- what is appended: known cells; or elements that are told -/
inductive Src where
  | stat (cs : List PV) | told (es : List PV)
def srcK (cx : Ev.Cx) (st : List PBlk) (n : Nat) (x : PV) (q : Src → Prop) : Prop := match x with
  | .nil => q (.told [])
  | .sl m es => bif Nat.beq m n then q (.told es) else False
  | .ref l off len => need st[l]? fun b => bif b.mem && Nat.ble (off + len * n) b.cs.length then forceL ((b.cs.drop off).take (len * n)) fun cs => q (.stat cs) else False
  | .wref l => need st[l]? fun b => bif b.live && Nat.beq b.size n then (match b.k with
    | .arr => q (.stat b.cs)
    | .dyn => q (.told b.cs)
    | .loc => False) else False
  | _ => False
def elemsOf (ag : Bool) (n : Nat) : Src → Option (List PV)
  | .told es => some es
  | .stat cs => lenO cs 0 fun m => let l := chunk ag n (m / n) cs
    if l.all PV.elem then some l else none
def killB (st : List PBlk) (l : Nat) (q : List PBlk → Prop) : Prop := need st[l]? fun b => match b with
  | ⟨k, ty, n, m, _, cs⟩ => setB st l ⟨k, ty, n, m, false, cs⟩ q
/-- a slice that may be appended to: what it holds, and the store without it -/
def destK (st : List PBlk) (elem : TypeId) (n : Nat) (x : PV) (q : Src → List PBlk → Prop) : Prop := match x with
  | .nil => q (.stat []) st
  | .wref l => need st[l]? fun b => bif b.can && Nat.beq b.size n && Nat.beq b.ty elem then (match b.k with
    | .arr => killB st l (q (.stat b.cs))
    | .dyn => killB st l (q (.told b.cs))
    | .loc => False) else False
  | _ => False
def pappend (G : Gx) (s : PSt) (t : TypeId) (d x : PV) (q : PV → PSt → Prop) : Prop :=
  need (G.cx.und t) fun td => match td with
  | .slice elem => need (Ev.sizeT G.cx elem) fun n => need (Ev.isAggT G.cx elem) fun ag => need (Ev.lkT elem G.bt) fun by_ => zerosO G.cx elem fun z => bif Nat.blt 0 n && Nat.beq z.length n && (ag || Nat.beq n 1) then
    srcK G.cx s.st n x fun src => destK s.st elem n d fun dst st => (match dst, src with
    | .stat cs, .stat ds => lenK cs 0 fun lc => lenK ds 0 fun ld => bif Nat.blt 0 ld && Nat.beq (ld % n) 0 && Nat.ble ((lc + ld) * by_) 140737488355328 && Nat.ble (lc + ld) maxLen then forceL (cs ++ ds) fun cs => pnewS (s.store st) ⟨.arr, elem, n, .w, true, cs⟩ q else False
    | dst, src => need (elemsOf ag n dst) fun es => need (elemsOf ag n src) fun fs => es.length + fs.length ≤ maxLen ∧ (es.length + fs.length) * by_ ≤ 140737488355328 ∧ pnewS (s.store st) ⟨.dyn, elem, n, .w, true, es ++ fs⟩ q) else False
  | _ => False

def argsK (s : PSt) : List Operand → (List PV → Prop) → Prop
  | [], q => q []
  | o :: os, q => s.ev o fun x => argsK s os fun xs => q (x :: xs)
/-- a slot whose value leads to a block that may lie elsewhere now is let go -/
def PV.leads (rl : List Nat) (x : PV) : Bool := x.uses.any fun l => rl.any (Nat.beq l)
def TM.clear (rl : List Nat) : TM → TM
  | .nil => .nil
  | .node v l r => .node (match v with
    | some x => if x.leads rl then none else some x
    | none => none) (l.clear rl) (r.clear rl)
def clearK (rl : List Nat) (t : TM) (q : TM → Prop) : Prop := match rl with
  | [] => q t
  | rl => q (t.clear rl)
def pcall (G : Gx) (s : PSt) (f : FuncId) (args : List PV) (q : PV → PSt → Prop) : Prop :=
  match s with
  | ⟨n, t, st, b, rl0⟩ => ∃ rl : List Nat, (∀ l ∈ rl, (b ≤ l ∨ l ∈ rl0) ∧ ∀ b, st[l]? = some b → b.m ≠ .p) ∧ Spec G f args st rl fun r S => clearK rl t fun t => q r ⟨n, t, S, b, rl0⟩

/-- one operation: its value, and the state but for that -/
def pop (G : Gx) (s : PSt) (o : Oper) (q : PV → PSt → Prop) : Prop := match o.op with
  | .load t a => s.ev a fun a => pload G s.st t a fun v => q v s
  | .store t a x => s.ev a fun a => s.ev x fun x => pstore G s.st t a x fun st => q (.tup []) (s.store st)
  | .alloc t => zerosO G.cx t fun z => forceL z fun z => bif z.all PV.cell1 then pnew s ⟨.loc, t, 1, .w, true, z⟩ q else False
  | .box t x => s.ev x fun x => (match x with
    | .tup _ => False
    | x => bif x.cells.all PV.cell1 then forceL x.cells fun cs => pnew s ⟨.loc, t, 1, .w, true, cs⟩ q else False)
  | .buildSlice t len ps => need (G.cx.und t) fun d => (match d with
    | .slice elem => need (Ev.sizeT G.cx elem) fun n => zerosO G.cx elem fun z => partsK s ps.toList fun l =>
      bif Nat.beq z.length n && Nat.ble (len * n) 16777216 && Nat.blt 0 n then need (fillP (fun i => some (i * n, n)) ((List.replicate len z).flatten) l) fun cs => forceL cs fun cs => bif cs.all PV.cell1 && Nat.beq cs.length (len * n) && Nat.ble len maxLen then pnewS s ⟨.arr, elem, n, .w, true, cs⟩ q else False else False
    | _ => False)
  | .call { callee := .value x, args := ⟨ars⟩, argTypes := _ } => s.ev x fun x => (match x with
    | .clo f caps => argsK s ars fun l => pcall G s f (l ++ caps) q
    | _ => False)
  | .call { callee := .builtin .append, args := ⟨[d, x]⟩, argTypes := ⟨[t, t']⟩ } => bif Nat.beq t t' then s.ev d fun d => s.ev x fun x => pappend G s t d x q else False
  | op => ppure G.cx s op fun v => q v s

/-- is an operation carried out, by its guard? -/
def pguard (ops : List Oper) (s : PSt) (o : Oper) (run skip : PSt → Prop) : Prop := match o.guard with
  | none => run s
  | some (j, want) => need ((ops[j]?).bind (·.dst)) fun t => need (s.t.get t) fun x => (match x with
    | .tt => bif want then run s else skip s
    | .ff => bif want then skip s else run s
    | .bool p => (p → s.put (some t) .tt (bif want then run else skip)) ∧ (¬ p → s.put (some t) .ff (bif want then skip else run))
    | .tup [] => skip s
    | _ => False)
def pops (G : Gx) (ops : List Oper) (Q : X → PSt → Prop) : List Oper → PSt → Prop
  | [], s => Q .nml s
  | o :: rest, s => pguard ops s o (fun s => pop G s o fun v s => s.put o.dst v (pops G ops Q rest)) (fun s => s.put o.dst (.tup []) (pops G ops Q rest))

end Go.Proofs.YtnjmfedleimlmaaDoor.Pw

/- Operations that look at no memory are carried out as the evaluator says: numbers, truths, '=='. -/
namespace Go.Proofs.YtnjmfedleimlmaaDoor.Pw
open Go Go.RowKit

theorem need_ok {α : Type} {o : Option α} {k : α → Prop} (h : need o k) : ∃ x, o = some x ∧ k x := by
  cases o with
  | none => exact h.elim
  | some x => exact ⟨x, rfl, h⟩
theorem bif_ok {b : Bool} {p : Prop} (h : bif b then p else False) : b = true ∧ p := by
  cases b with
  | true => exact ⟨rfl, h⟩
  | false => exact h.elim
theorem bif_not {b : Bool} {p : Prop} (h : bif b then False else p) : b = false ∧ p := by
  cases b with
  | true => exact h.elim
  | false => exact ⟨rfl, h⟩
theorem fc1_ok {x : PV} {q : PV → Prop} (h : fc1 x q) : q x := by cases x <;> exact h
theorem forceL_ok : ∀ {cs : List PV} {q : List PV → Prop}, forceL cs q → q cs
  | [], _, h => h
  | c :: cs, q, h => by
    have := forceL_ok (fc1_ok h)
    exact this
theorem fcA_ok {x : PV} {q : PV → Prop} (h : fcA x q) : q x := by
  cases x <;> first | exact h | exact forceL_ok h
theorem forceT_ok : ∀ {cs : List PV} {q : List PV → Prop}, forceT cs q → q cs
  | [], _, h => h
  | c :: cs, q, h => by
    have := forceT_ok (fcA_ok h)
    exact this
theorem fc_ok {x : PV} {q : PV → Prop} (h : fc x q) : q x := by
  cases x <;> first | exact h | exact forceL_ok h | exact forceT_ok h

section
variable {w : World} {I : Nat → Prop} {β : Places} {cx : Ev.Cx} {G : Gx} {P : Program}

theorem Is.int {k : IntKind} {n : Int} : (PV.int k n).Is w I β (.int k n) := by simp only [PV.Is]
theorem Is.lit {k : IntKind} {n : Int} : (PV.lit k n).Is w I β (.int k n) := by simp only [PV.Is]
theorem Is.tt : PV.tt.Is w I β (.bool true) := by simp only [PV.Is]
theorem Is.ff : PV.ff.Is w I β (.bool false) := by simp only [PV.Is]
theorem Is.bool {p : Prop} : (PV.bool p).Is w I β (.bool (pb p)) := by simp only [PV.Is]

theorem konst1_ok {v : Value} {q : PV → Prop} (h : konst1 v q) : ∃ x, q x ∧ x.Is w I β v ∧ x.cell1 = true := by
  unfold konst1 at h
  split at h
  · exact ⟨_, h, by simp only [PV.Is], rfl⟩
  · exact ⟨_, h, by simp only [PV.Is], rfl⟩
  · exact ⟨_, h, by simp only [PV.Is], rfl⟩
  · exact ⟨_, h, by simp only [PV.Is], rfl⟩
  · exact ⟨_, h, by simp only [PV.Is]; exact ⟨#[], rfl, by simp only [IsL]⟩, rfl⟩
  · obtain ⟨hf, h⟩ := bif_ok h
    exact ⟨_, h, by simp only [PV.Is]; exact ⟨trivial, hf⟩, rfl⟩
theorem konstL_ok : ∀ {vs : List Value} {q : List PV → Prop}, konstL konst1 vs q → ∃ xs, q xs ∧ IsL w I xs β vs
  | [], q, h => ⟨[], h, by simp only [IsL]⟩
  | v :: vs, q, h => by
    obtain ⟨x, h, hx, _⟩ := konst1_ok (w := w) (I := I) (β := β) h
    obtain ⟨xs, h, hxs⟩ := konstL_ok h
    exact ⟨x :: xs, h, by simp only [IsL]; exact ⟨hx, hxs⟩⟩
theorem konst_ok {v : Value} {q : PV → Prop} (h : konst v q) : ∃ x, q x ∧ x.Is w I β v ∧ ∀ vs, x ≠ .tup vs := by
  unfold konst at h
  split at h
  · rename_i cs
    obtain ⟨xs, h, hxs⟩ := konstL_ok (w := w) (I := I) (β := β) h
    exact ⟨_, h, by simp only [PV.Is]; exact ⟨⟨cs⟩, rfl, hxs⟩, fun _ e => by cases e⟩
  · obtain ⟨x, h, hx, h1⟩ := konst1_ok (w := w) (I := I) (β := β) h
    exact ⟨x, h, hx, fun vs e => by subst e; cases h1⟩

theorem PV.num_ok {x : PV} {b : Bool} {k : IntKind} {n : Int} {v : Value} (h : x.num = some (b, k, n)) (hx : x.Is w I β v) : v = .int k n := by
  cases x <;> simp only [PV.num] at h <;> cases h <;> simpa only [PV.Is] using hx
theorem PV.bl_ok {x : PV} {p : Prop} {v : Value} (h : x.bl = some p) (hx : x.Is w I β v) : v = .bool (pb p) := by
  cases x <;> simp only [PV.bl] at h <;> cases h <;> simp only [PV.Is] at hx
  · rw [hx, pb_true trivial]
  · rw [hx, pb_false id]
  · exact hx

theorem outN_ok {k : IntKind} {z : Int} {q : PV → Prop} (h : outN k z q) : ∃ x, q x ∧ x.Is w I β (.int k (k.wrap z)) := by
  rcases h with ⟨⟨h1, h2⟩, h⟩ | h
  · exact ⟨_, h, by rw [Ev.wrap_in k z h1 h2]; exact Is.int⟩
  · exact ⟨_, h, Is.int⟩
theorem tf_ok {b : Bool} {q : PV → Prop} (h : tf b q) : ∃ x, q x ∧ x.Is w I β (.bool b) := by
  cases b with
  | true => exact ⟨_, h, Is.tt⟩
  | false => exact ⟨_, h, Is.ff⟩
theorem boolD {p : Prop} [Decidable p] {q : PV → Prop} (h : q (.bool p)) : ∃ x, q x ∧ x.Is w I β (.bool (decide p)) := ⟨_, h, by rw [← pb_dec]; exact Is.bool⟩

theorem cmp_runs {op : BinOp} {t : TypeId} {k : IntKind} {a b : Int} (w : World) :
    (binOp .eql t (.int k a) (.int k b)).run P w = .ok (.bool (decide (a = b))) w ∧ (binOp .neq t (.int k a) (.int k b)).run P w = .ok (.bool (!decide (a = b))) w ∧ (binOp .lss t (.int k a) (.int k b)).run P w = .ok (.bool (decide (a < b))) w ∧
    (binOp .leq t (.int k a) (.int k b)).run P w = .ok (.bool (decide (a ≤ b))) w ∧ (binOp .gtr t (.int k a) (.int k b)).run P w = .ok (.bool (decide (b < a))) w ∧ (binOp .geq t (.int k a) (.int k b)).run P w = .ok (.bool (decide (b ≤ a))) w := by
  refine ⟨by simp only [binOp_eql]; rfl, ?_, by simp only [binOp_lss]; rfl, by simp only [binOp_leq]; rfl, by simp only [binOp_gtr]; rfl, by simp only [binOp_geq]; rfl⟩
  simp only [binOp_neq]
  show Result.ok (Value.bool (a != b)) w = _
  congr 2
theorem bopD_ok {op : BinOp} {t : TypeId} {k : IntKind} {a b : Int} {q : PV → Prop} (h : bopD op k a b q) : ∃ x v, q x ∧ x.Is w I β v ∧ ∀ w, (binOp op t (.int k a) (.int k b)).run P w = .ok v w := by
  have cmp := fun w => cmp_runs (P := P) (op := op) (t := t) (k := k) (a := a) (b := b) w
  have out : ∀ {z}, outN k z q → (∀ w, (binOp op t (.int k a) (.int k b)).run P w = .ok (.int k (k.wrap z)) w) → ∃ x v, q x ∧ x.Is w I β v ∧ ∀ w, (binOp op t (.int k a) (.int k b)).run P w = .ok v w := fun h hr => by
    obtain ⟨x, h, hx⟩ := outN_ok (w := w) (I := I) (β := β) h
    exact ⟨x, _, h, hx, hr⟩
  have bl : ∀ {p : Prop} [Decidable p], q (.bool p) → (∀ w, (binOp op t (.int k a) (.int k b)).run P w = .ok (.bool (decide p)) w) → ∃ x v, q x ∧ x.Is w I β v ∧ ∀ w, (binOp op t (.int k a) (.int k b)).run P w = .ok v w := fun h hr => by
    obtain ⟨x, h, hx⟩ := boolD (w := w) (I := I) (β := β) h
    exact ⟨x, _, h, hx, hr⟩
  cases op <;> simp only [bopD] at h
  case add => exact out h fun w => by rw [binOp_add]; rfl
  case sub => exact out h fun w => by rw [binOp_sub]; rfl
  case mul => exact out h fun w => by rw [binOp_mul]; rfl
  case quo =>
    obtain ⟨h0, h⟩ := h
    have hr : ∀ w, (binOp .quo t (.int k a) (.int k b)).run P w = .ok (.int k (k.wrap (a.tdiv b))) w := fun w => by rw [binOp_quo]; simp [Op.intDiv, h0]
    rcases h with ⟨ha, hk, hb, h⟩ | h
    · refine ⟨_, _, h, ?_, hr⟩
      have e : a.tdiv b = a / b := Int.tdiv_eq_ediv_of_nonneg ha
      have h1 : 0 ≤ a / b := Int.ediv_nonneg ha (by omega)
      have h2 : a / b ≤ a := Int.ediv_le_self b ha
      rw [e, Ev.wrap_in k _ (by have : Ev.kmin k ≤ 0 := by cases k <;> simp [Ev.kmin, IntKind.signed, IntKind.bits]
                                omega) (by omega)]
      exact Is.int
    · exact ⟨_, _, h, Is.int, hr⟩
  case rem =>
    obtain ⟨h0, h⟩ := h
    have hr : ∀ w, (binOp .rem t (.int k a) (.int k b)).run P w = .ok (.int k (a.tmod b)) w := fun w => by rw [binOp_rem]; simp [Op.intDiv, h0]
    rcases h with ⟨ha, hb, h⟩ | h
    · refine ⟨_, _, h, ?_, hr⟩
      rw [Int.tmod_eq_emod_of_nonneg ha]
      exact Is.int
    · exact ⟨_, _, h, Is.int, hr⟩
  case and => exact ⟨_, _, h, Is.int, fun w => by rw [binOp_and, intBits_and]; rfl⟩
  case or => exact ⟨_, _, h, Is.int, fun w => by rw [binOp_or, intBits_or]; rfl⟩
  case xor => exact ⟨_, _, h, Is.int, fun w => by rw [binOp_xor, intBits_xor]; rfl⟩
  case andNot => exact ⟨_, _, h, Is.int, fun w => by rw [binOp_andNot, intBits_andNot]; rfl⟩
  case eql => exact bl h fun w => (cmp w).1
  case neq => exact bl h fun w => by rw [(cmp w).2.1]; congr 2; by_cases hh : a = b <;> simp [hh]
  case lss => exact bl h fun w => (cmp w).2.2.1
  case leq => exact bl h fun w => (cmp w).2.2.2.1
  case gtr => exact bl h fun w => (cmp w).2.2.2.2.1
  case geq => exact bl h fun w => (cmp w).2.2.2.2.2
theorem bopS_ok {op : BinOp} {t : TypeId} {k : IntKind} {a b : Int} {q : PV → Prop} (h : bopS op k a b q) : ∃ x v, q x ∧ x.Is w I β v ∧ ∀ w, (binOp op t (.int k a) (.int k b)).run P w = .ok v w := by
  have cmp := fun w => cmp_runs (P := P) (op := op) (t := t) (k := k) (a := a) (b := b) w
  have bl : ∀ {b' : Bool}, tf b' q → (∀ w, (binOp op t (.int k a) (.int k b)).run P w = .ok (.bool b') w) → ∃ x v, q x ∧ x.Is w I β v ∧ ∀ w, (binOp op t (.int k a) (.int k b)).run P w = .ok v w := fun h hr => by
    obtain ⟨x, h, hx⟩ := tf_ok (w := w) (I := I) (β := β) h
    exact ⟨x, _, h, hx, hr⟩
  cases op <;> simp only [bopS] at h
  case add => exact ⟨_, _, h, Is.lit, fun w => by rw [binOp_add]; rfl⟩
  case sub => exact ⟨_, _, h, Is.lit, fun w => by rw [binOp_sub]; rfl⟩
  case mul => exact ⟨_, _, h, Is.lit, fun w => by rw [binOp_mul]; rfl⟩
  case quo =>
    cases h0 : decide (b = 0) <;> rw [h0] at h
    · exact ⟨_, _, h, Is.lit, fun w => by rw [binOp_quo]; simp [Op.intDiv, of_decide_eq_false h0]⟩
    · exact h.elim
  case rem =>
    cases h0 : decide (b = 0) <;> rw [h0] at h
    · exact ⟨_, _, h, Is.lit, fun w => by rw [binOp_rem]; simp [Op.intDiv, of_decide_eq_false h0]⟩
    · exact h.elim
  case and => exact ⟨_, _, h, Is.lit, fun w => by rw [binOp_and, intBits_and]; rfl⟩
  case or => exact ⟨_, _, h, Is.lit, fun w => by rw [binOp_or, intBits_or]; rfl⟩
  case xor => exact ⟨_, _, h, Is.lit, fun w => by rw [binOp_xor, intBits_xor]; rfl⟩
  case andNot => exact ⟨_, _, h, Is.lit, fun w => by rw [binOp_andNot, intBits_andNot]; rfl⟩
  case eql => exact bl h fun w => (cmp w).1
  case neq => exact bl h fun w => (cmp w).2.1
  case lss => exact bl h fun w => (cmp w).2.2.1
  case leq => exact bl h fun w => (cmp w).2.2.2.1
  case gtr => exact bl h fun w => (cmp w).2.2.2.2.1
  case geq => exact bl h fun w => (cmp w).2.2.2.2.2
theorem shift_ok {op : BinOp} {st : Bool} {t : TypeId} {k k' : IntKind} {a b : Int} {q : PV → Prop} (h : shift op st k a b q) : ∃ x v, q x ∧ x.Is w I β v ∧ ∀ w, (binOp op t (.int k a) (.int k' b)).run P w = .ok v w := by
  have hl : 0 ≤ b → ∀ w, (binOp .shl t (.int k a) (.int k' b)).run P w = .ok (.int k (k.wrap (a * Ev.pow2 k b))) w := fun h0 w => by
    rw [binOp_shl]
    simp only [Op.shift, if_neg (by omega : ¬ b < 0), Ev.pow2]
    simp
  have hr : 0 ≤ b → ∀ w, (binOp .shr t (.int k a) (.int k' b)).run P w = .ok (.int k (a / Ev.pow2 k b)) w := fun h0 w => by
    rw [binOp_shr]
    simp only [Op.shift, if_neg (by omega : ¬ b < 0), Ev.pow2, Ev.fdiv_pow]
    rfl
  unfold shift at h
  split at h
  · obtain ⟨h0, h⟩ := bif_ok h
    exact ⟨_, _, h, Is.lit, hl (of_decide_eq_true h0)⟩
  · obtain ⟨h0, h⟩ := bif_ok h
    exact ⟨_, _, h, Is.lit, hr (of_decide_eq_true h0)⟩
  · obtain ⟨h0, h⟩ := h
    obtain ⟨x, h, hx⟩ := outN_ok (w := w) (I := I) (β := β) h
    exact ⟨x, _, h, hx, hl h0⟩
  · obtain ⟨h0, h⟩ := h
    exact ⟨_, _, h, Is.int, hr h0⟩
  · exact h.elim
theorem nump_ok {op : BinOp} {sx sy : Bool} {t : TypeId} {k k' : IntKind} {a b : Int} {q : PV → Prop} (h : nump op sx sy k k' a b q) : ∃ x v, q x ∧ x.Is w I β v ∧ ∀ w, (binOp op t (.int k a) (.int k' b)).run P w = .ok v w := by
  unfold nump at h
  split at h
  · exact shift_ok h
  · exact shift_ok h
  · obtain ⟨hk, h'⟩ := bif_ok h
    have hkk := of_decide_eq_true hk
    subst hkk
    clear h hk
    cases sx <;> cases sy
    · exact bopD_ok h'
    · exact bopD_ok h'
    · exact bopD_ok h'
    · exact bopS_ok h'

theorem eqn_ok {op : BinOp} {t : TypeId} {p : Prop} {q : PV → Prop} {u v : Value} (h : eqn op p q) (he : op = .eql → ∀ w, (binOp .eql t u v).run P w = .ok (.bool (pb p)) w) (hn : op = .neq → ∀ w, (binOp .neq t u v).run P w = .ok (.bool (!pb p)) w) :
    ∃ x r, q x ∧ x.Is w I β r ∧ ∀ w, (binOp op t u v).run P w = .ok r w := by
  cases op <;> simp only [eqn] at h
  case eql => exact ⟨_, _, h, Is.bool, he rfl⟩
  case neq =>
    refine ⟨_, _, h, Is.bool, fun w => ?_⟩
    rw [hn rfl w]
    congr 2
    by_cases hp : p
    · rw [pb_true hp, pb_false (fun h => h hp)]; rfl
    · rw [pb_false hp, pb_true hp]; rfl
theorem eqb_ok {op : BinOp} {t : TypeId} {b : Bool} {q : PV → Prop} {u v : Value} (h : eqb op b q) (he : op = .eql → ∀ w, (binOp .eql t u v).run P w = .ok (.bool b) w) (hn : op = .neq → ∀ w, (binOp .neq t u v).run P w = .ok (.bool (!b)) w) :
    ∃ x r, q x ∧ x.Is w I β r ∧ ∀ w, (binOp op t u v).run P w = .ok r w := by
  cases op <;> simp only [eqb] at h
  case eql =>
    obtain ⟨x, h, hx⟩ := tf_ok (w := w) (I := I) (β := β) h
    exact ⟨x, _, h, hx, he rfl⟩
  case neq =>
    obtain ⟨x, h, hx⟩ := tf_ok (w := w) (I := I) (β := β) h
    exact ⟨x, _, h, hx, hn rfl⟩

theorem partO_ok (hO : Ev.CxOk cx) {t : TypeId} {cs : List PV} {off : Nat} {x : PV} {vs : Array Value} (h : partO cx t cs off = some x) (hc : IsL w I cs β vs.toList) :
    ∃ v, x.Is w I β v ∧ ∀ w', (Go.part t vs off).run cx.P w' = .ok v w' := by
  unfold partO at h
  split at h
  · rename_i n ha hn
    split at h
    · cases h
      refine ⟨.agg (vs.extract off (off + n)), ?_, fun w' => ?_⟩
      · simp only [PV.Is]
        refine ⟨_, rfl, ?_⟩
        have := (hc.drop off).take n
        rw [show (vs.extract off (off + n)).toList = (vs.toList.drop off).take n by simp]
        exact this
      · simp [Go.part, Ev.isAgg_run hO ha, Ev.size_run hO hn]
    · cases h
  · rename_i ha
    obtain ⟨v, hv, hi⟩ := hc.get h
    refine ⟨v, hi, fun w' => ?_⟩
    have hv' : vs[off]? = some v := by simpa using hv
    simp [Go.part, Ev.isAgg_run hO ha, hv']
  · cases h
end

end Go.Proofs.YtnjmfedleimlmaaDoor.Pw

/- Operations that look at no memory are carried out as the evaluator says. -/
namespace Go.Proofs.YtnjmfedleimlmaaDoor.Pw
open Go Go.RowKit

section
variable {w : World} {I : Nat → Prop} {β : Places} {cx : Ev.Cx} {G : Gx} {P : Program} {s : PSt} {a : Act}

theorem part_ok (hO : Ev.CxOk cx) {t : TypeId} {cs : List PV} {off : Nat} {q : PV → Prop} {vs : Array Value} (h : part cx t cs off q) (hc : IsL w I cs β vs.toList) :
    ∃ x v, q x ∧ x.Is w I β v ∧ ∀ w', (Go.part t vs off).run cx.P w' = .ok v w' := by
  replace h := need_ok h
  obtain ⟨x, hx, h⟩ := h
  obtain ⟨v, h1, h2⟩ := partO_ok hO hx hc
  exact ⟨x, v, fcA_ok h, h1, h2⟩

/-! ### '==' -/
theorem pb_and {p q : Prop} : pb (p ∧ q) = (pb p && pb q) := by
  by_cases hp : p <;> by_cases hq : q
  · rw [pb_true ⟨hp, hq⟩, pb_true hp, pb_true hq]; rfl
  · rw [pb_false fun h => hq h.2, pb_true hp, pb_false hq]; rfl
  · rw [pb_false fun h => hp h.1, pb_false hp]; rfl
  · rw [pb_false fun h => hp h.1, pb_false hp]; rfl
theorem pb_same {p q : Prop} : pb (p ↔ q) = (pb p == pb q) := by
  by_cases hp : p <;> by_cases hq : q
  · rw [pb_true ⟨fun _ => hq, fun _ => hp⟩, pb_true hp, pb_true hq]; rfl
  · rw [pb_false fun h => hq (h.1 hp), pb_true hp, pb_false hq]; rfl
  · rw [pb_false fun h => hp (h.2 hq), pb_false hp, pb_true hq]; rfl
  · rw [pb_true ⟨fun h => absurd h hp, fun h => absurd h hq⟩, pb_false hp, pb_false hq]; rfl
theorem eqFs_ok (hO : Ev.CxOk cx) {r : TypeId → PV → PV → Option Prop} {d : Nat} {xs ys : List PV} {us vs : Array Value} (hx : IsL w I xs β us.toList) (hy : IsL w I ys β vs.toList)
    (hr : ∀ t a b p u v, r t a b = some p → a.Is w I β u → b.Is w I β v → ∀ w', (Op.equalIn d t u v).run cx.P w' = .ok (pb p) w') :
    ∀ {fs : List Field} {p : Prop}, (fs.all fun f => decide (f.name ≠ "_")) = true → eqFs r cx xs ys fs = some p → ∀ w', (Op.eqFields d us vs fs).run cx.P w' = .ok (pb p) w'
  | [], p, _, h, w' => by
    simp only [eqFs, Option.some.injEq] at h
    subst h
    rw [pb_true trivial]; rfl
  | f :: fs, p, hn, h, w' => by
    rw [List.all_cons, Bool.and_eq_true] at hn
    unfold eqFs at h
    split at h
    · rename_i a b ha hb
      split at h
      · rename_i e1 e2 h1 h2
        cases h
        obtain ⟨u, hu, ru⟩ := partO_ok hO ha hx
        obtain ⟨v, hv, rv⟩ := partO_ok hO hb hy
        have rq1 := hr _ _ _ _ _ _ h1 hu hv
        have rq2 := eqFs_ok hO hx hy hr hn.2 h2
        have hne : f.name ≠ "_" := by simpa using hn.1
        simp only [Op.eqFields, if_pos hne, Sem.run_bind, ru, rv, rq1, Result.andThen_ok, Sem.run_ite, rq2, Sem.run_pure, pb_and]
        cases pb e1 <;> simp
      · cases h
    · cases h
theorem eqT_ok (hO : Ev.CxOk cx) : ∀ (n d : Nat), n ≤ d → ∀ (t : TypeId) (a b : PV) (p : Prop) (u v : Value), eqT cx n t a b = some p → a.Is w I β u → b.Is w I β v →
    ∀ w', (Op.equalIn d t u v).run cx.P w' = .ok (pb p) w'
  | 0, _, _, _, _, _, _, _, _, h, _, _ => by simp [eqT] at h
  | n + 1, 0, hd, _, _, _, _, _, _, _, _, _ => by omega
  | n + 1, d + 1, hd, t, a, b, p, u, v, h, ha, hb => by
    intro w'
    unfold eqT at h
    split at h
    · rename_i k hu
      split at h
      · rename_i b1 k1 x b2 k2 y hax hby
        split at h
        · rename_i hk
          simp only [decide_eq_true_eq] at hk
          subst hk
          cases h
          rw [PV.num_ok hax ha, PV.num_ok hby hb, run_equalIn_int w' d t k1 k x y (hO.un hu), pb_dec]; rfl
        · cases h
      · cases h
    · rename_i hu
      split at h
      · rename_i p1 p2 hax hby
        cases h
        rw [PV.bl_ok hax ha, PV.bl_ok hby hb, run_equalIn_bool' w' d t _ _ (hO.un hu), pb_same]
      · cases h
    · rename_i fs hu
      split at h
      · rename_i xs ys
        split at h
        · rename_i hc
          simp only [PV.Is] at ha hb
          obtain ⟨us, rfl, hus⟩ := ha
          obtain ⟨vs, rfl, hvs⟩ := hb
          obtain ⟨t', ht', hbt⟩ := List.any_eq_true.1 hc
          have : t = t' := Nat.eq_of_beq_eq_true hbt
          subst this
          obtain ⟨_, hheld, hnames⟩ := hO.eq _ ht'
          have hfs : cx.P.fieldsOf t = fs := by unfold Program.fieldsOf; rw [hO.un hu]
          rw [run_equalIn_struct w' d t us vs (by rw [hfs]; exact hO.un hu) hheld, hfs]
          exact eqFs_ok (d := d) hO hus hvs (fun t a b e u v h ha hb => eqT_ok hO n d (by omega) t a b e u v h ha hb) (by rw [← hfs]; exact hnames) h w'
        · cases h
      · cases h
    · cases h


/-- where a whole slice lies -/
theorem whole_arr {st : List PBlk} (hR : HeapOk I β st w) {l : Nat} {b : PBlk} {p : Plc} (hb : st[l]? = some b) (hl : b.live = true) (hk : b.k = .arr) (hp : β l = some p) : ∃ g arr fr, p.a = some (g, 0) ∧ p.whole = .slice (some ⟨g, 0, none⟩) p.len p.cap ∧ w.heap[g]? = some (.cells arr b.ty fr) ∧ CellsAt w I β b.cs arr 0 ∧ Own I β st l g fr b ∧ b.cs.length = p.len * b.size ∧ p.len ≤ p.cap ∧ p.cap ≤ maxLen ∧ arr.size = p.cap * b.size ∧ 0 < b.size := by
  obtain ⟨q, hq, h⟩ := hR.blk l b hb hl
  rw [hp] at hq
  cases hq
  rw [hk] at h
  obtain ⟨g, arr, fr, ha, h⟩ := h
  exact ⟨g, arr, fr, ha, by unfold Plc.whole; rw [ha], h⟩
theorem whole_dyn {st : List PBlk} (hR : HeapOk I β st w) {l : Nat} {b : PBlk} {p : Plc} (hb : st[l]? = some b) (hl : b.live = true) (hk : b.k = .dyn) (hp : β l = some p) : 0 < b.size ∧ b.cs.length = p.len ∧ p.len ≤ p.cap ∧ p.cap ≤ maxLen ∧ ((p.a = none ∧ p.cap = 0 ∧ p.whole = .slice none 0 0) ∨ ∃ g arr fr, p.a = some (g, 0) ∧ p.whole = .slice (some ⟨g, 0, none⟩) p.len p.cap ∧ w.heap[g]? = some (.cells arr b.ty fr) ∧ IsEs w I b.cs b.size g 0 ∧ Own I β st l g fr b ∧ arr.size = p.cap * b.size) := by
  obtain ⟨q, hq, h⟩ := hR.blk l b hb hl
  rw [hp] at hq
  cases hq
  rw [hk] at h
  obtain ⟨⟨h1, h2, h3, h4⟩, h⟩ := h
  refine ⟨h1, h2, h3, h4, ?_⟩
  rcases h with ⟨ha, hc⟩ | ⟨g, arr, fr, ha, h⟩
  · exact .inl ⟨ha, hc, by unfold Plc.whole; rw [ha]⟩
  · exact .inr ⟨g, arr, fr, ha, by unfold Plc.whole; rw [ha], h⟩

theorem eqNil_ok (hO : Ev.CxOk cx) (hR : HeapOk I β s.st w) {op : BinOp} {t e : TypeId} {x : PV} {u : Value} {q : PV → Prop} (hu : cx.und t = some (.slice e)) (h : eqNil s.st op x q) (hx : x.Is w I β u) :
    ∃ y v, q y ∧ y.Is w I β v ∧ (∀ f g : Operand, eqGuard op t f g u (.slice none 0 0) = pure ()) ∧ ∀ w', (binOp op t u (.slice none 0 0)).run cx.P w' = .ok v w' := by
  have gen : ∀ {ad : Option Addr} {n c : Nat}, u = .slice ad n c → eqb op ad.isNone q → ∃ y v, q y ∧ y.Is w I β v ∧ (∀ f g : Operand, eqGuard op t f g u (.slice none 0 0) = pure ()) ∧ ∀ w', (binOp op t u (.slice none 0 0)).run cx.P w' = .ok v w' := by
    intro ad n c hu' h
    subst hu'
    obtain ⟨y, v, h1, h2, h3⟩ := eqb_ok (P := cx.P) (t := t) (u := .slice ad n c) (v := .slice none 0 0) (w := w) (I := I) (β := β) h (fun _ w' => by simp only [binOp]; simp [Op.equal, Op.maxDepth, Lib.run_equalIn_slice_nil w' 9999 t e ad n c 0 0 (hO.un hu)]) (fun _ w' => run_neq_slice_nil_any w' t e _ _ _ _ _ (hO.un hu))
    exact ⟨y, v, h1, h2, fun f g => eqGuard_at_slice _ _ _ _ _ _ _ _, h3⟩
  unfold eqNil at h
  split at h
  · simp only [PV.Is] at hx
    exact gen hx h
  · simp only [PV.Is] at hx
    obtain ⟨p, g, o, cap, _, _, rfl, _⟩ := hx
    exact gen rfl h
  · rename_i l
    replace h := need_ok h
    obtain ⟨b, hb, h⟩ := h
    replace h := bif_ok h
    obtain ⟨hl, h⟩ := h
    simp only [PV.Is] at hx
    obtain ⟨p, hp, rfl⟩ := hx
    split at h
    · rename_i hk
      obtain ⟨g, arr, fr, _, hw, _⟩ := whole_arr hR hb hl hk hp
      exact gen hw h
    · rename_i hk
      obtain ⟨hne, h⟩ := h
      obtain ⟨_, h1, h2, _, h3⟩ := whole_dyn hR hb hl hk hp
      rcases h3 with ⟨_, hc, _⟩ | ⟨g, arr, fr, _, hw, _⟩
      · omega
      · exact gen hw h
    · exact h.elim
  · rename_i es
    obtain ⟨hne, h⟩ := h
    simp only [PV.Is] at hx
    obtain ⟨ad, cap, rfl, _, _, _, h4⟩ := hx
    obtain ⟨g, o, rfl, _⟩ := h4 hne
    exact gen rfl h
  · exact h.elim

theorem pbin_ok (hO : Ev.CxOk cx) (hR : HeapOk I β s.st w) {op : BinOp} {t : TypeId} {x y : PV} {u v : Value} {q : PV → Prop} (h : pbin cx s.st op t x y q) (hx : x.Is w I β u) (hy : y.Is w I β v) :
    ∃ z r, q z ∧ z.Is w I β r ∧ (∀ (f g : Operand) (w' : World), (eqGuard op t f g u v).run cx.P w' = .ok () w') ∧ ∀ w', (binOp op t u v).run cx.P w' = .ok r w' := by
  have pure_ : ∀ {u v : Value}, (∀ f g : Operand, eqGuard op t f g u v = pure ()) → ∀ (f g : Operand) (w' : World), (eqGuard op t f g u v).run cx.P w' = .ok () w' := fun h f g w' => by rw [h]; rfl
  unfold pbin at h
  split at h
  · rename_i sx k a hxa
    replace h := need_ok h
    obtain ⟨⟨sy, k', b⟩, hyb, h⟩ := h
    rw [PV.num_ok hxa hx, PV.num_ok hyb hy]
    obtain ⟨z, r, h1, h2, h3⟩ := nump_ok (P := cx.P) (t := t) (w := w) (I := I) (β := β) h
    exact ⟨z, r, h1, h2, pure_ fun f g => eqGuard_at_int _ _ _ _ _ _ _, h3⟩
  · replace h := need_ok h
    obtain ⟨d, hu, h⟩ := h
    split at h
    · replace h := need_ok h
      obtain ⟨p, hp, h⟩ := h
      replace h := need_ok h
      obtain ⟨p', hp', h⟩ := h
      rw [PV.bl_ok hp hx, PV.bl_ok hp' hy]
      obtain ⟨z, r, h1, h2, h3⟩ := eqn_ok (P := cx.P) (t := t) (u := .bool (pb p)) (v := .bool (pb p')) (w := w) (I := I) (β := β) h
        (fun _ w' => by rw [Ev.run_eql rfl (run_equal_bool w' t _ _ (hO.un hu)), pb_same]) (fun _ w' => by rw [Ev.run_neq rfl (run_equal_bool w' t _ _ (hO.un hu)), pb_same])
      exact ⟨z, r, h1, h2, pure_ fun f g => eqGuard_at_bool _ _ _ _ _ _, h3⟩
    · split at h
      · simp only [PV.Is] at hx hy
        obtain ⟨rfl, _⟩ := hx
        obtain ⟨rfl, _⟩ := hy
        obtain ⟨z, r, h1, h2, h3⟩ := eqb_ok (P := cx.P) (t := t) (u := .string _) (v := .string _) (w := w) (I := I) (β := β) h (fun _ w' => rfl) (fun _ w' => rfl)
        exact ⟨z, r, h1, h2, pure_ fun f g => eqGuard_at_string _ _ _ _ _ _, h3⟩
      · exact h.elim
    · split at h
      · simp only [PV.Is] at hy
        subst hy
        obtain ⟨z, r, h1, h2, h3, h4⟩ := eqNil_ok hO hR hu h hx
        exact ⟨z, r, h1, h2, pure_ h3, h4⟩
      · exact h.elim
    · rename_i e
      have hpt : cx.P.underlying t = some (.pointer (cx.P.pointee t)) := by have := hO.un hu; rw [this]; simp [Program.pointee, this]
      split at h
      · simp only [PV.Is] at hx hy
        obtain ⟨rfl, _⟩ := hx
        obtain ⟨rfl, _⟩ := hy
        obtain ⟨z, r, h1, h2, h3⟩ := eqb_ok (P := cx.P) (t := t) (u := .pointer none) (v := .pointer none) (w := w) (I := I) (β := β) h (fun _ w' => by rw [run_eql_pointer_nil w' t _ hpt]; rfl) (fun _ w' => by rw [run_neq_pointer_nil w' t _ hpt]; rfl)
        exact ⟨z, r, h1, h2, pure_ fun f g => eqGuard_at_pointer _ _ _ _ _ _, h3⟩
      · simp only [PV.Is] at hx hy
        obtain ⟨rfl, _⟩ := hy
        obtain ⟨p, g, o, _, _, rfl⟩ := hx
        obtain ⟨z, r, h1, h2, h3⟩ := eqb_ok (P := cx.P) (t := t) (u := .pointer (some ⟨g, o + _, none⟩)) (v := .pointer none) (w := w) (I := I) (β := β) h (fun _ w' => by rw [run_eql_pointer_nil w' t _ hpt]; rfl) (fun _ w' => by rw [run_neq_pointer_nil w' t _ hpt]; rfl)
        exact ⟨z, r, h1, h2, pure_ fun f g => eqGuard_at_pointer _ _ _ _ _ _, h3⟩
      · exact h.elim
    · split at h
      · rename_i xs ys
        replace h := bif_ok h
        obtain ⟨hc, h⟩ := h
        replace h := need_ok h
        obtain ⟨p, hp, h⟩ := h
        obtain ⟨t', ht', hbt⟩ := List.any_eq_true.1 hc
        have : t = t' := Nat.eq_of_beq_eq_true hbt
        subst this
        obtain ⟨hguard, _, _⟩ := hO.eq _ ht'
        have he := eqT_ok hO 6 10000 (by decide) t _ _ _ u v hp hx hy
        simp only [PV.Is] at hx hy
        obtain ⟨us, rfl, _⟩ := hx
        obtain ⟨vs, rfl, _⟩ := hy
        obtain ⟨z, r, h1, h2, h3⟩ := eqn_ok (P := cx.P) (t := t) (u := .agg us) (v := .agg vs) (w := w) (I := I) (β := β) h (fun _ w' => by rw [run_eql_struct, he]; rfl) (fun _ w' => by rw [run_neq_struct, he]; rfl)
        exact ⟨z, r, h1, h2, fun f g w' => run_eqGuard_agg w' op t f g us vs hguard, h3⟩
      · exact h.elim
    · exact h.elim

theorem pun_ok {op : UnOp} {x : PV} {u : Value} {q : PV → Prop} (h : pun op x q) (hx : x.Is w I β u) : ∃ z r, q z ∧ z.Is w I β r ∧ ∀ w', (Op.unary op u).run P w' = .ok r w' := by
  unfold pun at h
  split at h <;> try simp only [PV.Is] at hx
  · subst hx
    refine ⟨_, _, h, Is.lit, fun w' => ?_⟩
    rename_i k a
    rw [show -a = 0 - a by omega]; rfl
  · subst hx
    obtain ⟨z, h, hz⟩ := outN_ok (w := w) (I := I) (β := β) h
    refine ⟨z, _, h, hz, fun w' => ?_⟩
    rename_i k a _
    rw [show -a = 0 - a by omega]; rfl
  · subst hx; exact ⟨_, _, h, Is.lit, fun w' => rfl⟩
  · subst hx; exact ⟨_, _, h, Is.int, fun w' => rfl⟩
  · subst hx; exact ⟨_, _, h, Is.ff, fun w' => rfl⟩
  · subst hx; exact ⟨_, _, h, Is.tt, fun w' => rfl⟩
  · subst hx
    rename_i p
    refine ⟨_, _, h, Is.bool, fun w' => ?_⟩
    by_cases hp : p
    · rw [pb_true hp, pb_false fun h => h hp]; rfl
    · rw [pb_false hp, pb_true hp]; rfl
  · exact h.elim

theorem pconv_ok (hO : Ev.CxOk cx) {src dst : TypeId} {x : PV} {u : Value} {q : PV → Prop} (h : pconv cx src dst x q) (hx : x.Is w I β u) : ∃ z r, q z ∧ z.Is w I β r ∧ ∀ w', (convert src dst u).run cx.P w' = .ok r w' := by
  replace h := need_ok h
  obtain ⟨d1, hs, h⟩ := h
  replace h := need_ok h
  obtain ⟨d2, hd, h⟩ := h
  split at h <;> try simp only [PV.Is] at hx
  · subst hx
    exact ⟨_, _, h, Is.lit, fun w' => by simp [convert, run_underlying (hO.un hs), run_underlying (hO.un hd), Conv.intToInt]⟩
  · subst hx
    obtain ⟨z, h, hz⟩ := outN_ok (w := w) (I := I) (β := β) h
    exact ⟨z, _, h, hz, fun w' => by simp [convert, run_underlying (hO.un hs), run_underlying (hO.un hd), Conv.intToInt]⟩
  · exact h.elim

theorem zerosO_ok (hO : Ev.CxOk cx) {t : TypeId} {q : List PV → Prop} (h : zerosO cx t q) : ∃ z i v, q z ∧ cx.P.info? t = some i ∧ i.zero = some v ∧ IsL w I z β v.cells.toList := by
  replace h := need_ok h
  obtain ⟨v, hv, h⟩ := h
  replace h := konst_ok (w := w) (I := I) (β := β) h
  obtain ⟨x, h, hx, hn⟩ := h
  rw [Option.bind_eq_some_iff] at hv
  obtain ⟨ti, hti, hz⟩ := hv
  obtain ⟨i, hi, _, h2⟩ := hO.inf _ (Ev.lkT_mem hti)
  exact ⟨_, i, v, h, hi, h2.trans hz, hx.cellsL hn⟩

theorem PSt.ev_ok (hR : Rel G I β s a w) {o : Operand} {q : PV → Prop} (h : s.ev o q) : ∃ x, q x ∧ x.Is w I β (a.eval o) := by
  cases o with
  | tmp t =>
    replace h := need_ok h
    obtain ⟨x, hx, h⟩ := h
    obtain ⟨v, hv, hi⟩ := hR.get t x hx
    exact ⟨x, h, by simp only [Act.eval, Array.getD_eq_getD_getElem?, hv, Option.getD_some]; exact hi⟩
  | const v =>
    replace h := konst_ok (w := w) (I := I) (β := β) h
    obtain ⟨x, h, hx, _⟩ := h
    exact ⟨x, h, hx⟩
  | global g => exact ⟨_, h, by simp only [PV.Is, Act.eval]⟩
  | func f => exact ⟨_, h, by simp only [PV.Is, Act.eval]; exact ⟨#[], rfl, by simp only [IsL]⟩⟩

/-- parts that are put into an aggregate -/
def PartsIs (w : World) (I : Nat → Prop) (β : Places) : List (Nat × PV) → List (Nat × Value) → Prop
  | [], [] => True
  | p :: ps, v :: vs => (p.1 = v.1 ∧ p.2.Is w I β v.2 ∧ ∀ ts, p.2 ≠ .tup ts) ∧ PartsIs w I β ps vs
  | _, _ => False
theorem partsK_ok (hR : Rel G I β s a w) : ∀ {ps : List (Nat × Operand)} {q : List (Nat × PV) → Prop}, partsK s ps q → ∃ l, q l ∧ PartsIs w I β l (ps.map fun p => (p.1, a.eval p.2))
  | [], q, h => ⟨[], h, trivial⟩
  | (i, o) :: ps, q, h => by
    replace h := PSt.ev_ok hR h
    obtain ⟨x, h, hx⟩ := h
    have key : (∀ ts, x ≠ .tup ts) ∧ partsK s ps fun l => q ((i, x) :: l) := by
      cases x <;> first | exact h.elim | exact ⟨(fun _ e => by cases e), h⟩
    obtain ⟨l, h, hl⟩ := partsK_ok hR key.2
    exact ⟨_, h, ⟨rfl, hx, key.1⟩, hl⟩
theorem fillP_ok {place : Nat → Option (Nat × Nat)} : ∀ {ps : List (Nat × PV)} {vs : List (Nat × Value)} {cells r : List PV} {A : Array Value}, fillP place cells ps = some r → IsL w I cells β A.toList → PartsIs w I β ps vs →
    ∃ B, Instr.fill place A vs = some B ∧ IsL w I r β B.toList
  | [], [], cells, r, A, h, hc, _ => by simp only [fillP, Option.some.injEq] at h; subst h; exact ⟨A, rfl, hc⟩
  | (i, x) :: ps, (j, v) :: vs, cells, r, A, h, hc, hps => by
    obtain ⟨⟨hij, hx, hnt⟩, hrest⟩ := hps
    simp only at hij hx hnt
    subst hij
    unfold fillP at h
    cases hpl : place i with
    | none => rw [hpl] at h; cases h
    | some os =>
      obtain ⟨off, size⟩ := os
      rw [hpl] at h
      simp only at h
      split at h
      · rename_i hcond
        simp only [Bool.and_eq_true] at hcond
        have h1 : x.cells.length = size := Nat.eq_of_beq_eq_true hcond.1
        have h2 : off + size ≤ cells.length := Nat.le_of_ble_eq_true hcond.2
        have hxc := hx.cellsL hnt
        have hl := hxc.length
        have hcl := hc.length
        simp only [Array.length_toList] at hl hcl
        unfold Instr.fill
        rw [hpl]
        simp only
        rw [if_neg (by simp; omega)]
        have key := Ev.fill_fold off v.cells.toList 0 A (by simp; omega)
        have harr : (v.cells.zipIdx.foldl (fun (cs : Array Value) (x : Value × Nat) => cs.setIfInBounds (off + x.2) x.1) A).toList = A.toList.take off ++ v.cells.toList ++ A.toList.drop (off + size) := by
          rw [← Array.foldl_toList, Array.toList_zipIdx]
          rw [key]; simp; congr 2; omega
        refine fillP_ok h ?_ hrest
        rw [harr]
        exact ((hc.take off).append hxc).append (hc.drop (off + size))
      · cases h
  | [], _ :: _, _, _, _, _, _, h => h.elim
  | _ :: _, [], _, _, _, _, _, h => h.elim
theorem pbuild_ok (hO : Ev.CxOk cx) (hR : Rel G I β s a w) {t : TypeId} {parts : Array (Nat × Operand)} {q : PV → Prop} (h : pbuild cx s t parts.toList q) :
    ∃ x r, q x ∧ x.Is w I β r ∧ ∀ w', (Instr.build t (parts.map fun (i, y) => (i, a.eval y))).run cx.P w' = .ok r w' := by
  replace h := zerosO_ok (w := w) (I := I) (β := β) hO h
  obtain ⟨z, i, v, h, hi, hzv, hzz⟩ := h
  replace h := partsK_ok hR h
  obtain ⟨ps, h, hps⟩ := h
  replace h := need_ok h
  obtain ⟨d, hu, h⟩ := h
  split at h
  · rename_i fs
    replace h := need_ok h
    obtain ⟨pl, hpl, h⟩ := h
    replace h := need_ok h
    obtain ⟨l, hl, h⟩ := h
    obtain ⟨B, hB, hBB⟩ := fillP_ok hl hzz hps
    refine ⟨_, .agg B, forceL_ok h, by simp only [PV.Is]; exact ⟨B, rfl, hBB⟩, fun w' => run_build w' t _ B ?_⟩
    unfold Program.built
    simp only [hi, hO.un hu, hzv, Ev.placeF_ok hO hpl]
    rw [← hB]; simp
  · rename_i n elem
    replace h := need_ok h
    obtain ⟨sz, hsz, h⟩ := h
    replace h := need_ok h
    obtain ⟨l, hl, h⟩ := h
    obtain ⟨B, hB, hBB⟩ := fillP_ok hl hzz hps
    obtain ⟨ie, hie, hie2⟩ := Ev.size_inf hO hsz
    refine ⟨_, .agg B, forceL_ok h, by simp only [PV.Is]; exact ⟨B, rfl, hBB⟩, fun w' => run_build w' t _ B ?_⟩
    unfold Program.built
    simp only [hi, hO.un hu, hzv, hie, hie2]
    rw [← hB]; simp
  · exact h.elim

theorem pfieldAddr_ok (hO : Ev.CxOk cx) {t : TypeId} {x : PV} {f : Nat} {u : Value} {q : PV → Prop} (h : pfieldAddr cx t x f q) (hx : x.Is w I β u) : ∃ z r, q z ∧ z.Is w I β r ∧ ∀ w', (Instr.fieldAt t u f).run cx.P w' = .ok r w' := by
  replace h := need_ok h
  obtain ⟨d, hu, h⟩ := h
  split at h
  · rename_i fs
    replace h := need_ok h
    obtain ⟨fd, hfd, h⟩ := h
    replace h := need_ok h
    obtain ⟨n, hn, h⟩ := h
    replace h := bif_not h
    obtain ⟨hn0, h⟩ := h
    · have hn0' : n ≠ 0 := fun e => by subst e; cases hn0
      have hfd' : fs[f]? = some fd := by simpa using hfd
      have hrun : ∀ (b o : Nat) w', (Instr.fieldAt t (.pointer (some ⟨b, o, none⟩)) f).run cx.P w' = .ok (.pointer (some ⟨b, o + fd.offset, none⟩)) w' := fun b o w' => by
        simp [Instr.fieldAt, run_underlying (hO.un hu), hfd', Instr.sureAddr, fieldPlace, Ev.size_run hO hn, hn0', Ev.addr_add]
      split at h <;> try simp only [PV.Is] at hx
      · obtain ⟨p, g, o, hp, ha, rfl⟩ := hx
        exact ⟨_, _, h, by simp only [PV.Is]; exact ⟨p, g, o, hp, ha, rfl⟩, fun w' => by rw [hrun]; simp only [Nat.add_assoc]⟩
      · obtain ⟨p, g, o, hp, ha, rfl⟩ := hx
        exact ⟨_, _, h, by simp only [PV.Is]; exact ⟨p, g, o, hp, ha, rfl⟩, fun w' => by rw [hrun]; congr 4; omega⟩
      · obtain ⟨p, g, o, hp, ha, rfl⟩ := hx
        exact ⟨_, _, h, by simp only [PV.Is]; exact ⟨p, g, o, hp, ha, rfl⟩, fun w' => by rw [hrun]; congr 4; omega⟩
      · obtain ⟨g, o, rfl, hg, hc⟩ := hx
        exact ⟨_, _, h, by simp only [PV.Is]; exact ⟨g, o, rfl, hg, hc⟩, fun w' => by rw [hrun]; simp only [Nat.add_assoc]⟩
      · subst hx
        exact ⟨_, _, h, by simp only [PV.Is]; exact rfl, fun w' => by rw [hrun]⟩
      · subst hx
        exact ⟨_, _, h, by simp only [PV.Is]; exact rfl, fun w' => by rw [hrun]; congr 4; omega⟩
      · exact h.elim
  · exact h.elim

theorem within_ok {st : Bool} {i : Int} {len : Nat} {f : Nat → Prop} {g : Prop} (h : within st i len f g) : 0 ≤ i ∧ i < len ∧ (f i.toNat ∨ g) := by
  cases st with
  | true =>
    replace h := bif_ok h
    obtain ⟨hb, h⟩ := h
    simp only [Bool.and_eq_true, decide_eq_true_eq] at hb
    exact ⟨hb.1, hb.2, .inl h⟩
  | false => exact ⟨h.1, h.2.1, .inr h.2.2⟩
theorem elemK_ok {es : List PV} {i : Int} {q : PV → Prop} (h : elemK es i q) : ∃ e, 0 ≤ i ∧ i < es.length ∧ es[i.toNat]? = some e ∧ q e := by
  obtain ⟨α, l, enc, rfl, h0, h1, h⟩ := h
  have hlt : i.toNat < l.length := by omega
  exact ⟨_, h0, by simpa using h1, by rw [List.getElem?_map, List.getElem?_eq_getElem hlt]; rfl, h _ (List.getElem?_eq_getElem hlt)⟩

theorem pindexAddr_ok (hO : Ev.CxOk cx) (hR : HeapOk I β s.st w) {t : TypeId} {x i : PV} {u v : Value} {q : PV → Prop} (h : pindexAddr cx s.st t x i q) (hx : x.Is w I β u) (hi : i.Is w I β v) :
    ∃ z r, q z ∧ z.Is w I β r ∧ ∀ w', (Instr.indexAt t u v).run cx.P w' = .ok r w' := by
  replace h := need_ok h
  obtain ⟨⟨st, k, n⟩, hn, h⟩ := h
  obtain rfl := PV.num_ok hn hi
  replace h := need_ok h
  obtain ⟨d, hu, h⟩ := h
  try simp only at h
  split at h
  · rename_i len elem
    replace h := need_ok h
    obtain ⟨size, hs, h⟩ := h
    have hrun : ∀ (b o : Nat), 0 ≤ n → n < len → ∀ w', (Instr.indexAt t (.pointer (some ⟨b, o, none⟩)) (.int k n)).run cx.P w' = .ok (.pointer (some ⟨b, o + n.toNat * size, none⟩)) w' := fun b o h0 h1 w' => by
      simp [Instr.indexAt, Instr.sureAddr, asIntOf, run_underlying (hO.un hu), h0, h1, Ev.size_run hO hs, Ev.addr_add]
    split at h <;> try simp only [PV.Is] at hx
    · obtain ⟨p, g, o, hp, ha, rfl⟩ := hx
      replace h := within_ok h
      obtain ⟨h0, h1, h | h⟩ := h
      · exact ⟨_, _, h, by simp only [PV.Is]; exact ⟨p, g, o, hp, ha, rfl⟩, fun w' => by rw [hrun _ _ h0 h1]; simp only [Nat.add_assoc]⟩
      · exact ⟨_, _, h, by simp only [PV.Is]; exact ⟨p, g, o, hp, ha, rfl⟩, fun w' => by rw [hrun _ _ h0 h1]; simp only [Nat.add_assoc]⟩
    · subst hx
      replace h := within_ok h
      obtain ⟨h0, h1, h | h⟩ := h
      · exact ⟨_, _, h, by simp only [PV.Is]; exact rfl, fun w' => by rw [hrun _ _ h0 h1]⟩
      · exact ⟨_, _, h, by simp only [PV.Is]; exact rfl, fun w' => by rw [hrun _ _ h0 h1]⟩
    · obtain ⟨g, o, rfl, hg, hc⟩ := hx
      replace h := within_ok h
      obtain ⟨h0, h1, h | h⟩ := h
      · exact ⟨_, _, h, by simp only [PV.Is]; exact ⟨g, o, rfl, hg, hc⟩, fun w' => by rw [hrun _ _ h0 h1]; simp only [Nat.add_assoc]⟩
      · exact h.elim
    · exact h.elim
  · rename_i elem
    replace h := need_ok h
    obtain ⟨size, hs, h⟩ := h
    have hrun : ∀ (b o len cap : Nat), 0 ≤ n → n < len → ∀ w', (Instr.indexAt t (.slice (some ⟨b, o, none⟩) len cap) (.int k n)).run cx.P w' = .ok (.pointer (some ⟨b, o + n.toNat * size, none⟩)) w' := fun b o len cap h0 h1 w' => by
      simp [Instr.indexAt, asIntOf, run_underlying (hO.un hu), h0, h1, Ev.size_run hO hs, Ev.addr_add]
    split at h <;> try simp only [PV.Is] at hx
    · rename_i m es
      replace h := bif_ok h
      obtain ⟨hm, h⟩ := h
      have hms : m = size := Nat.eq_of_beq_eq_true hm
      replace h := elemK_ok h
      obtain ⟨e, h0, h1, he, h⟩ := h
      obtain ⟨ad, cap, rfl, _, _, h2, h3⟩ := hx
      obtain ⟨g, o, rfl, hg, _⟩ := h3 (by omega)
      have hel := (h2 g o rfl).get he
      exact ⟨_, _, forceL_ok h, by simp only [PV.Is]; exact ⟨g, o + n.toNat * m, rfl, hg, hel.2⟩, fun w' => by rw [hrun _ _ _ _ h0 h1, hms]; rfl⟩
    · obtain ⟨p, g, o, cap, hp, ha, rfl, _⟩ := hx
      replace h := within_ok h
      obtain ⟨h0, h1, h | h⟩ := h
      · exact ⟨_, _, h, by simp only [PV.Is]; exact ⟨p, g, o, hp, ha, rfl⟩, fun w' => by rw [hrun _ _ _ _ h0 h1]; simp only [Nat.add_assoc]⟩
      · exact ⟨_, _, h, by simp only [PV.Is]; exact ⟨p, g, o, hp, ha, rfl⟩, fun w' => by rw [hrun _ _ _ _ h0 h1]; simp only [Nat.add_assoc]⟩
    · rename_i l
      replace h := need_ok h
      obtain ⟨b, hb, h⟩ := h
      replace h := bif_ok h
      obtain ⟨hc, h⟩ := h
      simp only [Bool.and_eq_true] at hc
      have hsz : b.size = size := Nat.eq_of_beq_eq_true hc.1.2
      obtain ⟨p, hp, rfl⟩ := hx
      split at h
      · rename_i hk
        obtain ⟨g, arr, fr, ha, hw, _, _, _, hlen, _, _, _, hpos⟩ := whole_arr hR hb hc.1.1 hk hp
        rw [hw]
        rw [lenK_eq, Nat.zero_add] at h
        have hq : b.cs.length / size = p.len := by rw [hlen, hsz]; exact Nat.mul_div_cancel _ (by omega)
        rw [hq] at h
        replace h := within_ok h
        obtain ⟨h0, h1, h | h⟩ := h
        · exact ⟨_, _, h, by simp only [PV.Is]; exact ⟨p, g, 0, hp, ha, rfl⟩, fun w' => by rw [hrun _ _ _ _ h0 h1]⟩
        · exact ⟨_, _, h, by simp only [PV.Is]; exact ⟨p, g, 0, hp, ha, rfl⟩, fun w' => by rw [hrun _ _ _ _ h0 h1]; congr 4; omega⟩
      · rename_i hk
        obtain ⟨h0, h1, h⟩ := h
        obtain ⟨_, hlen, hle, _, hor⟩ := whole_dyn hR hb hc.1.1 hk hp
        rcases hor with ⟨_, hc0, _⟩ | ⟨g, arr, fr, ha, hw, _⟩
        · omega
        · rw [hw]
          exact ⟨_, _, h, by simp only [PV.Is]; exact ⟨p, g, 0, hp, ha, rfl⟩, fun w' => by rw [hrun _ _ _ _ h0 (by omega)]; congr 4⟩
      · exact h.elim
    · exact h.elim
  · exact h.elim

theorem pindex_ok (hO : Ev.CxOk cx) {t : TypeId} {x i : PV} {u v : Value} {q : PV → Prop} (h : pindex cx t x i q) (hx : x.Is w I β u) (hi : i.Is w I β v) :
    ∃ z r, q z ∧ z.Is w I β r ∧ ∀ w', (Instr.index t u v).run cx.P w' = .ok r w' := by
  replace h := need_ok h
  obtain ⟨⟨st, k, n⟩, hn, h⟩ := h
  obtain rfl := PV.num_ok hn hi
  replace h := need_ok h
  obtain ⟨d, hu, h⟩ := h
  try simp only at h
  split at h <;> try simp only [PV.Is] at hx
  · rename_i len elem cs
    obtain ⟨vs, rfl, hc⟩ := hx
    replace h := need_ok h
    obtain ⟨size, hs, h⟩ := h
    replace h := within_ok h
    obtain ⟨h0, h1, h⟩ := h
    have hrun : ∀ w', (Instr.index t (.agg vs) (.int k n)).run cx.P w' = (Go.part elem vs (n.toNat * size)).run cx.P w' := fun w' => by
      simp [Instr.index, asIntOf, run_underlying (hO.un hu), h0, h1, Ev.size_run hO hs]
    rcases h with h | h
    · obtain ⟨z, r, h2, h3, h4⟩ := part_ok hO h hc
      exact ⟨z, r, h2, h3, fun w' => by rw [hrun, h4]⟩
    · replace h := need_ok h
      obtain ⟨ag, hag, h⟩ := h
      replace h := bif_ok h
      obtain ⟨hb, h⟩ := h
      simp only [Bool.and_eq_true, Bool.not_eq_true'] at hb
      obtain ⟨⟨hag', hs1⟩, hcl⟩ := hb
      subst hag'
      have hs1' := Nat.eq_of_beq_eq_true hs1
      have hcl' := Nat.eq_of_beq_eq_true hcl
      subst hs1'
      have hlt : n.toNat < cs.length := by omega
      obtain ⟨r, hr, hri⟩ := hc.get (List.getElem?_eq_getElem hlt)
      have hr' : vs[n.toNat]? = some r := by simpa using hr
      exact ⟨_, r, h _ (List.getElem?_eq_getElem hlt), hri, fun w' => by rw [hrun]; simp [Go.part, Ev.isAgg_run hO hag, hr']⟩
  · rename_i sb
    obtain ⟨rfl, _⟩ := hx
    obtain ⟨h0, h1, h⟩ := h
    have hlt : n.toNat < sb.size := by omega
    refine ⟨_, _, h, Is.int, fun w' => ?_⟩
    rw [run_index_string w' t sb k _ (hO.un hu), dif_pos ⟨h0, h1⟩]
    have : sb.data.toList[n.toNat]? = some (sb[n.toNat]'hlt) := by
      rw [Array.getElem?_toList, Array.getElem?_eq_getElem hlt]; rfl
    rw [List.getElem?_map, this]; rfl
  · exact h.elim
end

end Go.Proofs.YtnjmfedleimlmaaDoor.Pw

/- Slices, lengths; memory: loads, stores, new blocks, append, as the evaluator says. -/
namespace Go.Proofs.YtnjmfedleimlmaaDoor.Pw
open Go Go.RowKit

section
variable {w w' : World} {I I' : Nat → Prop} {β β' : Places} {cx : Ev.Cx} {G : Gx} {P : Program} {s : PSt} {a : Act}

/-! ### slices -/
theorem bnd_ok (hR : Rel G I β s a w) {o : Option Operand} {d : Bool × Int} {q : Bool × Int → Prop} (h : bnd s o d q) : ∃ z, q z ∧ ((o.map a.eval = none ∧ z = d) ∨ ∃ k, o.map a.eval = some (.int k z.2)) := by
  cases o with
  | none => exact ⟨d, h, .inl ⟨rfl, rfl⟩⟩
  | some o =>
    replace h := PSt.ev_ok hR h
    obtain ⟨x, h, hx⟩ := h
    replace h := need_ok h
    obtain ⟨⟨st, k, n⟩, hn, h⟩ := h
    exact ⟨(st, n), h, .inr ⟨k, by simp only [Option.map_some, PV.num_ok hn hx]⟩⟩
theorem bounds_run {b : Bool} {len cap H L : Nat} {uh ul : Option Value} (hh : (uh = none ∧ H = len) ∨ ∃ k i, uh = some (.int k i) ∧ 0 ≤ i ∧ i ≤ cap ∧ H = i.toNat) (hl : (ul = none ∧ L = 0) ∨ ∃ k i, ul = some (.int k i) ∧ 0 ≤ i ∧ i ≤ H ∧ L = i.toNat) (w : World) :
    (Instr.sliceBounds b len cap ul uh none).run P w = .ok (L, H, cap) w := by
  rcases hh with ⟨rfl, rfl⟩ | ⟨k, i, rfl, h0, h1, rfl⟩ <;> rcases hl with ⟨rfl, rfl⟩ | ⟨k', i', rfl, g0, g1, rfl⟩
  · simp [Instr.sliceBounds]
  · simp [Instr.sliceBounds, Ev.sliceBound_run g0 g1]
  · simp [Instr.sliceBounds, Ev.sliceBound_run h0 h1]
  · simp [Instr.sliceBounds, Ev.sliceBound_run h0 h1, Ev.sliceBound_run g0 g1]
/-- bounds that were looked at -/
theorem bnds_of {b : Bool} {len cap : Nat} {uh ul : Option Value} {l h : Bool × Int} (hh : (uh = none ∧ h.2 = (len : Int)) ∨ ∃ k, uh = some (.int k h.2)) (hl : (ul = none ∧ l.2 = 0) ∨ ∃ k, ul = some (.int k l.2)) (h0 : 0 ≤ l.2) (h1 : l.2 ≤ h.2) (h2 : h.2 ≤ cap) (w : World) :
    (Instr.sliceBounds b len cap ul uh none).run P w = .ok (l.2.toNat, h.2.toNat, cap) w := by
  refine bounds_run ?_ ?_ w
  · rcases hh with ⟨e, e'⟩ | ⟨k, e⟩
    · exact .inl ⟨e, by omega⟩
    · exact .inr ⟨k, h.2, e, by omega, by omega, rfl⟩
  · rcases hl with ⟨e, e'⟩ | ⟨k, e⟩
    · exact .inl ⟨e, by omega⟩
    · exact .inr ⟨k, l.2, e, by omega, by omega, rfl⟩
theorem IsEs.drop {es : List PV} {n g o : Nat} (k : Nat) (h : IsEs w I es n g o) : IsEs w I (es.drop k) n g (o + k * n) := IsEs.of fun i e he => by
  rw [List.getElem?_drop] at he
  have := h.get he
  rw [show o + k * n + i * n = o + (k + i) * n by rw [Nat.add_mul]; omega]
  exact this
theorem IsEs.take {es : List PV} {n g o : Nat} (k : Nat) (h : IsEs w I es n g o) : IsEs w I (es.take k) n g o := IsEs.of fun i e he => by
  rw [List.getElem?_take] at he
  split at he
  · exact h.get he
  · cases he
theorem pslice_ok (hO : Ev.CxOk G.cx) (hR : Rel G I β s a w) {t : TypeId} {x : PV} {u : Value} {lo hi mx : Option Operand} {q : PV → Prop} (h : pslice G.cx s t x lo hi mx q) (hx : x.Is w I β u) :
    ∃ z r, q z ∧ z.Is w I β r ∧ ∀ w', (Instr.sliceAt t u (lo.map a.eval) (hi.map a.eval) (mx.map a.eval)).run G.cx.P w' = .ok r w' := by
  replace h := need_ok h
  obtain ⟨d, hu, h⟩ := h
  split at h
  · rename_i n elem
    replace h := need_ok h
    obtain ⟨m, hm, h⟩ := h
    replace h := bif_ok h
    obtain ⟨hpos, h⟩ := h
    simp only [Bool.and_eq_true] at hpos
    replace h := bnd_ok hR h
    obtain ⟨l, h, hl⟩ := h
    replace h := bnd_ok hR h
    obtain ⟨hh, h, hhh⟩ := h
    split at h <;> try simp only [PV.Is] at hx
    · obtain ⟨p, g, o, hp, ha, rfl⟩ := hx
      replace h := bif_ok h
      obtain ⟨hc, h⟩ := h
      simp only [Bool.and_eq_true, decide_eq_true_eq] at hc
      obtain ⟨⟨⟨⟨⟨_, _⟩, h0⟩, h1⟩, h2⟩, h3⟩ := hc
      refine ⟨_, .slice (some ⟨g, o + _, none⟩) _ (n - l.2.toNat), h, by simp only [PV.Is]; exact ⟨p, g, o, n - l.2.toNat, hp, ha, rfl, by omega⟩, fun w' => ?_⟩
      have hb := fun b => bnds_of (P := G.cx.P) (b := b) (len := n) (cap := n) (hhh.imp (fun ⟨e, e'⟩ => ⟨e, by rw [e']⟩) id) (hl.imp (fun ⟨e, e'⟩ => ⟨e, by rw [e']⟩) id) h0 h2 h3 w'
      have hne : ¬ n = l.2.toNat := by omega
      have e1 : hh.2.toNat - l.2.toNat = (hh.2 - l.2).toNat := by omega
      simp only [Instr.sliceAt, Sem.run_bind, run_underlying (hO.un hu), Result.andThen_ok, Instr.sureAddr, Sem.run_pure, Option.map_none, hb, Ev.size_run hO hm]
      simp [hne, Ev.addr_add, Nat.add_assoc, e1]
    · exact h.elim
  · rename_i elem
    replace h := need_ok h
    obtain ⟨m, hm, h⟩ := h
    replace h := bnd_ok hR h
    obtain ⟨l, h, hl⟩ := h
    have run : ∀ (ad : Option Addr) (len cap : Nat) (hh : Bool × Int), ((hi.map a.eval = none ∧ hh.2 = (len : Int)) ∨ ∃ k, hi.map a.eval = some (.int k hh.2)) → 0 ≤ l.2 → l.2 ≤ hh.2 → hh.2 ≤ cap → ∃ ad', (∀ w', (Instr.sliceAt t (.slice ad len cap) (lo.map a.eval) (hi.map a.eval) none).run G.cx.P w' = .ok (.slice ad' (hh.2 - l.2).toNat (cap - l.2.toNat)) w') ∧ (ad = none → ad' = none) ∧ (∀ g o, ad = some ⟨g, o, none⟩ → l.2 < cap → ad' = some ⟨g, o + l.2.toNat * m, none⟩) := by
      intro ad len cap hh hhh h0 h1 h2
      have hb := fun b w' => bnds_of (P := G.cx.P) (b := b) (len := len) (cap := cap) hhh (hl.imp (fun ⟨e, e'⟩ => ⟨e, by rw [e']⟩) id) h0 h1 h2 w'
      have e1 : hh.2.toNat - l.2.toNat = (hh.2 - l.2).toNat := by omega
      cases ad with
      | none =>
        refine ⟨none, fun w' => ?_, fun _ => rfl, fun _ _ e => by cases e⟩
        simp only [Instr.sliceAt, Instr.slice, Sem.run_bind, run_underlying (hO.un hu), Result.andThen_ok, Sem.run_pure, Option.map_none, hb, Ev.size_run hO hm]
        simp [e1]
      | some ad =>
        by_cases hcl : cap = l.2.toNat
        · refine ⟨some ad, fun w' => ?_, (fun e => by cases e), fun g o e hlt => by omega⟩
          simp only [Instr.sliceAt, Instr.slice, Sem.run_bind, run_underlying (hO.un hu), Result.andThen_ok, Sem.run_pure, Option.map_none, hb, Ev.size_run hO hm]
          simp [e1, hcl]
        · refine ⟨some (ad.add (l.2.toNat * m)), fun w' => ?_, (fun e => by cases e), fun g o e hlt => by cases e; rw [Ev.addr_add]⟩
          simp only [Instr.sliceAt, Instr.slice, Sem.run_bind, run_underlying (hO.un hu), Result.andThen_ok, Sem.run_pure, Option.map_none, hb, Ev.size_run hO hm]
          simp [e1, hcl]
    split at h <;> try simp only [PV.Is] at hx
    · subst hx
      replace h := bnd_ok hR h
      obtain ⟨hh, ⟨h0, h1, h⟩, hhh⟩ := h
      refine ⟨_, .slice none 0 0, h, by simp only [PV.Is], fun w' => ?_⟩
      obtain ⟨ad', hr, hn, _⟩ := run none 0 0 hh (hhh.imp (fun ⟨e, e'⟩ => ⟨e, by rw [e']; rfl⟩) id) (by omega) (by omega) (by omega)
      rw [hn rfl] at hr
      rw [Option.map_none, hr, h0, h1]; rfl
    · rename_i b off len
      obtain ⟨p, g, o, cap, hp, ha, rfl, hle⟩ := hx
      replace h := bnd_ok hR h
      obtain ⟨hh, h, hhh⟩ := h
      replace h := bif_ok h
      obtain ⟨hc, h⟩ := h
      simp only [Bool.and_eq_true, decide_eq_true_eq] at hc
      obtain ⟨⟨⟨⟨⟨_, _⟩, h0⟩, h1⟩, h2⟩, h3⟩ := hc
      refine ⟨_, .slice (some ⟨g, o + (off + l.2.toNat * m), none⟩) (hh.2 - l.2).toNat (cap - l.2.toNat), h, by simp only [PV.Is]; exact ⟨p, g, o, cap - l.2.toNat, hp, ha, rfl, by omega⟩, fun w' => ?_⟩
      obtain ⟨ad', hr, _, hs⟩ := run (some ⟨g, o + off, none⟩) len cap hh (hhh.imp (fun ⟨e, e'⟩ => ⟨e, by rw [e']⟩) id) h0 h2 (by omega)
      rw [Option.map_none, hr, hs g (o + off) rfl (by omega)]
      simp only [Nat.add_assoc]
    · rename_i n es
      obtain ⟨ad, cap, rfl, hle, hmx, h4, h5⟩ := hx
      replace h := bnd_ok hR h
      obtain ⟨hh, h, hhh⟩ := h
      replace h := bif_ok h
      obtain ⟨hc, h0, h1, h2, h⟩ := h
      simp only [Bool.and_eq_true] at hc
      have hnm : n = m := Nat.eq_of_beq_eq_true hc.1
      have hm0 : 0 < m := Nat.le_of_ble_eq_true hc.2
      have hlen : ((es.drop l.2.toNat).take (hh.2 - l.2).toNat).length = (hh.2 - l.2).toNat := by rw [List.length_take, List.length_drop]; omega
      obtain ⟨ad', hr', hn, hs⟩ := run ad es.length cap hh (hhh.imp (fun ⟨e, e'⟩ => ⟨e, by rw [e']⟩) id) h0 h1 (by omega)
      refine ⟨_, _, h, ?_, fun w' => by rw [Option.map_none, hr']⟩
      simp only [PV.Is, hlen]
      refine ⟨ad', cap - l.2.toNat, rfl, by omega, by omega, fun g o e => ?_, fun hne => ?_⟩
      · by_cases hz : (hh.2 - l.2).toNat = 0
        · rw [hz, List.take_zero]; simp only [IsEs]
        · obtain ⟨g', o', had, hg, _⟩ := h5 (by omega)
          have := hs g' o' had (by omega)
          rw [this] at e
          cases e
          rw [← hnm]
          exact ((h4 _ _ had).drop _).take _
      · obtain ⟨g', o', had, hg, hn0⟩ := h5 (by omega)
        exact ⟨g', _, hs g' o' had (by omega), hg, hn0⟩
    · rename_i b
      obtain ⟨p, hp, rfl⟩ := hx
      replace h := need_ok h
      obtain ⟨k, hb, h⟩ := h
      split at h
      · rename_i hk
        replace h := bif_ok h
        obtain ⟨hc, h⟩ := h
        simp only [Bool.and_eq_true] at hc
        have hsz : k.size = m := Nat.eq_of_beq_eq_true hc.1.2
        obtain ⟨g, arr, fr, ha, hw, _, _, _, hlen, hle, _, _, hpos⟩ := whole_arr hR.heap hb hc.1.1 hk hp
        rw [lenK_eq, Nat.zero_add] at h
        have hq : k.cs.length / m = p.len := by rw [hlen, hsz]; exact Nat.mul_div_cancel _ (by omega)
        rw [hq] at h
        replace h := bnd_ok hR h
        obtain ⟨hh, h, hhh⟩ := h
        replace h := bif_ok h
        obtain ⟨hc2, h⟩ := h
        simp only [Bool.and_eq_true, decide_eq_true_eq] at hc2
        obtain ⟨⟨⟨⟨⟨_, _⟩, h0⟩, h1⟩, h2⟩, h3⟩ := hc2
        refine ⟨_, .slice (some ⟨g, 0 + l.2.toNat * m, none⟩) (hh.2 - l.2).toNat (p.cap - l.2.toNat), h, by simp only [PV.Is]; exact ⟨p, g, 0, p.cap - l.2.toNat, hp, ha, rfl, by omega⟩, fun w' => ?_⟩
        obtain ⟨ad', hr, _, hs⟩ := run (some ⟨g, 0, none⟩) p.len p.cap hh (hhh.imp (fun ⟨e, e'⟩ => ⟨e, by rw [e']⟩) id) h0 h2 (by omega)
        rw [hw, Option.map_none, hr, hs g 0 rfl (by omega)]
      · exact h.elim
    · exact h.elim
  · exact h.elim

theorem plen_ok (hR : HeapOk I β s.st w) {x : PV} {u : Value} {q : PV → Prop} (h : plen s.st x q) (hx : x.Is w I β u) : ∃ z, q z ∧ ∃ (ad : Option Addr) (n c : Nat), u = .slice ad n c ∧ z.Is w I β (.int .i64 n) := by
  unfold plen at h
  simp only [lenK_eq, Nat.zero_add, PBlk.szK_eq] at h
  split at h <;> try simp only [PV.Is] at hx
  · exact ⟨_, h, _, _, _, hx, Is.lit⟩
  · obtain ⟨ad, cap, rfl, _, hm, _⟩ := hx
    exact ⟨_, h hm, _, _, _, rfl, Is.int⟩
  · obtain ⟨p, g, o, cap, _, _, rfl, _⟩ := hx
    exact ⟨_, h, _, _, _, rfl, Is.lit⟩
  · obtain ⟨p, hp, rfl⟩ := hx
    replace h := need_ok h
    obtain ⟨b, hb, h⟩ := h
    replace h := bif_ok h
    obtain ⟨hl, h⟩ := h
    split at h
    · rename_i hk
      obtain ⟨g, arr, fr, _, hw, _, _, _, hlen, _, _, _, hpos⟩ := whole_arr hR hb hl hk hp
      refine ⟨_, h, _, _, _, hw, ?_⟩
      rw [hlen, Nat.mul_div_cancel _ hpos]
      exact Is.lit
    · rename_i hk
      obtain ⟨_, hlen, hle, hm, hor⟩ := whole_dyn hR hb hl hk hp
      have h := h (by omega)
      rcases hor with ⟨_, hc, hw⟩ | ⟨g, arr, fr, _, hw, _⟩
      · exact ⟨_, h, _, _, _, hw, by rw [show b.cs.length = 0 by omega]; exact Is.int⟩
      · exact ⟨_, h, _, _, _, hw, by rw [hlen]; exact Is.int⟩
    · exact h.elim
  · exact h.elim

theorem konstOps_ok (hR : Rel G I β s a w) : ∀ {os : List Operand} {q : List PV → Prop}, ppure.konstOps s os q → ∃ l, q l ∧ IsL w I l β (os.map a.eval)
  | [], q, h => ⟨[], h, by simp only [List.map_nil, IsL]⟩
  | o :: os, q, h => by
    replace h := PSt.ev_ok hR h
    obtain ⟨x, h, hx⟩ := h
    have key : ppure.konstOps s os fun xs => q (x :: xs) := by cases x <;> first | exact h.elim | exact h
    obtain ⟨l, h, hl⟩ := konstOps_ok hR key
    exact ⟨_, h, by simp only [List.map_cons, IsL]; exact ⟨hx, hl⟩⟩

set_option maxHeartbeats 1000000 in
theorem ppure_ok (hO : Ev.CxOk G.cx) (hR : Rel G I β s a w) {o : Oper} {q : PV → Prop} (h : ppure G.cx s o.op q) :
    ∃ x r, q x ∧ x.Is w I β r ∧ ∀ w', (execOp a.eval o).run G.cx.P w' = .ok (.value r) w' := by
  obtain ⟨dst, op, ty, pos, after, guard⟩ := o
  simp only at h
  unfold ppure at h
  split at h
  · -- move
    replace h := PSt.ev_ok hR h
    obtain ⟨x, h, hx⟩ := h
    exact ⟨x, _, h, hx, fun w' => rfl⟩
  · -- assign
    replace h := PSt.ev_ok hR h
    obtain ⟨x, h, hx⟩ := h
    exact ⟨x, _, h, hx, fun w' => rfl⟩
  · -- pick
    rename_i c x y
    have hrun : ∀ b, a.eval c = .bool b → ∀ w', (execOp a.eval ⟨dst, .pick c x y, ty, pos, after, guard⟩).run G.cx.P w' = .ok (.value (if b then a.eval x else a.eval y)) w' := fun b hb w' => by
      cases b <;> simp [execOp, hb, asBool]
    replace h := PSt.ev_ok hR h
    obtain ⟨xc, h, hc⟩ := h
    split at h <;> try simp only [PV.Is] at hc
    · replace h := PSt.ev_ok hR h
      obtain ⟨z, h, hz⟩ := h
      exact ⟨z, _, h, hz, fun w' => by rw [hrun _ hc]; rfl⟩
    · replace h := PSt.ev_ok hR h
      obtain ⟨z, h, hz⟩ := h
      exact ⟨z, _, h, hz, fun w' => by rw [hrun _ hc]; rfl⟩
    · rename_i p
      by_cases hp : p
      · obtain ⟨z, h, hz⟩ := PSt.ev_ok hR (h.1 hp)
        exact ⟨z, _, h, hz, fun w' => by rw [hrun _ hc, pb_true hp]; rfl⟩
      · obtain ⟨z, h, hz⟩ := PSt.ev_ok hR (h.2 hp)
        exact ⟨z, _, h, hz, fun w' => by rw [hrun _ hc, pb_false hp]; rfl⟩
    · exact h.elim
  · -- binOp
    replace h := PSt.ev_ok hR h
    obtain ⟨x, h, hx⟩ := h
    replace h := PSt.ev_ok hR h
    obtain ⟨y, h, hy⟩ := h
    obtain ⟨z, r, h, hz, hg, hr⟩ := pbin_ok hO hR.heap h hx hy
    exact ⟨z, r, h, hz, fun w' => by simp [execOp, hg, hr]⟩
  · -- unOp
    replace h := PSt.ev_ok hR h
    obtain ⟨x, h, hx⟩ := h
    obtain ⟨z, r, h, hz, hr⟩ := pun_ok (P := G.cx.P) h hx
    exact ⟨z, r, h, hz, fun w' => by simp [execOp, hr]⟩
  · -- convert
    replace h := PSt.ev_ok hR h
    obtain ⟨x, h, hx⟩ := h
    obtain ⟨z, r, h, hz, hr⟩ := pconv_ok hO h hx
    exact ⟨z, r, h, hz, fun w' => by simp [execOp, hr]⟩
  · -- nilCheck
    rename_i o
    replace h := PSt.ev_ok hR h
    obtain ⟨x, h, hx⟩ := h
    have key : ∀ {ad : Addr}, a.eval o = .pointer (some ad) → ∀ w', (execOp a.eval ⟨dst, .nilCheck o, ty, pos, after, guard⟩).run G.cx.P w' = .ok (.value (a.eval o)) w' := fun he w' => by simp [execOp, he]
    split at h <;> first | exact h.elim | (have hx' := hx; simp only [PV.Is] at hx')
    · obtain ⟨p, g, o', _, _, he⟩ := hx'; exact ⟨_, _, h, hx, key he⟩
    · obtain ⟨p, g, o', _, _, he⟩ := hx'; exact ⟨_, _, h, hx, key he⟩
    · obtain ⟨p, g, o', _, _, he⟩ := hx'; exact ⟨_, _, h, hx, key he⟩
    · obtain ⟨g, o', he, _⟩ := hx'; exact ⟨_, _, h, hx, key he⟩
    · exact ⟨_, _, h, hx, key hx'⟩
    · exact ⟨_, _, h, hx, key hx'⟩
  · -- build
    obtain ⟨x, r, h, hx, hr⟩ := pbuild_ok hO hR h
    exact ⟨x, r, h, hx, fun w' => by simp [execOp, hr]⟩
  · -- fieldAddr
    replace h := PSt.ev_ok hR h
    obtain ⟨x, h, hx⟩ := h
    obtain ⟨z, r, h, hz, hr⟩ := pfieldAddr_ok hO h hx
    exact ⟨z, r, h, hz, fun w' => by simp [execOp, hr]⟩
  · -- field
    rename_i f
    replace h := need_ok h
    obtain ⟨d, hu, h⟩ := h
    replace h := PSt.ev_ok hR h
    obtain ⟨x, h, hx⟩ := h
    split at h
    · rename_i fs cs
      replace h := need_ok h
      obtain ⟨fd, hfd, h⟩ := h
      simp only [PV.Is] at hx
      obtain ⟨vs, he, hc⟩ := hx
      obtain ⟨z, r, h, hz, hr⟩ := part_ok hO h hc
      have hfd' : fs[f]? = some fd := by simpa using hfd
      exact ⟨z, r, h, hz, fun w' => by simp [execOp, Instr.field, run_underlying (hO.un hu), hfd', he, asAgg, hr]⟩
    · exact h.elim
  · -- indexAddr
    replace h := PSt.ev_ok hR h
    obtain ⟨x, h, hx⟩ := h
    replace h := PSt.ev_ok hR h
    obtain ⟨y, h, hy⟩ := h
    obtain ⟨z, r, h, hz, hr⟩ := pindexAddr_ok hO hR.heap h hx hy
    exact ⟨z, r, h, hz, fun w' => by simp [execOp, hr]⟩
  · -- index
    replace h := PSt.ev_ok hR h
    obtain ⟨x, h, hx⟩ := h
    replace h := PSt.ev_ok hR h
    obtain ⟨y, h, hy⟩ := h
    obtain ⟨z, r, h, hz, hr⟩ := pindex_ok hO h hx hy
    exact ⟨z, r, h, hz, fun w' => by simp [execOp, hr]⟩
  · -- extract
    rename_i i
    replace h := PSt.ev_ok hR h
    obtain ⟨x, h, hx⟩ := h
    split at h
    · replace h := need_ok h
      obtain ⟨z, hz, h⟩ := h
      simp only [PV.Is] at hx
      obtain ⟨vs, he, hc⟩ := hx
      obtain ⟨r, hr, hri⟩ := hc.get hz
      have hr' : vs[i]? = some r := by simpa using hr
      exact ⟨z, r, h, hri, fun w' => by simp [execOp, Instr.extract, he, hr']⟩
    · exact h.elim
  · -- slice
    replace h := PSt.ev_ok hR h
    obtain ⟨x, h, hx⟩ := h
    obtain ⟨z, r, h, hz, hr⟩ := pslice_ok hO hR h hx
    exact ⟨z, r, h, hz, fun w' => by simp [execOp, hr]⟩
  · -- makeFunc
    rename_i f caps
    replace h := konstOps_ok hR h
    obtain ⟨l, h, hl⟩ := h
    refine ⟨_, .func (.func f) #[] ⟨caps.map a.eval⟩, h, by simp only [PV.Is]; exact ⟨_, rfl, hl⟩, fun w' => ?_⟩
    simp [execOp, Instr.makeFunc]
  · -- len
    rename_i o t
    replace h := need_ok h
    obtain ⟨d, hu, h⟩ := h
    replace h := PSt.ev_ok hR h
    obtain ⟨x, h, hx⟩ := h
    have hrun : ∀ {r : Value}, (∀ w', (Builtin.len_ #[t] ty #[a.eval o]).run G.cx.P w' = .ok r w') → ∀ w', (execOp a.eval ⟨dst, .call { callee := .builtin .len, args := #[o], argTypes := #[t] }, ty, pos, after, guard⟩).run G.cx.P w' = .ok (.value r) w' := fun hr w' => by
      simp [execOp, resolve, invoke, builtin, hr]
    split at h
    · obtain ⟨z, h, ad, n, c, he, hz⟩ := plen_ok hR.heap h hx
      exact ⟨z, _, h, hz, hrun fun w' => by simp [Builtin.len_, run_underlying (hO.un hu), he, goInt]⟩
    · exact ⟨_, _, h, Is.lit, hrun fun w' => by simp [Builtin.len_, run_underlying (hO.un hu), goInt]⟩
    · split at h
      · simp only [PV.Is] at hx
        obtain ⟨he, _⟩ := hx
        exact ⟨_, _, h, Is.lit, hrun fun w' => by simp [Builtin.len_, run_underlying (hO.un hu), he, goInt]⟩
      · exact h.elim
    · exact h.elim
  · -- min
    rename_i ox oy ts
    replace h := PSt.ev_ok hR h
    obtain ⟨x, h, hx⟩ := h
    replace h := PSt.ev_ok hR h
    obtain ⟨y, h, hy⟩ := h
    have key : ∀ {k k' : IntKind} {m n : Int}, a.eval ox = .int k m → a.eval oy = .int k' n → ∀ w', (execOp a.eval ⟨dst, .call { callee := .builtin .min, args := ⟨[ox, oy]⟩, argTypes := ts }, ty, pos, after, guard⟩).run G.cx.P w' = .ok (.value (.int k (min m n))) w' := fun h1 h2 w' => by
      rename_i m n
      simp [execOp, resolve, invoke, builtin, Builtin.min_, h1, h2, Builtin.min2]
      by_cases hlt : n < m <;> simp [hlt] <;> omega
    unfold pminmax at h
    split at h <;> first | exact h.elim | (simp only [PV.Is] at hx hy)
    · exact ⟨_, _, h, Is.lit, key hx hy⟩
    · exact ⟨_, _, h, Is.int, key hx hy⟩
    · exact ⟨_, _, h, Is.int, key hx hy⟩
    · exact ⟨_, _, h, Is.int, key hx hy⟩
  · -- max
    rename_i ox oy ts
    replace h := PSt.ev_ok hR h
    obtain ⟨x, h, hx⟩ := h
    replace h := PSt.ev_ok hR h
    obtain ⟨y, h, hy⟩ := h
    have key : ∀ {k k' : IntKind} {m n : Int}, a.eval ox = .int k m → a.eval oy = .int k' n → ∀ w', (execOp a.eval ⟨dst, .call { callee := .builtin .max, args := ⟨[ox, oy]⟩, argTypes := ts }, ty, pos, after, guard⟩).run G.cx.P w' = .ok (.value (.int k (max m n))) w' := fun h1 h2 w' => by
      rename_i m n
      simp [execOp, resolve, invoke, builtin, Builtin.max_, h1, h2, Builtin.max2]
      by_cases hlt : m < n <;> simp [hlt] <;> omega
    unfold pminmax at h
    split at h <;> first | exact h.elim | (simp only [PV.Is] at hx hy)
    · exact ⟨_, _, h, Is.lit, key hx hy⟩
    · exact ⟨_, _, h, Is.int, key hx hy⟩
    · exact ⟨_, _, h, Is.int, key hx hy⟩
    · exact ⟨_, _, h, Is.int, key hx hy⟩
  · exact h.elim
end

end Go.Proofs.YtnjmfedleimlmaaDoor.Pw

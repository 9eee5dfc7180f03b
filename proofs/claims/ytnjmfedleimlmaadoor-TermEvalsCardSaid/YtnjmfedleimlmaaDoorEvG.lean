/- Calls, and every operation, are carried out as the evaluator says. -/
import Derived.Test.YtnjmfedleimlmaaDoorEvF
namespace Go.Proofs.YtnjmfedleimlmaaDoor.Ev
open Go Go.RowKit

structure Rel (cx : Cx) (jx : Jx) (ρ : Env) (W : World) (wr : List Nat) (β : Pl) (s : St) (a : Act) (w : World) : Prop where
  tm : Tmps cx ρ β s a
  heap : HeapOk ρ jx W wr β s.heap w
  fr : Fr W wr w
  pc : pcOk ρ s.pc
  j : jx.J w

/-- what a call leaves -/
def CallPost (jx : Jx) (ρ : Env) (W : World) (wr : List Nat) (β : Pl) (r : AV) (heap' : List Blk) (pc' : PC) (e : Ending) (w' : World) : Prop :=
  ∃ v β', e = .returned v ∧ β <+: β' ∧ r.Is ρ β' v ∧ HeapOk ρ jx W wr β' heap' w' ∧ Fr W wr w' ∧ jx.J w' ∧ pcOk ρ pc'
def Enters (P : Program) (f : FuncId) : Prop := ∀ args w, (callFunc f args).run P w = .ok (.enter f args) w
structure SumOk (P : Program) (jx : Jx) (ρ : Env) (m : Sum) : Prop where
  enters : Enters P m.f
  calls : ∀ W wr β heap w pc args vals r heap' pc', m.run pc heap args = some (r, heap', pc') → pcOk ρ pc → HeapOk ρ jx W wr β heap w → Fr W wr w → jx.J w → All2 (AV.Is ρ β) args vals →
    Calls P m.f vals.toArray w (CallPost jx ρ W wr β r heap' pc')
def QX (Q : Exit → Act → World → Prop) : X → Act → World → Prop
  | .nml, a, w => Q .normal a w
  | .exit id, a, w => Q (.exit id) a w
  | .ret, a, w => Q .ret a w
def IhOk (cx : Cx) (jx : Jx) (ρ : Env) (ih : Code → St → Tr (X × St)) : Prop :=
  ∀ W wr β s a w c Q x s', (ih c s).pick ρ = some (x, s') → Rel cx jx ρ W wr β s a w → (∀ β' a' w', β <+: β' → Rel cx jx ρ W wr β' s' a' w' → QX Q x a' w') → Code.wp cx.P c Q a w

section
variable {P : Program} {cx : Cx} {jx : Jx} {ρ : Env} {W : World} {wr : List Nat} {β β' : Pl} {heap : List Blk} {w w' : World}

/-! ### what a function yields -/
theorem run_mapM_list {α γ : Type} {f : α → Sem γ} {R : α → γ → Prop} : ∀ (l : List α), (∀ x ∈ l, ∃ y, (f x).run P w = .ok y w ∧ R x y) → ∃ r, (l.mapM f).run P w = .ok r w ∧ All2 R l r
  | [], _ => ⟨[], rfl, trivial⟩
  | x :: l, h => by
    obtain ⟨y, hy, hR⟩ := h x (by simp)
    obtain ⟨r, hr, hA⟩ := run_mapM_list l fun z hz => h z (by simp [hz])
    exact ⟨y :: r, by simp [List.mapM_cons, hy, hr], hR, hA⟩
theorem trans_allSome {α γ δ : Type} {f : α → Option γ} {S : γ → δ → Prop} : ∀ {l : List α} {r : List δ} {q : List γ}, All2 (fun x y => ∃ z, f x = some z ∧ S z y) l r → allSome (l.map f) = some q → All2 S q r
  | [], [], q, _, h => by simp only [List.map_nil, allSome, Option.some.injEq] at h; subst h; trivial
  | x :: l, y :: r, q, ⟨⟨z, hz, hS⟩, hr⟩, h => by
    simp only [List.map_cons, hz, allSome, Option.map_eq_some_iff] at h
    obtain ⟨q', hq, rfl⟩ := h
    exact ⟨hS, trans_allSome hr hq⟩
  | [], _ :: _, _, h, _ => h.elim
  | _ :: _, [], _, h, _ => h.elim
theorem allSome_mem {α γ : Type} {f : α → Option γ} : ∀ {l : List α} {q : List γ}, allSome (l.map f) = some q → ∀ x ∈ l, ∃ z, f x = some z
  | [], _, _, x, hx => by cases hx
  | y :: l, q, h, x, hx => by
    simp only [List.map_cons] at h
    cases hy : f y with
    | none => rw [hy] at h; simp [allSome] at h
    | some z =>
      rw [hy] at h
      simp only [allSome, Option.map_eq_some_iff] at h
      obtain ⟨q', hq, _⟩ := h
      rcases List.mem_cons.1 hx with rfl | hx
      · exact ⟨z, hy⟩
      · exact allSome_mem hq x hx
theorem resA_ok {s : St} {a : Act} (h : Rel cx jx ρ W wr β s a w) {rv : ResultVar} {x : A1} (hr : resA cx s rv = some x) :
    ∃ v, ((match rv with
      | .tmp t => pure (a.tmps.getD t undef)
      | .cell b t => do loadVar t (← asAddr (a.tmps.getD b undef)) : Sem Value)).run cx.P w = .ok v w ∧ x.Is ρ β v := by
  cases rv with
  | tmp t =>
    simp only [resA, Option.bind_eq_some_iff] at hr
    obtain ⟨y, hy, hx⟩ := hr
    obtain ⟨v, hv, hi⟩ := h.tm.get t y hy
    refine ⟨v, by simp [hv], ?_⟩
    cases y with
    | v q => simp only [asV, Option.some.injEq] at hx; subst hx; exact hi
    | t l => simp [asV] at hx
  | cell b t =>
    simp only [resA, Option.bind_eq_some_iff] at hr
    obtain ⟨y, hy, hx⟩ := hr
    obtain ⟨v, hv, hi⟩ := h.tm.get b y hy
    split at hx
    · rename_i l off
      obtain ⟨r, hri, hrun⟩ := evLoad_ok h.tm.ok h.heap h.pc hi hx
      obtain ⟨p, hp, rfl⟩ := hi
      refine ⟨r, ?_, hri⟩
      simp only [Instr.loadAt, Instr.sureAddr, Sem.run_bind, Sem.run_pure, Result.andThen_ok] at hrun
      simp [hv, asAddr, hrun]
    · cases hx
theorem resultsA_ok {s : St} {a : Act} {fn : Func} (h : Rel cx jx ρ W wr β s a w) {x : AV} (hr : resultsA cx fn.results.toList s = some x) : ∃ v, (results fn a.tmps).run cx.P w = .ok v w ∧ x.Is ρ β v := by
  have key : ∀ q, allSome (fn.results.toList.map (resA cx s)) = some q → x = (match q with | [x] => .v x | l => .t l) → ∃ v, (results fn a.tmps).run cx.P w = .ok v w ∧ x.Is ρ β v := by
    intro q hq hxq
    obtain ⟨r, hrun, hA⟩ := run_mapM_list (P := cx.P) (w := w) (f := fun rv : ResultVar => (match rv with
      | .tmp t => pure (a.tmps.getD t undef)
      | .cell b t => do loadVar t (← asAddr (a.tmps.getD b undef)) : Sem Value)) (R := fun rv v => ∃ z, resA cx s rv = some z ∧ z.Is ρ β v) fn.results.toList (fun rv hrv => by
        obtain ⟨z, hz⟩ := allSome_mem hq rv hrv
        obtain ⟨v, h1, h2⟩ := resA_ok h hz
        exact ⟨v, h1, z, hz, h2⟩)
    have hAq := trans_allSome hA hq
    have hres : (results fn a.tmps).run cx.P w = .ok (if h : r.toArray.size = 1 then r.toArray[0] else .tuple r.toArray) w := by
      unfold results
      rw [Array.mapM_eq_mapM_toList]
      simp only [Sem.run_bind, Sem.run_map]
      erw [hrun]
      rfl
    rw [hres]
    refine ⟨_, rfl, ?_⟩
    match q, r, hAq, hxq with
    | [], [], _, hxq => subst hxq; exact ⟨#[], rfl, trivial⟩
    | [z], [v], hA, hxq => subst hxq; exact hA.1
    | z :: z' :: q, v :: v' :: r, hA, hxq => subst hxq; rw [dif_neg (by simp)]; exact ⟨_, rfl, by simpa using hA⟩
  unfold resultsA at hr
  split at hr
  · rename_i t heq
    obtain ⟨v, hv, hi⟩ := h.tm.get t x hr
    refine ⟨v, ?_, hi⟩
    have hfr : fn.results = #[.tmp t] := by rw [← Array.toList_inj]; simpa using heq
    simp [results, hfr, hv]
  · rw [Option.map_eq_some_iff] at hr
    obtain ⟨q, hq, rfl⟩ := hr
    exact key q hq rfl

/-! ### what is let go -/
theorem AT.below_is {n : Nat} {a : AT} {v : Value} (hb : a.below n = true) (h : a.Is ρ β v) : a.Is ρ (β.take n) v := by
  have g : ∀ {l : Nat} {p : Nat × Nat}, Nat.blt l n = true → β[l]? = some p → (β.take n)[l]? = some p := fun hl hp => by
    have hl' : _ < n := Nat.le_of_ble_eq_true hl
    rw [List.getElem?_take, if_pos hl']; exact hp
  cases a <;> simp only [AT.Is, AT.below] at h hb ⊢
  case int => exact h
  case bool => exact h
  case val => exact h
  case ptr => obtain ⟨p, hp, e⟩ := h; exact ⟨p, g hb hp, e⟩
  case pti => obtain ⟨p, hp, e⟩ := h; exact ⟨p, g hb hp, e⟩
  case slc => obtain ⟨p, hp, e⟩ := h; exact ⟨p, g hb hp, e⟩
  case opq => exact h
theorem mem_imp {α γ : Type} {R S : α → γ → Prop} : ∀ {l : List α} {m : List γ}, (∀ a ∈ l, ∀ b, R a b → S a b) → All2 R l m → All2 S l m
  | [], [], _, _ => trivial
  | a :: l, b :: m, hi, h => ⟨hi a (by simp) b h.1, mem_imp (fun x hx => hi x (by simp [hx])) h.2⟩
  | [], _ :: _, _, h => h.elim
  | _ :: _, [], _, h => h.elim
theorem A1.below_is {n : Nat} {x : A1} {v : Value} (hb : x.below n = true) (h : x.Is ρ β v) : x.Is ρ (β.take n) v := by
  cases x with
  | c a => exact AT.below_is (by simpa [A1.below, A1.cells] using hb) h
  | g l =>
    obtain ⟨cs, e, hc⟩ := h
    exact ⟨cs, e, mem_imp (fun a ha v hv => AT.below_is (List.all_eq_true.1 (show l.all (·.below n) = true from hb) a ha) hv) hc⟩
theorem AV.below_is {n : Nat} {x : AV} {v : Value} (hb : x.below n = true) (h : x.Is ρ β v) : x.Is ρ (β.take n) v := by
  cases x with
  | v x => exact A1.below_is hb h
  | t l =>
    obtain ⟨cs, e, hc⟩ := h
    exact ⟨cs, e, mem_imp (fun a ha v hv => A1.below_is (List.all_eq_true.1 (show l.all (·.below n) = true from hb) a ha) hv) hc⟩
theorem HeapOk.take {n : Nat} (h : HeapOk ρ jx W wr β heap w) (hb : (heap.take n).all (fun b => b.cells.all (·.below n)) = true) : HeapOk ρ jx W wr (β.take n) (heap.take n) w := by
  refine ⟨by simp [h.1], fun l b hl => ?_⟩
  have hmem : b ∈ heap.take n := List.mem_of_getElem? hl
  have hbb := List.all_eq_true.1 hb b hmem
  rw [List.getElem?_take] at hl
  split at hl
  · rename_i hln
    obtain ⟨p, arr, ty, fr, h1, h2, h3, h4⟩ := h.2 l b hl
    refine ⟨p, arr, ty, fr, by rw [List.getElem?_take, if_pos hln]; exact h1, h2, fun j x hx => ?_, fun hrw => ?_⟩
    · obtain ⟨v, hv, hi⟩ := h3 j x hx
      exact ⟨v, hv, AT.below_is (List.all_eq_true.1 hbb x (List.mem_of_getElem? hx)) hi⟩
    · obtain ⟨g1, g2, g3, g4⟩ := h4 hrw
      refine ⟨g1, fun l' q hne hq => ?_, g3, g4⟩
      rw [List.getElem?_take] at hq
      split at hq
      · exact g2 l' q hne hq
      · cases hq
  · cases hl
theorem trim_ok {n : Nat} {x : AV} {v : Value} (hn : n = β.length) (hb : β <+: β') (h : HeapOk ρ jx W wr β' heap w) (hx : x.Is ρ β' v) :
    ∃ β'', β <+: β'' ∧ x.Is ρ β'' v ∧ HeapOk ρ jx W wr β'' (trim n x heap) w := by
  unfold trim
  split
  · rename_i hc
    simp only [Bool.and_eq_true] at hc
    refine ⟨β'.take n, ?_, AV.below_is hc.1 hx, h.take hc.2⟩
    obtain ⟨t, rfl⟩ := hb
    subst hn
    simp
  · exact ⟨β', hb, hx, h⟩

/-! ### calls -/
theorem get_number {args : List AV} : ∀ {k : Nat} {m : TM} {t : Nat}, k + args.length ≤ 16777215 → (number k args m).get t = if k ≤ t ∧ t < k + args.length then args[t - k]? else m.get t := by
  induction args with
  | nil => intro k m t _; rw [if_neg (fun h => by simp at h; omega)]; rfl
  | cons y l ih =>
    intro k m t hk
    simp only [List.length_cons] at hk ⊢
    simp only [number]
    rw [ih (by omega), TM.set_get _ _ _ (by omega)]
    by_cases h1 : k + 1 ≤ t ∧ t < k + 1 + l.length
    · rw [if_pos h1, if_pos (by omega), show t - k = (t - (k + 1)) + 1 by omega, List.getElem?_cons_succ]
    · rw [if_neg h1]
      by_cases h2 : t = k
      · subst h2; rw [if_pos rfl, if_pos (by omega)]; simp
      · rw [if_neg h2, if_neg (by omega)]
theorem find_number {args : List AV} {t : Nat} {x : AV} (hk : args.length ≤ 16777215) (h : find t (number 0 args .nil) = some x) : args[t]? = some x := by
  unfold find at h
  rw [get_number (by omega)] at h
  split at h
  · simpa using h
  · cases h

theorem sumOf_mem : ∀ {l : List Sum} {f : FuncId} {m : Sum}, sumOf f l = some m → m ∈ l ∧ m.f = f
  | [], f, m, h => by simp [sumOf] at h
  | s :: l, f, m, h => by
    simp only [sumOf] at h
    split at h
    · rename_i he; cases h; exact ⟨by simp, Nat.eq_of_beq_eq_true he⟩
    · obtain ⟨h1, h2⟩ := sumOf_mem h; exact ⟨by simp [h1], h2⟩

theorem enters_of {f : FuncId} {fn : Func} {c : Code} (hf : P.funcs[f]? = some fn) (hb : fn.body = some c) (hn : (fn.name == "runtime.NumGoroutine") = false) : Enters P f := fun args w => by
  have hn' : fn.name ≠ "runtime.NumGoroutine" := by simpa using hn
  simp [callFunc, hf, hb, hn']

theorem evCall_ok (hO : CxOk cx) {ih : Code → St → Tr (X × St)} (hih : IhOk cx jx ρ ih) (hs : ∀ m ∈ cx.sums, SumOk cx.P jx ρ m) {s : St} {f : FuncId} {args : List AV} {vals : List Value} {r : AV} {heap' : List Blk} {pc' : PC}
    (hg : ∀ g l, assoc g cx.glob = some l → β[l]? = some (g, 0)) (hh : HeapOk ρ jx W wr β s.heap w) (hf : Fr W wr w) (hp : pcOk ρ s.pc) (hj : jx.J w)
    (ha : All2 (AV.Is ρ β) args vals) (h : (evCall cx ih s f args).pick ρ = some (r, heap', pc')) : Enters cx.P f ∧ Calls cx.P f vals.toArray w (CallPost jx ρ W wr β r heap' pc') := by
  unfold evCall at h
  split at h
  · rename_i m hm
    obtain ⟨y, hy, h⟩ := must_pick h
    cases leaf_eq h
    obtain ⟨hmem, rfl⟩ := sumOf_mem hm
    exact ⟨(hs m hmem).enters, (hs m hmem).calls W wr β _ w _ _ _ _ _ _ hy hp hh hf hj ha⟩
  · split at h
    · rename_i fn hfn
      have hfn := hO.fn _ (lkT_mem hfn)
      split at h
      · rename_i c hc
        split at h
        · rename_i hle
          simp only [Bool.and_eq_true, Bool.not_eq_true'] at hle
          have hle' : args.length ≤ fn.ntmps := Nat.le_of_ble_eq_true hle.1.1
          have hlim : fn.ntmps ≤ 16777215 := Nat.le_of_ble_eq_true hle.1.2
          obtain ⟨⟨x, s'⟩, hx, h⟩ := Tr.pick_bind_some h
          have hal := ha.length
          have hRel : Rel cx jx ρ W wr β { n := fn.ntmps, tmps := number 0 args .nil, heap := s.heap, pc := s.pc } { tmps := vals.toArray ++ Array.replicate (fn.ntmps - vals.toArray.size) undef, defers := [] } w := by
            refine ⟨⟨hO, hlim, rfl, by simp; omega, fun t y hy => ?_, hg⟩, hh, hf, hp, hj⟩
            have h2 := find_number (by omega) hy
            obtain ⟨v, hv, hi⟩ := ha.get h2
            have ht : t < vals.length := (List.getElem?_eq_some_iff.1 hv).1
            exact ⟨v, by rw [Array.getElem?_append_left (by simpa using ht)]; simpa using hv, hi⟩
          have fin : ∀ v, resultsA cx fn.results.toList s' = some v → (v, trim s.heap.length v s'.heap, s'.pc) = (r, heap', pc') → ∀ β' a' w', β <+: β' → Rel cx jx ρ W wr β' s' a' w' →
              a'.defers = [] ∧ ∃ v, (results fn a'.tmps).run cx.P w' = .ok v w' ∧ CallPost jx ρ W wr β r heap' pc' (.returned v) w' := by
            intro v hv he β' a' w' hb hR
            cases he
            obtain ⟨u, hu, hui⟩ := resultsA_ok hR hv
            obtain ⟨β'', h1, h2, h3⟩ := trim_ok (hh.1).symm hb hR.heap hui
            exact ⟨hR.tm.defers, u, hu, u, β'', rfl, h1, h2, h3, hR.fr, hR.j, hR.pc⟩
          refine ⟨enters_of hfn hc hle.2, calls_of_wp hfn hc (hih W wr β _ _ w c _ x s' hx hRel fun β' a' w' hb hR => ?_)⟩
          cases x with
          | nml =>
            obtain ⟨v, hv, h⟩ := must_pick h
            exact fin v hv (leaf_eq h) β' a' w' hb hR
          | ret =>
            obtain ⟨v, hv, h⟩ := must_pick h
            exact fin v hv (leaf_eq h) β' a' w' hb hR
          | exit id => simp [Tr.pick] at h
        · simp [Tr.pick] at h
      · simp [Tr.pick] at h
    · simp [Tr.pick] at h

/-! ### an operation -/
theorem asArgs_ok {s : St} {a : Act} (hT : Tmps cx ρ β s a) {l : List Operand} {q : List AV} (h : asArgs cx s l = some q) : All2 (AV.Is ρ β) q (l.map a.eval) :=
  All2.allSome (fun _ _ hc => hT.ev hc) l h
theorem fill_len {place : Nat → Option (Nat × Nat)} : ∀ {vs : List (Nat × Value)} {A B : Array Value}, Instr.fill place A vs = some B → True
  | _, _, _, _ => trivial
theorem replicate_all2 {z : List AT} {v : Array Value} (h : All2 (AT.Is ρ β) z v.toList) : ∀ n, All2 (AT.Is ρ β) ((List.replicate n z).flatten) ((List.replicate n v.toList).flatten)
  | 0 => trivial
  | n + 1 => by simp only [List.replicate_succ, List.flatten_cons]; exact h.append (replicate_all2 h n)
theorem zeros_eq {v : Array Value} (n : Nat) (hv : 0 < v.size) : ((Array.range (n * v.size)).map fun i => v[i % v.size]!).toList = (List.replicate n v.toList).flatten := by
  apply List.ext_getElem?
  intro i
  simp only [Array.toList_map, Array.toList_range, List.getElem?_map]
  by_cases hi : i < n * v.size
  · rw [List.getElem?_range hi]
    have hm : i % v.size < v.size := Nat.mod_lt _ hv
    have key : ∀ n i, i < n * v.size → (List.replicate n v.toList).flatten[i]? = v.toList[i % v.size]? := by
      intro n
      induction n with
      | zero => intro i hi; simp at hi
      | succ n ih =>
        intro i hi
        simp only [List.replicate_succ, List.flatten_cons]
        by_cases h : i < v.size
        · rw [List.getElem?_append_left (by simpa using h), Nat.mod_eq_of_lt h]
        · rw [List.getElem?_append_right (by simp; omega), ih _ (by simp; rw [Nat.succ_mul] at hi; omega)]
          simp only [Array.length_toList]
          rw [← Nat.mod_eq_sub_mod (by omega)]
    rw [key n i hi]
    simp [hm]
  · have h1 : (List.replicate n v.toList).flatten.length = n * v.size := by simp
    rw [List.getElem?_eq_none (by simp; omega), List.getElem?_eq_none (by omega)]
    rfl

/-- an operation's result, where it yields a value and does not fall -/
def resE (P : Program) (K : Value → World → Prop) : Result Next → Prop
  | .ok (.value u) w' => K u w'
  | .ok .skip w' => K undef w'
  | .ok (.enter f args) w' => Calls P f args w' (fun e w'' => ∃ u, e = .returned u ∧ K u w'')
  | _ => False
theorem resE_mono {K K' : Value → World → Prop} (hK : ∀ v w, K v w → K' v w) {r : Result Next} (h : resE P K r) : resE P K' r := by
  cases r with
  | ok n w =>
    cases n <;> simp only [resE] at h ⊢
    case enter f args => exact h.mono fun e w' ⟨u, he, hu⟩ => ⟨u, he, hK _ _ hu⟩
    all_goals exact hK _ _ h
  | halt x w => exact h.elim
theorem resE_wp {o : Oper} {a : Act} {K : Value → World → Prop} {K' : Act → World → Prop} {Q : Exit → Act → World → Prop} (h : resE P K ((execOp a.eval o).run P w)) (hK : ∀ v w', K v w' → K' (a.put o.dst v) w') : o.wp P a w K' Q := by
  unfold Oper.wp
  generalize (execOp a.eval o).run P w = r at *
  cases r with
  | ok n w =>
    cases n <;> simp only [resE] at h
    case value u => exact hK _ _ h
    case skip => exact hK _ _ h
    case enter f args => exact h.mono fun e w' ⟨u, he, hu⟩ => by subst he; exact hK _ _ hu
  | halt x w => exact h.elim

/-- the operation's own post: what the temporary will be, and the world -/
def OpPost (cx : Cx) (jx : Jx) (ρ : Env) (W : World) (wr : List Nat) (β : Pl) (s' : St) (a : Act) (x : AV) (v : Value) (w' : World) : Prop :=
  ∃ β', β <+: β' ∧ Rel cx jx ρ W wr β' s' a w' ∧ x.Is ρ β' v
theorem evOp_ok {ih : Code → St → Tr (X × St)} (hih : IhOk cx jx ρ ih) (hs : ∀ m ∈ cx.sums, SumOk cx.P jx ρ m) {s s' : St} {a : Act} {o : Oper} {x : AV}
    (hR : Rel cx jx ρ W wr β s a w) (h : (evOp cx ih s o).pick ρ = some (x, s')) : resE cx.P (OpPost cx jx ρ W wr β s' a x) ((execOp a.eval o).run cx.P w) := by
  have pureCase : (∀ z pc', (evPure cx s o).pick ρ = some (z, pc') → (z, { s with pc := pc' }) = (x, s') → resE cx.P (OpPost cx jx ρ W wr β s' a x) ((execOp a.eval o).run cx.P w)) := by
    intro z pc' hz he
    cases he
    obtain ⟨h1, r, h2, h3⟩ := evPure_ok hR.tm hR.pc hz
    rw [h3 w]
    exact ⟨β, List.prefix_refl _, ⟨hR.tm.of rfl rfl, hR.heap, hR.fr, h1, hR.j⟩, h2⟩
  have newCase : ∀ {cs : List AT} {vs : Array Value} {ty ty' : TypeId} {y : AV} {v : Value}, All2 (AT.Is ρ β) cs vs.toList → (y, { s with heap := s.heap ++ [⟨ty', cs, true⟩] }) = (x, s') → y.Is ρ (β ++ [(w.heap.size, 0)]) v →
      (execOp a.eval o).run cx.P w = .ok (.value v) (w.alloc (.cells vs ty)) → resE cx.P (OpPost cx jx ρ W wr β s' a x) ((execOp a.eval o).run cx.P w) := by
    intro cs vs ty ty' y v hc he hy hrun
    cases he
    rw [hrun]
    have hpre : β <+: β ++ [(w.heap.size, 0)] := List.prefix_append _ _
    have hb : Below w.heap.size w (w.alloc (.cells vs ty)) := (Below.refl _ w).alloc (Nat.le_refl _) _
    exact ⟨_, hpre, ⟨(hR.tm.mono hpre).of rfl rfl, hR.heap.alloc hR.fr hR.j hc, hR.fr.below hb, hR.pc, Jx.below hR.j hb⟩, hy⟩
  have hnew : (β ++ [(w.heap.size, 0)])[s.heap.length]? = some (w.heap.size, 0) := by rw [← hR.heap.1]; simp
  unfold evOp at h
  split at h
  · -- load
    rename_i t ad hop
    obtain ⟨v, hv, h⟩ := must_pick h
    rw [Option.bind_eq_some_iff] at hv
    obtain ⟨y, hy, hv⟩ := hv
    cases leaf_eq h
    obtain ⟨r, hr, hrun⟩ := evLoad_ok hR.tm.ok hR.heap hR.pc (hR.tm.ev hy) hv
    unfold execOp
    rw [hop]
    simp only [Sem.run_bind, hrun, Result.andThen_ok, Sem.run_pure]
    exact ⟨β, List.prefix_refl _, hR, hr⟩
  · -- store
    rename_i t ad y hop
    split at h
    · rename_i u v hu hv
      obtain ⟨h', hst, h⟩ := must_pick h
      cases leaf_eq h
      obtain ⟨w', h1, h2, h3, hrun⟩ := evStore_ok hR.tm.ok hR.heap hR.fr hR.j hR.pc (hR.tm.ev hu) (hR.tm.ev hv) hst
      unfold execOp
      rw [hop]
      simp only [Sem.run_bind, hrun, Result.andThen_ok, Sem.run_pure]
      exact ⟨β, List.prefix_refl _, ⟨hR.tm.of rfl rfl, h1, h2, hR.pc, h3⟩, #[], rfl, trivial⟩
    · simp [Tr.pick] at h
  · -- alloc
    rename_i t hop
    obtain ⟨z, hz, h⟩ := must_pick h
    obtain ⟨i, v, hi, hzv, hzz⟩ := zeroA_ok (ρ := ρ) (β := β) hR.tm.ok hz
    refine newCase hzz (leaf_eq h) ⟨_, hnew, rfl⟩ (ty := t) ?_
    unfold execOp
    rw [hop]
    simp [Instr.alloc, zeroValue, typeInfo, hi, hzv, newVar, newRow]
  · -- box
    rename_i t y hop
    obtain ⟨z, hz, h⟩ := must_pick h
    rw [Option.bind_eq_some_iff] at hz
    obtain ⟨u, hu, hz⟩ := hz
    have hzi : z.Is ρ β (a.eval y) := by
      have := hR.tm.ev hu
      cases u with
      | v q => simp only [asV, Option.some.injEq] at hz; subst hz; exact this
      | t l => simp [asV] at hz
    refine newCase hzi.cells (leaf_eq h) ⟨_, hnew, rfl⟩ (ty := t) ?_
    unfold execOp
    rw [hop]
    simp [Instr.box, newVar, newRow]
  · -- buildSlice
    rename_i t len ps hop
    split at h
    · rename_i elem hu
      obtain ⟨size, hsz, h⟩ := must_pick h
      obtain ⟨z, hz, h⟩ := must_pick h
      obtain ⟨l, hl, h⟩ := must_pick h
      split at h
      · rename_i hc
        simp only [Bool.and_eq_true] at hc
        have hzl : z.length = size := Nat.eq_of_beq_eq_true hc.1
        have hlim : len * size ≤ 16777216 := Nat.le_of_ble_eq_true hc.2
        obtain ⟨cs, hfill, h⟩ := must_pick h
        obtain ⟨i, v, hi, hzv, hzz⟩ := zeroA_ok (ρ := ρ) (β := β) hR.tm.ok hz
        have hzs := hzz.length
        simp only [Array.length_toList] at hzs
        have hzeros : All2 (AT.Is ρ β) ((List.replicate len z).flatten) ((Array.range (len * size)).map fun i => v.cells[i % v.cells.size]!).toList := by
          by_cases h0 : 0 < v.cells.size
          · rw [show size = v.cells.size by omega, zeros_eq len h0]; exact replicate_all2 hzz len
          · have : size = 0 := by omega
            have hz0 : z = [] := List.eq_nil_of_length_eq_zero (by omega)
            subst this; subst hz0
            simp [All2]
        obtain ⟨B, hB, hBB⟩ := fillA_ok (fillB_ok hfill) hzeros (partsOf_ok hR.tm hl)
        refine newCase hBB (leaf_eq h) ⟨_, hnew, rfl⟩ (ty := elem) ?_
        unfold execOp
        rw [hop]
        have hB' : Instr.fill (fun i => some (i * size, size)) ((Array.range (len * size)).map fun i => v.cells[i % v.cells.size]!) (ps.map fun (i, y) => (i, a.eval y)).toList = some B := by
          rw [← hB]; simp
        have hlim' : ¬ (len * size > 2 ^ 24) := by omega
        by_cases h0 : len * size = 0
        · have hE : ∀ g : Nat → Value, (Array.range (len * size)).map g = #[] := fun g => by rw [h0]; simp
          rw [hE] at hB'
          simp only [Instr.buildSlice, Sem.run_bind, run_underlying (hR.tm.ok.un hu), Result.andThen_ok, size_run hR.tm.ok hsz, if_neg hlim', if_pos h0, Sem.run_pure, hE, hB']
          simp [newRow]
        · have hzr : (zeroValue elem).run cx.P w = .ok v w := by simp [zeroValue, typeInfo, hi, hzv]
          simp only [Instr.buildSlice, Sem.run_bind, run_underlying (hR.tm.ok.un hu), Result.andThen_ok, size_run hR.tm.ok hsz, if_neg hlim', if_neg h0, Sem.run_pure, hzr, hB']
          simp [newRow]
      · simp [Tr.pick] at h
    · simp [Tr.pick] at h
  · -- call
    rename_i y args argTypes hop
    obtain ⟨f, hf, h⟩ := must_pick h
    obtain ⟨l, hl, h⟩ := must_pick h
    obtain ⟨⟨r, heap', pc'⟩, hr, h⟩ := Tr.pick_bind_some h
    cases leaf_eq h
    have hfv : a.eval y = .func (.func f) #[] #[] := by
      unfold calleeOf at hf
      dsimp only at hf
      split at hf
      · rename_i g first captured hy
        split at hf
        · rename_i hc
          simp only [Bool.and_eq_true, Array.isEmpty_iff] at hc
          cases hf
          obtain ⟨he, _⟩ := hR.tm.ev hy
          rw [he, hc.1, hc.2]
        · cases hf
      · cases hf
    obtain ⟨hent, hcall⟩ := evCall_ok hR.tm.ok hih hs hR.tm.glob hR.heap hR.fr hR.pc hR.j (asArgs_ok hR.tm hl) hr
    have hrun : (execOp a.eval o).run cx.P w = .ok (.enter f (args.toList.map a.eval).toArray) w := by
      unfold execOp
      rw [hop]
      have e1 : args.map a.eval = (args.toList.map a.eval).toArray := by rw [← Array.toList_map, Array.toArray_toList]
      rw [← e1]
      simp only [resolve, hfv, Deferred.ofValue, Sem.run_bind, Sem.run_pure, Result.andThen_ok, invoke]
      simp only [Array.empty_append, Array.append_empty]
      exact hent _ w
    rw [hrun]
    refine hcall.mono fun e w' hpost => ?_
    obtain ⟨v, β', rfl, hb, hvi, hhp, hfr, hj, hpc⟩ := hpost
    exact ⟨v, rfl, β', hb, ⟨(hR.tm.mono hb).of rfl rfl, hhp, hfr, hpc, hj⟩, hvi⟩
  · obtain ⟨⟨z, pc'⟩, hz, h⟩ := Tr.pick_bind_some h
    exact pureCase z pc' hz (leaf_eq h)

end
end Go.Proofs.YtnjmfedleimlmaaDoor.Ev

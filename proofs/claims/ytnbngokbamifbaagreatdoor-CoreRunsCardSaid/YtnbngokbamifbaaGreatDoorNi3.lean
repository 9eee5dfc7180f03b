/- What the laws of this claim are proved with, joined (join.py) of 2 texts: no condition. -/
import Derived.Test.YtnbngokbamifbaaGreatDoorNi2
import Derived.Laws.Tables
import Derived.Laws.Strings
import Derived.Laws.Cells
import Derived.Laws.CopyRow
import Derived.Laws.Small
import Derived.WalkSpells
set_option linter.unusedVariables false
set_option linter.unusedSimpArgs false

/- Operations that look at no memory are carried out as the evaluator says: bools, parts, indices, structs, slices. -/
namespace Go.Proofs.YtnbngokbamifbaaGreatDoor.Ev
open Go

section
variable {P : Program} {cx : Cx} {ρ : Env} {β : Pl} {pc : PC}

theorem run_eql {t : TypeId} {x y : Value} {b : Bool} {w : World} (hn : binOp .eql t x y = (do pure (.bool (← Op.equal t x y)))) (h : (Op.equal t x y).run P w = .ok b w) : (binOp .eql t x y).run P w = .ok (.bool b) w := by
  rw [hn]; simp [h]
theorem run_neq {t : TypeId} {x y : Value} {b : Bool} {w : World} (hn : binOp .neq t x y = (do pure (.bool (!(← Op.equal t x y))))) (h : (Op.equal t x y).run P w = .ok b w) : (binOp .neq t x y).run P w = .ok (.bool !b) w := by
  rw [hn]; simp [h]

theorem evEqB_ok (hO : CxOk cx) (hp : pcOk ρ pc) {op : BinOp} {t : TypeId} {x y : AV} {u v : Value} (hx : x.Is ρ β u) (hy : y.Is ρ β v) {z : AV} {pc' : PC}
    (h : (evEqB cx pc op t x y).pick ρ = some (z, pc')) : pcOk ρ pc' ∧ ∃ r, z.Is ρ β r ∧ (∀ f g : Operand, eqGuard op t f g u v = pure ()) ∧ ∀ w, (binOp op t u v).run cx.P w = .ok r w := by
  unfold evEqB at h
  split at h
  · rename_i a b hu
    simp only [AV.Is, A1.Is, AT.Is] at hx hy
    subst hx; subst hy
    have hg : ∀ f g : Operand, eqGuard op t f g (.bool (tb (a.den ρ))) (.bool (tb (b.den ρ))) = pure () := fun f g => eqGuard_at_bool _ _ _ _ _ _
    split at h
    · rename_i r q hr hq
      have h1 := rng_sound hp hr
      have h2 := rng_sound hp hq
      split at h
      · rename_i hc
        simp only [Bool.and_eq_true, decide_eq_true_eq] at hc
        have he : (tb (a.den ρ) == tb (b.den ρ)) = decide (a.den ρ = b.den ρ) := by
          have ha : a.den ρ = 0 ∨ a.den ρ = 1 := by omega
          have hb : b.den ρ = 0 ∨ b.den ρ = 1 := by omega
          rcases ha with ha | ha <;> rcases hb with hb | hb <;> rw [ha, hb] <;> rfl
        split at h
        · simp only [Tr.pick, Option.some.injEq, Prod.mk.injEq] at h
          obtain ⟨rfl, rfl⟩ := h
          refine ⟨hp, _, rfl, hg, fun w => ?_⟩
          rw [run_eql rfl (run_equal_bool w t _ _ (hO.un hu)), he, mkEq_den hp, tb_truth]
        · simp only [Tr.pick, Option.some.injEq, Prod.mk.injEq] at h
          obtain ⟨rfl, rfl⟩ := h
          refine ⟨hp, _, rfl, hg, fun w => ?_⟩
          rw [run_neq rfl (run_equal_bool w t _ _ (hO.un hu)), he, mkNot_den hp, mkEq_den hp, tb_truth]
          congr 2
          by_cases hh : a.den ρ = b.den ρ <;> simp [hh, truth]
        · simp [Tr.pick] at h
      · simp [Tr.pick] at h
    · simp [Tr.pick] at h
  · rename_i e l off n c n' c' hu
    obtain ⟨p, hpl, rfl⟩ := hx
    obtain ⟨rfl, _⟩ := hy
    have hg : ∀ f g : Operand, eqGuard op t f g (.slice (some ⟨p.1, p.2 + off, none⟩) n c) (.slice none n' c') = pure () := fun f g => eqGuard_at_slice _ _ _ _ _ _ _ _
    split at h
    · simp only [Tr.pick, Option.some.injEq, Prod.mk.injEq] at h
      obtain ⟨rfl, rfl⟩ := h
      exact ⟨hp, _, rfl, hg, fun w => Lib.run_eql_slice_nil w t e _ _ _ _ _ (hO.un hu)⟩
    · simp only [Tr.pick, Option.some.injEq, Prod.mk.injEq] at h
      obtain ⟨rfl, rfl⟩ := h
      exact ⟨hp, _, rfl, hg, fun w => run_neq_slice_nil_any w t e _ _ _ _ _ (hO.un hu)⟩
    · simp [Tr.pick] at h
  · rename_i e n c b n' c' hu
    obtain ⟨rfl, _⟩ := hx
    obtain ⟨rfl, _⟩ := hy
    have hg : ∀ f g : Operand, eqGuard op t f g (.slice none n c) (.slice b n' c') = pure () := fun f g => eqGuard_at_slice _ _ _ _ _ _ _ _
    split at h
    · simp only [Tr.pick, Option.some.injEq, Prod.mk.injEq] at h
      obtain ⟨rfl, rfl⟩ := h
      refine ⟨hp, _, rfl, hg, fun w => ?_⟩
      simp only [E.den, tb_truth]
      exact run_eql_nil_slice w t e _ _ _ _ _ (hO.un hu)
    · simp only [Tr.pick, Option.some.injEq, Prod.mk.injEq] at h
      obtain ⟨rfl, rfl⟩ := h
      refine ⟨hp, _, rfl, hg, fun w => ?_⟩
      simp only [E.den, tb_truth]
      exact run_neq_nil_slice w t e _ _ _ _ _ (hO.un hu)
    · simp [Tr.pick] at h
  · simp [Tr.pick] at h

theorem evUn_ok (hp : pcOk ρ pc) {op : UnOp} {x : AV} {u : Value} (hx : x.Is ρ β u) {z : AV} {pc' : PC}
    (h : (evUn pc op x).pick ρ = some (z, pc')) : pcOk ρ pc' ∧ ∃ r, z.Is ρ β r ∧ ∀ w, (Op.unary op u).run P w = .ok r w := by
  unfold evUn at h
  split at h
  · simp only [AV.Is, A1.Is, AT.Is] at hx
    subst hx
    simp only [Tr.pick, Option.some.injEq, Prod.mk.injEq] at h
    obtain ⟨rfl, rfl⟩ := h
    exact ⟨hp, _, rfl, fun w => by rw [mkWrap_den hp, fin_den hp]; rfl⟩
  · simp only [AV.Is, A1.Is, AT.Is] at hx
    subst hx
    simp only [Tr.pick, Option.some.injEq, Prod.mk.injEq] at h
    obtain ⟨rfl, rfl⟩ := h
    exact ⟨hp, _, rfl, fun w => by rw [mkBit_den hp]; rfl⟩
  · rename_i a
    simp only [AV.Is, A1.Is, AT.Is] at hx
    subst hx
    simp only [Tr.pick, Option.some.injEq, Prod.mk.injEq] at h
    obtain ⟨rfl, rfl⟩ := h
    refine ⟨hp, _, rfl, fun w => ?_⟩
    rw [mkNot_den hp, tb_truth]
    simp only [Op.unary]
    show Result.ok (Value.bool (!tb (a.den ρ))) w = _
    congr 2
    by_cases hh : a.den ρ = 0 <;> simp [tb, hh]
  · simp [Tr.pick] at h

/-! ### one of some cells -/
/-- cells that stand for what g holds, as far as they go -/
def CellsOk (ρ : Env) (β : Pl) (l : List AT) (g : Nat → Option Value) : Prop := ∀ j x, l[j]? = some x → ∃ v, g j = some v ∧ x.Is ρ β v
theorem CellsOk.of_all2 {l : List AT} {vs : List Value} (h : All2 (AT.Is ρ β) l vs) : CellsOk ρ β l (vs[·]?) := fun _ _ hx => h.get hx
theorem CellsOk.tail {a : AT} {l : List AT} {g : Nat → Option Value} (h : CellsOk ρ β (a :: l) g) : CellsOk ρ β l fun j => g (j + 1) := fun j x hx => h (j + 1) x (by simpa using hx)
theorem CellsOk.drop {l : List AT} {g : Nat → Option Value} (n : Nat) (h : CellsOk ρ β l g) : CellsOk ρ β (l.drop n) fun j => g (n + j) := fun j x hx => h (n + j) x (by simpa [List.getElem?_drop] using hx)
theorem every_get (size : Nat) : ∀ (m : Nat) (l : List AT) (j : Nat) (x : AT), (every size m l)[j]? = some x → l[j * size]? = some x
  | 0, _, j, x, h => by simp [every] at h
  | m + 1, [], j, x, h => by simp [every] at h
  | m + 1, a :: l, 0, x, h => by simpa [every] using h
  | m + 1, a :: l, j + 1, x, h => by
    simp only [every, List.getElem?_cons_succ] at h
    have := every_get size m _ j x h
    rw [List.getElem?_drop] at this
    rw [← this]; congr 1; rw [Nat.succ_mul]; omega
theorem every_len (size : Nat) : ∀ (m : Nat) (l : List AT), (∀ j, j < m → j * size < l.length) → (every size m l).length = m
  | 0, _, _ => rfl
  | m + 1, [], h => by have := h 0 (by omega); simp at this
  | m + 1, a :: l, h => by
    simp only [every, List.length_cons]
    rw [every_len size m _ fun j hj => ?_]
    have := h (j + 1) (by omega)
    rw [Nat.succ_mul] at this
    simp only [List.length_drop]
    omega
theorem CellsOk.every {l : List AT} {g : Nat → Option Value} (size m : Nat) (h : CellsOk ρ β l g) : CellsOk ρ β (every size m l) fun j => g (j * size) := fun j x hx => h _ x (every_get size m l j x hx)

theorem intsOf_get {k : IntKind} : ∀ {l : List AT} {es : List E} {g : Nat → Option Value}, intsOf k l = some es → CellsOk ρ β l g → ∀ n, n < l.length → g n = some (.int k (((mkL es).denL ρ).getD n 0))
  | [], _, _, _, _, n, hn => by simp at hn
  | .int l e :: r, es, g, h, hc, n, hn => by
    simp only [intsOf] at h
    split at h
    · rename_i hk
      simp only [decide_eq_true_eq] at hk
      subst hk
      rw [Option.map_eq_some_iff] at h
      obtain ⟨es', h', rfl⟩ := h
      cases n with
      | zero =>
        obtain ⟨v, hv, hi⟩ := hc 0 _ rfl
        simp only [AT.Is] at hi
        subst hi
        simpa [mkL, E.denL] using hv
      | succ n =>
        have := intsOf_get h' hc.tail n (by simpa using hn)
        simpa [mkL, E.denL] using this
    · cases h
  | .bool _ :: _, _, _, h, _, _, _ => by simp [intsOf] at h
  | .val _ :: _, _, _, h, _, _, _ => by simp [intsOf] at h
  | .ptr _ _ :: _, _, _, h, _, _, _ => by simp [intsOf] at h
  | .pti _ _ _ _ :: _, _, _, h, _, _, _ => by simp [intsOf] at h
  | .slc _ _ _ _ :: _, _, _, h, _, _, _ => by simp [intsOf] at h
  | .opq _ :: _, _, _, h, _, _, _ => by simp [intsOf] at h
theorem boolsOf_get : ∀ {l : List AT} {es : List E} {g : Nat → Option Value}, boolsOf l = some es → CellsOk ρ β l g → ∀ n, n < l.length → g n = some (.bool (tb (((mkL es).denL ρ).getD n 0)))
  | [], _, _, _, _, n, hn => by simp at hn
  | .bool e :: r, es, g, h, hc, n, hn => by
    simp only [boolsOf] at h
    rw [Option.map_eq_some_iff] at h
    obtain ⟨es', h', rfl⟩ := h
    cases n with
    | zero =>
      obtain ⟨v, hv, hi⟩ := hc 0 _ rfl
      simp only [AT.Is] at hi
      subst hi
      simpa [mkL, E.denL] using hv
    | succ n =>
      have := boolsOf_get h' hc.tail n (by simpa using hn)
      simpa [mkL, E.denL] using this
  | .int _ _ :: _, _, _, h, _, _, _ => by simp [boolsOf] at h
  | .val _ :: _, _, _, h, _, _, _ => by simp [boolsOf] at h
  | .ptr _ _ :: _, _, _, h, _, _, _ => by simp [boolsOf] at h
  | .pti _ _ _ _ :: _, _, _, h, _, _, _ => by simp [boolsOf] at h
  | .slc _ _ _ _ :: _, _, _, h, _, _, _ => by simp [boolsOf] at h
  | .opq _ :: _, _, _, h, _, _, _ => by simp [boolsOf] at h
theorem mkL_denL : ∀ {es : List E}, (mkL es).denL ρ = es.map (E.den ρ)
  | [] => rfl
  | a :: l => by simp [mkL, E.denL, mkL_denL (es := l)]
theorem same_den (hp : pcOk ρ pc) {i a : E} {es : List E} (h : same pc i es = some a) : a.den ρ = ((mkL es).denL ρ).getD (i.den ρ).toNat 0 := by
  unfold same at h
  split at h
  · rename_i r hr
    split at h
    · rename_i hd
      split at h
      · rename_i b l hdrop
        split at h
        · rename_i hall
          cases h
          have hr := rng_sound hp hr
          simp only [Bool.and_eq_true, decide_eq_true_eq] at hd
          have hlen : es.length - r.1.toNat = l.length + 1 := by rw [← List.length_drop, hdrop]; rfl
          have hk : es[(i.den ρ).toNat]? = (a :: l)[(i.den ρ).toNat - r.1.toNat]? := by
            rw [← hdrop, List.getElem?_drop]; congr 1; omega
          rw [mkL_denL, List.getD_eq_getElem?_getD, List.getElem?_map, hk]
          cases hm : (i.den ρ).toNat - r.1.toNat with
          | zero => simp
          | succ m =>
            have hml : m < l.length := by omega
            have hx : (l.take (r.2.toNat - r.1.toNat))[m]? = some l[m] := by rw [List.getElem?_take, if_pos (by omega), List.getElem?_eq_getElem hml]
            have hb := List.all_eq_true.1 hall _ (List.mem_of_getElem? hx)
            rw [List.getElem?_cons_succ, List.getElem?_eq_getElem hml, ← E.beq_eq hb]; simp
        · cases h
      · cases h
    · cases h
  · cases h
theorem mkSel_den (hp : pcOk ρ pc) {i : E} {es : List E} : (mkSel pc i es).den ρ = ((mkL es).denL ρ).getD (i.den ρ).toNat 0 := by
  unfold mkSel
  split
  · rename_i a h; exact same_den hp h
  · rw [fin_den hp]; rfl
theorem selA_is (hp : pcOk ρ pc) {i : E} {l : List AT} {a : AT} {g : Nat → Option Value} (h : selA pc i l = some a) (hc : CellsOk ρ β l g) (hi : (i.den ρ).toNat < l.length) :
    ∃ v, g (i.den ρ).toNat = some v ∧ a.Is ρ β v := by
  unfold selA at h
  split at h
  · rw [Option.map_eq_some_iff] at h
    obtain ⟨es, he, rfl⟩ := h
    exact ⟨_, intsOf_get he hc _ hi, by simp only [AT.Is, mkSel_den hp]⟩
  · rw [Option.map_eq_some_iff] at h
    obtain ⟨es, he, rfl⟩ := h
    exact ⟨_, boolsOf_get he hc _ hi, by simp only [AT.Is, mkSel_den hp]⟩
  · cases h

/-! ### types -/
theorem isAgg_run (hO : CxOk cx) {t : TypeId} {b : Bool} (h : isAggT cx t = some b) (w : World) : (isAgg t).run cx.P w = .ok b w := by
  unfold isAggT at h
  split at h
  · rename_i f hu; cases h; simp [isAgg, run_underlying (hO.un hu)]
  · rename_i n e hu; cases h; simp [isAgg, run_underlying (hO.un hu)]
  · rename_i d h1 h2 hu
    cases h
    simp only [isAgg, Sem.run_bind, run_underlying (hO.un hu), Result.andThen_ok]
    cases d <;> first | rfl | (exact absurd hu (h1 _)) | (exact absurd hu (h2 _ _))
  · cases h
theorem size_inf (hO : CxOk cx) {t : TypeId} {n : Nat} (h : sizeT cx t = some n) : ∃ i, cx.P.info? t = some i ∧ i.size = n := by
  unfold sizeT at h
  rw [Option.map_eq_some_iff] at h
  obtain ⟨ti, hti, rfl⟩ := h
  obtain ⟨i, hi, h1, _⟩ := hO.inf _ (lkT_mem hti)
  exact ⟨i, hi, h1⟩
theorem size_run (hO : CxOk cx) {t : TypeId} {n : Nat} (h : sizeT cx t = some n) (w : World) : (sizeOf t).run cx.P w = .ok n w := by
  obtain ⟨i, hi, rfl⟩ := size_inf hO h
  simp [sizeOf, typeInfo, hi]

theorem part1_ok (hO : CxOk cx) {t : TypeId} {cs : List AT} {off : Nat} {x : A1} {vs : Array Value} (h : part1 cx t cs off = some x) (hc : All2 (AT.Is ρ β) cs vs.toList) :
    ∃ v, x.Is ρ β v ∧ ∀ w, (part t vs off).run cx.P w = .ok v w := by
  unfold part1 at h
  split at h
  · rename_i n ha hn
    split at h
    · cases h
      refine ⟨.agg (vs.extract off (off + n)), ⟨_, rfl, ?_⟩, fun w => by simp [part, isAgg_run hO ha, size_run hO hn]⟩
      have := (hc.drop off).take n
      simpa [Array.toList_extract, List.extract_eq_take_drop] using this
    · cases h
  · rename_i m ha
    rw [Option.map_eq_some_iff] at h
    obtain ⟨a, hget, rfl⟩ := h
    obtain ⟨v, hv, hi⟩ := hc.get hget
    have hv' : vs[off]? = some v := by simpa using hv
    exact ⟨v, hi, fun w => by simp [part, isAgg_run hO ha, hv']⟩
  · cases h

theorem bit01_ok (hp : pcOk ρ pc) {e : E} (h : bit01 pc e = true) : e.den ρ = 0 ∨ e.den ρ = 1 := by
  unfold bit01 at h
  split at h
  · rename_i r hr
    have := rng_sound hp hr
    simp only [Bool.and_eq_true, decide_eq_true_eq] at h
    omega
  · cases h
theorem truth_tb {b : Bool} {n : Int} (h : n = truth b) : tb n = b := by rw [h, tb_truth]
theorem eqFs_ok (hO : CxOk cx) (hp : pcOk ρ pc) {r : TypeId → A1 → A1 → Option E} {d : Nat} {xs ys : List AT} {us vs : Array Value} (hx : All2 (AT.Is ρ β) xs us.toList) (hy : All2 (AT.Is ρ β) ys vs.toList)
    (hr : ∀ t a b e u v, r t a b = some e → a.Is ρ β u → b.Is ρ β v → ∃ q, e.den ρ = truth q ∧ ∀ w, (Op.equalIn d t u v).run cx.P w = .ok q w) :
    ∀ {fs : List Field} {e : E}, (fs.all fun f => decide (f.name ≠ "_")) = true → eqFs r cx pc xs ys fs = some e → ∃ q, e.den ρ = truth q ∧ ∀ w, (Op.eqFields d us vs fs).run cx.P w = .ok q w
  | [], e, _, h => by
    simp only [eqFs, Option.some.injEq] at h
    subst h
    exact ⟨true, rfl, fun w => rfl⟩
  | f :: fs, e, hn, h => by
    rw [List.all_cons, Bool.and_eq_true] at hn
    unfold eqFs at h
    split at h
    · rename_i a b ha hb
      split at h
      · rename_i e1 e2 h1 h2
        cases h
        obtain ⟨u, hu, ru⟩ := part1_ok hO ha hx
        obtain ⟨v, hv, rv⟩ := part1_ok hO hb hy
        obtain ⟨q1, hq1, rq1⟩ := hr _ _ _ _ _ _ h1 hu hv
        obtain ⟨q2, hq2, rq2⟩ := eqFs_ok hO hp hx hy hr hn.2 h2
        refine ⟨q1 && q2, ?_, fun w => ?_⟩
        · rw [mkIte_den hp, hq1, hq2]; cases q1 <;> cases q2 <;> rfl
        · have hne : f.name ≠ "_" := by simpa using hn.1
          simp only [Op.eqFields, if_pos hne, Sem.run_bind, ru, rv, rq1, Result.andThen_ok, Sem.run_ite, rq2, Sem.run_pure]
          cases q1 <;> simp
      · cases h
    · cases h
theorem eqT_ok (hO : CxOk cx) (hp : pcOk ρ pc) : ∀ (n d : Nat), n ≤ d → ∀ (t : TypeId) (a b : A1) (e : E) (u v : Value), eqT cx pc n t a b = some e → a.Is ρ β u → b.Is ρ β v →
    ∃ q, e.den ρ = truth q ∧ ∀ w, (Op.equalIn d t u v).run cx.P w = .ok q w
  | 0, _, _, _, _, _, _, _, _, h, _, _ => by simp [eqT] at h
  | n + 1, 0, hd, _, _, _, _, _, _, _, _, _ => by omega
  | n + 1, d + 1, hd, t, a, b, e, u, v, h, ha, hb => by
    unfold eqT at h
    split at h
    · rename_i k k1 x k2 y hu
      split at h
      · rename_i hk
        simp only [decide_eq_true_eq] at hk
        subst hk
        cases h
        simp only [A1.Is, AT.Is] at ha hb
        subst ha; subst hb
        exact ⟨_, mkEq_den hp _ _, fun w => by rw [run_equalIn_int w d t k1 k _ _ (hO.un hu)]; rfl⟩
      · cases h
    · rename_i x y hu
      split at h
      · rename_i hc
        cases h
        rw [Bool.and_eq_true] at hc
        simp only [A1.Is, AT.Is] at ha hb
        subst ha; subst hb
        refine ⟨_, mkEq_den hp _ _, fun w => ?_⟩
        rw [run_equalIn_bool' w d t _ _ (hO.un hu)]
        rcases bit01_ok hp hc.1 with h1 | h1 <;> rcases bit01_ok hp hc.2 with h2 | h2 <;> rw [h1, h2] <;> rfl
      · cases h
    · rename_i fs xs ys hu
      split at h
      · rename_i hc
        obtain ⟨us, rfl, hus⟩ := ha
        obtain ⟨vs, rfl, hvs⟩ := hb
        obtain ⟨t', ht', hbt⟩ := List.any_eq_true.1 hc
        have : t = t' := Nat.eq_of_beq_eq_true hbt
        subst this
        obtain ⟨_, hheld, hnames⟩ := hO.eq _ ht'
        have hfs : cx.P.fieldsOf t = fs := by unfold Program.fieldsOf; rw [hO.un hu]
        obtain ⟨q, hq, rq⟩ := eqFs_ok (d := d) hO hp hus hvs (fun t a b e u v h ha hb => eqT_ok hO hp n d (by omega) t a b e u v h ha hb) (by rw [← hfs]; exact hnames) h
        refine ⟨q, hq, fun w => ?_⟩
        rw [run_equalIn_struct w d t us vs (by rw [hfs]; exact hO.un hu) hheld, hfs]
        exact rq w
      · cases h
    · cases h
theorem evEqS_ok (hO : CxOk cx) (hp : pcOk ρ pc) {op : BinOp} {t : TypeId} {xs ys : List AT} {u v : Value} (hx : (AV.v (.g xs)).Is ρ β u) (hy : (AV.v (.g ys)).Is ρ β v) {z : AV} {pc' : PC}
    (h : (evEqS cx pc op t xs ys).pick ρ = some (z, pc')) : pcOk ρ pc' ∧ ∃ r, z.Is ρ β r ∧ (∀ (f g : Operand) (w : World), (eqGuard op t f g u v).run cx.P w = .ok () w) ∧ ∀ w, (binOp op t u v).run cx.P w = .ok r w := by
  unfold evEqS at h
  split at h
  · rename_i hc
    obtain ⟨t', ht', hbt⟩ := List.any_eq_true.1 hc
    have : t = t' := Nat.eq_of_beq_eq_true hbt
    subst this
    obtain ⟨hguard, _, _⟩ := hO.eq _ ht'
    split at h
    · rename_i e he
      obtain ⟨q, hq, rq⟩ := eqT_ok hO hp 6 10000 (by decide) t _ _ _ u v he hx hy
      obtain ⟨us, rfl, _⟩ := hx
      obtain ⟨vs, rfl, _⟩ := hy
      have hg : ∀ (f g : Operand) (w : World), (eqGuard op t f g (.agg us) (.agg vs)).run cx.P w = .ok () w := fun f g w => run_eqGuard_agg w op t f g us vs hguard
      split at h
      · simp only [Tr.pick, Option.some.injEq, Prod.mk.injEq] at h
        obtain ⟨rfl, rfl⟩ := h
        exact ⟨hp, .bool q, by show Value.bool q = .bool (tb _); rw [truth_tb hq], hg, fun w => by rw [run_eql_struct, rq]; rfl⟩
      · simp only [Tr.pick, Option.some.injEq, Prod.mk.injEq] at h
        obtain ⟨rfl, rfl⟩ := h
        refine ⟨hp, .bool (!q), ?_, hg, fun w => by rw [run_neq_struct, rq]; rfl⟩
        show Value.bool (!q) = .bool (tb _)
        rw [mkNot_den hp, hq, tb_truth]
        cases q <;> rfl
      · simp [Tr.pick] at h
    · simp [Tr.pick] at h
  · simp [Tr.pick] at h

theorem within_pick {α : Type} (hp : pcOk ρ pc) {e : E} {len : Nat} {f : Nat → PC → Tr α} {g : PC → Tr α} {y : α} (h : (within pc e len f g).pick ρ = some y) :
    0 ≤ e.den ρ ∧ e.den ρ < len ∧ ∃ pc', pcOk ρ pc' ∧ ((f (e.den ρ).toNat pc').pick ρ = some y ∨ (g pc').pick ρ = some y) := by
  unfold within at h
  split at h
  · rename_i n hn
    have he := one_den hp hn
    split at h
    · rename_i hc
      simp only [Bool.and_eq_true, decide_eq_true_eq] at hc
      rw [he]
      exact ⟨hc.1, hc.2, pc, hp, .inl h⟩
    · simp [Tr.pick] at h
  · obtain ⟨v, pc1, hv, hp1, h⟩ := branch_pick hp h
    cases v with
    | true => simp [Tr.pick] at h
    | false =>
      simp only [Bool.false_eq_true, if_false] at h
      obtain ⟨v2, pc2, hv2, hp2, h⟩ := branch_pick hp1 h
      cases v2 with
      | false => simp [Tr.pick] at h
      | true =>
        simp only [if_true] at h
        have h1 := not_of_truth hv
        have h2 := of_truth hv2
        simp only [E.den] at h1 h2
        exact ⟨by omega, h2, pc2, hp2, .inr h⟩

theorem evIndex_ok (hO : CxOk cx) (hp : pcOk ρ pc) {xt : TypeId} {x i : AV} {u v : Value} (hx : x.Is ρ β u) (hi : i.Is ρ β v) {z : AV} {pc' : PC}
    (h : (evIndex cx pc xt x i).pick ρ = some (z, pc')) : pcOk ρ pc' ∧ ∃ r, z.Is ρ β r ∧ ∀ w, (Instr.index xt u v).run cx.P w = .ok r w := by
  unfold evIndex at h
  split at h
  · rename_i len elem cs k e hu
    obtain ⟨vs, rfl, hc⟩ := hx
    simp only [AV.Is, A1.Is, AT.Is] at hi
    subst hi
    obtain ⟨size, hs, h⟩ := must_pick h
    obtain ⟨h0, h1, pc1, hp1, h⟩ := within_pick hp h
    have hrun : ∀ w, (Instr.index xt (.agg vs) (.int k (e.den ρ))).run cx.P w = (part elem vs ((e.den ρ).toNat * size)).run cx.P w := fun w => by
      simp [Instr.index, asIntOf, run_underlying (hO.un hu), h0, h1, size_run hO hs]
    rcases h with h | h
    · obtain ⟨p, hpart, h⟩ := must_pick h
      simp only [Tr.pick, Option.some.injEq, Prod.mk.injEq] at h
      obtain ⟨rfl, rfl⟩ := h
      obtain ⟨r, hr, hrr⟩ := part1_ok hO hpart hc
      exact ⟨hp1, r, hr, fun w => by rw [hrun, hrr]⟩
    · obtain ⟨ag, hag, h⟩ := must_pick h
      cases ag with
      | true => simp [Tr.pick] at h
      | false =>
        simp only [Bool.false_eq_true, if_false] at h
        split at h
        · rename_i hsz
          simp only [Bool.and_eq_true] at hsz
          have hs1 : size = 1 := Nat.eq_of_beq_eq_true hsz.1
          have hl : cs.length = len := Nat.eq_of_beq_eq_true hsz.2
          obtain ⟨a, ha, h⟩ := must_pick h
          simp only [Tr.pick, Option.some.injEq, Prod.mk.injEq] at h
          obtain ⟨rfl, rfl⟩ := h
          obtain ⟨r, hr, hri⟩ := selA_is hp1 ha (.of_all2 hc) (by omega)
          have hr' : vs[(e.den ρ).toNat]? = some r := by simpa using hr
          subst hs1
          exact ⟨hp1, r, hri, fun w => by rw [hrun]; simp [part, isAgg_run hO hag, hr']⟩
        · simp [Tr.pick] at h
  · rename_i s k e hu
    obtain ⟨rfl, _⟩ := hx
    simp only [AV.Is, A1.Is, AT.Is] at hi
    subst hi
    obtain ⟨h0, h1, pc1, hp1, h⟩ := within_pick hp h
    have hlt : (e.den ρ).toNat < s.size := by omega
    have key : ∀ z pc', some (ret1 (.int .u8 (mkSel pc1 e (strE s))), pc1) = some (z, pc') → pcOk ρ pc' ∧ ∃ r, z.Is ρ β r ∧ ∀ w, (Instr.index xt (.string s) (.int k (e.den ρ))).run cx.P w = .ok r w := by
      intro z pc' h
      cases h
      refine ⟨hp1, .int .u8 ((s[(e.den ρ).toNat]'hlt).toNat : Int), ?_, fun w => ?_⟩
      · show Value.int .u8 _ = .int .u8 _
        rw [mkSel_den hp1, mkL_denL, List.getD_eq_getElem?_getD, List.getElem?_map, strE, List.getElem?_map]
        have : s.data.toList[(e.den ρ).toNat]? = some (s[(e.den ρ).toNat]'hlt) := by
          rw [Array.getElem?_toList, Array.getElem?_eq_getElem hlt]; rfl
        rw [this]; rfl
      · rw [run_index_string w xt s k _ (hO.un hu), dif_pos ⟨h0, h1⟩]
    rcases h with h | h
    · exact key _ _ h
    · exact key _ _ h
  · simp [Tr.pick] at h

theorem addr_add (b o n : Nat) : (⟨b, o, none⟩ : Addr).add n = ⟨b, o + n, none⟩ := Addr.add_lit b o n

theorem evIndexAddr_ok (hO : CxOk cx) (hp : pcOk ρ pc) {t : TypeId} {x i : AV} {u v : Value} (hx : x.Is ρ β u) (hi : i.Is ρ β v) {z : AV} {pc' : PC}
    (h : (evIndexAddr cx pc t x i).pick ρ = some (z, pc')) : pcOk ρ pc' ∧ ∃ r, z.Is ρ β r ∧ ∀ w, (Instr.indexAt t u v).run cx.P w = .ok r w := by
  unfold evIndexAddr at h
  split at h
  · rename_i len elem l off k e hu
    obtain ⟨p, hpl, rfl⟩ := hx
    simp only [AV.Is, A1.Is, AT.Is] at hi
    subst hi
    obtain ⟨size, hs, h⟩ := must_pick h
    obtain ⟨h0, h1, pc1, hp1, h⟩ := within_pick hp h
    have hrun : ∀ w, (Instr.indexAt t (.pointer (some ⟨p.1, p.2 + off, none⟩)) (.int k (e.den ρ))).run cx.P w = .ok (.pointer (some ⟨p.1, p.2 + off + (e.den ρ).toNat * size, none⟩)) w := fun w => by
      simp [Instr.indexAt, Instr.sureAddr, asIntOf, run_underlying (hO.un hu), h0, h1, size_run hO hs, addr_add]
    rcases h with h | h
    · simp only [Tr.pick, Option.some.injEq, Prod.mk.injEq] at h
      obtain ⟨rfl, rfl⟩ := h
      exact ⟨hp1, _, ⟨p, hpl, rfl⟩, fun w => by rw [hrun]; simp only [Nat.add_assoc]⟩
    · simp only [Tr.pick, Option.some.injEq, Prod.mk.injEq] at h
      obtain ⟨rfl, rfl⟩ := h
      exact ⟨hp1, _, ⟨p, hpl, rfl⟩, fun w => by rw [hrun]; simp only [Nat.add_assoc]⟩
  · rename_i len elem l off j sz k e hu
    obtain ⟨p, hpl, rfl⟩ := hx
    simp only [AV.Is, A1.Is, AT.Is] at hi
    subst hi
    obtain ⟨size, hs, h⟩ := must_pick h
    obtain ⟨h0, h1, pc1, hp1, h⟩ := within_pick hp h
    rcases h with h | h
    · simp only [Tr.pick, Option.some.injEq, Prod.mk.injEq] at h
      obtain ⟨rfl, rfl⟩ := h
      refine ⟨hp1, _, ⟨p, hpl, rfl⟩, fun w => ?_⟩
      have e1 : p.2 + (off + (j.den ρ).toNat * sz) + (e.den ρ).toNat * size = p.2 + (off + (e.den ρ).toNat * size + (j.den ρ).toNat * sz) := by omega
      simp [Instr.indexAt, Instr.sureAddr, asIntOf, run_underlying (hO.un hu), h0, h1, size_run hO hs, addr_add, e1]
    · simp [Tr.pick] at h
  · rename_i elem l off len cap k e hu
    obtain ⟨p, hpl, rfl⟩ := hx
    simp only [AV.Is, A1.Is, AT.Is] at hi
    subst hi
    obtain ⟨size, hs, h⟩ := must_pick h
    obtain ⟨h0, h1, pc1, hp1, h⟩ := within_pick hp h
    have hrun : ∀ w, (Instr.indexAt t (.slice (some ⟨p.1, p.2 + off, none⟩) len cap) (.int k (e.den ρ))).run cx.P w = .ok (.pointer (some ⟨p.1, p.2 + off + (e.den ρ).toNat * size, none⟩)) w := fun w => by
      simp [Instr.indexAt, asIntOf, run_underlying (hO.un hu), h0, h1, size_run hO hs, addr_add]
    rcases h with h | h
    · simp only [Tr.pick, Option.some.injEq, Prod.mk.injEq] at h
      obtain ⟨rfl, rfl⟩ := h
      exact ⟨hp1, _, ⟨p, hpl, rfl⟩, fun w => by rw [hrun]; simp only [Nat.add_assoc]⟩
    · simp only [Tr.pick, Option.some.injEq, Prod.mk.injEq] at h
      obtain ⟨rfl, rfl⟩ := h
      exact ⟨hp1, _, ⟨p, hpl, rfl⟩, fun w => by rw [hrun]; simp only [Nat.add_assoc]⟩
  · simp [Tr.pick] at h

/-! ### structs and arrays that are built -/
theorem fill_fold (off : Nat) : ∀ (cs : List Value) (k : Nat) (A : Array Value), off + k + cs.length ≤ A.size →
    ((cs.zipIdx k).foldl (fun (acc : Array Value) (c : Value × Nat) => acc.setIfInBounds (off + c.2) c.1) A).toList = A.toList.take (off + k) ++ cs ++ A.toList.drop (off + k + cs.length)
  | [], k, A, _ => by simp
  | c :: cs, k, A, h => by
    simp only [List.zipIdx_cons, List.foldl_cons]
    rw [fill_fold off cs (k + 1) (A.setIfInBounds (off + k) c) (by simp at h ⊢; omega)]
    have e := list_seg_step A.toList (off + k) c cs (by simp at h ⊢; omega)
    simpa [Array.toList_setIfInBounds, Nat.add_assoc] using e
theorem fillA_ok {place : Nat → Option (Nat × Nat)} : ∀ {ps : List (Nat × A1)} {vs : List (Nat × Value)} {cells r : List AT} {A : Array Value}, fillA place cells ps = some r → All2 (AT.Is ρ β) cells A.toList →
    All2 (fun p v => p.1 = v.1 ∧ p.2.Is ρ β v.2) ps vs → ∃ B, Instr.fill place A vs = some B ∧ All2 (AT.Is ρ β) r B.toList
  | [], [], cells, r, A, h, hc, _ => by simp only [fillA, Option.some.injEq] at h; subst h; exact ⟨A, rfl, hc⟩
  | (i, x) :: ps, (j, v) :: vs, cells, r, A, h, hc, hps => by
    obtain ⟨⟨hij, hx⟩, hrest⟩ := hps
    simp only at hij hx
    subst hij
    unfold fillA at h
    cases hpl : place i with
    | none => rw [hpl] at h; cases h
    | some os =>
      obtain ⟨off, size⟩ := os
      rw [hpl] at h
      simp only at h
      split at h
      · rename_i hcond
        simp only [Bool.and_eq_true] at hcond
        have h1 : x.cells.length = size := Nat.eq_of_beq_eq_true hcond.1
        have h2 : off + size ≤ cells.length := Nat.le_of_ble_eq_true hcond.2
        have hxc := hx.cells
        have hl := hxc.length
        have hcl := hc.length
        simp only [Array.length_toList] at hl hcl
        unfold Instr.fill
        rw [hpl]
        simp only
        rw [if_neg (by simp; omega)]
        have key := fill_fold off v.cells.toList 0 A (by simp; omega)
        have harr : (v.cells.zipIdx.foldl (fun (cs : Array Value) (x : Value × Nat) => cs.setIfInBounds (off + x.2) x.1) A).toList = A.toList.take off ++ v.cells.toList ++ A.toList.drop (off + size) := by
          rw [← Array.foldl_toList, Array.toList_zipIdx]
          rw [key]; simp; congr 2; omega
        refine fillA_ok h ?_ hrest
        rw [harr]
        exact ((hc.take off).append hxc).append (hc.drop (off + size))
      · cases h
  | [], _ :: _, _, _, _, _, _, h => h.elim
  | _ :: _, [], _, _, _, _, _, h => h.elim

theorem partsOf_ok {s : St} {a : Act} (hT : Tmps cx ρ β s a) : ∀ {ps : List (Nat × Operand)} {r : List (Nat × A1)}, partsOf cx s ps = some r →
    All2 (fun p v => p.1 = v.1 ∧ p.2.Is ρ β v.2) r (ps.map fun p => (p.1, a.eval p.2)) := by
  intro ps r h
  refine All2.allSome (f := fun p : Nat × Operand => ((s.ev cx p.2).bind asV).map fun x => (p.1, x)) (fun p x hx => ?_) ps h
  simp only [Option.map_eq_some_iff, Option.bind_eq_some_iff] at hx
  obtain ⟨y, ⟨z, hz, hy⟩, rfl⟩ := hx
  refine ⟨rfl, ?_⟩
  have hi := hT.ev hz
  cases z with
  | v q => simp only [asV, Option.some.injEq] at hy; subst hy; exact hi
  | t l => simp [asV] at hy
theorem placeF_ok (hO : CxOk cx) : ∀ {fs : List Field} {pl : List (Nat × Nat)}, placeF cx fs = some pl → fs.mapM (fun f => (cx.P.info? f.type).map fun i => (f.offset, i.size)) = some pl
  | [], pl, h => by simp only [placeF, List.map_nil, allSome, Option.some.injEq] at h; subst h; rfl
  | f :: fs, pl, h => by
    simp only [placeF, List.map_cons] at h
    cases hs : sizeT cx f.type with
    | none => rw [hs] at h; simp [allSome] at h
    | some n =>
      rw [hs] at h
      obtain ⟨i, hi, rfl⟩ := size_inf hO hs
      simp only [Option.map_some, allSome, Option.map_eq_some_iff] at h
      obtain ⟨r, hr, rfl⟩ := h
      have ih := placeF_ok hO (fs := fs) (pl := r) hr
      simp [List.mapM_cons, hi, ih]
theorem zeroA_ok (hO : CxOk cx) {t : TypeId} {z : List AT} (h : zeroA cx t = some z) : ∃ i v, cx.P.info? t = some i ∧ i.zero = some v ∧ All2 (AT.Is ρ β) z v.cells.toList := by
  unfold zeroA at h
  simp only [Option.bind_eq_some_iff, Option.map_eq_some_iff] at h
  obtain ⟨v, ⟨ti, hti, hz⟩, x, hx, rfl⟩ := h
  obtain ⟨i, hi, _, h2⟩ := hO.inf _ (lkT_mem hti)
  exact ⟨i, v, hi, h2.trans hz, A1.Is.cells (konst1_is hx)⟩
theorem fillS_ok {place : Nat → Option (Nat × Nat)} : ∀ {ps : List (Nat × A1)} {pre cells r : List AT}, fillS place pre.length cells ps = some r → fillA place (pre ++ cells) ps = some (pre ++ r)
  | [], pre, cells, r, h => by simp only [fillS, Option.some.injEq] at h; subst h; rfl
  | (i, v) :: ps, pre, cells, r, h => by
    unfold fillS at h
    unfold fillA
    cases hpl : place i with
    | none => rw [hpl] at h; cases h
    | some os =>
      obtain ⟨off, size⟩ := os
      rw [hpl] at h
      simp only at h ⊢
      split at h
      · rename_i hc
        simp only [Bool.and_eq_true] at hc
        have h1 : pre.length ≤ off := Nat.le_of_ble_eq_true hc.1.1
        have h2 : v.cells.length = size := Nat.eq_of_beq_eq_true hc.1.2
        have h3 : off - pre.length + size ≤ cells.length := Nat.le_of_ble_eq_true hc.2
        rw [if_pos (by simp only [Bool.and_eq_true]; exact ⟨hc.1.2, Nat.ble_eq_true_of_le (by simp; omega)⟩)]
        rw [Option.map_eq_some_iff] at h
        obtain ⟨r', hr', rfl⟩ := h
        have e1 : (pre ++ cells).take off = pre ++ cells.take (off - pre.length) := by
          rw [List.take_append, List.take_of_length_le h1]
        have e2 : (pre ++ cells).drop (off + size) = cells.drop (off - pre.length + size) := by
          rw [List.drop_append, List.drop_eq_nil_of_le (by omega), List.nil_append]; congr 1; omega
        have hlen : (pre ++ cells.take (off - pre.length) ++ v.cells).length = off + size := by simp; omega
        rw [e1, e2]
        have ih := fillS_ok (place := place) (ps := ps) (pre := pre ++ cells.take (off - pre.length) ++ v.cells) (cells := cells.drop (off - pre.length + size)) (r := r') (by rw [hlen]; exact hr')
        rw [ih]
        simp [List.append_assoc]
      · cases h
theorem fillB_ok {place : Nat → Option (Nat × Nat)} {ps : List (Nat × A1)} {cells r : List AT} (h : fillB place cells ps = some r) : fillA place cells ps = some r := by
  unfold fillB at h
  split at h
  · rename_i r' hr
    cases h
    exact fillS_ok (pre := []) hr
  · exact h
theorem evBuild_ok {s : St} {a : Act} (hT : Tmps cx ρ β s a) {t : TypeId} {parts : Array (Nat × Operand)} {x : AV} (h : evBuild cx s t parts.toList = some x) :
    ∃ r, x.Is ρ β r ∧ ∀ w, (Instr.build t (parts.map fun (i, y) => (i, a.eval y))).run cx.P w = .ok r w := by
  unfold evBuild at h
  split at h
  · rename_i z fs ps hz hu hps
    simp only [Option.bind_eq_some_iff, Option.map_eq_some_iff] at h
    obtain ⟨pl, hpl, l, hl, rfl⟩ := h
    obtain ⟨i, v, hi, hzv, hzz⟩ := zeroA_ok (ρ := ρ) (β := β) hT.ok hz
    obtain ⟨B, hB, hBB⟩ := fillA_ok (fillB_ok hl) hzz (partsOf_ok hT hps)
    refine ⟨.agg B, ⟨B, rfl, hBB⟩, fun w => run_build w t _ B ?_⟩
    unfold Program.built
    simp only [hi, hT.ok.un hu, hzv, placeF_ok hT.ok hpl]
    rw [← hB]; simp
  · rename_i z n elem ps hz hu hps
    simp only [Option.bind_eq_some_iff, Option.map_eq_some_iff] at h
    obtain ⟨sz, hsz, l, hl, rfl⟩ := h
    obtain ⟨i, v, hi, hzv, hzz⟩ := zeroA_ok (ρ := ρ) (β := β) hT.ok hz
    obtain ⟨B, hB, hBB⟩ := fillA_ok (fillB_ok hl) hzz (partsOf_ok hT hps)
    obtain ⟨ie, hie, rfl⟩ := size_inf hT.ok hsz
    refine ⟨.agg B, ⟨B, rfl, hBB⟩, fun w => run_build w t _ B ?_⟩
    unfold Program.built
    simp only [hi, hT.ok.un hu, hzv, hie]
    rw [← hB]; simp
  · cases h

end
end Go.Proofs.YtnbngokbamifbaaGreatDoor.Ev

/- Every operation that looks at no memory is carried out as the evaluator says. -/
namespace Go.Proofs.YtnbngokbamifbaaGreatDoor.Ev
open Go

section
variable {P : Program} {cx : Cx} {ρ : Env} {β : Pl} {pc : PC}

def OptIs (ρ : Env) (β : Pl) (x : Option AV) (u : Option Value) : Prop :=
  match x, u with
  | none, none => True
  | some x, some u => x.Is ρ β u
  | _, _ => False
theorem litNat_ok (hp : pcOk ρ pc) {lim d n : Nat} {x : Option AV} {u : Option Value} (hx : OptIs ρ β x u) (h : litNat pc lim x d = some n) :
    (u = none ∧ n = d) ∨ ∃ k i, u = some (.int k i) ∧ 0 ≤ i ∧ i ≤ lim ∧ n = i.toNat := by
  cases x with
  | none =>
    cases u with
    | none => simp only [litNat, Option.some.injEq] at h; exact .inl ⟨rfl, h.symm⟩
    | some u => exact hx.elim
  | some x =>
    cases u with
    | none => exact hx.elim
    | some u =>
      unfold litNat at h
      split at h
      · rename_i heq; cases heq
      · rename_i k e heq
        cases heq
        have hx' : u = .int k (e.den ρ) := hx
        subst hx'
        rw [Option.bind_eq_some_iff] at h
        obtain ⟨m, hm, h⟩ := h
        have he := one_den hp hm
        split at h
        · rename_i hc
          simp only [Bool.and_eq_true, decide_eq_true_eq] at hc
          cases h
          exact .inr ⟨k, _, rfl, by omega, by omega, by rw [he]⟩
        · cases h
      · cases h
theorem sliceBound_run {k : IntKind} {i : Int} {y : Nat} {code : BoundsCode} (h0 : 0 ≤ i) (h1 : i ≤ y) (w : World) : (Instr.sliceBound (.int k i) y code).run P w = .ok i.toNat w := by
  simp [Instr.sliceBound, asIntOf, h0, h1]
theorem optEv_ok {s : St} {a : Act} (hT : Tmps cx ρ β s a) {o : Option Operand} {x : Option AV} (h : optEv cx s o = some x) :
    OptIs ρ β x (o.map a.eval) := by
  cases o with
  | none => simp only [optEv, Option.some.injEq] at h; subst h; trivial
  | some y =>
    simp only [optEv, Option.map_eq_some_iff] at h
    obtain ⟨z, hz, rfl⟩ := h
    exact hT.ev hz
theorem bounds_run (hp : pcOk ρ pc) {b : Bool} {len cap h l : Nat} {xh xl : Option AV} {uh ul : Option Value}
    (hxh : OptIs ρ β xh uh) (hxl : OptIs ρ β xl ul)
    (hh : litNat pc cap xh len = some h) (hl : litNat pc h xl 0 = some l) (w : World) : (Instr.sliceBounds b len cap ul uh none).run P w = .ok (l, h, cap) w := by
  rcases litNat_ok hp hxh hh with ⟨rfl, rfl⟩ | ⟨k, i, rfl, h0, h1, rfl⟩ <;> rcases litNat_ok hp hxl hl with ⟨rfl, rfl⟩ | ⟨k', i', rfl, g0, g1, rfl⟩
  · simp [Instr.sliceBounds]
  · simp [Instr.sliceBounds, sliceBound_run g0 g1]
  · simp [Instr.sliceBounds, sliceBound_run h0 h1]
  · simp [Instr.sliceBounds, sliceBound_run h0 h1, sliceBound_run g0 g1]
theorem evSlice_ok {s : St} {a : Act} (hT : Tmps cx ρ β s a) (hp : pcOk ρ pc) {t : TypeId} {x z : AV} {u : Value} (hx : x.Is ρ β u) {lo hi mx : Option Operand} (h : evSlice cx s pc t x lo hi mx = some z) :
    ∃ r, z.Is ρ β r ∧ ∀ w, (Instr.sliceAt t u (lo.map a.eval) (hi.map a.eval) (mx.map a.eval)).run cx.P w = .ok r w := by
  unfold evSlice at h
  split at h
  · rename_i xl xh hxl hxh
    have hol := optEv_ok hT hxl
    have hoh := optEv_ok hT hxh
    split at h
    · rename_i n elem b off hu
      obtain ⟨p, hpl, rfl⟩ := hx
      simp only [Option.bind_eq_some_iff, Option.map_eq_some_iff] at h
      obtain ⟨size, hs, hh, hhh, l, hll, rfl⟩ := h
      refine ⟨.slice (some ⟨p.1, p.2 + (if Nat.beq n l then off else off + l * size), none⟩) (hh - l) (n - l), ⟨p, hpl, rfl⟩, fun w => ?_⟩
      simp only [Instr.sliceAt, Sem.run_bind, run_underlying (hT.ok.un hu), Result.andThen_ok, Instr.sureAddr, Sem.run_pure, Option.map_none, bounds_run hp hoh hol hhh hll, size_run hT.ok hs]
      by_cases hnl : n = l
      · subst hnl; simp [Nat.beq_refl]
      · have hb : Nat.beq n l = false := by rw [Bool.eq_false_iff]; exact fun e => hnl (Nat.eq_of_beq_eq_true e)
        simp [hnl, hb, addr_add, Nat.add_assoc]
    · rename_i elem b off len cap hu
      obtain ⟨p, hpl, rfl⟩ := hx
      simp only [Option.bind_eq_some_iff, Option.map_eq_some_iff] at h
      obtain ⟨size, hs, hh, hhh, l, hll, rfl⟩ := h
      refine ⟨.slice (some ⟨p.1, p.2 + (if Nat.beq cap l then off else off + l * size), none⟩) (hh - l) (cap - l), ⟨p, hpl, rfl⟩, fun w => ?_⟩
      simp only [Instr.sliceAt, Instr.slice, Sem.run_bind, run_underlying (hT.ok.un hu), Result.andThen_ok, Sem.run_pure, Option.map_none, bounds_run hp hoh hol hhh hll, size_run hT.ok hs]
      by_cases hnl : cap = l
      · subst hnl; simp [Nat.beq_refl]
      · have hb : Nat.beq cap l = false := by rw [Bool.eq_false_iff]; exact fun e => hnl (Nat.eq_of_beq_eq_true e)
        simp [hnl, hb, addr_add, Nat.add_assoc]
    · cases h
  · cases h

theorem leaf_eq {α : Type} {x y : α} (h : (Tr.leaf x).pick ρ = some y) : x = y := by simpa [Tr.pick] using h
theorem tb_pos {n : Int} {r : Int × Int} (hb : r.1 ≤ n ∧ n ≤ r.2) (h : (decide (0 < r.1) || decide (r.2 < 0)) = true) : tb n = true := by
  simp only [Bool.or_eq_true, decide_eq_true_eq] at h; exact tb_one (by omega)
theorem tb_nil {n : Int} {r : Int × Int} (hb : r.1 ≤ n ∧ n ≤ r.2) (h : (decide (r.1 = 0) && decide (r.2 = 0)) = true) : tb n = false := by
  simp only [Bool.and_eq_true, decide_eq_true_eq] at h; exact tb_zero (by omega)

theorem two_of {α β : Type} {f : α → β} {l : List α} {a b : β} (h : l.map f = [a, b]) : ∃ u v, l = [u, v] ∧ f u = a ∧ f v = b := by
  cases l with
  | nil => simp at h
  | cons u l =>
    cases l with
    | nil => simp at h
    | cons v l =>
      cases l with
      | nil => simp at h; exact ⟨u, v, rfl, h.1, h.2⟩
      | cons _ _ => simp at h
theorem evPure_ok {s : St} {a : Act} {o : Oper} (hT : Tmps cx ρ β s a) (hp : pcOk ρ s.pc) {z : AV} {pc' : PC} (h : (evPure cx s o).pick ρ = some (z, pc')) :
    pcOk ρ pc' ∧ ∃ r, z.Is ρ β r ∧ ∀ w, (execOp a.eval o).run cx.P w = .ok (.value r) w := by
  obtain ⟨dst, op, ty, pos, after, guard⟩ := o
  unfold evPure at h
  split at h
  · -- move
    rename_i x hop
    simp only at hop; subst hop
    obtain ⟨v, hv, h⟩ := must_pick h
    cases leaf_eq h
    exact ⟨hp, _, hT.ev hv, fun w => rfl⟩
  · -- assign
    rename_i x hop
    simp only at hop; subst hop
    obtain ⟨v, hv, h⟩ := must_pick h
    cases leaf_eq h
    exact ⟨hp, _, hT.ev hv, fun w => rfl⟩
  · -- pick
    rename_i c x y hop
    simp only at hop; subst hop
    have hrun : ∀ b, a.eval c = .bool b → ∀ w, (execOp a.eval ⟨dst, .pick c x y, ty, pos, after, guard⟩).run cx.P w = .ok (.value (if b then a.eval x else a.eval y)) w := fun b hb w => by
      cases b <;> simp [execOp, hb, asBool]
    split at h
    · rename_i e u v hc hx hy
      have hcI := hT.ev hc
      simp only [AV.Is, A1.Is, AT.Is] at hcI
      split at h
      · rename_i r hr
        have hb := rng_sound hp hr
        split at h
        · rename_i hd
          cases leaf_eq h
          exact ⟨hp, _, hT.ev hx, fun w => by rw [hrun _ hcI, tb_pos hb hd]; rfl⟩
        · split at h
          · rename_i hd
            cases leaf_eq h
            exact ⟨hp, _, hT.ev hy, fun w => by rw [hrun _ hcI, tb_nil hb hd]; rfl⟩
          · split at h
            · rename_i p q
              obtain ⟨m, hm, h⟩ := must_pick h
              cases leaf_eq h
              have hi := mrg_is hp hm (hT.ev hx) (hT.ev hy)
              refine ⟨hp, _, hi, fun w => ?_⟩
              rw [hrun _ hcI]
              by_cases he : e.den ρ = 0
              · rw [tb_zero he, if_pos he]; rfl
              · rw [tb_one he, if_neg he]; rfl
            · simp [Tr.pick] at h
      · simp [Tr.pick] at h
    · rename_i e u v hc _
      have hcI := hT.ev hc
      simp only [AV.Is, A1.Is, AT.Is] at hcI
      split at h
      · rename_i r hr
        have hb := rng_sound hp hr
        split at h
        · rename_i hd
          obtain ⟨m, hm, h⟩ := must_pick h
          cases leaf_eq h
          exact ⟨hp, _, hT.ev hm, fun w => by rw [hrun _ hcI, tb_pos hb hd]; rfl⟩
        · split at h
          · rename_i hd
            obtain ⟨m, hm, h⟩ := must_pick h
            cases leaf_eq h
            exact ⟨hp, _, hT.ev hm, fun w => by rw [hrun _ hcI, tb_nil hb hd]; rfl⟩
          · simp [Tr.pick] at h
      · simp [Tr.pick] at h
    · simp [Tr.pick] at h
  · -- binOp
    rename_i op t x y yt hop
    simp only at hop; subst hop
    have fin' : ∀ {r : Value}, (∀ f g : Operand, eqGuard op t f g (a.eval x) (a.eval y) = pure ()) → (∀ w, (binOp op t (a.eval x) (a.eval y)).run cx.P w = .ok r w) →
        ∀ w, (execOp a.eval ⟨dst, .binOp op t x y yt, ty, pos, after, guard⟩).run cx.P w = .ok (.value r) w := fun hg hr w => by
      simp [execOp, hg, hr]
    split at h
    · rename_i u v hx hy
      split at h
      · obtain ⟨h1, r, h2, h3, h4⟩ := evEqB_ok hT.ok hp (hT.ev hx) (hT.ev hy) h
        exact ⟨h1, r, h2, fin' h3 h4⟩
      · obtain ⟨h1, r, h2, h3, h4⟩ := evEqB_ok hT.ok hp (hT.ev hx) (hT.ev hy) h
        exact ⟨h1, r, h2, fin' h3 h4⟩
      · obtain ⟨h1, r, h2, h3, h4⟩ := evEqB_ok hT.ok hp (hT.ev hx) (hT.ev hy) h
        exact ⟨h1, r, h2, fin' h3 h4⟩
      · obtain ⟨h1, r, h2, h3, h4⟩ := evEqS_ok hT.ok hp (hT.ev hx) (hT.ev hy) h
        exact ⟨h1, r, h2, fun w => by simp [execOp, h3, h4]⟩
      · obtain ⟨h1, r, h2, h3, h4⟩ := evBin_ok hp (hT.ev hx) (hT.ev hy) h
        exact ⟨h1, r, h2, fin' h3 h4⟩
    · simp [Tr.pick] at h
  · -- unOp
    rename_i op t x hop
    simp only at hop; subst hop
    obtain ⟨v, hv, h⟩ := must_pick h
    obtain ⟨h1, r, h2, h3⟩ := evUn_ok (P := cx.P) hp (hT.ev hv) h
    exact ⟨h1, r, h2, fun w => by simp [execOp, h3]⟩
  · -- convert
    rename_i src dt x hop
    simp only at hop; subst hop
    split at h
    · rename_i d k k' e hs hd hx
      have hi := hT.ev hx
      simp only [AV.Is, A1.Is, AT.Is] at hi
      cases leaf_eq h
      exact ⟨hp, _, rfl, fun w => by simp [execOp, convert, run_underlying (hT.ok.un hs), run_underlying (hT.ok.un hd), hi, Conv.intToInt, mkWrap_den hp]⟩
    · simp [Tr.pick] at h
  · -- nilCheck
    rename_i x hop
    simp only at hop; subst hop
    split at h
    · rename_i l off hx
      have hi := hT.ev hx
      obtain ⟨p, hpl, he⟩ := hi
      cases leaf_eq h
      exact ⟨hp, _, ⟨p, hpl, rfl⟩, fun w => by simp [execOp, he]⟩
    · rename_i l off i n hx
      have hi := hT.ev hx
      obtain ⟨p, hpl, he⟩ := hi
      cases leaf_eq h
      exact ⟨hp, _, ⟨p, hpl, rfl⟩, fun w => by simp [execOp, he]⟩
    · simp [Tr.pick] at h
  · -- build
    rename_i t ps hop
    simp only at hop; subst hop
    obtain ⟨v, hv, h⟩ := must_pick h
    cases leaf_eq h
    obtain ⟨r, h1, h2⟩ := evBuild_ok hT hv
    exact ⟨hp, r, h1, fun w => by simp [execOp, h2]⟩
  · -- fieldAddr
    rename_i t x f hop
    simp only at hop; subst hop
    split at h
    · rename_i fs y hu hx
      obtain ⟨fd, hfd, h⟩ := must_pick h
      obtain ⟨n, hn, h⟩ := must_pick h
      split at h
      · simp [Tr.pick] at h
      · rename_i hn0
        have hn0' : n ≠ 0 := fun e => hn0 (by subst e; rfl)
        have hrun : ∀ (ad : Addr) w, (fieldPlace ad fd).run cx.P w = .ok (ad.add fd.offset) w := fun ad w => by simp [fieldPlace, size_run hT.ok hn, hn0']
        have hi := hT.ev hx
        split at h
        · obtain ⟨p, hpl, he⟩ := hi
          cases leaf_eq h
          exact ⟨hp, _, ⟨p, hpl, rfl⟩, fun w => by simp [execOp, Instr.fieldAt, run_underlying (hT.ok.un hu), hfd, he, Instr.sureAddr, hrun, addr_add, Nat.add_assoc]⟩
        · rename_i l off i m _ _
          obtain ⟨p, hpl, he⟩ := hi
          cases leaf_eq h
          have e1 : p.2 + (off + (i.den ρ).toNat * m) + fd.offset = p.2 + (off + fd.offset + (i.den ρ).toNat * m) := by omega
          exact ⟨hp, _, ⟨p, hpl, rfl⟩, fun w => by simp [execOp, Instr.fieldAt, run_underlying (hT.ok.un hu), hfd, he, Instr.sureAddr, hrun, addr_add, e1]⟩
        · simp [Tr.pick] at h
    · simp [Tr.pick] at h
  · -- field
    rename_i t x f hop
    simp only at hop; subst hop
    split at h
    · rename_i fs cs hu hx
      obtain ⟨fd, hfd, h⟩ := must_pick h
      obtain ⟨p, hpart, h⟩ := must_pick h
      cases leaf_eq h
      obtain ⟨vs, he, hc⟩ := hT.ev hx
      obtain ⟨r, hr, hrr⟩ := part1_ok hT.ok hpart hc
      exact ⟨hp, r, hr, fun w => by simp [execOp, Instr.field, run_underlying (hT.ok.un hu), hfd, he, asAgg, hrr]⟩
    · simp [Tr.pick] at h
  · -- indexAddr
    rename_i t x i hop
    simp only at hop; subst hop
    obtain ⟨u, hx, h⟩ := must_pick h
    obtain ⟨v, hi, h⟩ := must_pick h
    obtain ⟨h1, r, h2, h3⟩ := evIndexAddr_ok hT.ok hp (hT.ev hx) (hT.ev hi) h
    exact ⟨h1, r, h2, fun w => by simp [execOp, h3]⟩
  · -- index
    rename_i t x i hop
    simp only at hop; subst hop
    obtain ⟨u, hx, h⟩ := must_pick h
    obtain ⟨v, hi, h⟩ := must_pick h
    obtain ⟨h1, r, h2, h3⟩ := evIndex_ok hT.ok hp (hT.ev hx) (hT.ev hi) h
    exact ⟨h1, r, h2, fun w => by simp [execOp, h3]⟩
  · -- extract
    rename_i x i hop
    simp only at hop; subst hop
    split at h
    · rename_i l hx
      obtain ⟨p, hpi, h⟩ := must_pick h
      cases leaf_eq h
      obtain ⟨vs, he, hc⟩ := hT.ev hx
      obtain ⟨r, hr, hri⟩ := hc.get hpi
      have hr' : vs[i]? = some r := by simpa using hr
      exact ⟨hp, r, hri, fun w => by simp [execOp, Instr.extract, he, hr']⟩
    · simp [Tr.pick] at h
  · -- slice
    rename_i t x lo hi mx hop
    simp only at hop; subst hop
    obtain ⟨u, hx, h⟩ := must_pick h
    obtain ⟨v, hv, h⟩ := must_pick h
    cases leaf_eq h
    obtain ⟨r, h1, h2⟩ := evSlice_ok hT hp (hT.ev hx) hv
    exact ⟨hp, r, h1, fun w => by simp [execOp, h2]⟩
  · -- len
    rename_i args argTypes hop
    simp only at hop; subst hop
    have hrun : ∀ {t : TypeId} {x : Operand} {r : Value}, argTypes[0]? = some t → args[0]? = some x → (∀ w, (Builtin.len_ argTypes ty (args.map a.eval)).run cx.P w = .ok r w) →
        ∀ w, (execOp a.eval ⟨dst, .call { callee := .builtin .len, args, argTypes }, ty, pos, after, guard⟩).run cx.P w = .ok (.value r) w := fun _ _ hr w => by
      simp [execOp, resolve, invoke, builtin, hr]
    split at h
    · rename_i e l off n c ht hx
      simp only [Option.bind_eq_some_iff] at ht hx
      obtain ⟨t, ht, hu⟩ := ht
      obtain ⟨x, hx, hxe⟩ := hx
      obtain ⟨p, hpl, he⟩ := hT.ev hxe
      cases leaf_eq h
      exact ⟨hp, _, rfl, hrun ht hx fun w => by simp [Builtin.len_, ht, hx, run_underlying (hT.ok.un hu), he, goInt, E.den]⟩
    · rename_i e b n c ht hx
      simp only [Option.bind_eq_some_iff] at ht hx
      obtain ⟨t, ht, hu⟩ := ht
      obtain ⟨x, hx, hxe⟩ := hx
      obtain ⟨he, _⟩ := hT.ev hxe
      cases leaf_eq h
      exact ⟨hp, _, rfl, hrun ht hx fun w => by simp [Builtin.len_, ht, hx, run_underlying (hT.ok.un hu), he, goInt, E.den]⟩
    · rename_i n e v ht hx
      simp only [Option.bind_eq_some_iff] at ht hx
      obtain ⟨t, ht, hu⟩ := ht
      obtain ⟨x, hx, hxe⟩ := hx
      cases leaf_eq h
      exact ⟨hp, _, rfl, hrun ht hx fun w => by simp [Builtin.len_, ht, hx, run_underlying (hT.ok.un hu), goInt, E.den]⟩
    · simp [Tr.pick] at h
  · -- min, max
    rename_i b args argTypes _ hop
    simp only at hop; subst hop
    split at h
    · rename_i k x k' y hl _
      cases leaf_eq h
      obtain ⟨u, v, hargs, hu, hv⟩ : ∃ u v, args = #[u, v] ∧ s.ev cx u = some (.v (.c (.int k x))) ∧ s.ev cx v = some (.v (.c (.int k' y))) := by
        obtain ⟨u, v, h0, h1, h2⟩ := two_of hl
        exact ⟨u, v, by cases args; simp only at h0; rw [h0], h1, h2⟩
      subst hargs
      have h1 := hT.ev hu
      have h2 := hT.ev hv
      simp only [AV.Is, A1.Is, AT.Is] at h1 h2
      refine ⟨hp, _, rfl, fun w => ?_⟩
      simp [execOp, resolve, invoke, builtin, Builtin.min_, h1, h2, Builtin.min2, minE, fin_den hp, E.den]
      by_cases hlt : y.den ρ < x.den ρ <;> simp [hlt, truth]
    · rename_i k x k' y hl _
      cases leaf_eq h
      obtain ⟨u, v, hargs, hu, hv⟩ : ∃ u v, args = #[u, v] ∧ s.ev cx u = some (.v (.c (.int k x))) ∧ s.ev cx v = some (.v (.c (.int k' y))) := by
        obtain ⟨u, v, h0, h1, h2⟩ := two_of hl
        exact ⟨u, v, by cases args; simp only at h0; rw [h0], h1, h2⟩
      subst hargs
      have h1 := hT.ev hu
      have h2 := hT.ev hv
      simp only [AV.Is, A1.Is, AT.Is] at h1 h2
      refine ⟨hp, _, rfl, fun w => ?_⟩
      simp [execOp, resolve, invoke, builtin, Builtin.max_, h1, h2, Builtin.max2, maxE, fin_den hp, E.den]
      by_cases hlt : x.den ρ < y.den ρ <;> simp [hlt, truth]
    · simp [Tr.pick] at h
  · simp [Tr.pick] at h

end
end Go.Proofs.YtnbngokbamifbaaGreatDoor.Ev

/- What the laws of this claim are proved with, joined (join.py) of 5 texts: no condition. -/
import Derived.Test.YtnbngokbamifbaaGreatDoorNi4
import Derived.Test.YtnbngokbamifbaaGreatDoorChecked
set_option linter.unusedVariables false
set_option linter.unusedSimpArgs false

/- The evaluator's word on regions that draw, on code, and on a call. -/
namespace Go.Proofs.YtnbngokbamifbaaGreatDoor.Ev
open Go Go.RowKit

section
variable {P : Program} {cx : Cx} {jx : Jx} {ρ : Env} {W : World} {wr : List Nat} {β β' : Pl} {heap : List Blk} {w w' : World}

/-! ### what a term stands for is one value -/
theorem AT.Is.det {a : AT} {u v : Value} (hu : a.Is ρ β u) (hv : a.Is ρ β v) : u = v := by
  cases a <;> simp only [AT.Is] at hu hv
  case int => exact hu.trans hv.symm
  case bool => exact hu.trans hv.symm
  case val => exact hu.1.trans hv.1.symm
  case ptr => obtain ⟨p, hp, e⟩ := hu; obtain ⟨q, hq, f⟩ := hv; rw [hp] at hq; cases hq; exact e.trans f.symm
  case pti => obtain ⟨p, hp, e⟩ := hu; obtain ⟨q, hq, f⟩ := hv; rw [hp] at hq; cases hq; exact e.trans f.symm
  case slc => obtain ⟨p, hp, e⟩ := hu; obtain ⟨q, hq, f⟩ := hv; rw [hp] at hq; cases hq; exact e.trans f.symm
  case opq => exact hu.1.trans hv.1.symm
theorem All2.det {α γ : Type} {R : α → γ → Prop} (h : ∀ a u v, R a u → R a v → u = v) : ∀ {l : List α} {m n : List γ}, All2 R l m → All2 R l n → m = n
  | [], [], [], _, _ => rfl
  | a :: l, b :: m, c :: n, h1, h2 => by rw [h a b c h1.1 h2.1, All2.det h h1.2 h2.2]
  | [], _ :: _, _, h, _ => h.elim
  | _ :: _, [], _, h, _ => h.elim
  | [], [], _ :: _, _, h => h.elim
  | _ :: _, _ :: _, [], _, h => h.elim
theorem A1.Is.det {a : A1} {u v : Value} (hu : a.Is ρ β u) (hv : a.Is ρ β v) : u = v := by
  cases a with
  | c a => exact AT.Is.det hu hv
  | g l => obtain ⟨x, e, hx⟩ := hu; obtain ⟨y, f, hy⟩ := hv; rw [e, f, Array.toList_inj.1 (All2.det (R := AT.Is ρ β) (fun _ _ _ => AT.Is.det) hx hy)]
theorem AV.Is.det {a : AV} {u v : Value} (hu : a.Is ρ β u) (hv : a.Is ρ β v) : u = v := by
  cases a with
  | v a => exact A1.Is.det hu hv
  | t l => obtain ⟨x, e, hx⟩ := hu; obtain ⟨y, f, hy⟩ := hv; rw [e, f, Array.toList_inj.1 (All2.det (R := A1.Is ρ β) (fun _ _ _ => A1.Is.det) hx hy)]

/-! ### regions that draw -/
/-- the worlds in which the state's memory is as the evaluator knows it -/
def SS (jx : Jx) (ρ : Env) (W : World) (wr : List Nat) (β : Pl) (heap : List Blk) (w : World) : Prop := HeapOk ρ jx W wr β heap w ∧ Fr W wr w ∧ jx.J w
theorem SS.closed : Closed (SS jx ρ W wr β heap) := fun _ _ ⟨h1, h2, h3⟩ hb => ⟨h1.below hb, h2.below hb, Jx.below h3 hb⟩
theorem frozen_ok (h : HeapOk ρ jx W wr β heap w) (W' : World) (wr' : List Nat) : HeapOk ρ jx W' wr' β (freeze heap) w := by
  refine ⟨by simp [freeze, h.1], fun l b hl => ?_⟩
  unfold freeze at hl
  rw [List.getElem?_map, Option.map_eq_some_iff] at hl
  obtain ⟨b', hb', rfl⟩ := hl
  obtain ⟨p, arr, ty, fr, h1, h2, h3, _⟩ := h.2 l b' hb'
  exact ⟨p, arr, ty, fr, h1, h2, h3, fun hrw => by simp at hrw⟩
theorem dr_pick {α : Type} {t : Tr α} {x : α} (h : t.dr = .ok x) : t.pick ρ = some x := by
  cases t <;> simp only [Tr.dr] at h <;> cases h; rfl
theorem dr_bind {α γ : Type} {t : DR α} {f : α → DR γ} {y : γ} (h : t.bind f = .ok y) : ∃ x, t = .ok x ∧ f x = .ok y := by
  cases t <;> simp only [DR.bind] at h
  · exact ⟨_, rfl, h⟩
  · cases h
  · cases h

theorem resE_some {K : Value → World → Prop} {r : Result Next} (h : resE P K r) : ∃ v w, K v w := by
  cases r with
  | ok n w =>
    cases n <;> simp only [resE] at h
    case value u => exact ⟨_, _, h⟩
    case skip => exact ⟨_, _, h⟩
    case enter f args => obtain ⟨e, w', fr, ⟨u, _, hu⟩, _⟩ := h []; exact ⟨u, w', hu⟩
  | halt x w => exact h.elim
theorem evCalm_ok {ih : Code → St → Tr (X × St)} (hih : IhOk cx jx ρ ih) (hs : ∀ m ∈ cx.sums, SumOk cx.P jx ρ m) {s : St} {a : Act} {o : Oper} {x : AV} {pc' : PC} {ops : Array Oper}
    (hT : Tmps cx ρ β s a) (hp : pcOk ρ s.pc) (hlen : β.length = s.heap.length) (hw : Region.wanted o (yielded ops a.tmps) = true) (h : evCalm cx ih s o = .ok (x, pc')) (hne : ∃ w, SS jx ρ W wr β s.heap w) :
    pcOk ρ pc' ∧ ∃ v, x.Is ρ β v ∧ YieldsK cx.P ops (SS jx ρ W wr β s.heap) o v a ∧ (pureOp o.op = true → ∀ S, YieldsK cx.P ops S o v a) := by
  unfold evCalm at h
  split at h
  · obtain ⟨h1, r, h2, h3⟩ := evPure_ok hT hp (dr_pick (ρ := ρ) h)
    have hy : ∀ S, YieldsK cx.P ops S o r a := fun S => .inl ⟨hw, fun w _ => by rw [h3 w]; exact ⟨rfl, Below.refl _ _⟩⟩
    exact ⟨h1, r, h2, hy _, fun _ => hy⟩
  · rename_i hpo
    obtain ⟨ys, h1, h2⟩ := dr_bind h
    obtain ⟨y, s2⟩ := ys
    simp only at h2
    split at h2
    · rename_i hbel
      cases h2
      have run : ∀ w, SS jx ρ W wr β s.heap w → resE cx.P (OpPost cx jx ρ w [] β s2 a x) ((execOp a.eval o).run cx.P w) := fun w hS =>
        evOp_ok hih hs (s := { s with heap := freeze s.heap }) ⟨hT.of rfl rfl, frozen_ok hS.1 w [], Fr.refl w [], hp, hS.2.2⟩ (dr_pick h1)
      have old : ∀ {w : World} {v : Value} {w' : World}, OpPost cx jx ρ w [] β s2 a x v w' → x.Is ρ β v ∧ Below w.heap.size w w' ∧ pcOk ρ s2.pc := by
        rintro w v w' ⟨β', hb, hR, hx⟩
        have := AV.below_is hbel hx
        obtain ⟨t, rfl⟩ := hb
        rw [← hlen, List.take_left'] at this
        · exact ⟨this, hR.fr.to_below, hR.pc⟩
        · rfl
      obtain ⟨w0, hw0⟩ := hne
      obtain ⟨v, w1, hv⟩ := resE_some (run w0 hw0)
      obtain ⟨h1, h2, h3⟩ := old hv
      refine ⟨h3, v, h1, .inl ⟨hw, fun w hS => resE_mono (fun u w' hu => ?_) (run w hS)⟩, fun h => absurd h hpo⟩
      obtain ⟨g1, g2, _⟩ := old hu
      exact ⟨g1.det h1, g2⟩
    · cases h2

theorem HeapOk.prefix_ok {t : List Blk} (h : HeapOk ρ jx W wr β' (heap ++ t) w) (hb : β <+: β') (hl : β.length = heap.length) {w0 : World} {W0 : World} {wr0 : List Nat} (h0 : HeapOk ρ jx W0 wr0 β heap w0) : HeapOk ρ jx W wr β heap w := by
  refine ⟨hl, fun l b hlb => ?_⟩
  have hlt : l < heap.length := (List.getElem?_eq_some_iff.1 hlb).1
  obtain ⟨p, arr, ty, fr, h1, h2, h3, h4⟩ := h.2 l b (by rw [List.getElem?_append_left hlt]; exact hlb)
  obtain ⟨q, arr0, _, _, k1, _, k3, _⟩ := h0.2 l b hlb
  have hpq := Pl.mono_get hb k1
  rw [h1] at hpq
  cases hpq
  refine ⟨p, arr, ty, fr, k1, h2, fun j x hx => ?_, fun hrw => ?_⟩
  · obtain ⟨v, hv, hi⟩ := h3 j x hx
    obtain ⟨v0, _, hi0⟩ := k3 j x hx
    have := (hi0.mono hb).det hi
    subst this
    exact ⟨v0, hv, hi0⟩
  · obtain ⟨g1, g2, g3, g4⟩ := h4 hrw
    exact ⟨g1, fun l' q hne hq => g2 l' q hne (Pl.mono_get hb hq), g3, g4⟩

theorem level1_op {o : Op} (h : level o = 1) : (∃ t, o = .alloc t) ∨ (∃ t x, o = .box t x) ∨ (∃ t n ps, o = .buildSlice t n ps) := by
  unfold level at h
  split at h <;> simp_all
theorem evOp_level1 {ih : Code → St → Tr (X × St)} {s s2 : St} {o : Oper} {x : AV} (hl : level o.op = 1) (h : (evOp cx ih s o).pick ρ = some (x, s2)) : ∃ b, s2.heap = s.heap ++ [b] := by
  unfold evOp at h
  rcases level1_op hl with ⟨t, hop⟩ | ⟨t, y, hop⟩ | ⟨t, n, ps, hop⟩
  · rw [hop] at h
    obtain ⟨z, _, h⟩ := must_pick h
    cases leaf_eq h; exact ⟨_, rfl⟩
  · rw [hop] at h
    obtain ⟨z, _, h⟩ := must_pick h
    cases leaf_eq h; exact ⟨_, rfl⟩
  · rw [hop] at h
    simp only at h
    split at h
    · obtain ⟨_, _, h⟩ := must_pick h
      obtain ⟨_, _, h⟩ := must_pick h
      obtain ⟨_, _, h⟩ := must_pick h
      split at h
      · obtain ⟨_, _, h⟩ := must_pick h
        cases leaf_eq h; exact ⟨_, rfl⟩
      · simp [Tr.pick] at h
    · simp [Tr.pick] at h

theorem level_le {ops : Array Oper} {l : Array Bool} {i : Nat} (h : calm ops l i = true) (j : Nat) (oj : Oper) (hj : ops[j]? = some oj) (hne : j ≠ i) (hun : l.getD j true = false) (hno : ∀ e ∈ oj.after, Region.binds .any e = true → e.on ≠ i) : level oj.op ≤ 1 := by
  unfold calm at h
  rw [List.all_eq_true] at h
  have hjs : j < ops.size := (Array.getElem?_eq_some_iff.1 hj).1
  have := h j (List.mem_range.2 hjs)
  rw [hun, hj] at this
  simp only [Bool.or_false, Bool.or_eq_true, beq_iff_eq] at this
  rcases this with h | h | h
  · exact absurd h hne
  · rw [Array.any_eq_true] at h
    obtain ⟨k, hk, h⟩ := h
    simp only [Bool.and_eq_true, beq_iff_eq] at h
    exact absurd h.2 (hno _ (Array.getElem_mem hk) h.1)
  · exact Nat.le_of_ble_eq_true h
theorem firstOf_some {p : Nat → Bool} : ∀ {l : List Nat} {i : Nat}, firstOf p l = some i → i ∈ l ∧ p i = true
  | [], i, h => by simp [firstOf] at h
  | j :: l, i, h => by
    simp only [firstOf] at h
    split at h
    · rename_i hp; cases h; exact ⟨by simp, hp⟩
    · obtain ⟨h1, h2⟩ := firstOf_some h; exact ⟨by simp [h1], h2⟩

theorem tb_of {n : Int} : tb n = decide (n ≠ 0) := by unfold tb; split <;> simp [*]

theorem drn_ok {ih : Code → St → Tr (X × St)} (hih : IhOk cx jx ρ ih) (hs : ∀ m ∈ cx.sums, SumOk cx.P jx ρ m) {ops : Array Oper} (hsel : Region.noSelect ops = true) {Q : Exit → Act → World → Prop} {s' : St} :
    ∀ (fuel : Nat) (l : Array Bool) (s : St) (a : Act) (β : Pl), drn cx ih ops fuel l s = .ok s' → Tmps cx ρ β s a → pcOk ρ s.pc → (∃ w, SS jx ρ W wr β s.heap w) →
      (∀ β' a' w', β <+: β' → Rel cx jx ρ W wr β' s' a' w' → Q .normal a' w') → Any cx.P ops Q fuel l a (SS jx ρ W wr β s.heap) := by
  intro fuel
  induction fuel with
  | zero =>
    intro l s a β h hT hp _ hQ
    unfold drn at h
    split at h
    · rename_i hr
      cases h
      exact ⟨by simpa using hr, fun w hw => hQ β a w (List.prefix_refl _) ⟨hT, hw.1, hw.2.1, hp, hw.2.2⟩⟩
    · cases h
  | succ fuel ihf =>
    intro l s a β h hT hp hne hQ
    have hlen : β.length = s.heap.length := by obtain ⟨w, hw⟩ := hne; exact hw.1.1
    unfold drn at h
    split at h
    · rename_i hr
      have hr' : Region.ready .any ops l = [] := by simpa using hr
      cases h
      exact ⟨fun _ w hw => hQ β a w (List.prefix_refl _) ⟨hT, hw.1, hw.2.1, hp, hw.2.2⟩, fun i hi => by rw [hr'] at hi; cases hi⟩
    · rename_i hr
      split at h
      · -- one is taken first
        rename_i i hfirst
        obtain ⟨hmem, htake⟩ := firstOf_some hfirst
        split at h
        · rename_i o ho
          obtain ⟨s1, h1, h2⟩ := dr_bind h
          unfold takeable at htake
          rw [ho] at htake
          simp only [Bool.and_eq_true, Bool.or_eq_true] at htake
          have hl0 : level o.op = 0 := Nat.eq_of_beq_eq_true htake.1.1
          -- what it yields
          have key : ∃ v, YieldsK cx.P ops (SS jx ρ W wr β s.heap) o v a ∧ (pureOp o.op = true → ∀ S, YieldsK cx.P ops S o v a) ∧ Tmps cx ρ β s1 (a.put o.dst v) ∧ pcOk ρ s1.pc ∧ s1.heap = s.heap := by
            have run : Region.wanted o (yielded ops a.tmps) = true → ((evCalm cx ih s o).bind fun r => match St.put { s with pc := r.2 } o.dst r.1 with
                | some s => .ok s
                | none => .bad "put") = .ok s1 → ∃ v, YieldsK cx.P ops (SS jx ρ W wr β s.heap) o v a ∧ (pureOp o.op = true → ∀ S, YieldsK cx.P ops S o v a) ∧ Tmps cx ρ β s1 (a.put o.dst v) ∧ pcOk ρ s1.pc ∧ s1.heap = s.heap := by
              intro hw h
              obtain ⟨⟨x, pc1⟩, hc, h⟩ := dr_bind h
              obtain ⟨hp1, v, hx, hy, hyp⟩ := evCalm_ok hih hs hT hp hlen hw hc hne
              split at h
              · rename_i s2 hput
                cases h
                obtain ⟨e1, e2, _⟩ := put_heap hput
                refine ⟨v, hy, hyp, Tmps.put (s := { s with pc := pc1 }) (hT.of rfl rfl) hx hput, by rw [e2]; exact hp1, e1⟩
              · cases h
            unfold evOne at h1
            simp only [if_true] at h1
            split at h1
            · cases h1
            · rename_i hg
              exact run (guard_ok hT hg) h1
            · rename_i e want hg
              have hgo := guard_ok hT hg
              simp only at hgo
              split at h1
              · cases h1
              · rename_i n hn
                have hen := one_den hp hn
                rw [hen, tb_of] at hgo
                split at h1
                · rename_i hc
                  rw [hc] at hgo
                  exact run hgo h1
                · rename_i hc
                  split at h1
                  · rename_i s2 hput
                    cases h1
                    obtain ⟨e1, e2, _⟩ := put_heap hput
                    have hy : ∀ S, YieldsK cx.P ops S o undef a := fun S => .inr ⟨by rw [hgo]; simpa using hc, rfl⟩
                    exact ⟨undef, hy _, fun _ => hy, hT.put undef_is hput, by rw [e2]; exact hp, e1⟩
                  · cases h1
          obtain ⟨v, hy, hyp, hT1, hp1, hheap⟩ := key
          refine Any.first (v := v) ho hl0 hsel fuel l a _ (Region.free_spec ho htake.1.2) ?_ hmem ?_
          · rcases htake.2 with hpu | hca
            · exact .inl (hyp hpu)
            · exact .inr ⟨hy, level_le hca⟩
          · rw [← hheap]
            exact ihf _ s1 _ β h2 hT1 hp1 (by rw [hheap]; exact hne) hQ
        · cases h
      · -- the only one
        split at h
        · rename_i i hri
          split at h
          · rename_i o ho
            split at h
            · cases h
            · rename_i hlev
              have hl0 : level o.op ≠ 0 := fun e => hlev (by rw [e]; rfl)
              obtain ⟨s1, h1, h2⟩ := dr_bind h
              refine ⟨fun h0 => absurd h0 (by rw [hri]; simp), fun j hj oj hoj => ?_⟩
              have hji : j = i := by rw [hri] at hj; simpa using hj
              subst hji
              rw [ho] at hoj
              cases hoj
              refine ⟨fun hl => absurd hl hl0, fun _ w hw => ?_⟩
              have run : ∀ {s0 : St}, s0.tmps = s.tmps → s0.n = s.n → s0.heap = s.heap → pcOk ρ s0.pc → Region.wanted o (yielded ops a.tmps) = true → ((evOp cx ih s0 o).dr.bind fun r => match r.2.put o.dst r.1 with
                  | some s => .ok s
                  | none => .bad "put") = .ok s1 → Does cx.P ops o a w fun v w' => ∃ S', Closed S' ∧ (level o.op = 1 → ∀ w, S' w → SS jx ρ W wr β s.heap w) ∧ S' w' ∧ Any cx.P ops Q fuel (l.setIfInBounds j true) (a.put o.dst v) S' := by
                intro s0 e1 e2 e3 hp0 hwant h
                obtain ⟨⟨x, s2⟩, hx, h⟩ := dr_bind h
                have hx' := dr_pick (ρ := ρ) hx
                split at h
                · rename_i s3 hput
                  cases h
                  obtain ⟨g1, g2, _⟩ := put_heap hput
                  refine .inl ⟨hwant, resE_mono ?_ (evOp_ok (W := W) (wr := wr) (β := β) (w := w) (a := a) hih hs ⟨hT.of e2 e1, by rw [e3]; exact hw.1, hw.2.1, hp0, hw.2.2⟩ hx')⟩
                  rintro v w' ⟨β', hb, hR, hvi⟩
                  have hR1 := hR.put hvi hput
                  refine ⟨SS jx ρ W wr β' s1.heap, SS.closed, fun hl1 w2 hw2 => ?_, ⟨hR1.heap, hR1.fr, hR1.j⟩, ihf _ s1 _ β' h2 hR1.tm hR1.pc ⟨w', hR1.heap, hR1.fr, hR1.j⟩ fun β'' a' w2 hb2 hR2 => hQ β'' a' w2 (hb.trans hb2) hR2⟩
                  obtain ⟨b, hbk⟩ := evOp_level1 hl1 hx'
                  have hh := hw2.1
                  rw [g1, hbk, e3] at hh
                  exact ⟨hh.prefix_ok hb hlen hw.1, hw2.2⟩
                · cases h
              unfold evOne at h1
              simp only [Bool.false_eq_true, if_false] at h1
              split at h1
              · cases h1
              · rename_i hg
                exact run rfl rfl rfl hp (guard_ok hT hg) h1
              · rename_i e want hg
                have hgo := guard_ok hT hg
                simp only at hgo
                split at h1
                · cases h1
                · rename_i n hn
                  have hen := one_den hp hn
                  rw [hen, tb_of] at hgo
                  split at h1
                  · rename_i hc
                    rw [hc] at hgo
                    exact run rfl rfl rfl hp hgo h1
                  · rename_i hc
                    split at h1
                    · rename_i s2 hput
                      cases h1
                      obtain ⟨e1, e2, _⟩ := put_heap hput
                      refine .inr ⟨by rw [hgo]; simpa using hc, SS jx ρ W wr β s.heap, SS.closed, fun _ _ h => h, hw, ?_⟩
                      rw [← e1]
                      exact ihf _ s1 _ β h2 (hT.put undef_is hput) (by rw [e2]; exact hp) (by rw [e1]; exact hne) hQ
                    · cases h1
          · cases h
        · cases h

theorem drew_below (w : World) : Below w.heap.size w { w with drawn := w.drawn + 1 } := ⟨rfl, rfl, rfl, Nat.le_refl _, fun _ _ => rfl⟩
theorem evDrawn_ok {ih : Code → St → Tr (X × St)} (hO : CxOk cx) (hih : IhOk cx jx ρ ih) (hs : ∀ m ∈ cx.sums, SumOk cx.P jx ρ m) {ops : Array Oper} {id : Nat} {Q : Exit → Act → World → Prop} {x : X} {s' : St} :
    ∀ (fuel : Nat) {s : St} {a : Act} {β : Pl} {w : World}, (evDrawn cx ih ops fuel s).pick ρ = some (x, s') → Rel cx jx ρ W wr β s a w →
      (∀ β' a' w', β <+: β' → Rel cx jx ρ W wr β' s' a' w' → QX Q x a' w') → (Code.region id ops true).wp cx.P Q a w
  | 0, s, a, β, w, h, _, _ => by simp [evDrawn, Tr.pick] at h
  | fuel + 1, s, a, β, w, h, hR, hQ => by
    unfold evDrawn at h
    split at h
    · simp [Tr.pick] at h
    · rename_i hsel
      have hsel' : Region.noSelect ops = true := by simpa using hsel
      split at h
      · rename_i s1 hd
        cases leaf_eq h
        have hSS : SS jx ρ W wr β s.heap { w with drawn := w.drawn + 1 } := SS.closed w _ ⟨hR.heap, hR.fr, hR.j⟩ (drew_below w)
        have hA := drn_ok (W := W) (wr := wr) hih hs hsel' ops.size _ s a β hd hR.tm hR.pc ⟨_, hSS⟩ hQ
        exact wp_region_any hO.mix (Any.sound _ _ _ _ _ SS.closed hA hSS)
      · simp [Tr.pick] at h
      · obtain ⟨v, pc1, _, hp1, h⟩ := branch_pick hR.pc h
        exact evDrawn_ok hO hih hs fuel h (hR.pcs hp1) hQ

/-! ### code -/
theorem evLoop_ok {ih : Code → St → Tr (X × St)} (hih : IhOk cx jx ρ ih) {c : Code} {Q : Exit → Act → World → Prop} {x : X} {s' : St} :
    ∀ (n : Nat) {s : St} {a : Act} {β : Pl} {w : World}, (evLoop ih c n s).pick ρ = some (x, s') → Rel cx jx ρ W wr β s a w →
      (∀ β' a' w', β <+: β' → Rel cx jx ρ W wr β' s' a' w' → QX Q x a' w') → Code.rounds cx.P c Q n a w
  | 0, s, a, β, w, h, _, _ => by simp [evLoop, Tr.pick] at h
  | n + 1, s, a, β, w, h, hR, hQ => by
    simp only [evLoop] at h
    obtain ⟨⟨y, s1⟩, h1, h2⟩ := Tr.pick_bind_some h
    rw [rounds_succ]
    refine hih W wr β s a w c _ y s1 h1 hR fun β' a' w' hb hR' => ?_
    cases y with
    | nml => exact evLoop_ok hih n h2 hR' fun β'' a'' w'' hb' hR'' => hQ β'' a'' w'' (hb.trans hb') hR''
    | exit id => cases leaf_eq h2; exact hQ β' a' w' hb hR'
    | ret => cases leaf_eq h2; exact hQ β' a' w' hb hR'

theorem step_ok {ih : Code → St → Tr (X × St)} (hO : CxOk cx) (hih : IhOk cx jx ρ ih) (hs : ∀ m ∈ cx.sums, SumOk cx.P jx ρ m) : IhOk cx jx ρ (step cx ih) := by
  intro W wr β s a w c Q x s' h hR hQ
  unfold step at h
  split at h
  · cases leaf_eq h; exact wp_skip (hQ β a w (List.prefix_refl _) hR)
  · cases leaf_eq h; exact wp_label (hQ β a w (List.prefix_refl _) hR)
  · cases leaf_eq h; exact wp_ret (hQ β a w (List.prefix_refl _) hR)
  · cases leaf_eq h; exact wp_exit (hQ β a w (List.prefix_refl _) hR)
  · rename_i c1 c2
    obtain ⟨⟨y, s1⟩, h1, h2⟩ := Tr.pick_bind_some h
    refine wp_seq (hih W wr β s a w c1 _ y s1 h1 hR fun β' a' w' hb hR' => ?_)
    cases y with
    | nml => exact hih W wr β' s1 a' w' c2 Q x s' h2 hR' fun β'' a'' w'' hb' hR'' => hQ β'' a'' w'' (hb.trans hb') hR''
    | exit id => cases leaf_eq h2; exact hQ β' a' w' hb hR'
    | ret => cases leaf_eq h2; exact hQ β' a' w' hb hR'
  · rename_i cd c1 c2
    split at h
    · rename_i e he
      have hi := hR.tm.ev he
      simp only [AV.Is, A1.Is, AT.Is] at hi
      obtain ⟨v, pc1, hv, hp1, h⟩ := branch_pick hR.pc h
      have htb : tb (e.den ρ) = v := by
        cases v with
        | true => exact tb_one (hv.2 rfl)
        | false => exact tb_zero (by simpa using hv)
      rw [htb] at hi
      exact wp_cond hi (hih W wr β _ a w _ Q x s' h (hR.pcs hp1) hQ)
    · simp [Tr.pick] at h
  · rename_i id c1
    obtain ⟨⟨y, s1⟩, h1, h2⟩ := Tr.pick_bind_some h
    refine wp_block (hih W wr β s a w c1 _ y s1 h1 hR fun β' a' w' hb hR' => ?_)
    cases y with
    | nml => cases leaf_eq h2; exact hQ β' a' w' hb hR'
    | exit j =>
      cases leaf_eq h2
      have := hQ β' a' w' hb hR'
      show Exit.inBlock id Q (.exit j) a' w'
      simp only [Exit.inBlock]
      by_cases hj : j = id
      · subst hj; rw [if_pos rfl]; simpa [Nat.beq_refl, QX] using this
      · have hb' : Nat.beq j id = false := by rw [Bool.eq_false_iff]; exact fun e => hj (Nat.eq_of_beq_eq_true e)
        rw [if_neg hj]; simpa [hb', QX] using this
    | ret => cases leaf_eq h2; exact hQ β' a' w' hb hR'
  · exact wp_loop_rounds _ (evLoop_ok hih _ h hR hQ)
  · rename_i id ops draw
    cases draw with
    | true => exact evDrawn_ok hO hih hs _ h hR hQ
    | false => exact wp_region_list (evOps_ok hih hs _ h hR hQ)
  · simp [Tr.pick] at h

end

theorem all_cons {α : Type} {Q : α → Prop} {a : α} {l : List α} (h : Q a) (t : ∀ x ∈ l, Q x) : ∀ x ∈ a :: l, Q x := fun x hx => by
  rcases List.mem_cons.1 hx with rfl | hx
  · exact h
  · exact t x hx
theorem all_nil {α : Type} {Q : α → Prop} : ∀ x ∈ ([] : List α), Q x := fun x hx => by cases hx

end Go.Proofs.YtnbngokbamifbaaGreatDoor.Ev

/- The types and the functions that the evaluator asks for. Written by a program (mkcx.py) off the given program. -/
namespace Go.Proofs.YtnbngokbamifbaaGreatDoor.Ev
open Go

noncomputable def tt : List (Nat × TI) := [(3, ⟨Tryz.t3.desc, Tryz.t3.size, Tryz.t3.zero⟩),
  (76, ⟨Tryz.t75.desc, Tryz.t76.size, Tryz.t76.zero⟩),
  (39, ⟨Tryz.t39.desc, Tryz.t39.size, Tryz.t39.zero⟩),
  (135, ⟨Tryz.t134.desc, Tryz.t135.size, Tryz.t135.zero⟩),
  (92, ⟨Tryz.t91.desc, Tryz.t92.size, Tryz.t92.zero⟩),
  (74, ⟨Tryz.t3.desc, Tryz.t74.size, Tryz.t74.zero⟩),
  (166, ⟨Tryz.t166.desc, Tryz.t166.size, Tryz.t166.zero⟩),
  (216, ⟨Tryz.t3.desc, Tryz.t216.size, Tryz.t216.zero⟩),
  (85, ⟨Tryz.t84.desc, Tryz.t85.size, Tryz.t85.zero⟩),
  (214, ⟨Tryz.t213.desc, Tryz.t214.size, Tryz.t214.zero⟩),
  (42, ⟨Tryz.t41.desc, Tryz.t42.size, Tryz.t42.zero⟩),
  (45, ⟨Tryz.t41.desc, Tryz.t45.size, Tryz.t45.zero⟩),
  (125, ⟨Tryz.t124.desc, Tryz.t125.size, Tryz.t125.zero⟩),
  (52, ⟨Tryz.t51.desc, Tryz.t52.size, Tryz.t52.zero⟩),
  (27, ⟨Tryz.t27.desc, Tryz.t27.size, Tryz.t27.zero⟩),
  (94, ⟨Tryz.t93.desc, Tryz.t94.size, Tryz.t94.zero⟩),
  (28, ⟨Tryz.t28.desc, Tryz.t28.size, Tryz.t28.zero⟩),
  (163, ⟨Tryz.t163.desc, Tryz.t163.size, Tryz.t163.zero⟩),
  (40, ⟨Tryz.t40.desc, Tryz.t40.size, Tryz.t40.zero⟩),
  (50, ⟨Tryz.t49.desc, Tryz.t50.size, Tryz.t50.zero⟩),
  (22, ⟨Tryz.t22.desc, Tryz.t22.size, Tryz.t22.zero⟩),
  (58, ⟨Tryz.t57.desc, Tryz.t58.size, Tryz.t58.zero⟩),
  (4, ⟨Tryz.t4.desc, Tryz.t4.size, Tryz.t4.zero⟩),
  (24, ⟨Tryz.t24.desc, Tryz.t24.size, Tryz.t24.zero⟩),
  (196, ⟨Tryz.t196.desc, Tryz.t196.size, Tryz.t196.zero⟩),
  (100, ⟨Tryz.t99.desc, Tryz.t100.size, Tryz.t100.zero⟩),
  (31, ⟨Tryz.t3.desc, Tryz.t31.size, Tryz.t31.zero⟩),
  (120, ⟨Tryz.t119.desc, Tryz.t120.size, Tryz.t120.zero⟩),
  (212, ⟨Tryz.t211.desc, Tryz.t212.size, Tryz.t212.zero⟩),
  (5, ⟨Tryz.t5.desc, Tryz.t5.size, Tryz.t5.zero⟩),
  (64, ⟨Tryz.t63.desc, Tryz.t64.size, Tryz.t64.zero⟩),
  (118, ⟨Tryz.t117.desc, Tryz.t118.size, Tryz.t118.zero⟩),
  (30, ⟨Tryz.t29.desc, Tryz.t30.size, Tryz.t30.zero⟩),
  (47, ⟨Tryz.t47.desc, Tryz.t47.size, Tryz.t47.zero⟩),
  (48, ⟨Tryz.t48.desc, Tryz.t48.size, Tryz.t48.zero⟩),
  (227, ⟨Tryz.t227.desc, Tryz.t227.size, Tryz.t227.zero⟩),
  (69, ⟨Tryz.t57.desc, Tryz.t69.size, Tryz.t69.zero⟩),
  (46, ⟨Tryz.t46.desc, Tryz.t46.size, Tryz.t46.zero⟩),
  (34, ⟨Tryz.t34.desc, Tryz.t34.size, Tryz.t34.zero⟩),
  (78, ⟨Tryz.t78.desc, Tryz.t78.size, Tryz.t78.zero⟩),
  (77, ⟨Tryz.t77.desc, Tryz.t77.size, Tryz.t77.zero⟩),
  (147, ⟨Tryz.t146.desc, Tryz.t147.size, Tryz.t147.zero⟩),
  (9, ⟨Tryz.t9.desc, Tryz.t9.size, Tryz.t9.zero⟩),
  (104, ⟨Tryz.t104.desc, Tryz.t104.size, Tryz.t104.zero⟩),
  (150, ⟨Tryz.t149.desc, Tryz.t150.size, Tryz.t150.zero⟩),
  (210, ⟨Tryz.t3.desc, Tryz.t210.size, Tryz.t210.zero⟩),
  (2, ⟨Tryz.t2.desc, Tryz.t2.size, Tryz.t2.zero⟩),
  (221, ⟨Tryz.t221.desc, Tryz.t221.size, Tryz.t221.zero⟩),
  (225, ⟨Tryz.t225.desc, Tryz.t225.size, Tryz.t225.zero⟩),
  (242, ⟨Tryz.t242.desc, Tryz.t242.size, Tryz.t242.zero⟩),
  (180, ⟨Tryz.t180.desc, Tryz.t180.size, Tryz.t180.zero⟩),
  (249, ⟨Tryz.t249.desc, Tryz.t249.size, Tryz.t249.zero⟩),
  (195, ⟨Tryz.t195.desc, Tryz.t195.size, Tryz.t195.zero⟩),
  (110, ⟨Tryz.t110.desc, Tryz.t110.size, Tryz.t110.zero⟩),
  (223, ⟨Tryz.t223.desc, Tryz.t223.size, Tryz.t223.zero⟩),
  (98, ⟨Tryz.t98.desc, Tryz.t98.size, Tryz.t98.zero⟩),
  (237, ⟨Tryz.t237.desc, Tryz.t237.size, Tryz.t237.zero⟩)]
noncomputable def fns : List (Nat × Func) := [(3, Tryz.f3),
  (8, Tryz.f8),
  (32, Tryz.f32),
  (33, Tryz.f33),
  (34, Tryz.f34),
  (10, Tryz.f10),
  (37, Tryz.f37),
  (70, Tryz.f70),
  (99, Tryz.f99),
  (131, Tryz.f131),
  (149, Tryz.f149),
  (148, Tryz.f148),
  (188, Tryz.f188),
  (150, Tryz.f150),
  (189, Tryz.f189),
  (151, Tryz.f151),
  (152, Tryz.f152),
  (153, Tryz.f153),
  (154, Tryz.f154),
  (190, Tryz.f190),
  (155, Tryz.f155),
  (181, Tryz.f181),
  (183, Tryz.f183),
  (209, Tryz.f209),
  (124, Tryz.f124),
  (125, Tryz.f125),
  (126, Tryz.f126),
  (38, Tryz.f38),
  (71, Tryz.f71),
  (54, Tryz.f54),
  (88, Tryz.f88),
  (85, Tryz.f85),
  (39, Tryz.f39),
  (72, Tryz.f72),
  (127, Tryz.f127),
  (40, Tryz.f40),
  (73, Tryz.f73),
  (128, Tryz.f128),
  (48, Tryz.f48),
  (84, Tryz.f84),
  (123, Tryz.f123),
  (120, Tryz.f120),
  (166, Tryz.f166),
  (177, Tryz.f177),
  (197, Tryz.f197),
  (198, Tryz.f198),
  (195, Tryz.f195),
  (199, Tryz.f199),
  (200, Tryz.f200),
  (196, Tryz.f196),
  (178, Tryz.f178),
  (201, Tryz.f201),
  (35, Tryz.f35),
  (67, Tryz.f67),
  (68, Tryz.f68),
  (69, Tryz.f69),
  (121, Tryz.f121),
  (167, Tryz.f167),
  (168, Tryz.f168),
  (169, Tryz.f169),
  (170, Tryz.f170),
  (122, Tryz.f122),
  (171, Tryz.f171),
  (172, Tryz.f172),
  (173, Tryz.f173),
  (174, Tryz.f174),
  (175, Tryz.f175),
  (176, Tryz.f176),
  (9, Tryz.f9),
  (36, Tryz.f36),
  (11, Tryz.f11),
  (41, Tryz.f41),
  (74, Tryz.f74),
  (129, Tryz.f129),
  (59, Tryz.f59),
  (179, Tryz.f179),
  (202, Tryz.f202),
  (203, Tryz.f203),
  (204, Tryz.f204),
  (180, Tryz.f180),
  (205, Tryz.f205),
  (206, Tryz.f206),
  (192, Tryz.f192),
  (193, Tryz.f193),
  (211, Tryz.f211),
  (210, Tryz.f210),
  (207, Tryz.f207),
  (208, Tryz.f208),
  (130, Tryz.f130),
  (75, Tryz.f75),
  (42, Tryz.f42),
  (76, Tryz.f76),
  (44, Tryz.f44),
  (43, Tryz.f43),
  (45, Tryz.f45),
  (77, Tryz.f77),
  (12, Tryz.f12),
  (46, Tryz.f46),
  (78, Tryz.f78),
  (83, Tryz.f83),
  (79, Tryz.f79),
  (80, Tryz.f80),
  (81, Tryz.f81),
  (82, Tryz.f82),
  (4, Tryz.f4),
  (13, Tryz.f13),
  (16, Tryz.f16),
  (49, Tryz.f49),
  (86, Tryz.f86),
  (50, Tryz.f50),
  (51, Tryz.f51),
  (17, Tryz.f17),
  (18, Tryz.f18),
  (20, Tryz.f20),
  (52, Tryz.f52),
  (87, Tryz.f87),
  (65, Tryz.f65),
  (53, Tryz.f53),
  (55, Tryz.f55),
  (89, Tryz.f89),
  (132, Tryz.f132),
  (90, Tryz.f90),
  (30, Tryz.f30),
  (133, Tryz.f133),
  (118, Tryz.f118),
  (134, Tryz.f134),
  (91, Tryz.f91),
  (135, Tryz.f135),
  (92, Tryz.f92),
  (136, Tryz.f136),
  (93, Tryz.f93),
  (137, Tryz.f137),
  (138, Tryz.f138),
  (182, Tryz.f182),
  (139, Tryz.f139),
  (145, Tryz.f145),
  (186, Tryz.f186),
  (184, Tryz.f184),
  (143, Tryz.f143),
  (94, Tryz.f94),
  (140, Tryz.f140),
  (95, Tryz.f95),
  (141, Tryz.f141),
  (96, Tryz.f96),
  (142, Tryz.f142),
  (185, Tryz.f185),
  (144, Tryz.f144),
  (146, Tryz.f146),
  (187, Tryz.f187),
  (97, Tryz.f97),
  (147, Tryz.f147),
  (98, Tryz.f98),
  (14, Tryz.f14),
  (56, Tryz.f56),
  (100, Tryz.f100),
  (101, Tryz.f101),
  (156, Tryz.f156),
  (57, Tryz.f57),
  (102, Tryz.f102),
  (104, Tryz.f104),
  (103, Tryz.f103),
  (47, Tryz.f47),
  (22, Tryz.f22),
  (21, Tryz.f21),
  (23, Tryz.f23),
  (15, Tryz.f15),
  (5, Tryz.f5),
  (19, Tryz.f19),
  (24, Tryz.f24),
  (6, Tryz.f6),
  (25, Tryz.f25),
  (26, Tryz.f26),
  (58, Tryz.f58),
  (105, Tryz.f105),
  (119, Tryz.f119),
  (106, Tryz.f106),
  (157, Tryz.f157),
  (191, Tryz.f191),
  (60, Tryz.f60),
  (107, Tryz.f107),
  (158, Tryz.f158),
  (108, Tryz.f108),
  (31, Tryz.f31),
  (66, Tryz.f66),
  (64, Tryz.f64),
  (109, Tryz.f109),
  (159, Tryz.f159),
  (110, Tryz.f110),
  (111, Tryz.f111),
  (160, Tryz.f160),
  (161, Tryz.f161),
  (194, Tryz.f194),
  (212, Tryz.f212),
  (213, Tryz.f213),
  (162, Tryz.f162),
  (163, Tryz.f163),
  (112, Tryz.f112),
  (164, Tryz.f164),
  (113, Tryz.f113),
  (165, Tryz.f165),
  (114, Tryz.f114),
  (115, Tryz.f115),
  (61, Tryz.f61),
  (116, Tryz.f116),
  (62, Tryz.f62),
  (27, Tryz.f27),
  (28, Tryz.f28),
  (29, Tryz.f29),
  (63, Tryz.f63),
  (117, Tryz.f117),
  (7, Tryz.f7)]
theorem tt_und : ∀ p ∈ tt, Tryz.prog.underlying p.1 = some p.2.desc :=
  all_cons (by kernel_rfl) <|
  all_cons (by kernel_rfl) <|
  all_cons (by kernel_rfl) <|
  all_cons (by kernel_rfl) <|
  all_cons (by kernel_rfl) <|
  all_cons (by kernel_rfl) <|
  all_cons (by kernel_rfl) <|
  all_cons (by kernel_rfl) <|
  all_cons (by kernel_rfl) <|
  all_cons (by kernel_rfl) <|
  all_cons (by kernel_rfl) <|
  all_cons (by kernel_rfl) <|
  all_cons (by kernel_rfl) <|
  all_cons (by kernel_rfl) <|
  all_cons (by kernel_rfl) <|
  all_cons (by kernel_rfl) <|
  all_cons (by kernel_rfl) <|
  all_cons (by kernel_rfl) <|
  all_cons (by kernel_rfl) <|
  all_cons (by kernel_rfl) <|
  all_cons (by kernel_rfl) <|
  all_cons (by kernel_rfl) <|
  all_cons (by kernel_rfl) <|
  all_cons (by kernel_rfl) <|
  all_cons (by kernel_rfl) <|
  all_cons (by kernel_rfl) <|
  all_cons (by kernel_rfl) <|
  all_cons (by kernel_rfl) <|
  all_cons (by kernel_rfl) <|
  all_cons (by kernel_rfl) <|
  all_cons (by kernel_rfl) <|
  all_cons (by kernel_rfl) <|
  all_cons (by kernel_rfl) <|
  all_cons (by kernel_rfl) <|
  all_cons (by kernel_rfl) <|
  all_cons (by kernel_rfl) <|
  all_cons (by kernel_rfl) <|
  all_cons (by kernel_rfl) <|
  all_cons (by kernel_rfl) <|
  all_cons (by kernel_rfl) <|
  all_cons (by kernel_rfl) <|
  all_cons (by kernel_rfl) <|
  all_cons (by kernel_rfl) <|
  all_cons (by kernel_rfl) <|
  all_cons (by kernel_rfl) <|
  all_cons (by kernel_rfl) <|
  all_cons (by kernel_rfl) <|
  all_cons (by kernel_rfl) <|
  all_cons (by kernel_rfl) <|
  all_cons (by kernel_rfl) <|
  all_cons (by kernel_rfl) <|
  all_cons (by kernel_rfl) <|
  all_cons (by kernel_rfl) <|
  all_cons (by kernel_rfl) <|
  all_cons (by kernel_rfl) <|
  all_cons (by kernel_rfl) <|
  all_cons (by kernel_rfl) <| all_nil
theorem tt_inf : ∀ p ∈ tt, ∃ i, Tryz.prog.info? p.1 = some i ∧ i.size = p.2.size ∧ i.zero = p.2.zero :=
  all_cons ⟨Tryz.t3, by kernel_rfl, rfl, rfl⟩ <|
  all_cons ⟨Tryz.t76, by kernel_rfl, rfl, rfl⟩ <|
  all_cons ⟨Tryz.t39, by kernel_rfl, rfl, rfl⟩ <|
  all_cons ⟨Tryz.t135, by kernel_rfl, rfl, rfl⟩ <|
  all_cons ⟨Tryz.t92, by kernel_rfl, rfl, rfl⟩ <|
  all_cons ⟨Tryz.t74, by kernel_rfl, rfl, rfl⟩ <|
  all_cons ⟨Tryz.t166, by kernel_rfl, rfl, rfl⟩ <|
  all_cons ⟨Tryz.t216, by kernel_rfl, rfl, rfl⟩ <|
  all_cons ⟨Tryz.t85, by kernel_rfl, rfl, rfl⟩ <|
  all_cons ⟨Tryz.t214, by kernel_rfl, rfl, rfl⟩ <|
  all_cons ⟨Tryz.t42, by kernel_rfl, rfl, rfl⟩ <|
  all_cons ⟨Tryz.t45, by kernel_rfl, rfl, rfl⟩ <|
  all_cons ⟨Tryz.t125, by kernel_rfl, rfl, rfl⟩ <|
  all_cons ⟨Tryz.t52, by kernel_rfl, rfl, rfl⟩ <|
  all_cons ⟨Tryz.t27, by kernel_rfl, rfl, rfl⟩ <|
  all_cons ⟨Tryz.t94, by kernel_rfl, rfl, rfl⟩ <|
  all_cons ⟨Tryz.t28, by kernel_rfl, rfl, rfl⟩ <|
  all_cons ⟨Tryz.t163, by kernel_rfl, rfl, rfl⟩ <|
  all_cons ⟨Tryz.t40, by kernel_rfl, rfl, rfl⟩ <|
  all_cons ⟨Tryz.t50, by kernel_rfl, rfl, rfl⟩ <|
  all_cons ⟨Tryz.t22, by kernel_rfl, rfl, rfl⟩ <|
  all_cons ⟨Tryz.t58, by kernel_rfl, rfl, rfl⟩ <|
  all_cons ⟨Tryz.t4, by kernel_rfl, rfl, rfl⟩ <|
  all_cons ⟨Tryz.t24, by kernel_rfl, rfl, rfl⟩ <|
  all_cons ⟨Tryz.t196, by kernel_rfl, rfl, rfl⟩ <|
  all_cons ⟨Tryz.t100, by kernel_rfl, rfl, rfl⟩ <|
  all_cons ⟨Tryz.t31, by kernel_rfl, rfl, rfl⟩ <|
  all_cons ⟨Tryz.t120, by kernel_rfl, rfl, rfl⟩ <|
  all_cons ⟨Tryz.t212, by kernel_rfl, rfl, rfl⟩ <|
  all_cons ⟨Tryz.t5, by kernel_rfl, rfl, rfl⟩ <|
  all_cons ⟨Tryz.t64, by kernel_rfl, rfl, rfl⟩ <|
  all_cons ⟨Tryz.t118, by kernel_rfl, rfl, rfl⟩ <|
  all_cons ⟨Tryz.t30, by kernel_rfl, rfl, rfl⟩ <|
  all_cons ⟨Tryz.t47, by kernel_rfl, rfl, rfl⟩ <|
  all_cons ⟨Tryz.t48, by kernel_rfl, rfl, rfl⟩ <|
  all_cons ⟨Tryz.t227, by kernel_rfl, rfl, rfl⟩ <|
  all_cons ⟨Tryz.t69, by kernel_rfl, rfl, rfl⟩ <|
  all_cons ⟨Tryz.t46, by kernel_rfl, rfl, rfl⟩ <|
  all_cons ⟨Tryz.t34, by kernel_rfl, rfl, rfl⟩ <|
  all_cons ⟨Tryz.t78, by kernel_rfl, rfl, rfl⟩ <|
  all_cons ⟨Tryz.t77, by kernel_rfl, rfl, rfl⟩ <|
  all_cons ⟨Tryz.t147, by kernel_rfl, rfl, rfl⟩ <|
  all_cons ⟨Tryz.t9, by kernel_rfl, rfl, rfl⟩ <|
  all_cons ⟨Tryz.t104, by kernel_rfl, rfl, rfl⟩ <|
  all_cons ⟨Tryz.t150, by kernel_rfl, rfl, rfl⟩ <|
  all_cons ⟨Tryz.t210, by kernel_rfl, rfl, rfl⟩ <|
  all_cons ⟨Tryz.t2, by kernel_rfl, rfl, rfl⟩ <|
  all_cons ⟨Tryz.t221, by kernel_rfl, rfl, rfl⟩ <|
  all_cons ⟨Tryz.t225, by kernel_rfl, rfl, rfl⟩ <|
  all_cons ⟨Tryz.t242, by kernel_rfl, rfl, rfl⟩ <|
  all_cons ⟨Tryz.t180, by kernel_rfl, rfl, rfl⟩ <|
  all_cons ⟨Tryz.t249, by kernel_rfl, rfl, rfl⟩ <|
  all_cons ⟨Tryz.t195, by kernel_rfl, rfl, rfl⟩ <|
  all_cons ⟨Tryz.t110, by kernel_rfl, rfl, rfl⟩ <|
  all_cons ⟨Tryz.t223, by kernel_rfl, rfl, rfl⟩ <|
  all_cons ⟨Tryz.t98, by kernel_rfl, rfl, rfl⟩ <|
  all_cons ⟨Tryz.t237, by kernel_rfl, rfl, rfl⟩ <| all_nil
theorem fns_ok : ∀ p ∈ fns, Tryz.prog.funcs[p.1]? = some p.2 :=
  all_cons Tryz.func3 <|
  all_cons Tryz.func8 <|
  all_cons Tryz.func32 <|
  all_cons Tryz.func33 <|
  all_cons Tryz.func34 <|
  all_cons Tryz.func10 <|
  all_cons Tryz.func37 <|
  all_cons Tryz.func70 <|
  all_cons Tryz.func99 <|
  all_cons Tryz.func131 <|
  all_cons Tryz.func149 <|
  all_cons Tryz.func148 <|
  all_cons Tryz.func188 <|
  all_cons Tryz.func150 <|
  all_cons Tryz.func189 <|
  all_cons Tryz.func151 <|
  all_cons Tryz.func152 <|
  all_cons Tryz.func153 <|
  all_cons Tryz.func154 <|
  all_cons Tryz.func190 <|
  all_cons Tryz.func155 <|
  all_cons Tryz.func181 <|
  all_cons Tryz.func183 <|
  all_cons Tryz.func209 <|
  all_cons Tryz.func124 <|
  all_cons Tryz.func125 <|
  all_cons Tryz.func126 <|
  all_cons Tryz.func38 <|
  all_cons Tryz.func71 <|
  all_cons Tryz.func54 <|
  all_cons Tryz.func88 <|
  all_cons Tryz.func85 <|
  all_cons Tryz.func39 <|
  all_cons Tryz.func72 <|
  all_cons Tryz.func127 <|
  all_cons Tryz.func40 <|
  all_cons Tryz.func73 <|
  all_cons Tryz.func128 <|
  all_cons Tryz.func48 <|
  all_cons Tryz.func84 <|
  all_cons Tryz.func123 <|
  all_cons Tryz.func120 <|
  all_cons Tryz.func166 <|
  all_cons Tryz.func177 <|
  all_cons Tryz.func197 <|
  all_cons Tryz.func198 <|
  all_cons Tryz.func195 <|
  all_cons Tryz.func199 <|
  all_cons Tryz.func200 <|
  all_cons Tryz.func196 <|
  all_cons Tryz.func178 <|
  all_cons Tryz.func201 <|
  all_cons Tryz.func35 <|
  all_cons Tryz.func67 <|
  all_cons Tryz.func68 <|
  all_cons Tryz.func69 <|
  all_cons Tryz.func121 <|
  all_cons Tryz.func167 <|
  all_cons Tryz.func168 <|
  all_cons Tryz.func169 <|
  all_cons Tryz.func170 <|
  all_cons Tryz.func122 <|
  all_cons Tryz.func171 <|
  all_cons Tryz.func172 <|
  all_cons Tryz.func173 <|
  all_cons Tryz.func174 <|
  all_cons Tryz.func175 <|
  all_cons Tryz.func176 <|
  all_cons Tryz.func9 <|
  all_cons Tryz.func36 <|
  all_cons Tryz.func11 <|
  all_cons Tryz.func41 <|
  all_cons Tryz.func74 <|
  all_cons Tryz.func129 <|
  all_cons Tryz.func59 <|
  all_cons Tryz.func179 <|
  all_cons Tryz.func202 <|
  all_cons Tryz.func203 <|
  all_cons Tryz.func204 <|
  all_cons Tryz.func180 <|
  all_cons Tryz.func205 <|
  all_cons Tryz.func206 <|
  all_cons Tryz.func192 <|
  all_cons Tryz.func193 <|
  all_cons Tryz.func211 <|
  all_cons Tryz.func210 <|
  all_cons Tryz.func207 <|
  all_cons Tryz.func208 <|
  all_cons Tryz.func130 <|
  all_cons Tryz.func75 <|
  all_cons Tryz.func42 <|
  all_cons Tryz.func76 <|
  all_cons Tryz.func44 <|
  all_cons Tryz.func43 <|
  all_cons Tryz.func45 <|
  all_cons Tryz.func77 <|
  all_cons Tryz.func12 <|
  all_cons Tryz.func46 <|
  all_cons Tryz.func78 <|
  all_cons Tryz.func83 <|
  all_cons Tryz.func79 <|
  all_cons Tryz.func80 <|
  all_cons Tryz.func81 <|
  all_cons Tryz.func82 <|
  all_cons Tryz.func4 <|
  all_cons Tryz.func13 <|
  all_cons Tryz.func16 <|
  all_cons Tryz.func49 <|
  all_cons Tryz.func86 <|
  all_cons Tryz.func50 <|
  all_cons Tryz.func51 <|
  all_cons Tryz.func17 <|
  all_cons Tryz.func18 <|
  all_cons Tryz.func20 <|
  all_cons Tryz.func52 <|
  all_cons Tryz.func87 <|
  all_cons Tryz.func65 <|
  all_cons Tryz.func53 <|
  all_cons Tryz.func55 <|
  all_cons Tryz.func89 <|
  all_cons Tryz.func132 <|
  all_cons Tryz.func90 <|
  all_cons Tryz.func30 <|
  all_cons Tryz.func133 <|
  all_cons Tryz.func118 <|
  all_cons Tryz.func134 <|
  all_cons Tryz.func91 <|
  all_cons Tryz.func135 <|
  all_cons Tryz.func92 <|
  all_cons Tryz.func136 <|
  all_cons Tryz.func93 <|
  all_cons Tryz.func137 <|
  all_cons Tryz.func138 <|
  all_cons Tryz.func182 <|
  all_cons Tryz.func139 <|
  all_cons Tryz.func145 <|
  all_cons Tryz.func186 <|
  all_cons Tryz.func184 <|
  all_cons Tryz.func143 <|
  all_cons Tryz.func94 <|
  all_cons Tryz.func140 <|
  all_cons Tryz.func95 <|
  all_cons Tryz.func141 <|
  all_cons Tryz.func96 <|
  all_cons Tryz.func142 <|
  all_cons Tryz.func185 <|
  all_cons Tryz.func144 <|
  all_cons Tryz.func146 <|
  all_cons Tryz.func187 <|
  all_cons Tryz.func97 <|
  all_cons Tryz.func147 <|
  all_cons Tryz.func98 <|
  all_cons Tryz.func14 <|
  all_cons Tryz.func56 <|
  all_cons Tryz.func100 <|
  all_cons Tryz.func101 <|
  all_cons Tryz.func156 <|
  all_cons Tryz.func57 <|
  all_cons Tryz.func102 <|
  all_cons Tryz.func104 <|
  all_cons Tryz.func103 <|
  all_cons Tryz.func47 <|
  all_cons Tryz.func22 <|
  all_cons Tryz.func21 <|
  all_cons Tryz.func23 <|
  all_cons Tryz.func15 <|
  all_cons Tryz.func5 <|
  all_cons Tryz.func19 <|
  all_cons Tryz.func24 <|
  all_cons Tryz.func6 <|
  all_cons Tryz.func25 <|
  all_cons Tryz.func26 <|
  all_cons Tryz.func58 <|
  all_cons Tryz.func105 <|
  all_cons Tryz.func119 <|
  all_cons Tryz.func106 <|
  all_cons Tryz.func157 <|
  all_cons Tryz.func191 <|
  all_cons Tryz.func60 <|
  all_cons Tryz.func107 <|
  all_cons Tryz.func158 <|
  all_cons Tryz.func108 <|
  all_cons Tryz.func31 <|
  all_cons Tryz.func66 <|
  all_cons Tryz.func64 <|
  all_cons Tryz.func109 <|
  all_cons Tryz.func159 <|
  all_cons Tryz.func110 <|
  all_cons Tryz.func111 <|
  all_cons Tryz.func160 <|
  all_cons Tryz.func161 <|
  all_cons Tryz.func194 <|
  all_cons Tryz.func212 <|
  all_cons Tryz.func213 <|
  all_cons Tryz.func162 <|
  all_cons Tryz.func163 <|
  all_cons Tryz.func112 <|
  all_cons Tryz.func164 <|
  all_cons Tryz.func113 <|
  all_cons Tryz.func165 <|
  all_cons Tryz.func114 <|
  all_cons Tryz.func115 <|
  all_cons Tryz.func61 <|
  all_cons Tryz.func116 <|
  all_cons Tryz.func62 <|
  all_cons Tryz.func27 <|
  all_cons Tryz.func28 <|
  all_cons Tryz.func29 <|
  all_cons Tryz.func63 <|
  all_cons Tryz.func117 <|
  all_cons Tryz.func7 <| all_nil
def eqs : List Nat := [76, 85, 64, 42, 58, 69, 45, 40]
theorem eqs_ok : ∀ t ∈ eqs, Tryz.prog.eqGuardType Tryz.prog.depth t = false ∧ Tryz.prog.stoodInHeld t = false ∧ (Tryz.prog.fieldsOf t).toList.all (fun f => decide (f.name ≠ "_")) = true :=
  all_cons ⟨by kernel_rfl, by kernel_rfl, by kernel_rfl⟩ <|
  all_cons ⟨by kernel_rfl, by kernel_rfl, by kernel_rfl⟩ <|
  all_cons ⟨by kernel_rfl, by kernel_rfl, by kernel_rfl⟩ <|
  all_cons ⟨by kernel_rfl, by kernel_rfl, by kernel_rfl⟩ <|
  all_cons ⟨by kernel_rfl, by kernel_rfl, by kernel_rfl⟩ <|
  all_cons ⟨by kernel_rfl, by kernel_rfl, by kernel_rfl⟩ <|
  all_cons ⟨by kernel_rfl, by kernel_rfl, by kernel_rfl⟩ <|
  all_cons ⟨by kernel_rfl, by kernel_rfl, by kernel_rfl⟩ <| all_nil
theorem mixed : Tryz.prog.follows .mixedOrders = true := by kernel_rfl
noncomputable def cxOf (glob : List (Nat × Nat)) (sums : List Sum) : Cx := { P := Tryz.prog, glob := glob, sums := sums, tt := tt, fns := fns, eqs := eqs }
theorem cxOk (glob : List (Nat × Nat)) (sums : List Sum) : CxOk (cxOf glob sums) := ⟨tt_und, tt_inf, fns_ok, mixed, eqs_ok⟩

end Go.Proofs.YtnbngokbamifbaaGreatDoor.Ev

/- How the evaluator's word is used: laws that yield true, functions that yield terms, functions that are summed up, tables. -/
namespace Go.Proofs.YtnbngokbamifbaaGreatDoor.Ev
open Go Go.RowKit

/-! ### leaves that are left to be shown -/
abbrev Leaf := AV × List Blk × PC
/-- of a law: the leaves at which it is not plain that it yields true: the way to each, and its truth -/
def rest : List (E × Bool) → Tr Leaf → List (List (E × Bool) × E)
  | p, .leaf r => match r.1 with
    | .v (.c (.bool e)) => (match e with
      | .lit n => if decide (n = 0) then [(p, .lit 0)] else []
      | _ => [(p, e)])
    | _ => [(p, .lit 0)]
  | p, .node c t e => rest ((c, true) :: p) t ++ rest ((c, false) :: p) e
  | p, .bad _ => [(p, .lit 0)]
section
variable {P : Program} {cx : Cx} {jx : Jx} {ρ : Env} {W : World} {wr : List Nat} {β : Pl} {heap : List Blk} {w : World}

/-! ### known memory at the start -/
/-! ### laws -/
/-! ### functions that are summed up -/
/-! ### numbers as arguments -/
end

end Go.Proofs.YtnbngokbamifbaaGreatDoor.Ev

/- Functions that yield a truth or a number which a term says: by the evaluator's leaves. -/
namespace Go.Proofs.YtnbngokbamifbaaGreatDoor.Ev
open Go Go.RowKit

section
variable {cx : Cx} {jx : Jx} {ρ : Env} {W : World} {wr : List Nat} {β : Pl} {heap : List Blk} {w : World}
end
end Go.Proofs.YtnbngokbamifbaaGreatDoor.Ev

/- Two ways that yield truths, set against each other: they agree wherever both may be. -/
namespace Go.Proofs.YtnbngokbamifbaaGreatDoor.Ev
open Go Go.RowKit

section
variable {ρ : Env}
variable {cx : Cx} {jx : Jx} {W : World} {w : World}
end

end Go.Proofs.YtnbngokbamifbaaGreatDoor.Ev

/- The evaluator's word on regions that draw, on code, and on a call. -/
import Derived.Test.YtnjmfedleimlmaaDoorEvH
namespace Go.Proofs.YtnjmfedleimlmaaDoor.Ev
open Go Go.RowKit

section
variable {P : Program} {cx : Cx} {jx : Jx} {ρ : Env} {W : World} {wr : List Nat} {β β' : Pl} {heap : List Blk} {w w' : World}

/-! ### what a term stands for is one value -/
theorem AT.Is.det {a : AT} {u v : Value} (hu : a.Is ρ β u) (hv : a.Is ρ β v) : u = v := by
  cases a <;> simp only [AT.Is] at hu hv
  case int => exact hu.trans hv.symm
  case bool => exact hu.trans hv.symm
  case val => exact hu.1.trans hv.1.symm
  case ptr => obtain ⟨p, hp, e⟩ := hu; obtain ⟨q, hq, f⟩ := hv; rw [hp] at hq; cases hq; exact e.trans f.symm
  case pti => obtain ⟨p, hp, e⟩ := hu; obtain ⟨q, hq, f⟩ := hv; rw [hp] at hq; cases hq; exact e.trans f.symm
  case slc => obtain ⟨p, hp, e⟩ := hu; obtain ⟨q, hq, f⟩ := hv; rw [hp] at hq; cases hq; exact e.trans f.symm
  case opq => exact hu.1.trans hv.1.symm
theorem All2.det {α γ : Type} {R : α → γ → Prop} (h : ∀ a u v, R a u → R a v → u = v) : ∀ {l : List α} {m n : List γ}, All2 R l m → All2 R l n → m = n
  | [], [], [], _, _ => rfl
  | a :: l, b :: m, c :: n, h1, h2 => by rw [h a b c h1.1 h2.1, All2.det h h1.2 h2.2]
  | [], _ :: _, _, h, _ => h.elim
  | _ :: _, [], _, h, _ => h.elim
  | [], [], _ :: _, _, h => h.elim
  | _ :: _, _ :: _, [], _, h => h.elim
theorem A1.Is.det {a : A1} {u v : Value} (hu : a.Is ρ β u) (hv : a.Is ρ β v) : u = v := by
  cases a with
  | c a => exact AT.Is.det hu hv
  | g l => obtain ⟨x, e, hx⟩ := hu; obtain ⟨y, f, hy⟩ := hv; rw [e, f, Array.toList_inj.1 (All2.det (R := AT.Is ρ β) (fun _ _ _ => AT.Is.det) hx hy)]
theorem AV.Is.det {a : AV} {u v : Value} (hu : a.Is ρ β u) (hv : a.Is ρ β v) : u = v := by
  cases a with
  | v a => exact A1.Is.det hu hv
  | t l => obtain ⟨x, e, hx⟩ := hu; obtain ⟨y, f, hy⟩ := hv; rw [e, f, Array.toList_inj.1 (All2.det (R := A1.Is ρ β) (fun _ _ _ => A1.Is.det) hx hy)]

/-! ### regions that draw -/
/-- the worlds in which the state's memory is as the evaluator knows it -/
def SS (jx : Jx) (ρ : Env) (W : World) (wr : List Nat) (β : Pl) (heap : List Blk) (w : World) : Prop := HeapOk ρ jx W wr β heap w ∧ Fr W wr w ∧ jx.J w
theorem SS.closed : Closed (SS jx ρ W wr β heap) := fun _ _ ⟨h1, h2, h3⟩ hb => ⟨h1.below hb, h2.below hb, Jx.below h3 hb⟩
theorem frozen_ok (h : HeapOk ρ jx W wr β heap w) (W' : World) (wr' : List Nat) : HeapOk ρ jx W' wr' β (freeze heap) w := by
  refine ⟨by simp [freeze, h.1], fun l b hl => ?_⟩
  unfold freeze at hl
  rw [List.getElem?_map, Option.map_eq_some_iff] at hl
  obtain ⟨b', hb', rfl⟩ := hl
  obtain ⟨p, arr, ty, fr, h1, h2, h3, _⟩ := h.2 l b' hb'
  exact ⟨p, arr, ty, fr, h1, h2, h3, fun hrw => by simp at hrw⟩
theorem dr_pick {α : Type} {t : Tr α} {x : α} (h : t.dr = .ok x) : t.pick ρ = some x := by
  cases t <;> simp only [Tr.dr] at h <;> cases h; rfl
theorem dr_bind {α γ : Type} {t : DR α} {f : α → DR γ} {y : γ} (h : t.bind f = .ok y) : ∃ x, t = .ok x ∧ f x = .ok y := by
  cases t <;> simp only [DR.bind] at h
  · exact ⟨_, rfl, h⟩
  · cases h
  · cases h

theorem resE_some {K : Value → World → Prop} {r : Result Next} (h : resE P K r) : ∃ v w, K v w := by
  cases r with
  | ok n w =>
    cases n <;> simp only [resE] at h
    case value u => exact ⟨_, _, h⟩
    case skip => exact ⟨_, _, h⟩
    case enter f args => obtain ⟨e, w', fr, ⟨u, _, hu⟩, _⟩ := h []; exact ⟨u, w', hu⟩
  | halt x w => exact h.elim
theorem evCalm_ok {ih : Code → St → Tr (X × St)} (hih : IhOk cx jx ρ ih) (hs : ∀ m ∈ cx.sums, SumOk cx.P jx ρ m) {s : St} {a : Act} {o : Oper} {x : AV} {pc' : PC} {ops : Array Oper}
    (hT : Tmps cx ρ β s a) (hp : pcOk ρ s.pc) (hlen : β.length = s.heap.length) (hw : Region.wanted o (yielded ops a.tmps) = true) (h : evCalm cx ih s o = .ok (x, pc')) (hne : ∃ w, SS jx ρ W wr β s.heap w) :
    pcOk ρ pc' ∧ ∃ v, x.Is ρ β v ∧ YieldsK cx.P ops (SS jx ρ W wr β s.heap) o v a ∧ (pureOp o.op = true → ∀ S, YieldsK cx.P ops S o v a) := by
  unfold evCalm at h
  split at h
  · obtain ⟨h1, r, h2, h3⟩ := evPure_ok hT hp (dr_pick (ρ := ρ) h)
    have hy : ∀ S, YieldsK cx.P ops S o r a := fun S => .inl ⟨hw, fun w _ => by rw [h3 w]; exact ⟨rfl, Below.refl _ _⟩⟩
    exact ⟨h1, r, h2, hy _, fun _ => hy⟩
  · rename_i hpo
    obtain ⟨ys, h1, h2⟩ := dr_bind h
    obtain ⟨y, s2⟩ := ys
    simp only at h2
    split at h2
    · rename_i hbel
      cases h2
      have run : ∀ w, SS jx ρ W wr β s.heap w → resE cx.P (OpPost cx jx ρ w [] β s2 a x) ((execOp a.eval o).run cx.P w) := fun w hS =>
        evOp_ok hih hs (s := { s with heap := freeze s.heap }) ⟨hT.of rfl rfl, frozen_ok hS.1 w [], Fr.refl w [], hp, hS.2.2⟩ (dr_pick h1)
      have old : ∀ {w : World} {v : Value} {w' : World}, OpPost cx jx ρ w [] β s2 a x v w' → x.Is ρ β v ∧ Below w.heap.size w w' ∧ pcOk ρ s2.pc := by
        rintro w v w' ⟨β', hb, hR, hx⟩
        have := AV.below_is hbel hx
        obtain ⟨t, rfl⟩ := hb
        rw [← hlen, List.take_left'] at this
        · exact ⟨this, hR.fr.to_below, hR.pc⟩
        · rfl
      obtain ⟨w0, hw0⟩ := hne
      obtain ⟨v, w1, hv⟩ := resE_some (run w0 hw0)
      obtain ⟨h1, h2, h3⟩ := old hv
      refine ⟨h3, v, h1, .inl ⟨hw, fun w hS => resE_mono (fun u w' hu => ?_) (run w hS)⟩, fun h => absurd h hpo⟩
      obtain ⟨g1, g2, _⟩ := old hu
      exact ⟨g1.det h1, g2⟩
    · cases h2

theorem HeapOk.prefix_ok {t : List Blk} (h : HeapOk ρ jx W wr β' (heap ++ t) w) (hb : β <+: β') (hl : β.length = heap.length) {w0 : World} {W0 : World} {wr0 : List Nat} (h0 : HeapOk ρ jx W0 wr0 β heap w0) : HeapOk ρ jx W wr β heap w := by
  refine ⟨hl, fun l b hlb => ?_⟩
  have hlt : l < heap.length := (List.getElem?_eq_some_iff.1 hlb).1
  obtain ⟨p, arr, ty, fr, h1, h2, h3, h4⟩ := h.2 l b (by rw [List.getElem?_append_left hlt]; exact hlb)
  obtain ⟨q, arr0, _, _, k1, _, k3, _⟩ := h0.2 l b hlb
  have hpq := Pl.mono_get hb k1
  rw [h1] at hpq
  cases hpq
  refine ⟨p, arr, ty, fr, k1, h2, fun j x hx => ?_, fun hrw => ?_⟩
  · obtain ⟨v, hv, hi⟩ := h3 j x hx
    obtain ⟨v0, _, hi0⟩ := k3 j x hx
    have := (hi0.mono hb).det hi
    subst this
    exact ⟨v0, hv, hi0⟩
  · obtain ⟨g1, g2, g3, g4⟩ := h4 hrw
    exact ⟨g1, fun l' q hne hq => g2 l' q hne (Pl.mono_get hb hq), g3, g4⟩

theorem level1_op {o : Op} (h : level o = 1) : (∃ t, o = .alloc t) ∨ (∃ t x, o = .box t x) ∨ (∃ t n ps, o = .buildSlice t n ps) := by
  unfold level at h
  split at h <;> simp_all
theorem evOp_level1 {ih : Code → St → Tr (X × St)} {s s2 : St} {o : Oper} {x : AV} (hl : level o.op = 1) (h : (evOp cx ih s o).pick ρ = some (x, s2)) : ∃ b, s2.heap = s.heap ++ [b] := by
  unfold evOp at h
  rcases level1_op hl with ⟨t, hop⟩ | ⟨t, y, hop⟩ | ⟨t, n, ps, hop⟩
  · rw [hop] at h
    obtain ⟨z, _, h⟩ := must_pick h
    cases leaf_eq h; exact ⟨_, rfl⟩
  · rw [hop] at h
    obtain ⟨z, _, h⟩ := must_pick h
    cases leaf_eq h; exact ⟨_, rfl⟩
  · rw [hop] at h
    simp only at h
    split at h
    · obtain ⟨_, _, h⟩ := must_pick h
      obtain ⟨_, _, h⟩ := must_pick h
      obtain ⟨_, _, h⟩ := must_pick h
      split at h
      · obtain ⟨_, _, h⟩ := must_pick h
        cases leaf_eq h; exact ⟨_, rfl⟩
      · simp [Tr.pick] at h
    · simp [Tr.pick] at h

theorem level_le {ops : Array Oper} {l : Array Bool} {i : Nat} (h : calm ops l i = true) (j : Nat) (oj : Oper) (hj : ops[j]? = some oj) (hne : j ≠ i) (hun : l.getD j true = false) (hno : ∀ e ∈ oj.after, Region.binds .any e = true → e.on ≠ i) : level oj.op ≤ 1 := by
  unfold calm at h
  rw [List.all_eq_true] at h
  have hjs : j < ops.size := (Array.getElem?_eq_some_iff.1 hj).1
  have := h j (List.mem_range.2 hjs)
  rw [hun, hj] at this
  simp only [Bool.or_false, Bool.or_eq_true, beq_iff_eq] at this
  rcases this with h | h | h
  · exact absurd h hne
  · rw [Array.any_eq_true] at h
    obtain ⟨k, hk, h⟩ := h
    simp only [Bool.and_eq_true, beq_iff_eq] at h
    exact absurd h.2 (hno _ (Array.getElem_mem hk) h.1)
  · exact Nat.le_of_ble_eq_true h
theorem firstOf_some {p : Nat → Bool} : ∀ {l : List Nat} {i : Nat}, firstOf p l = some i → i ∈ l ∧ p i = true
  | [], i, h => by simp [firstOf] at h
  | j :: l, i, h => by
    simp only [firstOf] at h
    split at h
    · rename_i hp; cases h; exact ⟨by simp, hp⟩
    · obtain ⟨h1, h2⟩ := firstOf_some h; exact ⟨by simp [h1], h2⟩

theorem tb_of {n : Int} : tb n = decide (n ≠ 0) := by unfold tb; split <;> simp [*]

theorem drn_ok {ih : Code → St → Tr (X × St)} (hih : IhOk cx jx ρ ih) (hs : ∀ m ∈ cx.sums, SumOk cx.P jx ρ m) {ops : Array Oper} (hsel : Region.noSelect ops = true) {Q : Exit → Act → World → Prop} {s' : St} :
    ∀ (fuel : Nat) (l : Array Bool) (s : St) (a : Act) (β : Pl), drn cx ih ops fuel l s = .ok s' → Tmps cx ρ β s a → pcOk ρ s.pc → (∃ w, SS jx ρ W wr β s.heap w) →
      (∀ β' a' w', β <+: β' → Rel cx jx ρ W wr β' s' a' w' → Q .normal a' w') → Any cx.P ops Q fuel l a (SS jx ρ W wr β s.heap) := by
  intro fuel
  induction fuel with
  | zero =>
    intro l s a β h hT hp _ hQ
    unfold drn at h
    split at h
    · rename_i hr
      cases h
      exact ⟨by simpa using hr, fun w hw => hQ β a w (List.prefix_refl _) ⟨hT, hw.1, hw.2.1, hp, hw.2.2⟩⟩
    · cases h
  | succ fuel ihf =>
    intro l s a β h hT hp hne hQ
    have hlen : β.length = s.heap.length := by obtain ⟨w, hw⟩ := hne; exact hw.1.1
    unfold drn at h
    split at h
    · rename_i hr
      have hr' : Region.ready .any ops l = [] := by simpa using hr
      cases h
      exact ⟨fun _ w hw => hQ β a w (List.prefix_refl _) ⟨hT, hw.1, hw.2.1, hp, hw.2.2⟩, fun i hi => by rw [hr'] at hi; cases hi⟩
    · rename_i hr
      split at h
      · -- one is taken first
        rename_i i hfirst
        obtain ⟨hmem, htake⟩ := firstOf_some hfirst
        split at h
        · rename_i o ho
          obtain ⟨s1, h1, h2⟩ := dr_bind h
          unfold takeable at htake
          rw [ho] at htake
          simp only [Bool.and_eq_true, Bool.or_eq_true] at htake
          have hl0 : level o.op = 0 := Nat.eq_of_beq_eq_true htake.1.1
          -- what it yields
          have key : ∃ v, YieldsK cx.P ops (SS jx ρ W wr β s.heap) o v a ∧ (pureOp o.op = true → ∀ S, YieldsK cx.P ops S o v a) ∧ Tmps cx ρ β s1 (a.put o.dst v) ∧ pcOk ρ s1.pc ∧ s1.heap = s.heap := by
            have run : Region.wanted o (yielded ops a.tmps) = true → ((evCalm cx ih s o).bind fun r => match St.put { s with pc := r.2 } o.dst r.1 with
                | some s => .ok s
                | none => .bad "put") = .ok s1 → ∃ v, YieldsK cx.P ops (SS jx ρ W wr β s.heap) o v a ∧ (pureOp o.op = true → ∀ S, YieldsK cx.P ops S o v a) ∧ Tmps cx ρ β s1 (a.put o.dst v) ∧ pcOk ρ s1.pc ∧ s1.heap = s.heap := by
              intro hw h
              obtain ⟨⟨x, pc1⟩, hc, h⟩ := dr_bind h
              obtain ⟨hp1, v, hx, hy, hyp⟩ := evCalm_ok hih hs hT hp hlen hw hc hne
              split at h
              · rename_i s2 hput
                cases h
                obtain ⟨e1, e2, _⟩ := put_heap hput
                refine ⟨v, hy, hyp, Tmps.put (s := { s with pc := pc1 }) (hT.of rfl rfl) hx hput, by rw [e2]; exact hp1, e1⟩
              · cases h
            unfold evOne at h1
            simp only [if_true] at h1
            split at h1
            · cases h1
            · rename_i hg
              exact run (guard_ok hT hg) h1
            · rename_i e want hg
              have hgo := guard_ok hT hg
              simp only at hgo
              split at h1
              · cases h1
              · rename_i n hn
                have hen := one_den hp hn
                rw [hen, tb_of] at hgo
                split at h1
                · rename_i hc
                  rw [hc] at hgo
                  exact run hgo h1
                · rename_i hc
                  split at h1
                  · rename_i s2 hput
                    cases h1
                    obtain ⟨e1, e2, _⟩ := put_heap hput
                    have hy : ∀ S, YieldsK cx.P ops S o undef a := fun S => .inr ⟨by rw [hgo]; simpa using hc, rfl⟩
                    exact ⟨undef, hy _, fun _ => hy, hT.put undef_is hput, by rw [e2]; exact hp, e1⟩
                  · cases h1
          obtain ⟨v, hy, hyp, hT1, hp1, hheap⟩ := key
          refine Any.first (v := v) ho hl0 hsel fuel l a _ (Region.free_spec ho htake.1.2) ?_ hmem ?_
          · rcases htake.2 with hpu | hca
            · exact .inl (hyp hpu)
            · exact .inr ⟨hy, level_le hca⟩
          · rw [← hheap]
            exact ihf _ s1 _ β h2 hT1 hp1 (by rw [hheap]; exact hne) hQ
        · cases h
      · -- the only one
        split at h
        · rename_i i hri
          split at h
          · rename_i o ho
            split at h
            · cases h
            · rename_i hlev
              have hl0 : level o.op ≠ 0 := fun e => hlev (by rw [e]; rfl)
              obtain ⟨s1, h1, h2⟩ := dr_bind h
              refine ⟨fun h0 => absurd h0 (by rw [hri]; simp), fun j hj oj hoj => ?_⟩
              have hji : j = i := by rw [hri] at hj; simpa using hj
              subst hji
              rw [ho] at hoj
              cases hoj
              refine ⟨fun hl => absurd hl hl0, fun _ w hw => ?_⟩
              have run : ∀ {s0 : St}, s0.tmps = s.tmps → s0.n = s.n → s0.heap = s.heap → pcOk ρ s0.pc → Region.wanted o (yielded ops a.tmps) = true → ((evOp cx ih s0 o).dr.bind fun r => match r.2.put o.dst r.1 with
                  | some s => .ok s
                  | none => .bad "put") = .ok s1 → Does cx.P ops o a w fun v w' => ∃ S', Closed S' ∧ (level o.op = 1 → ∀ w, S' w → SS jx ρ W wr β s.heap w) ∧ S' w' ∧ Any cx.P ops Q fuel (l.setIfInBounds j true) (a.put o.dst v) S' := by
                intro s0 e1 e2 e3 hp0 hwant h
                obtain ⟨⟨x, s2⟩, hx, h⟩ := dr_bind h
                have hx' := dr_pick (ρ := ρ) hx
                split at h
                · rename_i s3 hput
                  cases h
                  obtain ⟨g1, g2, _⟩ := put_heap hput
                  refine .inl ⟨hwant, resE_mono ?_ (evOp_ok (W := W) (wr := wr) (β := β) (w := w) (a := a) hih hs ⟨hT.of e2 e1, by rw [e3]; exact hw.1, hw.2.1, hp0, hw.2.2⟩ hx')⟩
                  rintro v w' ⟨β', hb, hR, hvi⟩
                  have hR1 := hR.put hvi hput
                  refine ⟨SS jx ρ W wr β' s1.heap, SS.closed, fun hl1 w2 hw2 => ?_, ⟨hR1.heap, hR1.fr, hR1.j⟩, ihf _ s1 _ β' h2 hR1.tm hR1.pc ⟨w', hR1.heap, hR1.fr, hR1.j⟩ fun β'' a' w2 hb2 hR2 => hQ β'' a' w2 (hb.trans hb2) hR2⟩
                  obtain ⟨b, hbk⟩ := evOp_level1 hl1 hx'
                  have hh := hw2.1
                  rw [g1, hbk, e3] at hh
                  exact ⟨hh.prefix_ok hb hlen hw.1, hw2.2⟩
                · cases h
              unfold evOne at h1
              simp only [Bool.false_eq_true, if_false] at h1
              split at h1
              · cases h1
              · rename_i hg
                exact run rfl rfl rfl hp (guard_ok hT hg) h1
              · rename_i e want hg
                have hgo := guard_ok hT hg
                simp only at hgo
                split at h1
                · cases h1
                · rename_i n hn
                  have hen := one_den hp hn
                  rw [hen, tb_of] at hgo
                  split at h1
                  · rename_i hc
                    rw [hc] at hgo
                    exact run rfl rfl rfl hp hgo h1
                  · rename_i hc
                    split at h1
                    · rename_i s2 hput
                      cases h1
                      obtain ⟨e1, e2, _⟩ := put_heap hput
                      refine .inr ⟨by rw [hgo]; simpa using hc, SS jx ρ W wr β s.heap, SS.closed, fun _ _ h => h, hw, ?_⟩
                      rw [← e1]
                      exact ihf _ s1 _ β h2 (hT.put undef_is hput) (by rw [e2]; exact hp) (by rw [e1]; exact hne) hQ
                    · cases h1
          · cases h
        · cases h

theorem drew_below (w : World) : Below w.heap.size w { w with drawn := w.drawn + 1 } := ⟨rfl, rfl, rfl, Nat.le_refl _, fun _ _ => rfl⟩
theorem evDrawn_ok {ih : Code → St → Tr (X × St)} (hO : CxOk cx) (hih : IhOk cx jx ρ ih) (hs : ∀ m ∈ cx.sums, SumOk cx.P jx ρ m) {ops : Array Oper} {id : Nat} {Q : Exit → Act → World → Prop} {x : X} {s' : St} :
    ∀ (fuel : Nat) {s : St} {a : Act} {β : Pl} {w : World}, (evDrawn cx ih ops fuel s).pick ρ = some (x, s') → Rel cx jx ρ W wr β s a w →
      (∀ β' a' w', β <+: β' → Rel cx jx ρ W wr β' s' a' w' → QX Q x a' w') → (Code.region id ops true).wp cx.P Q a w
  | 0, s, a, β, w, h, _, _ => by simp [evDrawn, Tr.pick] at h
  | fuel + 1, s, a, β, w, h, hR, hQ => by
    unfold evDrawn at h
    split at h
    · simp [Tr.pick] at h
    · rename_i hsel
      have hsel' : Region.noSelect ops = true := by simpa using hsel
      split at h
      · rename_i s1 hd
        cases leaf_eq h
        have hSS : SS jx ρ W wr β s.heap { w with drawn := w.drawn + 1 } := SS.closed w _ ⟨hR.heap, hR.fr, hR.j⟩ (drew_below w)
        have hA := drn_ok (W := W) (wr := wr) hih hs hsel' ops.size _ s a β hd hR.tm hR.pc ⟨_, hSS⟩ hQ
        exact wp_region_any hO.mix (Any.sound _ _ _ _ _ SS.closed hA hSS)
      · simp [Tr.pick] at h
      · obtain ⟨v, pc1, _, hp1, h⟩ := branch_pick hR.pc h
        exact evDrawn_ok hO hih hs fuel h (hR.pcs hp1) hQ

/-! ### code -/
theorem QX_mono {Q Q' : Exit → Act → World → Prop} (h : ∀ e a w, Q e a w → Q' e a w) {x : X} {a : Act} {w : World} (hq : QX Q x a w) : QX Q' x a w := by
  cases x <;> exact h _ _ _ hq

theorem evLoop_ok {ih : Code → St → Tr (X × St)} (hih : IhOk cx jx ρ ih) {c : Code} {Q : Exit → Act → World → Prop} {x : X} {s' : St} :
    ∀ (n : Nat) {s : St} {a : Act} {β : Pl} {w : World}, (evLoop ih c n s).pick ρ = some (x, s') → Rel cx jx ρ W wr β s a w →
      (∀ β' a' w', β <+: β' → Rel cx jx ρ W wr β' s' a' w' → QX Q x a' w') → Code.rounds cx.P c Q n a w
  | 0, s, a, β, w, h, _, _ => by simp [evLoop, Tr.pick] at h
  | n + 1, s, a, β, w, h, hR, hQ => by
    simp only [evLoop] at h
    obtain ⟨⟨y, s1⟩, h1, h2⟩ := Tr.pick_bind_some h
    rw [rounds_succ]
    refine hih W wr β s a w c _ y s1 h1 hR fun β' a' w' hb hR' => ?_
    cases y with
    | nml => exact evLoop_ok hih n h2 hR' fun β'' a'' w'' hb' hR'' => hQ β'' a'' w'' (hb.trans hb') hR''
    | exit id => cases leaf_eq h2; exact hQ β' a' w' hb hR'
    | ret => cases leaf_eq h2; exact hQ β' a' w' hb hR'

theorem step_ok {ih : Code → St → Tr (X × St)} (hO : CxOk cx) (hih : IhOk cx jx ρ ih) (hs : ∀ m ∈ cx.sums, SumOk cx.P jx ρ m) : IhOk cx jx ρ (step cx ih) := by
  intro W wr β s a w c Q x s' h hR hQ
  unfold step at h
  split at h
  · cases leaf_eq h; exact wp_skip (hQ β a w (List.prefix_refl _) hR)
  · cases leaf_eq h; exact wp_label (hQ β a w (List.prefix_refl _) hR)
  · cases leaf_eq h; exact wp_ret (hQ β a w (List.prefix_refl _) hR)
  · cases leaf_eq h; exact wp_exit (hQ β a w (List.prefix_refl _) hR)
  · rename_i c1 c2
    obtain ⟨⟨y, s1⟩, h1, h2⟩ := Tr.pick_bind_some h
    refine wp_seq (hih W wr β s a w c1 _ y s1 h1 hR fun β' a' w' hb hR' => ?_)
    cases y with
    | nml => exact hih W wr β' s1 a' w' c2 Q x s' h2 hR' fun β'' a'' w'' hb' hR'' => hQ β'' a'' w'' (hb.trans hb') hR''
    | exit id => cases leaf_eq h2; exact hQ β' a' w' hb hR'
    | ret => cases leaf_eq h2; exact hQ β' a' w' hb hR'
  · rename_i cd c1 c2
    split at h
    · rename_i e he
      have hi := hR.tm.ev he
      simp only [AV.Is, A1.Is, AT.Is] at hi
      obtain ⟨v, pc1, hv, hp1, h⟩ := branch_pick hR.pc h
      have htb : tb (e.den ρ) = v := by
        cases v with
        | true => exact tb_one (hv.2 rfl)
        | false => exact tb_zero (by simpa using hv)
      rw [htb] at hi
      exact wp_cond hi (hih W wr β _ a w _ Q x s' h (hR.pcs hp1) hQ)
    · simp [Tr.pick] at h
  · rename_i id c1
    obtain ⟨⟨y, s1⟩, h1, h2⟩ := Tr.pick_bind_some h
    refine wp_block (hih W wr β s a w c1 _ y s1 h1 hR fun β' a' w' hb hR' => ?_)
    cases y with
    | nml => cases leaf_eq h2; exact hQ β' a' w' hb hR'
    | exit j =>
      cases leaf_eq h2
      have := hQ β' a' w' hb hR'
      show Exit.inBlock id Q (.exit j) a' w'
      simp only [Exit.inBlock]
      by_cases hj : j = id
      · subst hj; rw [if_pos rfl]; simpa [Nat.beq_refl, QX] using this
      · have hb' : Nat.beq j id = false := by rw [Bool.eq_false_iff]; exact fun e => hj (Nat.eq_of_beq_eq_true e)
        rw [if_neg hj]; simpa [hb', QX] using this
    | ret => cases leaf_eq h2; exact hQ β' a' w' hb hR'
  · exact wp_loop_rounds _ (evLoop_ok hih _ h hR hQ)
  · rename_i id ops draw
    cases draw with
    | true => exact evDrawn_ok hO hih hs _ h hR hQ
    | false => exact wp_region_list (evOps_ok hih hs _ h hR hQ)
  · simp [Tr.pick] at h

theorem ev_ok (hO : CxOk cx) (hs : ∀ m ∈ cx.sums, SumOk cx.P jx ρ m) : ∀ n, IhOk cx jx ρ (ev cx n)
  | 0 => fun _ _ _ _ _ _ _ _ _ _ h _ _ => by simp [ev, Tr.pick] at h
  | n + 1 => step_ok hO (ev_ok hO hs n) hs

/-- A call, from arguments and known memory: what the evaluator comes to on the way that the numbers take. -/
theorem evFn_ok (hO : CxOk cx) (hs : ∀ m ∈ cx.sums, SumOk cx.P jx ρ m) {fuel : Nat} {f : FuncId} {pc : PC} {args : List AV} {vals : List Value} {r : AV} {heap' : List Blk} {pc' : PC}
    (h : (evFn cx fuel f heap pc args).pick ρ = some (r, heap', pc')) (hg : ∀ g l, assoc g cx.glob = some l → β[l]? = some (g, 0)) (hh : HeapOk ρ jx W wr β heap w) (hf : Fr W wr w) (hp : pcOk ρ pc) (hj : jx.J w)
    (ha : All2 (AV.Is ρ β) args vals) : Calls cx.P f vals.toArray w (CallPost jx ρ W wr β r heap' pc') :=
  (evCall_ok hO (ev_ok hO hs fuel) hs hg hh hf hp hj ha (by unfold evFn at h; exact h)).2

end

theorem all_cons {α : Type} {Q : α → Prop} {a : α} {l : List α} (h : Q a) (t : ∀ x ∈ l, Q x) : ∀ x ∈ a :: l, Q x := fun x hx => by
  rcases List.mem_cons.1 hx with rfl | hx
  · exact h
  · exact t x hx
theorem all_nil {α : Type} {Q : α → Prop} : ∀ x ∈ ([] : List α), Q x := fun x hx => by cases hx

end Go.Proofs.YtnjmfedleimlmaaDoor.Ev

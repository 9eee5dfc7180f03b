/- Lists of operations, and regions that draw their order, are carried out as the evaluator says. -/
import Derived.Test.YtnjmfedleimlmaaDoorEvG
namespace Go.Proofs.YtnjmfedleimlmaaDoor.Ev
open Go Go.RowKit

section
variable {P : Program} {cx : Cx} {jx : Jx} {ρ : Env} {W : World} {wr : List Nat} {β β' : Pl} {heap : List Blk} {w w' : World}

theorem guard_ok {ops : Array Oper} {s : St} {a : Act} {o : Oper} (hT : Tmps cx ρ β s a) {g : Option (E × Bool)} (h : guardE ops s o = some g) :
    match g with
    | none => Region.wanted o (yielded ops a.tmps) = true
    | some (e, want) => Region.wanted o (yielded ops a.tmps) = (tb (e.den ρ) == want) := by
  unfold guardE at h
  cases hg : o.guard with
  | none => rw [hg] at h; cases h; simp [Region.wanted, hg]
  | some jw =>
    obtain ⟨j, want⟩ := jw
    rw [hg] at h
    simp only at h
    split at h
    · rename_i e he
      cases h
      rw [Option.bind_eq_some_iff] at he
      obtain ⟨t, ht, hf⟩ := he
      obtain ⟨v, hv, hi⟩ := hT.get t _ hf
      have hy : yielded ops a.tmps j = some (tb (e.den ρ)) := by
        simp only [AV.Is, A1.Is, AT.Is] at hi
        subst hi
        unfold yielded
        rw [Option.bind_eq_some_iff.2 ⟨t, ht, hv⟩]
      simp [Region.wanted, hg, hy]
    · rename_i he
      cases h
      rw [Option.bind_eq_some_iff] at he
      obtain ⟨t, ht, hf⟩ := he
      obtain ⟨v, hv, hi⟩ := hT.get t _ hf
      have hy : yielded ops a.tmps j = none := by
        obtain ⟨vs, rfl, _⟩ := hi
        unfold yielded
        rw [Option.bind_eq_some_iff.2 ⟨t, ht, hv⟩]
      simp only [Region.wanted, hg, hy, E.den, tb_truth]
      cases want <;> rfl
    · cases h

theorem Rel.put {s s' : St} {a : Act} (h : Rel cx jx ρ W wr β s a w) {dst : Option Tmp} {x : AV} {v : Value} (hx : x.Is ρ β v) (hp : s.put dst x = some s') : Rel cx jx ρ W wr β s' (a.put dst v) w := by
  obtain ⟨h1, h2, h3⟩ := put_heap hp
  exact ⟨h.tm.put hx hp, by rw [h1]; exact h.heap, h.fr, by rw [h2]; exact h.pc, h.j⟩
theorem Rel.pcs {s : St} {a : Act} (h : Rel cx jx ρ W wr β s a w) {pc : PC} (hp : pcOk ρ pc) : Rel cx jx ρ W wr β { s with pc := pc } a w := ⟨h.tm.of rfl rfl, h.heap, h.fr, hp, h.j⟩

theorem undef_is : AV.Is ρ β (.t []) undef := ⟨#[], rfl, trivial⟩

theorem evOps_ok {ih : Code → St → Tr (X × St)} (hih : IhOk cx jx ρ ih) (hs : ∀ m ∈ cx.sums, SumOk cx.P jx ρ m) {ops : Array Oper} {Q : Exit → Act → World → Prop} {x : X} {s' : St} :
    ∀ (l : List Oper) {s : St} {a : Act} {β : Pl} {w : World}, (evOps cx ih ops l s).pick ρ = some (x, s') → Rel cx jx ρ W wr β s a w →
      (∀ β' a' w', β <+: β' → Rel cx jx ρ W wr β' s' a' w' → QX Q x a' w') → wpList cx.P ops Q l a w
  | [], s, a, β, w, h, hR, hQ => by
    cases leaf_eq h
    exact hQ β a w (List.prefix_refl _) hR
  | o :: l, s, a, β, w, h, hR, hQ => by
    simp only [evOps] at h
    obtain ⟨g, hg, h⟩ := must_pick h
    have hgo := guard_ok hR.tm hg
    have run : ∀ {s1 : St}, Rel cx jx ρ W wr β s1 a w → ((evOp cx ih s1 o).bind fun r => must (r.2.put o.dst r.1) "put" (evOps cx ih ops l)).pick ρ = some (x, s') → o.wp cx.P a w (wpList cx.P ops Q l) Q := by
      intro s1 hR1 h1
      obtain ⟨⟨y, s2⟩, h2, h3⟩ := Tr.pick_bind_some h1
      obtain ⟨s3, h4, h5⟩ := must_pick h3
      refine resE_wp (evOp_ok hih hs hR1 h2) fun v w' ⟨β', hb, hR2, hx⟩ => ?_
      exact evOps_ok hih hs l h5 (hR2.put hx h4) fun β'' a' w'' hb' hR' => hQ β'' a' w'' (hb.trans hb') hR'
    unfold wpList
    cases g with
    | none =>
      rw [if_pos hgo]
      exact .inl (run hR h)
    | some ew =>
      obtain ⟨e, want⟩ := ew
      simp only at h hgo
      obtain ⟨v, pc1, hv, hp1, h⟩ := branch_pick hR.pc h
      have htb : tb (e.den ρ) = v := by
        cases v with
        | true => exact tb_one (hv.2 rfl)
        | false => exact tb_zero (by simpa using hv)
      rw [htb] at hgo
      rw [hgo]
      by_cases hvw : (v == want) = true
      · rw [if_pos hvw]
        rw [if_pos hvw] at h
        exact .inl (run (hR.pcs hp1) h)
      · rw [if_neg hvw]
        rw [if_neg hvw] at h
        obtain ⟨s3, h4, h5⟩ := must_pick h
        exact evOps_ok hih hs l h5 ((hR.pcs hp1).put undef_is h4) hQ

/-! ### regions that draw -/
/-- a condition on worlds that new blocks do not turn -/
def Closed (S : World → Prop) : Prop := ∀ w w', S w → Below w.heap.size w w' → S w'
/-- in every world that meets S the operation leaves v, and nothing that was there is changed -/
def YieldsK (P : Program) (ops : Array Oper) (S : World → Prop) (o : Oper) (v : Value) (a : Act) : Prop :=
  (Region.wanted o (yielded ops a.tmps) = true ∧ ∀ w, S w → resE P (fun u w' => u = v ∧ Below w.heap.size w w') ((execOp a.eval o).run P w)) ∨
  (Region.wanted o (yielded ops a.tmps) = false ∧ v = undef)
theorem YieldsK.mono {ops : Array Oper} {S S' : World → Prop} {o : Oper} {v : Value} {a : Act} (hS : ∀ w, S' w → S w) (h : YieldsK P ops S o v a) : YieldsK P ops S' o v a :=
  h.imp (fun ⟨h1, h2⟩ => ⟨h1, fun w hw => h2 w (hS w hw)⟩) id
theorem YieldsK.of_same {ops : Array Oper} {S : World → Prop} {o : Oper} {v : Value} {a a' : Act} (hy : YieldsK P ops S o v a) (he : execOp a'.eval o = execOp a.eval o)
    (hw : Region.wanted o (yielded ops a'.tmps) = Region.wanted o (yielded ops a.tmps)) : YieldsK P ops S o v a' := by
  unfold YieldsK at *; rw [he, hw]; exact hy
/-- an operation that does more -/
def Does (P : Program) (ops : Array Oper) (o : Oper) (a : Act) (w : World) (K : Value → World → Prop) : Prop :=
  (Region.wanted o (yielded ops a.tmps) = true ∧ resE P K ((execOp a.eval o).run P w)) ∨ (Region.wanted o (yielded ops a.tmps) = false ∧ K undef w)
theorem Does.mono {ops : Array Oper} {o : Oper} {a : Act} {K K' : Value → World → Prop} (hK : ∀ v w, K v w → K' v w) (h : Does P ops o a w K) : Does P ops o a w K' :=
  h.imp (fun ⟨h1, h2⟩ => ⟨h1, resE_mono hK h2⟩) (fun ⟨h1, h2⟩ => ⟨h1, hK _ _ h2⟩)

/-- whatever order is picked from here on: operations of level 0 yield a value that no order turns -/
def Any (P : Program) (ops : Array Oper) (Q : Exit → Act → World → Prop) : Nat → Array Bool → Act → (World → Prop) → Prop
  | 0, l, a, S => Region.ready .any ops l = [] ∧ ∀ w, S w → Q .normal a w
  | f + 1, l, a, S => (Region.ready .any ops l = [] → ∀ w, S w → Q .normal a w) ∧ ∀ i ∈ Region.ready .any ops l, ∀ o, ops[i]? = some o →
      (level o.op = 0 → ∃ v, YieldsK P ops S o v a ∧ Any P ops Q f (l.setIfInBounds i true) (a.put o.dst v) S) ∧
      (level o.op ≠ 0 → ∀ w, S w → Does P ops o a w fun v w' => ∃ S', Closed S' ∧ (level o.op = 1 → ∀ w, S' w → S w) ∧ S' w' ∧ Any P ops Q f (l.setIfInBounds i true) (a.put o.dst v) S')

theorem ready_op {ops : Array Oper} {l : Array Bool} {i : Nat} (h : i ∈ Region.ready .any ops l) : ∃ o, ops[i]? = some o := by
  obtain ⟨_, o, ho, _⟩ := mem_ready.1 h; exact ⟨o, ho⟩

theorem Any.sound {ops : Array Oper} {Q : Exit → Act → World → Prop} : ∀ (f : Nat) (l : Array Bool) (a : Act) (S : World → Prop) (w : World), Closed S → Any P ops Q f l a S → S w → wpAny P .any ops Q f l a w
  | 0, l, a, S, w, _, h, hw => ⟨h.1, h.2 w hw⟩
  | f + 1, l, a, S, w, hc, h, hw => by
    refine ⟨fun h0 => h.1 h0 w hw, fun i hi => ?_⟩
    obtain ⟨o, ho⟩ := ready_op hi
    obtain ⟨h0, h1⟩ := h.2 i hi o ho
    unfold wpOp
    rw [ho]
    simp only
    by_cases hl : level o.op = 0
    · obtain ⟨v, hy, hn⟩ := h0 hl
      rcases hy with ⟨hwant, hy⟩ | ⟨hwant, rfl⟩
      · rw [if_pos hwant]
        refine .inl (resE_wp (hy w hw) fun u w' ⟨hu, hb⟩ => ?_)
        subst hu
        exact Any.sound f _ _ S w' hc hn (hc w w' hw hb)
      · rw [if_neg (by rw [hwant]; simp)]
        exact Any.sound f _ _ S w hc hn hw
    · rcases h1 hl w hw with ⟨hwant, hd⟩ | ⟨hwant, S', hc', _, hS', hn⟩
      · rw [if_pos hwant]
        refine .inl (resE_wp hd fun u w' ⟨S', hc', _, hS', hn⟩ => ?_)
        exact Any.sound f _ _ S' w' hc' hn hS'
      · rw [if_neg (by rw [hwant]; simp)]
        exact Any.sound f _ _ S' w hc' hn hS'

/-- an operation of level 0 may be taken first -/
theorem Any.first {ops : Array Oper} {Q : Exit → Act → World → Prop} {i : Nat} {oi : Oper} {v : Value} (hi : ops[i]? = some oi) (hli : level oi.op = 0) (hsel : Region.noSelect ops = true) :
    ∀ (f : Nat) (l : Array Bool) (a : Act) (S : World → Prop),
      (∀ j oj, ops[j]? = some oj → j ≠ i → l.getD j true = false → (∀ e ∈ oj.after, Region.binds .any e = true → e.on ≠ i) → oi.apart ops oj = true) →
      ((∀ S, YieldsK P ops S oi v a) ∨ (YieldsK P ops S oi v a ∧ ∀ j oj, ops[j]? = some oj → j ≠ i → l.getD j true = false → (∀ e ∈ oj.after, Region.binds .any e = true → e.on ≠ i) → level oj.op ≤ 1)) →
      i ∈ Region.ready .any ops l → Any P ops Q f (l.setIfInBounds i true) (a.put oi.dst v) S → Any P ops Q (f + 1) l a S := by
  intro f
  induction f with
  | zero =>
    intro l a S _ hY hr H
    refine ⟨fun h0 => (by rw [h0] at hr; cases hr), fun j hj o ho => ?_⟩
    by_cases hji : j = i
    · subst hji
      rw [hi] at ho; cases ho
      exact ⟨fun _ => ⟨v, hY.elim (fun h => h S) And.left, H⟩, fun h => absurd hli h⟩
    · have := ready_mono hj hji
      rw [H.1] at this
      cases this
  | succ f ih =>
    intro l a S hfree hY hr H
    refine ⟨fun h0 => (by rw [h0] at hr; cases hr), fun j hj oj hoj => ?_⟩
    by_cases hji : j = i
    · subst hji
      rw [hi] at hoj; cases hoj
      exact ⟨fun _ => ⟨v, hY.elim (fun h => h S) And.left, H⟩, fun h => absurd hli h⟩
    · obtain ⟨hjun, oj', hoj', hall⟩ := mem_ready.1 hj
      rw [hoj] at hoj'; cases hoj'
      have hnot : ∀ e ∈ oj.after, Region.binds .any e = true → e.on ≠ i := fun e he hb heq => by
        have h1 := hall e he hb
        have h0 := (mem_ready.1 hr).1
        rw [heq] at h1
        rcases Nat.lt_or_ge i l.size with h' | h'
        · simp [h'] at h0 h1; rw [h0] at h1; cases h1
        · simp [Array.getElem?_eq_none h'] at h1
      have hap := hfree j oj hoj hji hjun hnot
      obtain ⟨a1, a2, a3⟩ := Oper.apart_spec hap
      have hsi := fun cs b => Region.noSelect_spec hsel i oi cs b hi
      have hsj := fun cs b => Region.noSelect_spec hsel j oj cs b hoj
      have ej : execOp (a.put oi.dst v).eval oj = execOp a.eval oj := execOp_put oj hsj a oi.dst v a1
      have wj : Region.wanted oj (yielded ops (a.put oi.dst v).tmps) = Region.wanted oj (yielded ops a.tmps) := wanted_put oj a oi.dst v a1
      have ei : ∀ u, execOp (a.put oj.dst u).eval oi = execOp a.eval oi := fun u => execOp_put oi hsi a oj.dst u a3
      have wi : ∀ u, Region.wanted oi (yielded ops (a.put oj.dst u).tmps) = Region.wanted oi (yielded ops a.tmps) := fun u => wanted_put oi a oj.dst u a3
      have hfree' : ∀ k ok, ops[k]? = some ok → k ≠ i → (l.setIfInBounds j true).getD k true = false → (∀ e ∈ ok.after, Region.binds .any e = true → e.on ≠ i) → oi.apart ops ok = true := fun k ok hk hki hun hno => by
        refine hfree k ok hk hki ?_ hno
        by_cases hjk : j = k
        · subst hjk; exact hjun
        · rw [getD_set_ne true hjk] at hun; exact hun
      have hY' : ∀ (u : Value) (S' : World → Prop), (level oj.op ≤ 1 → ∀ w, S' w → S w) → ((∀ S, YieldsK P ops S oi v (a.put oj.dst u)) ∨ (YieldsK P ops S' oi v (a.put oj.dst u) ∧ ∀ k ok, ops[k]? = some ok → k ≠ i → (l.setIfInBounds j true).getD k true = false → (∀ e ∈ ok.after, Region.binds .any e = true → e.on ≠ i) → level ok.op ≤ 1)) := by
        intro u S' hSS
        rcases hY with hY | ⟨hY, hlev⟩
        · exact .inl fun S => (hY S).of_same (ei u) (wi u)
        · refine .inr ⟨(hY.mono (hSS (hlev j oj hoj hji hjun hnot))).of_same (ei u) (wi u), fun k ok hk hki hun hno => hlev k ok hk hki ?_ hno⟩
          by_cases hjk : j = k
          · subst hjk; exact hjun
          · rw [getD_set_ne true hjk] at hun; exact hun
      obtain ⟨h0, h1⟩ := H.2 j (ready_mono hj hji) oj hoj
      refine ⟨fun hl => ?_, fun hl w hw => ?_⟩
      · obtain ⟨u, hu, hn⟩ := h0 hl
        refine ⟨u, hu.of_same ej.symm wj.symm, ?_⟩
        refine ih (l.setIfInBounds j true) (a.put oj.dst u) S hfree' (hY' u S fun _ w hw => hw) (ready_mono hr (Ne.symm hji)) ?_
        rw [Array.setIfInBounds_comm _ _ hji, ← Act.put_comm a v u a2]
        exact hn
      · have hd := h1 hl w hw
        unfold Does at hd ⊢
        rw [ej, wj] at hd
        have step : ∀ u w', (∃ S', Closed S' ∧ (level oj.op = 1 → ∀ w, S' w → S w) ∧ S' w' ∧ Any P ops Q f ((l.setIfInBounds i true).setIfInBounds j true) ((a.put oi.dst v).put oj.dst u) S') →
            ∃ S', Closed S' ∧ (level oj.op = 1 → ∀ w, S' w → S w) ∧ S' w' ∧ Any P ops Q (f + 1) (l.setIfInBounds j true) (a.put oj.dst u) S' := by
          rintro u w' ⟨S', hc, hsub, hS', hn⟩
          refine ⟨S', hc, hsub, hS', ih (l.setIfInBounds j true) (a.put oj.dst u) S' hfree' (hY' u S' fun hle => hsub (by omega)) (ready_mono hr (Ne.symm hji)) ?_⟩
          rw [Array.setIfInBounds_comm _ _ hji, ← Act.put_comm a v u a2]
          exact hn
        rcases hd with ⟨hw1, hd⟩ | ⟨hw1, hd⟩
        · exact .inl ⟨hw1, resE_mono step hd⟩
        · exact .inr ⟨hw1, step _ _ hd⟩

end
end Go.Proofs.YtnjmfedleimlmaaDoor.Ev

/- Every operation that looks at no memory is carried out as the evaluator says. -/
import Derived.Test.YtnjmfedleimlmaaDoorEvD
namespace Go.Proofs.YtnjmfedleimlmaaDoor.Ev
open Go

section
variable {P : Program} {cx : Cx} {ρ : Env} {β : Pl} {pc : PC}

def OptIs (ρ : Env) (β : Pl) (x : Option AV) (u : Option Value) : Prop :=
  match x, u with
  | none, none => True
  | some x, some u => x.Is ρ β u
  | _, _ => False
theorem litNat_ok (hp : pcOk ρ pc) {lim d n : Nat} {x : Option AV} {u : Option Value} (hx : OptIs ρ β x u) (h : litNat pc lim x d = some n) :
    (u = none ∧ n = d) ∨ ∃ k i, u = some (.int k i) ∧ 0 ≤ i ∧ i ≤ lim ∧ n = i.toNat := by
  cases x with
  | none =>
    cases u with
    | none => simp only [litNat, Option.some.injEq] at h; exact .inl ⟨rfl, h.symm⟩
    | some u => exact hx.elim
  | some x =>
    cases u with
    | none => exact hx.elim
    | some u =>
      unfold litNat at h
      split at h
      · rename_i heq; cases heq
      · rename_i k e heq
        cases heq
        have hx' : u = .int k (e.den ρ) := hx
        subst hx'
        rw [Option.bind_eq_some_iff] at h
        obtain ⟨m, hm, h⟩ := h
        have he := one_den hp hm
        split at h
        · rename_i hc
          simp only [Bool.and_eq_true, decide_eq_true_eq] at hc
          cases h
          exact .inr ⟨k, _, rfl, by omega, by omega, by rw [he]⟩
        · cases h
      · cases h
theorem sliceBound_run {k : IntKind} {i : Int} {y : Nat} {code : BoundsCode} (h0 : 0 ≤ i) (h1 : i ≤ y) (w : World) : (Instr.sliceBound (.int k i) y code).run P w = .ok i.toNat w := by
  simp [Instr.sliceBound, asIntOf, h0, h1]
theorem optEv_ok {s : St} {a : Act} (hT : Tmps cx ρ β s a) {o : Option Operand} {x : Option AV} (h : optEv cx s o = some x) :
    OptIs ρ β x (o.map a.eval) := by
  cases o with
  | none => simp only [optEv, Option.some.injEq] at h; subst h; trivial
  | some y =>
    simp only [optEv, Option.map_eq_some_iff] at h
    obtain ⟨z, hz, rfl⟩ := h
    exact hT.ev hz
theorem bounds_run (hp : pcOk ρ pc) {b : Bool} {len cap h l : Nat} {xh xl : Option AV} {uh ul : Option Value}
    (hxh : OptIs ρ β xh uh) (hxl : OptIs ρ β xl ul)
    (hh : litNat pc cap xh len = some h) (hl : litNat pc h xl 0 = some l) (w : World) : (Instr.sliceBounds b len cap ul uh none).run P w = .ok (l, h, cap) w := by
  rcases litNat_ok hp hxh hh with ⟨rfl, rfl⟩ | ⟨k, i, rfl, h0, h1, rfl⟩ <;> rcases litNat_ok hp hxl hl with ⟨rfl, rfl⟩ | ⟨k', i', rfl, g0, g1, rfl⟩
  · simp [Instr.sliceBounds]
  · simp [Instr.sliceBounds, sliceBound_run g0 g1]
  · simp [Instr.sliceBounds, sliceBound_run h0 h1]
  · simp [Instr.sliceBounds, sliceBound_run h0 h1, sliceBound_run g0 g1]
theorem evSlice_ok {s : St} {a : Act} (hT : Tmps cx ρ β s a) (hp : pcOk ρ pc) {t : TypeId} {x z : AV} {u : Value} (hx : x.Is ρ β u) {lo hi mx : Option Operand} (h : evSlice cx s pc t x lo hi mx = some z) :
    ∃ r, z.Is ρ β r ∧ ∀ w, (Instr.sliceAt t u (lo.map a.eval) (hi.map a.eval) (mx.map a.eval)).run cx.P w = .ok r w := by
  unfold evSlice at h
  split at h
  · rename_i xl xh hxl hxh
    have hol := optEv_ok hT hxl
    have hoh := optEv_ok hT hxh
    split at h
    · rename_i n elem b off hu
      obtain ⟨p, hpl, rfl⟩ := hx
      simp only [Option.bind_eq_some_iff, Option.map_eq_some_iff] at h
      obtain ⟨size, hs, hh, hhh, l, hll, rfl⟩ := h
      refine ⟨.slice (some ⟨p.1, p.2 + (if Nat.beq n l then off else off + l * size), none⟩) (hh - l) (n - l), ⟨p, hpl, rfl⟩, fun w => ?_⟩
      simp only [Instr.sliceAt, Sem.run_bind, run_underlying (hT.ok.un hu), Result.andThen_ok, Instr.sureAddr, Sem.run_pure, Option.map_none, bounds_run hp hoh hol hhh hll, size_run hT.ok hs]
      by_cases hnl : n = l
      · subst hnl; simp [Nat.beq_refl]
      · have hb : Nat.beq n l = false := by rw [Bool.eq_false_iff]; exact fun e => hnl (Nat.eq_of_beq_eq_true e)
        simp [hnl, hb, addr_add, Nat.add_assoc]
    · rename_i elem b off len cap hu
      obtain ⟨p, hpl, rfl⟩ := hx
      simp only [Option.bind_eq_some_iff, Option.map_eq_some_iff] at h
      obtain ⟨size, hs, hh, hhh, l, hll, rfl⟩ := h
      refine ⟨.slice (some ⟨p.1, p.2 + (if Nat.beq cap l then off else off + l * size), none⟩) (hh - l) (cap - l), ⟨p, hpl, rfl⟩, fun w => ?_⟩
      simp only [Instr.sliceAt, Instr.slice, Sem.run_bind, run_underlying (hT.ok.un hu), Result.andThen_ok, Sem.run_pure, Option.map_none, bounds_run hp hoh hol hhh hll, size_run hT.ok hs]
      by_cases hnl : cap = l
      · subst hnl; simp [Nat.beq_refl]
      · have hb : Nat.beq cap l = false := by rw [Bool.eq_false_iff]; exact fun e => hnl (Nat.eq_of_beq_eq_true e)
        simp [hnl, hb, addr_add, Nat.add_assoc]
    · cases h
  · cases h

theorem vrun {α : Type} {x : Sem Value} {r : Value} {w : World} (h : x.run P w = .ok r w) : ((do pure (.value (← x))) : Sem Next).run P w = .ok (.value r) w := by simp [h]

theorem leaf_eq {α : Type} {x y : α} (h : (Tr.leaf x).pick ρ = some y) : x = y := by simpa [Tr.pick] using h
theorem tb_pos {n : Int} {r : Int × Int} (hb : r.1 ≤ n ∧ n ≤ r.2) (h : (decide (0 < r.1) || decide (r.2 < 0)) = true) : tb n = true := by
  simp only [Bool.or_eq_true, decide_eq_true_eq] at h; exact tb_one (by omega)
theorem tb_nil {n : Int} {r : Int × Int} (hb : r.1 ≤ n ∧ n ≤ r.2) (h : (decide (r.1 = 0) && decide (r.2 = 0)) = true) : tb n = false := by
  simp only [Bool.and_eq_true, decide_eq_true_eq] at h; exact tb_zero (by omega)

theorem two_of {α β : Type} {f : α → β} {l : List α} {a b : β} (h : l.map f = [a, b]) : ∃ u v, l = [u, v] ∧ f u = a ∧ f v = b := by
  cases l with
  | nil => simp at h
  | cons u l =>
    cases l with
    | nil => simp at h
    | cons v l =>
      cases l with
      | nil => simp at h; exact ⟨u, v, rfl, h.1, h.2⟩
      | cons _ _ => simp at h
theorem evPure_ok {s : St} {a : Act} {o : Oper} (hT : Tmps cx ρ β s a) (hp : pcOk ρ s.pc) {z : AV} {pc' : PC} (h : (evPure cx s o).pick ρ = some (z, pc')) :
    pcOk ρ pc' ∧ ∃ r, z.Is ρ β r ∧ ∀ w, (execOp a.eval o).run cx.P w = .ok (.value r) w := by
  obtain ⟨dst, op, ty, pos, after, guard⟩ := o
  unfold evPure at h
  split at h
  · -- move
    rename_i x hop
    simp only at hop; subst hop
    obtain ⟨v, hv, h⟩ := must_pick h
    cases leaf_eq h
    exact ⟨hp, _, hT.ev hv, fun w => rfl⟩
  · -- assign
    rename_i x hop
    simp only at hop; subst hop
    obtain ⟨v, hv, h⟩ := must_pick h
    cases leaf_eq h
    exact ⟨hp, _, hT.ev hv, fun w => rfl⟩
  · -- pick
    rename_i c x y hop
    simp only at hop; subst hop
    have hrun : ∀ b, a.eval c = .bool b → ∀ w, (execOp a.eval ⟨dst, .pick c x y, ty, pos, after, guard⟩).run cx.P w = .ok (.value (if b then a.eval x else a.eval y)) w := fun b hb w => by
      cases b <;> simp [execOp, hb, asBool]
    split at h
    · rename_i e u v hc hx hy
      have hcI := hT.ev hc
      simp only [AV.Is, A1.Is, AT.Is] at hcI
      split at h
      · rename_i r hr
        have hb := rng_sound hp hr
        split at h
        · rename_i hd
          cases leaf_eq h
          exact ⟨hp, _, hT.ev hx, fun w => by rw [hrun _ hcI, tb_pos hb hd]; rfl⟩
        · split at h
          · rename_i hd
            cases leaf_eq h
            exact ⟨hp, _, hT.ev hy, fun w => by rw [hrun _ hcI, tb_nil hb hd]; rfl⟩
          · split at h
            · rename_i p q
              obtain ⟨m, hm, h⟩ := must_pick h
              cases leaf_eq h
              have hi := mrg_is hp hm (hT.ev hx) (hT.ev hy)
              refine ⟨hp, _, hi, fun w => ?_⟩
              rw [hrun _ hcI]
              by_cases he : e.den ρ = 0
              · rw [tb_zero he, if_pos he]; rfl
              · rw [tb_one he, if_neg he]; rfl
            · simp [Tr.pick] at h
      · simp [Tr.pick] at h
    · rename_i e u v hc _
      have hcI := hT.ev hc
      simp only [AV.Is, A1.Is, AT.Is] at hcI
      split at h
      · rename_i r hr
        have hb := rng_sound hp hr
        split at h
        · rename_i hd
          obtain ⟨m, hm, h⟩ := must_pick h
          cases leaf_eq h
          exact ⟨hp, _, hT.ev hm, fun w => by rw [hrun _ hcI, tb_pos hb hd]; rfl⟩
        · split at h
          · rename_i hd
            obtain ⟨m, hm, h⟩ := must_pick h
            cases leaf_eq h
            exact ⟨hp, _, hT.ev hm, fun w => by rw [hrun _ hcI, tb_nil hb hd]; rfl⟩
          · simp [Tr.pick] at h
      · simp [Tr.pick] at h
    · simp [Tr.pick] at h
  · -- binOp
    rename_i op t x y yt hop
    simp only at hop; subst hop
    have fin' : ∀ {r : Value}, (∀ f g : Operand, eqGuard op t f g (a.eval x) (a.eval y) = pure ()) → (∀ w, (binOp op t (a.eval x) (a.eval y)).run cx.P w = .ok r w) →
        ∀ w, (execOp a.eval ⟨dst, .binOp op t x y yt, ty, pos, after, guard⟩).run cx.P w = .ok (.value r) w := fun hg hr w => by
      simp [execOp, hg, hr]
    split at h
    · rename_i u v hx hy
      split at h
      · obtain ⟨h1, r, h2, h3, h4⟩ := evEqB_ok hT.ok hp (hT.ev hx) (hT.ev hy) h
        exact ⟨h1, r, h2, fin' h3 h4⟩
      · obtain ⟨h1, r, h2, h3, h4⟩ := evEqB_ok hT.ok hp (hT.ev hx) (hT.ev hy) h
        exact ⟨h1, r, h2, fin' h3 h4⟩
      · obtain ⟨h1, r, h2, h3, h4⟩ := evEqB_ok hT.ok hp (hT.ev hx) (hT.ev hy) h
        exact ⟨h1, r, h2, fin' h3 h4⟩
      · obtain ⟨h1, r, h2, h3, h4⟩ := evEqS_ok hT.ok hp (hT.ev hx) (hT.ev hy) h
        exact ⟨h1, r, h2, fun w => by simp [execOp, h3, h4]⟩
      · obtain ⟨h1, r, h2, h3, h4⟩ := evBin_ok hp (hT.ev hx) (hT.ev hy) h
        exact ⟨h1, r, h2, fin' h3 h4⟩
    · simp [Tr.pick] at h
  · -- unOp
    rename_i op t x hop
    simp only at hop; subst hop
    obtain ⟨v, hv, h⟩ := must_pick h
    obtain ⟨h1, r, h2, h3⟩ := evUn_ok (P := cx.P) hp (hT.ev hv) h
    exact ⟨h1, r, h2, fun w => by simp [execOp, h3]⟩
  · -- convert
    rename_i src dt x hop
    simp only at hop; subst hop
    split at h
    · rename_i d k k' e hs hd hx
      have hi := hT.ev hx
      simp only [AV.Is, A1.Is, AT.Is] at hi
      cases leaf_eq h
      exact ⟨hp, _, rfl, fun w => by simp [execOp, convert, run_underlying (hT.ok.un hs), run_underlying (hT.ok.un hd), hi, Conv.intToInt, mkWrap_den hp]⟩
    · simp [Tr.pick] at h
  · -- nilCheck
    rename_i x hop
    simp only at hop; subst hop
    split at h
    · rename_i l off hx
      have hi := hT.ev hx
      obtain ⟨p, hpl, he⟩ := hi
      cases leaf_eq h
      exact ⟨hp, _, ⟨p, hpl, rfl⟩, fun w => by simp [execOp, he]⟩
    · rename_i l off i n hx
      have hi := hT.ev hx
      obtain ⟨p, hpl, he⟩ := hi
      cases leaf_eq h
      exact ⟨hp, _, ⟨p, hpl, rfl⟩, fun w => by simp [execOp, he]⟩
    · simp [Tr.pick] at h
  · -- build
    rename_i t ps hop
    simp only at hop; subst hop
    obtain ⟨v, hv, h⟩ := must_pick h
    cases leaf_eq h
    obtain ⟨r, h1, h2⟩ := evBuild_ok hT hv
    exact ⟨hp, r, h1, fun w => by simp [execOp, h2]⟩
  · -- fieldAddr
    rename_i t x f hop
    simp only at hop; subst hop
    split at h
    · rename_i fs y hu hx
      obtain ⟨fd, hfd, h⟩ := must_pick h
      obtain ⟨n, hn, h⟩ := must_pick h
      split at h
      · simp [Tr.pick] at h
      · rename_i hn0
        have hn0' : n ≠ 0 := fun e => hn0 (by subst e; rfl)
        have hrun : ∀ (ad : Addr) w, (fieldPlace ad fd).run cx.P w = .ok (ad.add fd.offset) w := fun ad w => by simp [fieldPlace, size_run hT.ok hn, hn0']
        have hi := hT.ev hx
        split at h
        · obtain ⟨p, hpl, he⟩ := hi
          cases leaf_eq h
          exact ⟨hp, _, ⟨p, hpl, rfl⟩, fun w => by simp [execOp, Instr.fieldAt, run_underlying (hT.ok.un hu), hfd, he, Instr.sureAddr, hrun, addr_add, Nat.add_assoc]⟩
        · rename_i l off i m _ _
          obtain ⟨p, hpl, he⟩ := hi
          cases leaf_eq h
          have e1 : p.2 + (off + (i.den ρ).toNat * m) + fd.offset = p.2 + (off + fd.offset + (i.den ρ).toNat * m) := by omega
          exact ⟨hp, _, ⟨p, hpl, rfl⟩, fun w => by simp [execOp, Instr.fieldAt, run_underlying (hT.ok.un hu), hfd, he, Instr.sureAddr, hrun, addr_add, e1]⟩
        · simp [Tr.pick] at h
    · simp [Tr.pick] at h
  · -- field
    rename_i t x f hop
    simp only at hop; subst hop
    split at h
    · rename_i fs cs hu hx
      obtain ⟨fd, hfd, h⟩ := must_pick h
      obtain ⟨p, hpart, h⟩ := must_pick h
      cases leaf_eq h
      obtain ⟨vs, he, hc⟩ := hT.ev hx
      obtain ⟨r, hr, hrr⟩ := part1_ok hT.ok hpart hc
      exact ⟨hp, r, hr, fun w => by simp [execOp, Instr.field, run_underlying (hT.ok.un hu), hfd, he, asAgg, hrr]⟩
    · simp [Tr.pick] at h
  · -- indexAddr
    rename_i t x i hop
    simp only at hop; subst hop
    obtain ⟨u, hx, h⟩ := must_pick h
    obtain ⟨v, hi, h⟩ := must_pick h
    obtain ⟨h1, r, h2, h3⟩ := evIndexAddr_ok hT.ok hp (hT.ev hx) (hT.ev hi) h
    exact ⟨h1, r, h2, fun w => by simp [execOp, h3]⟩
  · -- index
    rename_i t x i hop
    simp only at hop; subst hop
    obtain ⟨u, hx, h⟩ := must_pick h
    obtain ⟨v, hi, h⟩ := must_pick h
    obtain ⟨h1, r, h2, h3⟩ := evIndex_ok hT.ok hp (hT.ev hx) (hT.ev hi) h
    exact ⟨h1, r, h2, fun w => by simp [execOp, h3]⟩
  · -- extract
    rename_i x i hop
    simp only at hop; subst hop
    split at h
    · rename_i l hx
      obtain ⟨p, hpi, h⟩ := must_pick h
      cases leaf_eq h
      obtain ⟨vs, he, hc⟩ := hT.ev hx
      obtain ⟨r, hr, hri⟩ := hc.get hpi
      have hr' : vs[i]? = some r := by simpa using hr
      exact ⟨hp, r, hri, fun w => by simp [execOp, Instr.extract, he, hr']⟩
    · simp [Tr.pick] at h
  · -- slice
    rename_i t x lo hi mx hop
    simp only at hop; subst hop
    obtain ⟨u, hx, h⟩ := must_pick h
    obtain ⟨v, hv, h⟩ := must_pick h
    cases leaf_eq h
    obtain ⟨r, h1, h2⟩ := evSlice_ok hT hp (hT.ev hx) hv
    exact ⟨hp, r, h1, fun w => by simp [execOp, h2]⟩
  · -- len
    rename_i args argTypes hop
    simp only at hop; subst hop
    have hrun : ∀ {t : TypeId} {x : Operand} {r : Value}, argTypes[0]? = some t → args[0]? = some x → (∀ w, (Builtin.len_ argTypes ty (args.map a.eval)).run cx.P w = .ok r w) →
        ∀ w, (execOp a.eval ⟨dst, .call { callee := .builtin .len, args, argTypes }, ty, pos, after, guard⟩).run cx.P w = .ok (.value r) w := fun _ _ hr w => by
      simp [execOp, resolve, invoke, builtin, hr]
    split at h
    · rename_i e l off n c ht hx
      simp only [Option.bind_eq_some_iff] at ht hx
      obtain ⟨t, ht, hu⟩ := ht
      obtain ⟨x, hx, hxe⟩ := hx
      obtain ⟨p, hpl, he⟩ := hT.ev hxe
      cases leaf_eq h
      exact ⟨hp, _, rfl, hrun ht hx fun w => by simp [Builtin.len_, ht, hx, run_underlying (hT.ok.un hu), he, goInt, E.den]⟩
    · rename_i e b n c ht hx
      simp only [Option.bind_eq_some_iff] at ht hx
      obtain ⟨t, ht, hu⟩ := ht
      obtain ⟨x, hx, hxe⟩ := hx
      obtain ⟨he, _⟩ := hT.ev hxe
      cases leaf_eq h
      exact ⟨hp, _, rfl, hrun ht hx fun w => by simp [Builtin.len_, ht, hx, run_underlying (hT.ok.un hu), he, goInt, E.den]⟩
    · rename_i n e v ht hx
      simp only [Option.bind_eq_some_iff] at ht hx
      obtain ⟨t, ht, hu⟩ := ht
      obtain ⟨x, hx, hxe⟩ := hx
      cases leaf_eq h
      exact ⟨hp, _, rfl, hrun ht hx fun w => by simp [Builtin.len_, ht, hx, run_underlying (hT.ok.un hu), goInt, E.den]⟩
    · simp [Tr.pick] at h
  · -- min, max
    rename_i b args argTypes _ hop
    simp only at hop; subst hop
    split at h
    · rename_i k x k' y hl _
      cases leaf_eq h
      obtain ⟨u, v, hargs, hu, hv⟩ : ∃ u v, args = #[u, v] ∧ s.ev cx u = some (.v (.c (.int k x))) ∧ s.ev cx v = some (.v (.c (.int k' y))) := by
        obtain ⟨u, v, h0, h1, h2⟩ := two_of hl
        exact ⟨u, v, by cases args; simp only at h0; rw [h0], h1, h2⟩
      subst hargs
      have h1 := hT.ev hu
      have h2 := hT.ev hv
      simp only [AV.Is, A1.Is, AT.Is] at h1 h2
      refine ⟨hp, _, rfl, fun w => ?_⟩
      simp [execOp, resolve, invoke, builtin, Builtin.min_, h1, h2, Builtin.min2, minE, fin_den hp, E.den]
      by_cases hlt : y.den ρ < x.den ρ <;> simp [hlt, truth]
    · rename_i k x k' y hl _
      cases leaf_eq h
      obtain ⟨u, v, hargs, hu, hv⟩ : ∃ u v, args = #[u, v] ∧ s.ev cx u = some (.v (.c (.int k x))) ∧ s.ev cx v = some (.v (.c (.int k' y))) := by
        obtain ⟨u, v, h0, h1, h2⟩ := two_of hl
        exact ⟨u, v, by cases args; simp only at h0; rw [h0], h1, h2⟩
      subst hargs
      have h1 := hT.ev hu
      have h2 := hT.ev hv
      simp only [AV.Is, A1.Is, AT.Is] at h1 h2
      refine ⟨hp, _, rfl, fun w => ?_⟩
      simp [execOp, resolve, invoke, builtin, Builtin.max_, h1, h2, Builtin.max2, maxE, fin_den hp, E.den]
      by_cases hlt : x.den ρ < y.den ρ <;> simp [hlt, truth]
    · simp [Tr.pick] at h
  · simp [Tr.pick] at h

end
end Go.Proofs.YtnjmfedleimlmaaDoor.Ev

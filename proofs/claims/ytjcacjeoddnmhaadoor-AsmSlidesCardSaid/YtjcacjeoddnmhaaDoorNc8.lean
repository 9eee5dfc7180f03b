/- What the laws of this claim are proved with, joined (join.py) of 3 texts: no condition. -/
import Derived.Test.YtjcacjeoddnmhaaDoorNc7
import Derived.Scope
set_option linter.unusedVariables false
set_option linter.unusedSimpArgs false

/- Regions that draw their order, by a plan that is given. -/
namespace Go.Proofs.YtjcacjeoddnmhaaDoor.Pw
open Go Go.RowKit

mutual
/-- in which order a region's operations are carried out: what looks at no memory; loads; what takes effect, and what else could come first -/
inductive Plan where
  | done
  | pure (i : Nat) (r : Plan)
  | load (i : Nat) (D : List Nat) (r : Plan)
  | eff (i : Nat) (r : Plan) (more : Plans)
inductive Plans where
  | nil
  | cons (j : Nat) (r : Plan) (more : Plans)
  | alt (j : Nat) (r : Plan) (more : Plans)
  | sub (j : Nat) (r : Plan) (more : Plans)
end
def natsB : List Nat → List Nat → Bool
  | [], [] => true
  | a :: l, b :: m => Nat.beq a b && natsB l m
  | _, _ => false
def effAt (ops : Array Oper) (i : Nat) : Bool := match ops[i]? with
  | some o => eff o.op
  | none => false
def plansB (chk : Nat → Plan → Bool) : List Nat → Plans → Bool
  | [], .nil => true
  | j :: l, .cons k r ms => Nat.beq j k && chk j r && plansB chk l ms
  | j :: l, .alt k r ms => Nat.beq j k && chk j r && plansB chk l ms
  | j :: l, .sub k r ms => Nat.beq j k && chk j r && plansB chk l ms
  | _, _ => false
/-- is a plan the region's? -/
def planB (ops : Array Oper) : Nat → Array Bool → Plan → Bool
  | _, listed, .done => (Region.ready .any ops listed).isEmpty
  | 0, _, _ => false
  | fuel + 1, listed, .pure i r => (match Ev.firstOf (pureTake ops listed) (Region.ready .any ops listed) with
    | some k => Nat.beq k i && planB ops fuel (listed.setIfInBounds i true) r
    | none => false)
  | fuel + 1, listed, .load i D r => (match Ev.firstOf (loadTake ops listed) (Region.ready .any ops listed) with
    | some k => Nat.beq k i && natsB D (depsGo listed i ops.toList 0 []) && okD ops.toList listed i D && planB ops fuel (listed.setIfInBounds i true) r
    | none => false)
  | fuel + 1, listed, .eff i r ms => (match Region.ready .any ops listed with
    | i0 :: more => Nat.beq i0 i && effAt ops i && more.all (effAt ops) && planB ops fuel (listed.setIfInBounds i true) r && plansB (fun j r => planB ops fuel (listed.setIfInBounds j true) r) more ms
    | [] => false)
/-- a state says no less than another one -/
def Sub (G : Gx) (s s' : PSt) : Prop := ∀ I β a w, Rel G I β s a w → ∃ I' β', Rel G I' β' s' a w ∧ Goes I β s w I' β' s' w
mutual
def runPlan (G : Gx) (ops : List Oper) : Plan → PSt → List Pin → (PSt → Prop) → Prop
  | .done, s, _, K => K s
  | .pure i r, s, pins, K => need ops[i]? fun o => pguard ops s o (fun s => ppure G.cx s o.op fun v => s.put o.dst v fun s => runPlan G ops r s pins K) (fun s => s.put o.dst (.tup []) fun s => runPlan G ops r s pins K)
  | .load i D r, s, pins, K => need ops[i]? fun o => pguard ops s o (fun s => match o.op with
      | .load t ad => s.ev ad fun x => pload G s.st t x fun v => s.put o.dst v fun s => runPlan G ops r s (addPin D x pins) K
      | _ => False) (fun s => s.put o.dst (.tup []) fun s => runPlan G ops r s pins K)
  | .eff i r ms, s, pins, K => need ops[i]? fun o => match ms with
    | .nil => prun1 G ops s i o pins fun s1 => runPlan G ops r s1 (unpinP i pins) K
    | .cons j r' ms' => prun1 G ops s i o pins fun s1 => runPlan G ops r s1 (unpinP i pins) fun sf => K sf ∧ (need ops[j]? fun o => prun1 G ops s j o pins fun s2 => runPlan G ops r' s2 (unpinP j pins) fun sf2 => sf2 = sf) ∧ runPlans G ops ms' s pins sf
    | .sub j r' ms' => prun1 G ops s i o pins fun s1 => runPlan G ops r s1 (unpinP i pins) fun sf => ∃ sf0, Sub G sf sf0 ∧ K sf0 ∧ (need ops[j]? fun o => prun1 G ops s j o pins fun s2 => runPlan G ops r' s2 (unpinP j pins) fun sf2 => Sub G sf2 sf0) ∧ runSubs G ops ms' s pins sf0
    | .alt j r' ms' => (prun1 G ops s i o pins fun s1 => runPlan G ops r s1 (unpinP i pins) K) ∧ (need ops[j]? fun o => prun1 G ops s j o pins fun s2 => runPlan G ops r' s2 (unpinP j pins) K) ∧ runAlts G ops ms' s pins K
def runPlans (G : Gx) (ops : List Oper) : Plans → PSt → List Pin → PSt → Prop
  | .nil, _, _, _ => True
  | .cons j r ms, s, pins, sf => (need ops[j]? fun o => prun1 G ops s j o pins fun s2 => runPlan G ops r s2 (unpinP j pins) fun sf2 => sf2 = sf) ∧ runPlans G ops ms s pins sf
  | .alt _ _ _, _, _, _ => False
  | .sub _ _ _, _, _, _ => False
/-- other orders, each of which ends in no less than is known of the first -/
def runSubs (G : Gx) (ops : List Oper) : Plans → PSt → List Pin → PSt → Prop
  | .nil, _, _, _ => True
  | .sub j r ms, s, pins, sf => (need ops[j]? fun o => prun1 G ops s j o pins fun s2 => runPlan G ops r s2 (unpinP j pins) fun sf2 => Sub G sf2 sf) ∧ runSubs G ops ms s pins sf
  | .cons _ _ _, _, _, _ => False
  | .alt _ _ _, _, _, _ => False
/-- other orders, each of which ends as is asked by itself -/
def runAlts (G : Gx) (ops : List Oper) : Plans → PSt → List Pin → (PSt → Prop) → Prop
  | .nil, _, _, _ => True
  | .alt j r ms, s, pins, K => (need ops[j]? fun o => prun1 G ops s j o pins fun s2 => runPlan G ops r s2 (unpinP j pins) K) ∧ runAlts G ops ms s pins K
  | .cons _ _ _, _, _, _ => False
  | .sub _ _ _, _, _, _ => False
end

section
variable {w w' : World} {I I' : Nat → Prop} {β β' : Places} {G : Gx} {s : PSt} {a : Act} {st st' : List PBlk} {ops : Array Oper}

theorem plansB_mem {chk : Nat → Plan → Bool} : ∀ {l : List Nat} {ms : Plans}, plansB chk l ms = true → ∀ {pins : List Pin} {sf : PSt}, runPlans G ops.toList ms s pins sf → ∀ j ∈ l, ∃ r, chk j r = true ∧ need ops.toList[j]? fun o => prun1 G ops.toList s j o pins fun s2 => runPlan G ops.toList r s2 (unpinP j pins) fun sf2 => sf2 = sf
  | [], _, _, _, _, _, _, hj => by cases hj
  | i :: l, .nil, h, _, _, _, _, _ => by cases h
  | i :: l, .alt k r ms, h, pins, sf, hr, j, hj => by unfold runPlans at hr; exact hr.elim
  | i :: l, .sub k r ms, h, pins, sf, hr, j, hj => by unfold runPlans at hr; exact hr.elim
  | i :: l, .cons k r ms, h, pins, sf, hr, j, hj => by
    simp only [plansB, Bool.and_eq_true] at h
    obtain ⟨⟨h1, h2⟩, h3⟩ := h
    obtain rfl := Nat.eq_of_beq_eq_true h1
    unfold runPlans at hr
    rcases List.mem_cons.1 hj with rfl | hj
    · exact ⟨r, h2, hr.1⟩
    · exact plansB_mem h3 hr.2 j hj
theorem plansB_memA {chk : Nat → Plan → Bool} : ∀ {l : List Nat} {ms : Plans}, plansB chk l ms = true → ∀ {pins : List Pin} {K : PSt → Prop}, runAlts G ops.toList ms s pins K → ∀ j ∈ l, ∃ r, chk j r = true ∧ need ops.toList[j]? fun o => prun1 G ops.toList s j o pins fun s2 => runPlan G ops.toList r s2 (unpinP j pins) K
  | [], _, _, _, _, _, _, hj => by cases hj
  | i :: l, .nil, h, _, _, _, _, _ => by cases h
  | i :: l, .cons k r ms, h, pins, K, hr, j, hj => by unfold runAlts at hr; exact hr.elim
  | i :: l, .sub k r ms, h, pins, K, hr, j, hj => by unfold runAlts at hr; exact hr.elim
  | i :: l, .alt k r ms, h, pins, K, hr, j, hj => by
    simp only [plansB, Bool.and_eq_true] at h
    obtain ⟨⟨h1, h2⟩, h3⟩ := h
    obtain rfl := Nat.eq_of_beq_eq_true h1
    unfold runAlts at hr
    rcases List.mem_cons.1 hj with rfl | hj
    · exact ⟨r, h2, hr.1⟩
    · exact plansB_memA h3 hr.2 j hj
theorem plansB_memS {chk : Nat → Plan → Bool} : ∀ {l : List Nat} {ms : Plans}, plansB chk l ms = true → ∀ {pins : List Pin} {sf : PSt}, runSubs G ops.toList ms s pins sf → ∀ j ∈ l, ∃ r, chk j r = true ∧ need ops.toList[j]? fun o => prun1 G ops.toList s j o pins fun s2 => runPlan G ops.toList r s2 (unpinP j pins) fun sf2 => Sub G sf2 sf
  | [], _, _, _, _, _, _, hj => by cases hj
  | i :: l, .nil, h, _, _, _, _, _ => by cases h
  | i :: l, .cons k r ms, h, pins, sf, hr, j, hj => by unfold runSubs at hr; exact hr.elim
  | i :: l, .alt k r ms, h, pins, sf, hr, j, hj => by unfold runSubs at hr; exact hr.elim
  | i :: l, .sub k r ms, h, pins, sf, hr, j, hj => by
    simp only [plansB, Bool.and_eq_true] at h
    obtain ⟨⟨h1, h2⟩, h3⟩ := h
    obtain rfl := Nat.eq_of_beq_eq_true h1
    unfold runSubs at hr
    rcases List.mem_cons.1 hj with rfl | hj
    · exact ⟨r, h2, hr.1⟩
    · exact plansB_memS h3 hr.2 j hj
theorem effAt_ok {i : Nat} {o : Oper} (ho : ops[i]? = some o) (h : effAt ops i = true) : eff o.op = true := by unfold effAt at h; rw [ho] at h; exact h

theorem runPlan_ok (hG : GOk G) (hsel : Region.noSelect ops = true) : ∀ (fuel : Nat) (p : Plan) (Q : Exit → Act → World → Prop) (l : Array Bool) (s : PSt) (a : Act) (I : Nat → Prop) (β : Places) (w : World) (pins : List Pin) (ys : List PinY) (K : PSt → Prop),
    planB ops fuel l p = true → runPlan G ops.toList p s pins K → Rel G I β s a w → PinsOk pins ys I β s.st w → (∀ s' I' β' a' w', K s' → Rel G I' β' s' a' w' → Goes I β s w I' β' s' w' → Q .normal a' w') → AnyP G.cx.P ops Q fuel l a (fun w2 => w2 = w) ys := by
  intro fuel
  have fin : ∀ (fuel : Nat) (Q : Exit → Act → World → Prop) (l : Array Bool) (s : PSt) (a : Act) (I : Nat → Prop) (β : Places) (w : World) (ys : List PinY) (K : PSt → Prop), (Region.ready .any ops l).isEmpty = true → K s → Rel G I β s a w → (∀ s' I' β' a' w', K s' → Rel G I' β' s' a' w' → Goes I β s w I' β' s' w' → Q .normal a' w') → AnyP G.cx.P ops Q fuel l a (fun w2 => w2 = w) ys := by
    intro fuel Q l s a I β w ys K hr h hR hQ
    have hr' : Region.ready .any ops l = [] := by simpa using hr
    cases fuel with
    | zero => exact ⟨hr', fun w2 hw => by subst hw; exact hQ s I β a w2 h hR (Goes.same ⟨rfl, rfl, rfl, rfl⟩)⟩
    | succ fuel => exact ⟨fun _ w2 hw => by subst hw; exact hQ s I β a w2 h hR (Goes.same ⟨rfl, rfl, rfl, rfl⟩), fun i hi => by rw [hr'] at hi; cases hi⟩
  induction fuel with
  | zero =>
    intro p Q l s a I β w pins ys K hp h hR _ hQ
    cases p with
    | done => exact fin 0 Q l s a I β w ys K (by simpa only [planB] using hp) (by simpa only [runPlan] using h) hR hQ
    | pure => simp [planB] at hp
    | load => simp [planB] at hp
    | eff => simp [planB] at hp
  | succ fuel ih =>
    intro p Q l s a I β w pins ys K hp h hR hpo hQ
    cases p with
    | done => exact fin (fuel + 1) Q l s a I β w ys K (by simpa only [planB] using hp) (by simpa only [runPlan] using h) hR hQ
    | pure i r =>
      simp only [planB] at hp
      split at hp
      · rename_i k hfirst
        simp only [Bool.and_eq_true] at hp
        obtain ⟨hk, hp⟩ := hp
        obtain rfl := Nat.eq_of_beq_eq_true hk
        obtain ⟨hmem, htake⟩ := Ev.firstOf_some hfirst
        unfold runPlan at h
        replace h := need_ok h
        obtain ⟨o, ho, h⟩ := h
        rw [Array.getElem?_toList] at ho
        unfold pureTake at htake
        rw [ho] at htake
        simp only [Bool.and_eq_true] at htake
        have he : eff o.op = false := by unfold eff; rw [htake.1]; rfl
        rcases pguard_ok hR h with ⟨hwant, s1, h1, hs1, hR1⟩ | ⟨hwant, s1, h1, hs1, hR1⟩
        · obtain ⟨x, v, h1, hx, hrun⟩ := ppure_ok hG.ok hR1 h1
          obtain ⟨s3, h3, hs3, hr3⟩ := PSt.put_ok (G := G) h1
          refine AnyP.first (v := v) (D := []) (Y := fun _ => True) ho he hsel fuel l a _ ys (Region.free_spec ho htake.2) (fun j hj => by cases hj) (.inl ⟨hwant, fun w2 _ => hrun w2⟩) (fun _ _ => trivial) hmem (AnyP.addTrue _ _ _ _ _ ?_)
          exact ih r Q _ s3 _ I β w pins ys K hp h3 (hr3 _ _ _ _ _ hR1 hx) (by rw [hs3.st, hs1.st]; exact hpo) (fun s' I' β' a' w' hk hR' hg => hQ s' I' β' a' w' hk hR' (((Goes.same hs1).trans (Goes.same hs3)).trans hg))
        · obtain ⟨s3, h3, hs3, hr3⟩ := PSt.put_ok (G := G) h1
          refine AnyP.first (v := undef) (D := []) (Y := fun _ => True) ho he hsel fuel l a _ ys (Region.free_spec ho htake.2) (fun j hj => by cases hj) (.inr ⟨hwant, rfl⟩) (fun _ _ => trivial) hmem (AnyP.addTrue _ _ _ _ _ ?_)
          exact ih r Q _ s3 _ I β w pins ys K hp h3 (hr3 _ _ _ _ _ hR1 Is.undef) (by rw [hs3.st, hs1.st]; exact hpo) (fun s' I' β' a' w' hk hR' hg => hQ s' I' β' a' w' hk hR' (((Goes.same hs1).trans (Goes.same hs3)).trans hg))
      · cases hp
    | load i D r =>
      simp only [planB] at hp
      split at hp
      · rename_i k hfirst
        simp only [Bool.and_eq_true] at hp
        obtain ⟨⟨⟨hk, hDe⟩, hD⟩, hp⟩ := hp
        obtain rfl := Nat.eq_of_beq_eq_true hk
        obtain ⟨hmem, htake⟩ := Ev.firstOf_some hfirst
        unfold runPlan at h
        replace h := need_ok h
        obtain ⟨o, ho, h⟩ := h
        rw [Array.getElem?_toList] at ho
        unfold loadTake at htake
        rw [ho] at htake
        simp only [Bool.and_eq_true] at htake
        have he : eff o.op = false := by unfold eff; rw [htake.1, Bool.or_true]; rfl
        rcases pguard_ok hR h with ⟨hwant, s1, h1, hs1, hR1⟩ | ⟨hwant, s1, h1, hs1, hR1⟩
        · split at h1
          · rename_i t ad hop
            replace h1 := PSt.ev_ok hR1 h1
            obtain ⟨x, h1, hx⟩ := h1
            obtain ⟨z, v, g, h1, hz, hg, hrun⟩ := pload_ok hG.ok hR1.heap hR1.imm h1 hx
            obtain ⟨s3, h3, hs3, hr3⟩ := PSt.put_ok (G := G) h1
            have hrun' : ∀ w2 : World, w2.heap[g]? = w.heap[g]? → (execOp a.eval o).run G.cx.P w2 = .ok (.value v) w2 := fun w2 hw2 => by
              unfold execOp
              rw [hop]
              simp only [Sem.run_bind, hrun w2 hw2, Result.andThen_ok, Sem.run_pure]
            have hgl : g < w.heap.size := by
              rcases hg with hg | ⟨l', b, p, o', _, hb, hlive, hpl, hpa⟩
              · exact hR.imm.imm g hg
              · exact hR1.heap.lives_lt ⟨l', b, p, o', hb, hlive, hpl, hpa⟩
            refine AnyP.first (v := v) (D := D) (Y := fun w2 => w2.heap[g]? = w.heap[g]?) ho he hsel fuel l a _ ys (Region.free_spec ho htake.2) (okD_ok hD) (.inl ⟨hwant, hrun'⟩) (fun w2 hw2 => by rw [hw2]) hmem ?_
            refine ih r Q _ s3 _ I β w (addPin D x pins) _ K hp h3 (hr3 _ _ _ _ _ hR1 hz) ?_ (fun s' I' β' a' w' hk hR' hg => hQ s' I' β' a' w' hk hR' (((Goes.same hs1).trans (Goes.same hs3)).trans hg))
            rw [hs3.st, hs1.st]
            intro y hy
            rcases List.mem_cons.1 hy with rfl | hy
            · refine .inr ⟨g, fun _ => Iff.rfl, hgl, ?_⟩
              rcases hg with hg | ⟨l', b, p, o', hblk, hb, hlive, hpl, hpa⟩
              · exact .inl hg
              · refine .inr ⟨⟨D, l'⟩, by unfold addPin; rw [hblk]; exact List.mem_cons_self, rfl, b, p, o', by rw [← hs1.st]; exact hb, hlive, hpl, hpa⟩
            · rcases hpo y hy with h | ⟨g', k1, k2, k3⟩
              · exact .inl h
              · refine .inr ⟨g', k1, k2, k3.imp id fun ⟨p, hpm, k4⟩ => ⟨p, ?_, k4⟩⟩
                unfold addPin
                split
                · exact List.mem_cons_of_mem _ hpm
                · exact hpm
          · exact h1.elim
        · obtain ⟨s3, h3, hs3, hr3⟩ := PSt.put_ok (G := G) h1
          refine AnyP.first (v := undef) (D := []) (Y := fun _ => True) ho he hsel fuel l a _ ys (Region.free_spec ho htake.2) (fun j hj => by cases hj) (.inr ⟨hwant, rfl⟩) (fun _ _ => trivial) hmem (AnyP.addTrue _ _ _ _ _ ?_)
          exact ih r Q _ s3 _ I β w pins ys K hp h3 (hr3 _ _ _ _ _ hR1 Is.undef) (by rw [hs3.st, hs1.st]; exact hpo) (fun s' I' β' a' w' hk hR' hg => hQ s' I' β' a' w' hk hR' (((Goes.same hs1).trans (Goes.same hs3)).trans hg))
      · cases hp
    | eff i r ms =>
      simp only [planB] at hp
      split at hp
      · rename_i i0 more hrdy
        simp only [Bool.and_eq_true] at hp
        obtain ⟨⟨⟨⟨hk, hei⟩, hem⟩, hpr⟩, hpm⟩ := hp
        obtain rfl := Nat.eq_of_beq_eq_true hk
        rw [List.all_eq_true] at hem
        unfold runPlan at h
        replace h := need_ok h
        obtain ⟨o, ho, h⟩ := h
        rw [Array.getElem?_toList] at ho
        have he := effAt_ok ho hei
        have hne : Region.ready .any ops l ≠ [] := by rw [hrdy]; simp
        -- one of them, then the rest
        have go : ∀ {j : Nat} {oj : Oper} {rj : Plan} {K' : PSt → Prop}, planB ops fuel (l.setIfInBounds j true) rj = true → ops[j]? = some oj → eff oj.op = true → (prun1 G ops.toList s j oj pins fun s1 => runPlan G ops.toList rj s1 (unpinP j pins) K') → (∀ sf, K' sf → K sf) →
            (eff oj.op = false → ∃ v, Yields G.cx.P ops (fun w2 => w2 = w) oj v a ∧ AnyP G.cx.P ops Q fuel (l.setIfInBounds j true) (a.put oj.dst v) (fun w2 => w2 = w) (unpin j ys)) ∧
            (eff oj.op = true → ∀ w2, w2 = w → Ev.Does G.cx.P ops oj a w2 fun v w' => ∃ S' : World → Prop, (∀ p ∈ unpin j ys, ∀ w, S' w → p.Y w) ∧ S' w' ∧ AnyP G.cx.P ops Q fuel (l.setIfInBounds j true) (a.put oj.dst v) S' (unpin j ys)) := by
          intro j oj rj K' hpj hoj hej h' hK
          refine ⟨(fun e => by rw [hej] at e; cases e), fun _ w2 hw2 => ?_⟩
          subst hw2
          refine does_mono ?_ (prun1_ok hG h' hR hpo)
          rintro v w' ⟨s', I', β', hk, hR', hg, hY, hp'⟩
          refine ⟨fun w2 => w2 = w', fun p hp w2 hw2 => by rw [hw2]; exact hY p hp, rfl, ?_⟩
          exact ih rj Q _ s' _ I' β' w' _ _ K' hpj hk hR' hp' fun s2 I2 β2 a2 w3 hk2 hR2 hg2 => hQ s2 I2 β2 a2 w3 (hK s2 hk2) hR2 (hg.trans hg2)
        have goS : ∀ {j : Nat} {oj : Oper} {rj : Plan} {K' : PSt → Prop}, planB ops fuel (l.setIfInBounds j true) rj = true → ops[j]? = some oj → eff oj.op = true → (prun1 G ops.toList s j oj pins fun s1 => runPlan G ops.toList rj s1 (unpinP j pins) K') → (∀ sf, K' sf → ∃ sf0, Sub G sf sf0 ∧ K sf0) →
            (eff oj.op = false → ∃ v, Yields G.cx.P ops (fun w2 => w2 = w) oj v a ∧ AnyP G.cx.P ops Q fuel (l.setIfInBounds j true) (a.put oj.dst v) (fun w2 => w2 = w) (unpin j ys)) ∧
            (eff oj.op = true → ∀ w2, w2 = w → Ev.Does G.cx.P ops oj a w2 fun v w' => ∃ S' : World → Prop, (∀ p ∈ unpin j ys, ∀ w, S' w → p.Y w) ∧ S' w' ∧ AnyP G.cx.P ops Q fuel (l.setIfInBounds j true) (a.put oj.dst v) S' (unpin j ys)) := by
          intro j oj rj K' hpj hoj hej h' hK
          refine ⟨(fun e => by rw [hej] at e; cases e), fun _ w2 hw2 => ?_⟩
          subst hw2
          refine does_mono ?_ (prun1_ok hG h' hR hpo)
          rintro v w' ⟨s', I', β', hk, hR', hg, hY, hp'⟩
          refine ⟨fun w2 => w2 = w', fun p hp w2 hw2 => by rw [hw2]; exact hY p hp, rfl, ?_⟩
          exact ih rj Q _ s' _ I' β' w' _ _ K' hpj hk hR' hp' fun s2 I2 β2 a2 w3 hk2 hR2 hg2 => by
            obtain ⟨sf0, hs, hk0⟩ := hK s2 hk2
            obtain ⟨I3, β3, hR3, hg3⟩ := hs I2 β2 a2 w3 hR2
            exact hQ sf0 I3 β3 a2 w3 hk0 hR3 ((hg.trans hg2).trans hg3)
        cases ms with
        | nil =>
          cases more with
          | cons => simp [plansB] at hpm
          | nil =>
            refine ⟨fun e => absurd e hne, fun j hj oj hoj => ?_⟩
            rw [hrdy, List.mem_singleton] at hj
            subst hj
            rw [ho] at hoj
            cases hoj
            exact go hpr ho he h fun _ hk => hk
        | cons j0 r0 ms0 =>
          have hall : ∀ sf, ((need ops.toList[j0]? fun o => prun1 G ops.toList s j0 o pins fun s2 => runPlan G ops.toList r0 s2 (unpinP j0 pins) fun sf2 => sf2 = sf) ∧ runPlans G ops.toList ms0 s pins sf) → runPlans G ops.toList (.cons j0 r0 ms0) s pins sf := fun sf h => by unfold runPlans; exact h
          -- what the first order comes to
          obtain ⟨sf, hKf, hothers⟩ : ∃ sf, K sf ∧ runPlans G ops.toList (.cons j0 r0 ms0) s pins sf := by
            obtain ⟨v, w', s', I', β', hk, hR', hg, hY, hp'⟩ := does_exists (prun1_ok hG h hR hpo)
            have hA := ih r (fun _ _ _ => ∃ sf, K sf ∧ runPlans G ops.toList (.cons j0 r0 ms0) s pins sf) _ s' (a.put o.dst v) I' β' w' _ _ _ hpr hk hR' hp' fun s2 I2 β2 a2 w3 hk2 _ _ => ⟨s2, hk2.1, hall _ hk2.2⟩
            obtain ⟨_, _, h3⟩ := AnyP.ends _ _ _ _ _ w' hA rfl
            exact h3
          refine ⟨fun e => absurd e hne, fun j hj oj hoj => ?_⟩
          rw [hrdy] at hj
          rcases List.mem_cons.1 hj with rfl | hj
          · rw [ho] at hoj
            cases hoj
            exact go hpr ho he h fun _ hk => hk.1
          · obtain ⟨rj, hrj, h2⟩ := plansB_mem hpm hothers j hj
            replace h2 := need_ok h2
            obtain ⟨oj', hoj', h2⟩ := h2
            rw [Array.getElem?_toList, hoj] at hoj'
            cases hoj'
            exact go hrj hoj (effAt_ok hoj (hem j hj)) h2 fun sf2 e => by rw [e]; exact hKf
        | sub j0 r0 ms0 =>
          have hall : ∀ sf, ((need ops.toList[j0]? fun o => prun1 G ops.toList s j0 o pins fun s2 => runPlan G ops.toList r0 s2 (unpinP j0 pins) fun sf2 => Sub G sf2 sf) ∧ runSubs G ops.toList ms0 s pins sf) → runSubs G ops.toList (.sub j0 r0 ms0) s pins sf := fun sf h => by unfold runSubs; exact h
          obtain ⟨sf, hKf, hothers⟩ : ∃ sf, K sf ∧ runSubs G ops.toList (.sub j0 r0 ms0) s pins sf := by
            obtain ⟨v, w', s', I', β', hk, hR', hg, hY, hp'⟩ := does_exists (prun1_ok hG h hR hpo)
            have hA := ih r (fun _ _ _ => ∃ sf, K sf ∧ runSubs G ops.toList (.sub j0 r0 ms0) s pins sf) _ s' (a.put o.dst v) I' β' w' _ _ _ hpr hk hR' hp' fun s2 I2 β2 a2 w3 hk2 _ _ => let ⟨sf0, _, h2, h3⟩ := hk2; ⟨sf0, h2, hall _ h3⟩
            obtain ⟨_, _, h3⟩ := AnyP.ends _ _ _ _ _ w' hA rfl
            exact h3
          refine ⟨fun e => absurd e hne, fun j hj oj hoj => ?_⟩
          rw [hrdy] at hj
          rcases List.mem_cons.1 hj with rfl | hj
          · rw [ho] at hoj
            cases hoj
            exact goS hpr ho he h fun _ hk => let ⟨sf0, h1, h2, _⟩ := hk; ⟨sf0, h1, h2⟩
          · obtain ⟨rj, hrj, h2⟩ := plansB_memS hpm hothers j hj
            replace h2 := need_ok h2
            obtain ⟨oj', hoj', h2⟩ := h2
            rw [Array.getElem?_toList, hoj] at hoj'
            cases hoj'
            exact goS hrj hoj (effAt_ok hoj (hem j hj)) h2 fun sf2 e => ⟨sf, e, hKf⟩
        | alt j0 r0 ms0 =>
          obtain ⟨h, hothers⟩ := h
          have hall : runAlts G ops.toList (.alt j0 r0 ms0) s pins K := by unfold runAlts; exact hothers
          refine ⟨fun e => absurd e hne, fun j hj oj hoj => ?_⟩
          rw [hrdy] at hj
          rcases List.mem_cons.1 hj with rfl | hj
          · rw [ho] at hoj
            cases hoj
            exact go hpr ho he h fun _ hk => hk
          · obtain ⟨rj, hrj, h2⟩ := plansB_memA hpm hall j hj
            replace h2 := need_ok h2
            obtain ⟨oj', hoj', h2⟩ := h2
            rw [Array.getElem?_toList, hoj] at hoj'
            cases hoj'
            exact go hrj hoj (effAt_ok hoj (hem j hj)) h2 fun _ hk => hk
      · cases hp
end

end Go.Proofs.YtjcacjeoddnmhaaDoor.Pw

/- Code, and calls from their arguments, as the evaluator says; loops. -/
namespace Go.Proofs.YtjcacjeoddnmhaaDoor.Pw
open Go Go.RowKit

/-! ### code -/
def seqK (k : PSt → Prop) (Q : X → PSt → Prop) (x : X) (s : PSt) : Prop := match x with
  | .nml => k s
  | x => Q x s
def blockK (id : Nat) (Q : X → PSt → Prop) (x : X) (s : PSt) : Prop := match x with
  | .exit j => bif Nat.beq j id then Q .nml s else Q (.exit j) s
  | x => Q x s
def condK (s : PSt) (c : Operand) (t e : PSt → Prop) : Prop := s.ev c fun x => match x with
  | .tt => t s
  | .ff => e s
  | .bool p => (match c with
    | .tmp i => (p → s.put (some i) .tt t) ∧ (¬ p → s.put (some i) .ff e)
    | _ => (p → t s) ∧ (¬ p → e s))
  | _ => False
/-- the plans are those of the code's regions -/
def planAll (R : List (Nat × Plan)) : Code → Bool
  | .region id ops true => (match Ev.lkT id R with
    | some p => Region.noSelect ops && planB ops ops.size (Array.replicate ops.size false) p
    | none => true)
  | .seq a b => planAll R a && planAll R b
  | .cond _ a b => planAll R a && planAll R b
  | .block _ c => planAll R c
  | .scope c => planAll R c
  | .loop c => planAll R c
  | _ => true
def pw (G : Gx) (R : List (Nat × Plan)) : Nat → Code → (X → PSt → Prop) → PSt → Prop
  | 0, _, _, _ => False
  | n + 1, c, Q, s => match c with
    | .skip | .label _ => Q .nml s
    | .ret => Q .ret s
    | .exit id => Q (.exit id) s
    | .seq a b => pw G R n a (seqK (pw G R n b Q) Q) s
    | .cond c a b => condK s c (pw G R n a Q) (pw G R n b Q)
    | .block id c => pw G R n c (blockK id Q) s
    | .scope c => pw G R n c Q s
    | .loop c => SW G (.loop c) Q s
    | .region id ops draw => (match draw with
      | true => need (Ev.lkT id R) fun p => runPlan G ops.toList p s [] (Q .nml)
      | false => pops G ops.toList Q ops.toList s)
    | _ => False

section
variable {w w' : World} {I I' : Nat → Prop} {β β' : Places} {G : Gx} {s : PSt} {a : Act} {st st' : List PBlk}

theorem Post.of {Q : X → PSt → Prop} {x : X} {s' : PSt} {w0 : World} (hq : Q x s') {a' : Act} (hR : Rel G I' β' s' a' w') (hg : Goes I β s w0 I' β' s' w') : Post G s I β w0 Q (X.e x) a' w' :=
  ⟨x, s', I', β', rfl, hq, hR, hg.ext, hg.base, hg.rl, hg.n, hg.low⟩
theorem Post.goes {Q : X → PSt → Prop} {e : Exit} {a' : Act} (h : Post G s I β w Q e a' w') : ∃ x s' I' β', e = X.e x ∧ Q x s' ∧ Rel G I' β' s' a' w' ∧ Goes I β s w I' β' s' w' :=
  let ⟨x, s', I', β', he, hq, hR, h1, h2, h3, h4, h5⟩ := h; ⟨x, s', I', β', he, hq, hR, h1, h2, h3, h4, h5⟩
theorem SW.intro {c : Code} {Q : X → PSt → Prop} (h : ∀ I β a w, Rel G I β s a w → c.wp G.cx.P (Post G s I β w Q) a w) : SW G c Q s := by unfold SW; exact h
theorem SW.run {c : Code} {Q : X → PSt → Prop} (h : SW G c Q s) (hR : Rel G I β s a w) : c.wp G.cx.P (Post G s I β w Q) a w := by unfold SW at h; exact h I β a w hR
/-- from where one is already -/
theorem SW.from {c : Code} {Q : X → PSt → Prop} {s0 : PSt} {I0 : Nat → Prop} {β0 : Places} {w0 : World} (h : SW G c Q s) (hR : Rel G I β s a w) (hg : Goes I0 β0 s0 w0 I β s w) : c.wp G.cx.P (Post G s0 I0 β0 w0 Q) a w :=
  wp_mono (h.run hR) fun e a' w' hp => by
    obtain ⟨x, s', I', β', rfl, hq, hR', hg'⟩ := hp.goes
    exact Post.of hq hR' (hg.trans hg')
theorem Ext.ofHeap (hh : w'.heap = w.heap) (h1 : w'.os = w.os) (h2 : w'.tape = w.tape) (h3 : w'.output = w.output) : Ext I β st w I β st w' :=
  ⟨h1, h2, h3, by rw [hh]; exact Nat.le_refl _, fun g _ _ => by rw [hh], fun _ _ h => h, fun _ h => h, fun _ _ h => .inl h⟩
theorem HeapOk.ofHeap (h : HeapOk I β st w) (hh : w'.heap = w.heap) : HeapOk I β st w' :=
  ⟨h.far, fun l b hl hlive => (h.blk l b hl hlive).mono (fun _ h => h) (fun _ _ => by rw [hh]) (fun _ _ h => h) fun p g o hp ha => ⟨by rw [hh], fun hr => by
    obtain ⟨_, _, fr, _, ho⟩ := (h.blk l b hl hlive).place hp ha
    exact ⟨(ho.1 hr).2.1, (ho.1 hr).2.2⟩⟩⟩
theorem store_self (s : PSt) : s.store s.st = s := by cases s; rfl
theorem Rel.ofHeap (hR : Rel G I β s a w) (hh : w'.heap = w.heap) (h1 : w'.os = w.os) (h2 : w'.tape = w.tape) (h3 : w'.output = w.output) : Rel G I β s a w' := by
  have := hR.grow (hR.heap.ofHeap hh) (Ext.ofHeap hh h1 h2 h3) (fun _ _ h => h) (Nat.le_refl _) (fun g hg => by rw [hh]; exact hR.imm.imm g hg)
  rwa [store_self] at this

theorem condK_ok {c : Operand} {t e : PSt → Prop} (hR : Rel G I β s a w) (h : condK s c t e) : ∃ b s', a.eval c = .bool b ∧ (if b then t s' else e s') ∧ SameBut s s' ∧ Rel G I β s' a w := by
  have same : SameBut s s := ⟨rfl, rfl, rfl, rfl⟩
  unfold condK at h
  cases c with
  | tmp i =>
    replace h := need_ok h
    obtain ⟨x, hx, h⟩ := h
    obtain ⟨v, hv, hi⟩ := hR.get i x hx
    have he : a.eval (.tmp i) = v := by simp only [Act.eval, Array.getD_eq_getD_getElem?, hv, Option.getD_some]
    rw [he]
    split at h <;> try simp only [PV.Is] at hi
    · exact ⟨true, s, hi, h, same, hR⟩
    · exact ⟨false, s, hi, h, same, hR⟩
    · rename_i p
      by_cases hp : p
      · obtain ⟨s', hk, hs, hr⟩ := PSt.refine_ok hR hv (x := .tt) (by rw [hi, pb_true hp]; exact Is.tt) (h.1 hp)
        exact ⟨true, s', by rw [hi, pb_true hp], hk, hs, hr⟩
      · obtain ⟨s', hk, hs, hr⟩ := PSt.refine_ok hR hv (x := .ff) (by rw [hi, pb_false hp]; exact Is.ff) (h.2 hp)
        exact ⟨false, s', by rw [hi, pb_false hp], hk, hs, hr⟩
    · exact h.elim
  | _ =>
    replace h := PSt.ev_ok hR h
    obtain ⟨x, h, hx⟩ := h
    split at h <;> try simp only [PV.Is] at hx
    · exact ⟨true, s, hx, h, same, hR⟩
    · exact ⟨false, s, hx, h, same, hR⟩
    · rename_i p
      by_cases hp : p
      · exact ⟨true, s, by rw [hx, pb_true hp], h.1 hp, same, hR⟩
      · exact ⟨false, s, by rw [hx, pb_false hp], h.2 hp, same, hR⟩
    · exact h.elim

theorem pw_ok (hG : GOk G) {R : List (Nat × Plan)} : ∀ (n : Nat) (c : Code) (Q : X → PSt → Prop) (s : PSt), planAll R c = true → pw G R n c Q s → SW G c Q s
  | 0, _, _, _, _, h => h.elim
  | n + 1, c, Q, s, hc, h => by
    cases c with
    | skip => exact SW.intro fun I β a w hR => wp_skip (Post.of (x := .nml) h hR (Goes.same ⟨rfl, rfl, rfl, rfl⟩))
    | label l => exact SW.intro fun I β a w hR => wp_label (Post.of (x := .nml) h hR (Goes.same ⟨rfl, rfl, rfl, rfl⟩))
    | ret => exact SW.intro fun I β a w hR => wp_ret (Post.of (x := .ret) h hR (Goes.same ⟨rfl, rfl, rfl, rfl⟩))
    | exit id => exact SW.intro fun I β a w hR => wp_exit (Post.of (x := .exit id) h hR (Goes.same ⟨rfl, rfl, rfl, rfl⟩))
    | seq x y =>
      simp only [planAll, Bool.and_eq_true] at hc
      have h1 := pw_ok hG n x _ s hc.1 h
      refine SW.intro fun I β a w hR => wp_seq (wp_mono (h1.run hR) fun e a' w' hp => ?_)
      obtain ⟨x', s', I', β', rfl, hq, hR', hg⟩ := hp.goes
      cases x' with
      | nml => exact (pw_ok hG n y Q s' hc.2 hq).from hR' hg
      | exit id => exact Post.of (Q := Q) (x := .exit id) hq hR' hg
      | ret => exact Post.of (Q := Q) (x := .ret) hq hR' hg
    | cond c x y =>
      simp only [planAll, Bool.and_eq_true] at hc
      refine SW.intro fun I β a w hR => ?_
      obtain ⟨b, s', he, hk, hs, hR'⟩ := condK_ok hR h
      refine wp_cond he ?_
      cases b with
      | true => exact (pw_ok hG n x Q s' hc.1 hk).from hR' (Goes.same hs)
      | false => exact (pw_ok hG n y Q s' hc.2 hk).from hR' (Goes.same hs)
    | block id c =>
      have h1 := pw_ok hG n c _ s hc h
      refine SW.intro fun I β a w hR => wp_block (wp_mono (h1.run hR) fun e a' w' hp => ?_)
      obtain ⟨x', s', I', β', rfl, hq, hR', hg⟩ := hp.goes
      cases x' with
      | nml => exact Post.of (Q := Q) (x := .nml) hq hR' hg
      | exit j =>
        show Exit.inBlock id _ (.exit j) a' w'
        simp only [Exit.inBlock]
        by_cases hj : j = id
        · subst hj
          rw [if_pos rfl]
          have hq' : Q .nml s' := by simpa [blockK, Nat.beq_refl] using hq
          exact Post.of (x := .nml) hq' hR' hg
        · have hb' : Nat.beq j id = false := by rw [Bool.eq_false_iff]; exact fun e => hj (Nat.eq_of_beq_eq_true e)
          rw [if_neg hj]
          have hq' : Q (.exit j) s' := by simpa [blockK, hb'] using hq
          exact Post.of (x := .exit j) hq' hR' hg
      | ret => exact Post.of (Q := Q) (x := .ret) hq hR' hg
    | scope c =>
      have h1 := pw_ok hG n c _ s hc h
      refine SW.intro fun I β a w hR => wp_scope_straight (wp_mono (h1.run hR) fun e a' w' hp => ?_)
      obtain ⟨x', s', I', β', rfl, hq, hR', hg⟩ := hp.goes
      cases x' with
      | nml => exact Post.of (Q := Q) (x := .nml) hq hR' hg
      | exit j => exact Post.of (Q := Q) (x := .exit j) hq hR' hg
      | ret => exact Post.of (Q := Q) (x := .ret) hq hR' hg
    | loop c => exact h
    | region id ops draw =>
      refine SW.intro fun I β a w hR => ?_
      cases draw with
      | true =>
        obtain ⟨p, hp, h⟩ := need_ok h
        unfold planAll at hc
        rw [hp] at hc
        simp only [Bool.and_eq_true] at hc
        have hR' : Rel G I β s a { w with drawn := w.drawn + 1 } := hR.ofHeap rfl rfl rfl rfl
        have hd : Goes I β s w I β s { w with drawn := w.drawn + 1 } := ⟨Ext.ofHeap rfl rfl rfl rfl, rfl, rfl, rfl, fun _ _ _ => rfl⟩
        have hA := runPlan_ok hG hc.1 ops.size p (Post G s I β w Q) _ s a I β _ [] [] _ hc.2 h hR' (fun y hy => by cases hy) fun s' I' β' a' w' hk hR2 hg => Post.of (Q := Q) (x := .nml) hk hR2 (hd.trans hg)
        exact wp_region_any hG.ok.mix (AnyP.sound _ _ _ _ _ _ hA rfl)
      | false => exact wp_region_list (pops_ok hG _ h hR fun x s' I' β' a' w' hq hR' hg => Post.of hq hR' hg)
    | _ => exact h.elim

/-! ### loops -/
def backK (k : PSt → Prop) (Q : X → PSt → Prop) (x : X) (s : PSt) : Prop := match x with
  | .nml => k s
  | x => Q x s
/-- a loop of no more than n rounds -/
def rnd (G : Gx) (R : List (Nat × Plan)) (N : Nat) (c : Code) (Q : X → PSt → Prop) : Nat → PSt → Prop
  | 0, _ => False
  | n + 1, s => pw G R N c (backK (rnd G R N c Q n) Q) s
theorem SW.rounds (hG : GOk G) (R : List (Nat × Plan)) {N : Nat} {c : Code} {Q : X → PSt → Prop} (hc : planAll R c = true) (n : Nat) (h : rnd G R N c Q n s) : SW G (.loop c) Q s := by
  have key : ∀ (n : Nat) (s0 s : PSt) (I0 I : Nat → Prop) (β0 β : Places) (w0 w : World) (a : Act), rnd G R N c Q n s → Rel G I β s a w → Goes I0 β0 s0 w0 I β s w → Code.rounds G.cx.P c (Post G s0 I0 β0 w0 Q) n a w := by
    intro n
    induction n with
    | zero => intro s0 s I0 I β0 β w0 w a h _ _; exact h.elim
    | succ n ih =>
      intro s0 s I0 I β0 β w0 w a h hR hg
      rw [rounds_succ]
      refine wp_mono ((pw_ok hG N c _ s hc h).run hR) fun e a' w' hp => ?_
      obtain ⟨x', s', I', β', rfl, hq, hR', hg'⟩ := hp.goes
      cases x' with
      | nml => exact ih s0 s' I0 I' β0 β' w0 w' a' hq hR' (hg.trans hg')
      | exit id => exact Post.of (Q := Q) (x := .exit id) hq hR' (hg.trans hg')
      | ret => exact Post.of (Q := Q) (x := .ret) hq hR' (hg.trans hg')
  exact SW.intro fun I β a w hR => wp_loop_rounds n (key n s s I I β β w w a h hR (Goes.same ⟨rfl, rfl, rfl, rfl⟩))
theorem Sub.refl : Sub G s s := fun I β _ _ hR => ⟨I, β, hR, Goes.same ⟨rfl, rfl, rfl, rfl⟩⟩
/-- a loop by what holds at its head: the states inv, of which each round leads to one whose measure is less -/
theorem SW.inv (hG : GOk G) {R : List (Nat × Plan)} {α : Type} (inv : α → PSt) (μ : α → Nat) {N : Nat} {c : Code} {Q : X → PSt → Prop} (hc : planAll R c = true) (x0 : α) (h0 : Sub G s (inv x0)) (K : α → PSt → Prop) (hK : ∀ x s', K x s' → ∃ y, μ y < μ x ∧ Sub G s' (inv y))
    (h : ∀ x, pw G R N c (backK (K x) Q) (inv x)) : SW G (.loop c) Q s := by
  refine SW.intro fun I0 β0 a w hR => ?_
  obtain ⟨I, β, hR1, hg1⟩ := h0 I0 β0 a w hR
  let J : Nat → Act → World → Prop := fun m a w' => ∃ x I β, μ x = m ∧ Rel G I β (inv x) a w' ∧ Goes I0 β0 s w I β (inv x) w'
  have key : ∀ (m : Nat) (a : Act) (w' : World), J m a w' → ∀ (b : Frame) (k : List Item) (cs : List Frame), ∃ e a' w'', Post G s I0 β0 w Q e a' w'' ∧ Arrives G.cx.P (lone (b.at a (.code c :: .inLoop c :: k)) cs w') b k cs e a' w'' := by
    intro m
    induction m using Nat.strongRecOn with
    | _ m ih =>
      rintro a w' ⟨x, I, β, hx, hR, hg⟩ b k cs
      obtain ⟨e, a₁, w₁, hp, harr⟩ := (pw_ok hG N c _ _ hc (h x)).run hR b (.inLoop c :: k) cs
      obtain ⟨x', s', I', β', rfl, hq, hR', hg'⟩ := hp.goes
      cases x' with
      | nml =>
        obtain ⟨y, hy, hs⟩ := hK x s' hq
        obtain ⟨I2, β2, hR2, hg2⟩ := hs I' β' a₁ w₁ hR'
        obtain ⟨e₂, a₂, w₂, hq₂, harr₂⟩ := ih (μ y) (by omega) a₁ w₁ ⟨y, I2, β2, rfl, hR2, (hg.trans hg').trans hg2⟩ b k cs
        exact ⟨e₂, a₂, w₂, hq₂, .of_steps (Steps.trans harr (.one step_inLoop)) harr₂⟩
      | exit id => exact ⟨_, a₁, w₁, Post.of (Q := Q) (x := .exit id) hq hR' (hg.trans hg'), .pass (x := .inLoop c) rfl (fun _ _ => .inl (by simp [X.e])) harr⟩
      | ret => exact ⟨_, a₁, w₁, Post.of (Q := Q) (x := .ret) hq hR' (hg.trans hg'), .pass (x := .inLoop c) rfl (fun _ _ => .inl (by simp [X.e])) harr⟩
  intro b k cs
  obtain ⟨e, a', w', hq, harr⟩ := key (μ x0) a w ⟨x0, I, β, rfl, hR1, hg1⟩ b k cs
  exact ⟨e, a', w', hq, .of_steps (.one step_loop) harr⟩
end

end Go.Proofs.YtjcacjeoddnmhaaDoor.Pw

/- When a state says no more than another one; a loop's head. -/
namespace Go.Proofs.YtjcacjeoddnmhaaDoor.Pw
open Go Go.RowKit

/-- what a value says is said by another one -/
def le1 (x y : PV) : Prop := match x, y with
  | .lit k a, .lit l b => if decide (k = l) then a = b else False
  | .lit k a, .int l b => if decide (k = l) then a = b else False
  | .int k a, .lit l b => if decide (k = l) then a = b else False
  | .int k a, .int l b => if decide (k = l) then a = b else False
  | .tt, .tt => True | .ff, .ff => True
  | .tt, .bool p => p | .ff, .bool p => ¬ p
  | .bool p, .tt => p | .bool p, .ff => ¬ p
  | .bool p, .bool q => p ↔ q
  | .val v, .val u => v = u
  | .nil, .nil => True
  | .nil, .sl _ es => es = []
  | .sl n es, .sl m fs => if Nat.beq n m then es = fs else False
  | .wref l, .wref m => if Nat.beq l m then True else False
  | .mref l, .mref m => if Nat.beq l m then True else False
  | .ref l o n, .ref l' o' n' => if Nat.beq l l' && Nat.beq o o' && Nat.beq n n' then True else False
  | .ptr l o, .ptr l' o' => if Nat.beq l l' && Nat.beq o o' then True else False
  | .pti l o i n, .pti l' o' i' n' => if Nat.beq l l' && Nat.beq o o' && Nat.beq n n' then i = i' else False
  | .dpt l i n o, .dpt l' i' n' o' => if Nat.beq l l' && Nat.beq o o' && Nat.beq n n' then i = i' else False
  | .ep cs o, .ep ds o' => if Nat.beq o o' then cs = ds else False
  | .gp g o, .gp g' o' => if Nat.beq g g' && Nat.beq o o' then True else False
  | .gpi g o i n, .gpi g' o' i' n' => if Nat.beq g g' && Nat.beq o o' && Nat.beq n n' then i = i' else False
  | _, _ => False
def leL (r : PV → PV → Prop) : List PV → List PV → Prop
  | [], [] => True
  | x :: xs, y :: ys => r x y ∧ leL r xs ys
  | _, _ => False
def leA (x y : PV) : Prop := match x, y with
  | .agg cs, .agg ds => leL le1 cs ds
  | .clo f cs, .clo g ds => if Nat.beq f g then leL le1 cs ds else False
  | x, y => le1 x y
def leK (x y : PV) : Prop := match x, y with
  | .tup cs, .tup ds => leL leA cs ds
  | x, y => leA x y
def PLe (x y : PV) : Prop := ∀ w I β v, x.Is w I β v → y.Is w I β v
theorem PLe.refl (x : PV) : PLe x x := fun _ _ _ _ h => h
section
variable {w w' : World} {I I' : Nat → Prop} {β β' : Places} {G : Gx} {s : PSt} {a : Act} {st st' : List PBlk}
theorem if_ok {c p : Prop} [Decidable c] (h : if c then p else False) : c ∧ p := by
  split at h
  · exact ⟨‹_›, h⟩
  · exact h.elim
theorem le1_ok {x y : PV} (h : le1 x y) : PLe x y := by
  intro w I β v hx
  unfold le1 at h
  split at h <;> first | exact h.elim | (simp only [PV.Is] at hx ⊢)
  · obtain ⟨hk, h⟩ := if_ok h; rw [hx, of_decide_eq_true hk, h]
  · obtain ⟨hk, h⟩ := if_ok h; rw [hx, of_decide_eq_true hk, h]
  · obtain ⟨hk, h⟩ := if_ok h; rw [hx, of_decide_eq_true hk, h]
  · obtain ⟨hk, h⟩ := if_ok h; rw [hx, of_decide_eq_true hk, h]
  · exact hx
  · exact hx
  · rw [hx, pb_true h]
  · rw [hx, pb_false h]
  · rw [hx, pb_true h]
  · rw [hx, pb_false h]
  · rw [hx, show pb _ = pb _ from congrArg pb (propext h)]
  · rw [← h]; exact hx
  · exact hx
  · subst h; exact ⟨none, 0, hx, Nat.le_refl _, Nat.zero_le _, (fun _ _ e => by cases e), fun hn => absurd rfl hn⟩
  · obtain ⟨hb, h⟩ := if_ok h; rw [← h, ← Nat.eq_of_beq_eq_true hb]; exact hx
  · obtain ⟨hb, h⟩ := if_ok h; rw [← Nat.eq_of_beq_eq_true hb]; exact hx
  · obtain ⟨hb, h⟩ := if_ok h; rw [← Nat.eq_of_beq_eq_true hb]; exact hx
  · obtain ⟨hb, h⟩ := if_ok h
    simp only [Bool.and_eq_true] at hb
    rw [← Nat.eq_of_beq_eq_true hb.1.1, ← Nat.eq_of_beq_eq_true hb.1.2, ← Nat.eq_of_beq_eq_true hb.2]; exact hx
  · obtain ⟨hb, h⟩ := if_ok h
    simp only [Bool.and_eq_true] at hb
    rw [← Nat.eq_of_beq_eq_true hb.1, ← Nat.eq_of_beq_eq_true hb.2]; exact hx
  · obtain ⟨hb, h⟩ := if_ok h
    simp only [Bool.and_eq_true] at hb
    rw [← Nat.eq_of_beq_eq_true hb.1.1, ← Nat.eq_of_beq_eq_true hb.1.2, ← Nat.eq_of_beq_eq_true hb.2, ← h]; exact hx
  · obtain ⟨hb, h⟩ := if_ok h
    simp only [Bool.and_eq_true] at hb
    rw [← Nat.eq_of_beq_eq_true hb.1.1, ← Nat.eq_of_beq_eq_true hb.1.2, ← Nat.eq_of_beq_eq_true hb.2, ← h]; exact hx
  · obtain ⟨hb, h⟩ := if_ok h; rw [← Nat.eq_of_beq_eq_true hb, ← h]; exact hx
  · obtain ⟨hb, h⟩ := if_ok h
    simp only [Bool.and_eq_true] at hb
    rw [← Nat.eq_of_beq_eq_true hb.1, ← Nat.eq_of_beq_eq_true hb.2]; exact hx
  · obtain ⟨hb, h⟩ := if_ok h
    simp only [Bool.and_eq_true] at hb
    rw [← Nat.eq_of_beq_eq_true hb.1.1, ← Nat.eq_of_beq_eq_true hb.1.2, ← Nat.eq_of_beq_eq_true hb.2, ← h]; exact hx
theorem leL_ok {r : PV → PV → Prop} (hr : ∀ x y, r x y → PLe x y) : ∀ {xs ys : List PV} {vs : List Value}, leL r xs ys → IsL w I xs β vs → IsL w I ys β vs
  | [], [], _, _, h => h
  | x :: xs, y :: ys, v :: vs, h, hx => by
    simp only [IsL] at hx ⊢
    exact ⟨hr x y h.1 w I β v hx.1, leL_ok hr h.2 hx.2⟩
  | x :: xs, y :: ys, [], h, hx => by simp only [IsL] at hx
  | [], _ :: _, _, h, _ => h.elim
  | _ :: _, [], _, h, _ => h.elim
theorem leA_ok {x y : PV} (h : leA x y) : PLe x y := by
  unfold leA at h
  split at h
  · intro w I β v hx
    simp only [PV.Is] at hx ⊢
    obtain ⟨vs, rfl, hx⟩ := hx
    exact ⟨vs, rfl, leL_ok (fun _ _ => le1_ok) h hx⟩
  · intro w I β v hx
    split at h
    · rename_i hb
      simp only [PV.Is] at hx ⊢
      obtain ⟨vs, rfl, hx⟩ := hx
      exact ⟨vs, by rw [Nat.eq_of_beq_eq_true hb], leL_ok (fun _ _ => le1_ok) h hx⟩
    · exact h.elim
  · exact le1_ok h
theorem leK_ok {x y : PV} (h : leK x y) : PLe x y := by
  unfold leK at h
  split at h
  · intro w I β v hx
    simp only [PV.Is] at hx ⊢
    obtain ⟨vs, rfl, hx⟩ := hx
    exact ⟨vs, rfl, leL_ok (fun _ _ => leA_ok) h hx⟩
  · exact leA_ok h

/-! ### blocks under other numbers -/
/-- from the numbers of the new state to those of the old one; none: nothing lies there yet -/
abbrev Ren := List (Option Nat)
def PV.ren1 (π : Ren) (x : PV) : Option PV := match x with
  | .wref l => (match π[l]? with
    | some (some m) => some (.wref m)
    | some none => some .nil
    | none => none)
  | .mref l => (match π[l]? with
    | some (some m) => some (.mref m)
    | _ => none)
  | .ref l o n => (match π[l]? with
    | some (some m) => some (.ref m o n)
    | _ => none)
  | .ptr l o => (match π[l]? with
    | some (some m) => some (.ptr m o)
    | _ => none)
  | .pti l o i n => (match π[l]? with
    | some (some m) => some (.pti m o i n)
    | _ => none)
  | .dpt l i n o => (match π[l]? with
    | some (some m) => some (.dpt m i n o)
    | _ => none)
  | .agg _ | .tup _ | .clo .. => none
  | x => some x
def renL (π : Ren) : List PV → Option (List PV)
  | [] => some []
  | c :: cs => (match c.ren1 π, renL π cs with
    | some x, some l => some (x :: l)
    | _, _ => none)
def PV.ren (π : Ren) (x : PV) : Option PV := match x with
  | .agg cs => (renL π cs).map .agg
  | .clo f cs => (renL π cs).map (.clo f)
  | .tup _ => none
  | x => x.ren1 π
def renB (β : Places) (π : Ren) : Places := fun l => match π[l]? with
  | some (some m) => β m
  | some none => some ⟨none, 0, 0⟩
  | none => none
theorem renB_some {π : Ren} {l m : Nat} (h : π[l]? = some (some m)) : renB β π l = β m := by unfold renB; rw [h]
theorem renB_none {π : Ren} {l : Nat} (h : π[l]? = some none) : renB β π l = some ⟨none, 0, 0⟩ := by unfold renB; rw [h]
theorem ren1_ok {π : Ren} {x y : PV} {v : Value} (h : x.ren1 π = some y) (hy : y.Is w I β v) : x.Is w I (renB β π) v := by
  unfold PV.ren1 at h
  split at h
  · split at h
    · rename_i m hm
      cases h
      simp only [PV.Is] at hy ⊢
      rw [renB_some hm]; exact hy
    · rename_i hm
      cases h
      simp only [PV.Is] at hy ⊢
      exact ⟨_, renB_none hm, hy⟩
    · cases h
  · split at h
    · rename_i m hm
      cases h
      simp only [PV.Is] at hy ⊢
      rw [renB_some hm]; exact hy
    · cases h
  · split at h
    · rename_i m hm
      cases h
      simp only [PV.Is] at hy ⊢
      rw [renB_some hm]; exact hy
    · cases h
  · split at h
    · rename_i m hm
      cases h
      simp only [PV.Is] at hy ⊢
      rw [renB_some hm]; exact hy
    · cases h
  · split at h
    · rename_i m hm
      cases h
      simp only [PV.Is] at hy ⊢
      rw [renB_some hm]; exact hy
    · cases h
  · split at h
    · rename_i m hm
      cases h
      simp only [PV.Is] at hy ⊢
      rw [renB_some hm]; exact hy
    · cases h
  · cases h
  · cases h
  · cases h
  · cases h
    refine PV.Is.mono (fun _ h => h) (fun _ _ => rfl) x β _ v (fun l p hl => ?_) hy
    cases x <;> first | (simp_all [PV.uses]; done) | (rename_i a1 a2 a3 a4 a5 a6 a7 a8 a9; first | exact (a4 _ _ _ _ rfl).elim | exact (a5 _ _ _ _ rfl).elim | exact (a6 _ _ _ _ rfl).elim)
theorem renL_ok {π : Ren} : ∀ {xs ys : List PV} {vs : List Value}, renL π xs = some ys → IsL w I ys β vs → IsL w I xs (renB β π) vs
  | [], ys, vs, h, hy => by
    simp only [renL, Option.some.injEq] at h
    subst h
    cases vs with
    | nil => simp only [IsL]
    | cons v vs => simp only [IsL] at hy
  | x :: xs, ys, vs, h, hy => by
    simp only [renL] at h
    split at h
    · rename_i y l h1 h2
      cases h
      cases vs with
      | nil => simp only [IsL] at hy
      | cons v vs =>
        simp only [IsL] at hy ⊢
        exact ⟨ren1_ok h1 hy.1, renL_ok h2 hy.2⟩
    · cases h
theorem ren_ok {π : Ren} {x y : PV} {v : Value} (h : x.ren π = some y) (hy : y.Is w I β v) : x.Is w I (renB β π) v := by
  unfold PV.ren at h
  split at h
  · rw [Option.map_eq_some_iff] at h
    obtain ⟨l, hl, rfl⟩ := h
    simp only [PV.Is] at hy ⊢
    obtain ⟨vs, rfl, hy⟩ := hy
    exact ⟨vs, rfl, renL_ok hl hy⟩
  · rw [Option.map_eq_some_iff] at h
    obtain ⟨l, hl, rfl⟩ := h
    simp only [PV.Is] at hy ⊢
    obtain ⟨vs, rfl, hy⟩ := hy
    exact ⟨vs, rfl, renL_ok hl hy⟩
  · cases h
  · exact ren1_ok h hy

def TM.leK (π : Ren) : TM → TM → Prop
  | _, .nil => True
  | .nil, .node v l r => (match v with
    | none => True
    | some _ => False) ∧ TM.leK π .nil l ∧ TM.leK π .nil r
  | .node v l r, .node v' l' r' => (match v' with
    | none => True
    | some y => need v fun x => need (y.ren π) fun y => Pw.leK x y) ∧ TM.leK π l l' ∧ TM.leK π r r'
def Md.beq : Md → Md → Bool
  | .w, .w => true | .p, .p => true | .r, .r => true
  | _, _ => false
def BK.beq : BK → BK → Bool
  | .loc, .loc => true | .arr, .arr => true | .dyn, .dyn => true | .mp, .mp => true
  | _, _ => false
def blkK (cx : Ev.Cx) (π : Ren) (b b' : PBlk) : Prop := bif Nat.beq b.ty b'.ty && Nat.beq b.size b'.size && Md.beq b.m b'.m && b.live then (match b.k, b'.k with
  | .loc, .loc => need (renL π b'.cs) fun cs => leL le1 b.cs cs
  | .arr, .arr => need (renL π b'.cs) fun cs => leL le1 b.cs cs
  | .dyn, .dyn => b.cs = b'.cs
  | .mp, .mp => b.cs = b'.cs
  | .arr, .dyn => need (Ev.isAggT cx b.ty) fun ag => bif ag || Nat.beq b.size 1 then b.szK fun n => need (elemsOf ag n (.stat b.cs)) fun es => es = b'.cs else False
  | _, _ => False) else False
def stK (cx : Ev.Cx) (π : Ren) (st : List PBlk) : List PBlk → Ren → Prop
  | [], [] => True
  | b' :: r, some m :: π' => (match b'.live with
    | true => need st[m]? fun b => blkK cx π b b'
    | false => True) ∧ stK cx π st r π'
  | b' :: r, none :: π' => (match b'.k, b'.cs with
    | .dyn, [] => bif Nat.blt 0 b'.size then True else False
    | _, _ => False) ∧ stK cx π st r π'
  | _, _ => False
def nodupR : Ren → Bool
  | [] => true
  | none :: π => nodupR π
  | some m :: π => !(π.any fun x => match x with
    | some k => Nat.beq m k
    | none => false) && nodupR π
def baseK (rl : List Nat) : Nat → Nat → Ren → Bool
  | 0, _, _ => true
  | n + 1, l, some m :: π => (Nat.beq l m || inL l rl) && baseK rl n (l + 1) π
  | n + 1, l, none :: π => inL l rl && baseK rl n (l + 1) π
  | _ + 1, _, [] => false
def subK (cx : Ev.Cx) (π : Ren) (s s' : PSt) : Prop :=
  s'.n = s.n ∧ s'.base = s.base ∧ s'.rl = s.rl ∧ (bif nodupR π && baseK s.rl s.base 0 π then True else False) ∧ stK cx π s.st s'.st π ∧ TM.leK π s.t s'.t

theorem TM.leK_ok {π : Ren} : ∀ {t t' : TM} {n : Nat} {y : PV}, TM.leK π t t' → t'.get n = some y → ∃ x z, t.get n = some x ∧ y.ren π = some z ∧ Pw.leK x z
  | _, .nil, n, y, _, hy => by cases hy
  | .nil, .node v l r, n, y, h, hy => by
    exfalso
    have key : ∀ (t' : TM), TM.leK π .nil t' → ∀ n y, t'.get n = some y → False := by
      intro t'
      induction t' with
      | nil => intro _ n y hy; cases hy
      | node v l r ihl ihr =>
        intro h n y hy
        obtain ⟨h1, h2, h3⟩ := h
        cases v with
        | some _ => exact h1.elim
        | none =>
          simp only [TM.get] at hy
          cases h0 : Nat.beq n 0 <;> rw [h0] at hy
          · cases h1 : Nat.beq (n % 2) 1 <;> rw [h1] at hy
            · exact ihr h3 _ _ hy
            · exact ihl h2 _ _ hy
          · cases hy
    exact key _ h n y hy
  | .node v l r, .node v' l' r', n, y, h, hy => by
    obtain ⟨h1, h2, h3⟩ := h
    simp only [TM.get] at hy ⊢
    cases h0 : Nat.beq n 0 <;> rw [h0] at hy
    · cases hp : Nat.beq (n % 2) 1 <;> rw [hp] at hy
      · exact TM.leK_ok h3 hy
      · exact TM.leK_ok h2 hy
    · cases v' with
      | none => cases hy
      | some y' =>
        cases hy
        obtain ⟨x, hx, h1⟩ := need_ok h1
        obtain ⟨z, hz, h1⟩ := need_ok h1
        exact ⟨x, z, hx, hz, h1⟩
theorem Md.beq_ok {m n : Md} (h : Md.beq m n = true) : m = n := by cases m <;> cases n <;> first | rfl | cases h
/-- blocks of the new state and those of the old one -/
theorem stK_ok {cx : Ev.Cx} {π0 : Ren} {st : List PBlk} : ∀ {st' : List PBlk} {π : Ren}, stK cx π0 st st' π → π.length = st'.length ∧ ∀ (l : Nat) (b' : PBlk), st'[l]? = some b' → b'.live = true → (∃ (m : Nat) (b : PBlk), π[l]? = some (some m) ∧ st[m]? = some b ∧ blkK cx π0 b b') ∨ (π[l]? = some none ∧ b'.k = .dyn ∧ b'.cs = [] ∧ 0 < b'.size)
  | [], [], _ => ⟨rfl, fun l b' hl => by simp at hl⟩
  | b0 :: r, some m :: π, h => by
    obtain ⟨h1, h2⟩ := h
    obtain ⟨ih1, ih2⟩ := stK_ok h2
    refine ⟨by simp [ih1], fun l b' hl hlive => ?_⟩
    cases l with
    | zero =>
      simp at hl; subst hl
      rw [hlive] at h1
      obtain ⟨b, hb, h1⟩ := need_ok h1
      exact .inl ⟨m, b, rfl, hb, h1⟩
    | succ l => simpa using ih2 l b' (by simpa using hl) hlive
  | b0 :: r, none :: π, h => by
    obtain ⟨h1, h2⟩ := h
    obtain ⟨ih1, ih2⟩ := stK_ok h2
    refine ⟨by simp [ih1], fun l b' hl hlive => ?_⟩
    cases l with
    | zero =>
      simp at hl; subst hl
      split at h1
      · rename_i hk hc
        obtain ⟨hb, _⟩ := bif_ok h1
        exact .inr ⟨rfl, hk, hc, Nat.le_of_ble_eq_true hb⟩
      · exact h1.elim
    | succ l => simpa using ih2 l b' (by simpa using hl) hlive
  | [], _ :: _, h => h.elim
  | _ :: _, [], h => h.elim
theorem nodupR_ok : ∀ {π : Ren}, nodupR π = true → ∀ (l l' m : Nat), π[l]? = some (some m) → π[l']? = some (some m) → l = l'
  | [], _, l, _, _, h, _ => by simp at h
  | none :: π, hn, l, l', m, h, h' => by
    cases l with
    | zero => simp at h
    | succ l => cases l' with
      | zero => simp at h'
      | succ l' => rw [nodupR_ok (π := π) hn l l' m (by simpa using h) (by simpa using h')]
  | some k :: π, hn, l, l', m, h, h' => by
    simp only [nodupR, Bool.and_eq_true, Bool.not_eq_true', List.any_eq_false] at hn
    have no : ∀ l, π[l]? = some (some k) → False := fun l hl => by
      have := hn.1 _ (List.mem_of_getElem? hl)
      simp at this
    cases l with
    | zero =>
      simp at h; subst h
      cases l' with
      | zero => rfl
      | succ l' => exact (no l' (by simpa using h')).elim
    | succ l =>
      cases l' with
      | zero => simp at h'; subst h'; exact (no l (by simpa using h)).elim
      | succ l' => rw [nodupR_ok (π := π) hn.2 l l' m (by simpa using h) (by simpa using h')]
theorem baseK_len {rl : List Nat} : ∀ {n l : Nat} {π : Ren}, baseK rl n l π = true → n ≤ π.length
  | 0, _, _, _ => Nat.zero_le _
  | n + 1, l, some m :: π, h => by
    simp only [baseK, Bool.and_eq_true] at h
    simpa using baseK_len h.2
  | n + 1, l, none :: π, h => by
    simp only [baseK, Bool.and_eq_true] at h
    simpa using baseK_len h.2
  | _ + 1, _, [], h => by cases h
theorem baseK_ok {rl : List Nat} : ∀ {n l : Nat} {π : Ren}, baseK rl n l π = true → ∀ i, i < n → (π[i]? = some (some (l + i)) ∨ (l + i) ∈ rl)
  | 0, _, _, _, i, hi => by omega
  | n + 1, l, some m :: π, h, i, hi => by
    simp only [baseK, Bool.and_eq_true, Bool.or_eq_true] at h
    cases i with
    | zero => exact h.1.imp (fun e => by rw [← Nat.eq_of_beq_eq_true e]; rfl) inL_iff.1
    | succ i =>
      have := baseK_ok h.2 i (by omega)
      rw [show l + 1 + i = l + (i + 1) by omega] at this
      simpa using this
  | n + 1, l, none :: π, h, i, hi => by
    simp only [baseK, Bool.and_eq_true] at h
    cases i with
    | zero => exact .inr (inL_iff.1 h.1)
    | succ i =>
      have := baseK_ok h.2 i (by omega)
      rw [show l + 1 + i = l + (i + 1) by omega] at this
      simpa using this
  | _ + 1, _, [], h, _, _ => by cases h
end

end Go.Proofs.YtjcacjeoddnmhaaDoor.Pw

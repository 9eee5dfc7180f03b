/- What the laws of this claim are proved with, joined (join.py) of 3 texts: no condition. -/
import Derived.Test.YtjcacjeoddnmhaaDoorNc6
set_option linter.unusedVariables false
set_option linter.unusedSimpArgs false

/- Append, calls, and every operation, as the evaluator says. -/
namespace Go.Proofs.YtjcacjeoddnmhaaDoor.Pw
open Go Go.RowKit

section
variable {w w' : World} {I I' : Nat → Prop} {β β' : Places} {cx : Ev.Cx} {G : Gx} {P : Program} {s : PSt} {a : Act} {st st' : List PBlk}

theorem store_store (s : PSt) (x y : List PBlk) : (s.store x).store y = s.store y := by cases s; rfl
theorem Ext.add2 {st1 : List PBlk} (h : HeapOk I β st1 w) (hsub : ∀ g, Wr β st1 g → Wr β st g) (hos : w'.os = w.os) (htape : w'.tape = w.tape) (hout : w'.output = w.output) (hsz : w.heap.size ≤ w'.heap.size) {b : PBlk} {p : Plc} (hw : ∀ g, g < w.heap.size → ¬ Wr β st g → w'.heap[g]? = w.heap[g]?)
    (hp : ∀ g o, p.a = some (g, o) → g < w.heap.size → Wr β st g) : Ext I β st w I (β.set st1.length p) (st1 ++ [b]) w' :=
  ⟨hos, htape, hout, hsz, hw, fun g hg ⟨l, b', q, o, h1, h2, h3, h4, h5⟩ => by
    unfold Places.set at h4
    split at h4
    · cases h4
      exact hp g o h5 hg
    · have := h.lt h4
      rw [List.getElem?_append_left this] at h1
      exact hsub g ⟨l, b', q, o, h1, h2, h3, h4, h5⟩, fun _ h => h, fun _ _ h => .inl h⟩
/-- what append leaves: the new block is laid into the store -/
theorem append_new (hR : Rel G I β s a w) {st1 : List PBlk} (hk : HeapOk I β st1 w) (hsub : ∀ g, Wr β st1 g → Wr β s.st g) (hlen : st1.length = s.st.length) {v : Value} (hv : ∀ g, v.ownBlock = some g → Wr β s.st g ∧ ¬ I g ∧ ¬ Lives β st1 g)
    (hg : w.grownBy w' v.ownBlock) {b : PBlk} {p : Plc} {q : PV → PSt → Prop} (h : pnewS (s.store st1) b q) (hp : ∀ g o, p.a = some (g, o) → v.ownBlock = some g ∨ g = w.heap.size) (hm : b.m = .w)
    (hb : (∀ g, p.a = some (g, 0) → Own I (β.set st1.length p) (st1 ++ [b]) st1.length g (0, 0) b) → (∀ g, I g → w'.heap[g]? = w.heap[g]?) → BlkOk I (β.set st1.length p) (st1 ++ [b]) w' st1.length b) : OpPost G s I β w a q p.whole w' := by
  have hst : (s.store st1).st = st1 := (PSt.store_eq s st1).2.2.1
  unfold pnewS at h
  rw [hst] at h
  replace h := addB_ok (lenK_ok h)
  rw [Nat.zero_add, store_store] at h
  have hset := Places.set_mono hk p
  have hown : ∀ g, Lives β st1 g ∨ I g → w'.heap[g]? = w.heap[g]? := fun g hgl => by
    refine hg.block g (hgl.elim hk.lives_lt (hR.imm.imm g)) fun e => ?_
    obtain ⟨_, h1, h2⟩ := hv g e.symm
    exact hgl.elim h2 h1
  have hfresh : ∀ g o, p.a = some (g, o) → ¬ I g ∧ ¬ Lives β st1 g := fun g o ha => by
    rcases hp g o ha with e | e
    · exact (hv g e).2
    · subst e
      exact ⟨fun h => by have := hR.imm.imm _ h; omega, fun h => by have := hk.lives_lt h; omega⟩
  have hO : ∀ g, p.a = some (g, 0) → Own I (β.set st1.length p) (st1 ++ [b]) st1.length g (0, 0) b := fun g ha => by
    refine ⟨fun _ => ⟨rfl, (hfresh g 0 ha).1, fun l' b' hne hl' hlive' p' g' o' hp' ha' e => ?_⟩, fun hr => by rw [hm] at hr; cases hr⟩
    subst e
    unfold Places.set at hp'
    rw [if_neg hne] at hp'
    have := hk.lt hp'
    rw [List.getElem?_append_left this] at hl'
    exact (hfresh _ _ ha).2 ⟨l', b', p', o', hl', hlive', hp', ha'⟩
  have hH := hk.add hown hfresh (hb hO fun g hg => hown g (.inr hg))
  have hE : Ext I β s.st w I (β.set st1.length p) (st1 ++ [b]) w' := Ext.add2 hk hsub hg.os hg.tape hg.output hg.size (fun g hlt hn => hg.block g hlt fun e => hn (hv g e.symm).1) fun g o ha hlt => by
    rcases hp g o ha with e | e
    · exact (hv g e).1
    · omega
  refine OpPost.mk' hR h hH hE hset (by simp; omega) (fun l hl => if_neg (by omega)) ?_
  simp only [PV.Is]; exact ⟨_, Places.set_self .., rfl⟩
theorem pappend_ok (hG : GOk G) (hR : Rel G I β s a w) {t ty : TypeId} {d x : PV} {u v : Value} {q : PV → PSt → Prop} (h : pappend G s t d x q) (hd : d.Is w I β v) (hx : x.Is w I β u) :
    ∃ r w', (Builtin.append_ #[t, t] ty #[v, u]).run G.cx.P w = .ok r w' ∧ OpPost G s I β w a q r w' := by
  replace h := need_ok h
  obtain ⟨td, hu, h⟩ := h
  split at h
  · rename_i elem
    replace h := need_ok h
    obtain ⟨n, hn, h⟩ := h
    replace h := need_ok h
    obtain ⟨ag, hag, h⟩ := h
    replace h := need_ok h
    obtain ⟨by_, hby, h⟩ := h
    replace h := zerosO_ok (w := w) (I := I) (β := β) hG.ok h
    obtain ⟨z, i, zv, h, hi, hzv, hzz⟩ := h
    replace h := bif_ok h
    obtain ⟨hc, h⟩ := h
    simp only [Bool.and_eq_true, Bool.or_eq_true] at hc
    have hn0 : 0 < n := Nat.le_of_ble_eq_true hc.1.1
    have hzn : z.length = n := Nat.eq_of_beq_eq_true hc.1.2
    have hagn : ag = true ∨ n = 1 := hc.2.imp id Nat.eq_of_beq_eq_true
    obtain ⟨i1, hi1, hi2⟩ := Ev.size_inf hG.ok hn
    rw [hi] at hi1
    cases hi1
    obtain ⟨i3, hi3, hi4⟩ := hG.by_ _ (Ev.lkT_mem hby)
    simp only at hi3 hi4
    rw [hi] at hi3
    cases hi3
    have hzl := hzz.length
    simp only [Array.length_toList] at hzl
    replace h := srcK_ok hG.ok hR.heap hn0 h hx
    obtain ⟨src, ad, len, c, news, h, rfl, hsrc, hnl, had, hnews⟩ := h
    replace h := destK_ok hR.heap hn0 h hd
    obtain ⟨dst, st1, xs, dlen, h, hown, hdst, hxl, hk, hstl, hext, hv, hvf⟩ := h
    have hsub : ∀ g, Wr β st1 g → Wr β s.st g := fun g hw => by
      have := hext.wr g
      rcases Nat.lt_or_ge g w.heap.size with hlt | hge
      · exact this hlt hw
      · obtain ⟨l, b, p, o, h1, h2, h3, h4, h5⟩ := hw
        have := hk.lives_lt ⟨l, b, p, o, h1, h2, h4, h5⟩
        omega
    have hones := hsrc.ones
    -- the run
    have run : (dlen + len) ≤ maxLen → (dlen + len) * by_ ≤ 140737488355328 → ∃ r w', (Builtin.append_ #[t, t] ty #[v, .slice ad len c]).run G.cx.P w = .ok r w' ∧ w'.ownsRow 0 elem n r (dlen + len) (xs ++ news) ∧ w.grownBy w' v.ownBlock ∧ (r.ownBlock = v.ownBlock ∨ r.ownBlock = some w.heap.size) := by
      intro h1 h2
      cases ad with
      | none =>
        have hl0 : len = 0 := by rcases had with h | ⟨g, o, h⟩ <;> first | exact h | cases h
        subst hl0
        have hn0' : news = [] := List.eq_nil_of_length_eq_zero (by rw [hnl, Nat.zero_mul])
        subst hn0'
        have hvv : ∃ b m c', v = .slice b m c' ∧ m ≤ c' := by
          rcases hown.2 with ⟨rfl, _⟩ | ⟨g, cap, cur, rfl, _, _, hle, _⟩
          · exact ⟨_, _, _, rfl, Nat.le_refl _⟩
          · exact ⟨_, _, _, rfl, hle⟩
        obtain ⟨b, m, c', rfl, hle⟩ := hvv
        refine ⟨_, w, run_append_none t ty elem i (hG.ok.un hu) hi b m c' c hle, ?_, ⟨rfl, rfl, rfl, Nat.le_refl _, fun _ _ _ => rfl⟩, .inl rfl⟩
        rw [List.append_nil]; exact hown
      | some ad =>
        obtain ⟨r, w', hr, h3, h4, _, h5⟩ := run_append_own_at (P := G.cx.P) w 0 t ty elem i zv n by_ (hG.ok.un hu) hi hzv hi2 hi4 (by omega) hn0 v dlen xs hown ad len c news hnl (fun j u hj => by
          rcases had with h0 | ⟨g, o, e⟩
          · rw [h0, Nat.zero_mul] at hnl
            have := List.eq_nil_of_length_eq_zero hnl
            subst this; simp at hj
          · cases e
            rw [Ev.addr_add]; exact hnews g o rfl j u hj) hones h1 h2 (Nat.zero_le _)
        exact ⟨r, w', hr, h3, h4, h5⟩
    -- the end
    have fin_ : ∀ {r : Value} {w' : World} {b : PBlk}, w'.ownsRow 0 elem n r (dlen + len) (xs ++ news) → w.grownBy w' v.ownBlock → (r.ownBlock = v.ownBlock ∨ r.ownBlock = some w.heap.size) → pnewS (s.store st1) b q → b.m = .w →
        (∀ (p : Plc), ((p.a = none ∧ p.len = 0 ∧ p.cap = 0 ∧ dlen + len = 0) ∨ ∃ g cur, p.a = some (g, 0) ∧ p.len = dlen + len ∧ w'.heap[g]? = some (.cells cur elem (0, 0)) ∧ p.len ≤ p.cap ∧ p.cap ≤ maxLen ∧ cur.size = p.cap * n ∧ (∀ (j : Nat) (v : Value), (xs ++ news)[j]? = some v → cur[j]? = some v)) →
          (∀ g, p.a = some (g, 0) → Own I (β.set st1.length p) (st1 ++ [b]) st1.length g (0, 0) b) → (∀ g, I g → w'.heap[g]? = w.heap[g]?) → BlkOk I (β.set st1.length p) (st1 ++ [b]) w' st1.length b) → OpPost G s I β w a q r w' := by
      intro r w' b hown' hg hblk h hm hb
      rcases hown'.2 with ⟨rfl, h0⟩ | ⟨g, cap, cur, rfl, _, hg1, hle, hmx, hcs, htake⟩
      · have := append_new (p := ⟨none, 0, 0⟩) hR hk hsub hstl hv hg h (fun g o e => by cases e) hm (hb ⟨none, 0, 0⟩ (.inl ⟨rfl, rfl, rfl, h0⟩))
        exact this
      · have := append_new (p := ⟨some (g, 0), dlen + len, cap⟩) hR hk hsub hstl hv hg h (fun g' o e => by
          cases e
          simp only [Value.ownBlock] at hblk
          exact hblk.imp (fun e => e.symm) (fun e => by cases e; rfl)) hm (hb ⟨some (g, 0), dlen + len, cap⟩ (.inr ⟨g, cur, rfl, rfl, hg1, hle, hmx, hcs, fun j v hj => by
            rw [← htake, List.getElem?_take] at hj
            split at hj
            · simpa using hj
            · cases hj⟩))
        exact this
    have keep : ∀ {w' : World}, w.grownBy w' v.ownBlock → ∀ g, I g → w'.heap[g]? = w.heap[g]? := fun hg g hI => hg.block g (hR.imm.imm g hI) fun e => (hv g e.symm).2.1 hI
    have hlenE : (xs ++ news).length = (dlen + len) * n := by rw [List.length_append, hxl, hnl, Nat.add_mul]
    have told : (need (elemsOf ag n dst) fun es => need (elemsOf ag n src) fun fs => es.length + fs.length ≤ maxLen ∧ (es.length + fs.length) * by_ ≤ 140737488355328 ∧ pnewS (s.store st1) ⟨.dyn, elem, n, .w, true, es ++ fs⟩ q) → ∃ r w', (Builtin.append_ #[t, t] ty #[v, .slice ad len c]).run G.cx.P w = .ok r w' ∧ OpPost G s I β w a q r w' := by
      intro h
      replace h := need_ok h
      obtain ⟨es, hes, h⟩ := h
      replace h := need_ok h
      obtain ⟨fs, hfs, h⟩ := h
      obtain ⟨he1, he2⟩ := elemsOf_ok hn0 hagn hes hdst hxl
      obtain ⟨hf1, hf2⟩ := elemsOf_ok hn0 hagn hfs hsrc hnl
      obtain ⟨h1, h2, h⟩ := h
      rw [he1, hf1] at h1 h2
      obtain ⟨r, w', hr, hown', hg, hblk⟩ := run h1 h2
      refine ⟨r, w', hr, fin_ hown' hg hblk h rfl fun p hp hO hI => ⟨p, Places.set_self .., ?_⟩⟩
      rcases hp with ⟨ha, hl, hcp, h0⟩ | ⟨g, cur, ha, hl, hg1, hle, hmx, hcs, hcell⟩
      · exact ⟨⟨hn0, by simp only [List.length_append]; omega, by omega, by rw [hcp]; exact Nat.zero_le _⟩, .inl ⟨ha, hcp⟩⟩
      · refine ⟨⟨hn0, by simp only [List.length_append]; omega, hle, hmx⟩, .inr ⟨g, cur, (0, 0), ha, hg1, ?_, hO g ha, hcs⟩⟩
        exact (he2.append hf2).at (fun j v hj => by rw [Ev.cells_of hg1]; exact hcell j v hj) (fun _ h => h) hI
    split at h
    · rename_i cs ds
      rw [lenK_eq, lenK_eq, Nat.zero_add, Nat.zero_add] at h
      replace h := bif_ok h
      obtain ⟨hc2, h⟩ := h
      simp only [Bool.and_eq_true] at hc2
      obtain ⟨⟨⟨hd0, hd1⟩, hd2⟩, hd3⟩ := hc2
      have hd0 : 0 < ds.length := Nat.le_of_ble_eq_true hd0
      have hd2 := Nat.le_of_ble_eq_true hd2
      have hd3 := Nat.le_of_ble_eq_true hd3
      replace h := forceL_ok h
      have hcl : cs.length = dlen * n := by rw [← hdst.1, hxl]
      have hdl : ds.length = len * n := by rw [← hsrc.1, hnl]
      have e1 : dlen ≤ dlen * n := Nat.le_mul_of_pos_right _ hn0
      have e2 : len ≤ len * n := Nat.le_mul_of_pos_right _ hn0
      obtain ⟨r, w', hr, hown', hg, hblk⟩ := run (by omega) (Nat.le_trans (Nat.mul_le_mul_right _ (by omega)) hd2)
      have hlen0 : 0 < len := by
        rcases Nat.eq_zero_or_pos len with h0 | h0
        · rw [h0, Nat.zero_mul] at hdl; omega
        · exact h0
      refine ⟨r, w', hr, fin_ hown' hg hblk h rfl fun p hp hO hI => ⟨p, Places.set_self .., ?_⟩⟩
      rcases hp with ⟨ha, hl, hcp, h0⟩ | ⟨g, cur, ha, hl, hg1, hle, hmx, hcs, hcell⟩
      · omega
      · refine ⟨g, cur, (0, 0), ha, hg1, fun j c hj => ?_, hO g ha, by simp only [List.length_append]; rw [hl, Nat.add_mul]; omega, hle, hmx, hcs, hn0⟩
        obtain ⟨v', h1, h2, h3⟩ := (CellsIs.append hdst hsrc).2 j c hj
        exact ⟨v', by rw [Nat.zero_add]; exact hcell j v' h1, PV.Is.mono (fun _ h => h) hI c β _ v' (fun l p' _ hp' => Places.set_mono hk p l p' hp') h2, h3⟩
    · exact told h
  · exact h.elim

/-! ### calls -/
theorem argsK_ok (hR : Rel G I β s a w) : ∀ {os : List Operand} {q : List PV → Prop}, argsK s os q → ∃ l, q l ∧ IsL w I l β (os.map a.eval)
  | [], q, h => ⟨[], h, by simp only [List.map_nil, IsL]⟩
  | o :: os, q, h => by
    replace h := PSt.ev_ok hR h
    obtain ⟨x, h, hx⟩ := h
    obtain ⟨l, h, hl⟩ := argsK_ok hR h
    exact ⟨_, h, by simp only [List.map_cons, IsL]; exact ⟨hx, hl⟩⟩
theorem TM.clear_get {rl : List Nat} : ∀ {t : TM} {n : Nat} {x : PV}, (t.clear rl).get n = some x → t.get n = some x ∧ x.leads rl = false
  | .nil, n, x, h => by cases h
  | .node v l r, n, x, h => by
    simp only [TM.clear, TM.get] at h ⊢
    cases h0 : Nat.beq n 0 <;> rw [h0] at h
    · cases h1 : Nat.beq (n % 2) 1 <;> rw [h1] at h
      · exact TM.clear_get (t := r) h
      · exact TM.clear_get (t := l) h
    · cases v with
      | none => cases h
      | some y =>
        simp only [cond_true] at h ⊢
        split at h
        · cases h
        · cases h
          rename_i hl
          exact ⟨rfl, by simpa using hl⟩
theorem clearK_ok {rl : List Nat} {t : TM} {q : TM → Prop} (h : clearK rl t q) : ∃ t', q t' ∧ ∀ n x, t'.get n = some x → t.get n = some x ∧ ∀ l ∈ x.uses, l ∉ rl := by
  unfold clearK at h
  split at h
  · exact ⟨t, h, fun n x hx => ⟨hx, fun _ _ hl => by cases hl⟩⟩
  · refine ⟨_, h, fun n x hx => ?_⟩
    obtain ⟨h1, h2⟩ := TM.clear_get hx
    refine ⟨h1, fun l hl hr => ?_⟩
    unfold PV.leads at h2
    rw [List.any_eq_false] at h2
    refine h2 l hl (List.any_eq_true.2 ⟨l, hr, ?_⟩)
    exact Nat.beq_refl l
/-- a call: what the caller has then -/
theorem pcall_ok (hR : Rel G I β s a w) {f : FuncId} {args : List PV} {vals : List Value} {q : PV → PSt → Prop} (h : pcall G s f args q) (ha : IsL w I args β vals) :
    Ev.Enters G.cx.P f ∧ Calls G.cx.P f vals.toArray w fun e w' => ∃ v, e = .returned v ∧ OpPost G s I β w a q v w' := by
  obtain ⟨n, t, st, b, rl0⟩ := s
  obtain ⟨rl, hrl, hs⟩ := h
  unfold Spec at hs
  obtain ⟨he, hs⟩ := hs
  refine ⟨he, (hs I β w vals hR.heap hR.imm ha).mono fun e w' ⟨v, r, S', I', β', he, hk, hr, hH, hM, hE, hlen, hβ⟩ => ⟨v, he, ?_⟩⟩
  obtain ⟨t', hq, ht'⟩ := clearK_ok hk
  refine ⟨r, _, I', β', hq, ⟨hR.small, hR.defers, hR.size, Nat.le_trans hR.base hlen, fun m x hx => ?_, hH, hM⟩, hr, hE, rfl, rfl, rfl, fun l hl hn => ?_, fun l b' hb' hm => hβ l (List.getElem?_eq_some_iff.1 hb').1 fun hr => (hrl l hr).2 b' hb' hm⟩
  · obtain ⟨h1, h2⟩ := ht' m x hx
    obtain ⟨u, hu, hi⟩ := hR.get m x h1
    refine ⟨u, hu, PV.Is.mono hE.imm (hE.keeps hR.heap hR.imm.imm) x β β' u (fun l p hl hp => ?_) hi⟩
    rw [hβ l (hR.heap.lt hp) (h2 l hl)]; exact hp
  · have hl' : l < b := hl
    refine hβ l (Nat.lt_of_lt_of_le hl' hR.base) fun hr => ?_
    rcases (hrl l hr).1 with h | h
    · omega
    · exact hn h

set_option maxHeartbeats 1000000 in
theorem pop_ok (hG : GOk G) (hR : Rel G I β s a w) {o : Oper} {q : PV → PSt → Prop} (h : pop G s o q) : Ev.resE G.cx.P (OpPost G s I β w a q) ((execOp a.eval o).run G.cx.P w) := by
  have pureCase : ∀ {q' : PV → Prop}, ppure G.cx s o.op q' → (∀ v, q' v → q v s) → Ev.resE G.cx.P (OpPost G s I β w a q) ((execOp a.eval o).run G.cx.P w) := by
    intro q' h hq
    obtain ⟨x, r, hx, hi, hr⟩ := ppure_ok hG.ok hR h
    rw [hr w]
    exact OpPost.same hR (hq x hx) hi
  unfold pop at h
  split at h
  · -- load
    rename_i t ad hop
    replace h := PSt.ev_ok hR h
    obtain ⟨x, h, hx⟩ := h
    obtain ⟨z, v, g, h, hz, _, hrun⟩ := pload_ok hG.ok hR.heap hR.imm h hx
    replace hrun := hrun w rfl
    unfold execOp
    rw [hop]
    simp only [Sem.run_bind, hrun, Result.andThen_ok, Sem.run_pure]
    exact OpPost.same hR h hz
  · -- store
    rename_i t ad y hop
    replace h := PSt.ev_ok hR h
    obtain ⟨x, h, hx⟩ := h
    replace h := PSt.ev_ok hR h
    obtain ⟨v, h, hv⟩ := h
    obtain ⟨w', hrun, hp⟩ := pstore_ok hG hR h hx hv
    unfold execOp
    rw [hop]
    simp only [Sem.run_bind, hrun, Result.andThen_ok, Sem.run_pure]
    exact hp
  · -- alloc
    rename_i t hop
    replace h := zerosO_ok (w := w) (I := I) (β := β) hG.ok h
    obtain ⟨z, i, v, h, hi, hzv, hzz⟩ := h
    replace h := bif_ok (forceL_ok h)
    obtain ⟨hall, h⟩ := h
    rw [List.all_eq_true] at hall
    have hrun : (execOp a.eval o).run G.cx.P w = .ok (.value (.pointer (some ⟨w.heap.size, 0, none⟩))) (w.alloc (.cells v.cells t)) := by
      unfold execOp
      rw [hop]
      simp [Instr.alloc, zeroValue, typeInfo, hi, hzv, newVar, newRow]
    rw [hrun]
    exact pnew_ok hR h hzz hall
  · -- box
    rename_i t y hop
    replace h := PSt.ev_ok hR h
    obtain ⟨x, h, hx⟩ := h
    have hrun : (execOp a.eval o).run G.cx.P w = .ok (.value (.pointer (some ⟨w.heap.size, 0, none⟩))) (w.alloc (.cells (a.eval y).cells t)) := by
      unfold execOp
      rw [hop]
      simp [Instr.box, newVar, newRow]
    rw [hrun]
    split at h
    · exact h.elim
    · rename_i hnt
      replace h := bif_ok h
      obtain ⟨hall, h⟩ := h
      rw [List.all_eq_true] at hall
      exact pnew_ok hR (forceL_ok h) (hx.cellsL fun vs e => hnt vs e) hall
  · -- buildSlice
    rename_i t len ps hop
    replace h := need_ok h
    obtain ⟨d, hu, h⟩ := h
    split at h
    · rename_i elem
      replace h := need_ok h
      obtain ⟨n, hn, h⟩ := h
      replace h := zerosO_ok (w := w) (I := I) (β := β) hG.ok h
      obtain ⟨z, i, v, h, hi, hzv, hzz⟩ := h
      replace h := partsK_ok hR h
      obtain ⟨l, h, hl⟩ := h
      replace h := bif_ok h
      obtain ⟨hc, h⟩ := h
      simp only [Bool.and_eq_true] at hc
      have hzl : z.length = n := Nat.eq_of_beq_eq_true hc.1.1
      have hlim : len * n ≤ 16777216 := Nat.le_of_ble_eq_true hc.1.2
      have hn0 : 0 < n := Nat.le_of_ble_eq_true hc.2
      replace h := fillF_ok h
      obtain ⟨cs, hfill, h⟩ := h
      replace h := bif_ok (forceL_ok h)
      obtain ⟨hc2, h⟩ := h
      simp only [Bool.and_eq_true, List.all_eq_true] at hc2
      have hcl := Nat.eq_of_beq_eq_true hc2.1.2
      have hmx := Nat.le_of_ble_eq_true hc2.2
      have hzs := hzz.length
      simp only [Array.length_toList] at hzs
      have rep : ∀ k, IsL w I ((List.replicate k z).flatten) β ((List.replicate k v.cells.toList).flatten) := fun k => by
        induction k with
        | zero => simp only [List.replicate_zero, List.flatten_nil, IsL]
        | succ k ih => simp only [List.replicate_succ, List.flatten_cons]; exact hzz.append ih
      have hzeros : IsL w I ((List.replicate len z).flatten) β ((Array.range (len * n)).map fun i => v.cells[i % v.cells.size]!).toList := by
        rw [show n = v.cells.size by omega, Ev.zeros_eq len (by omega)]; exact rep len
      obtain ⟨B, hB, hBB⟩ := fillP_ok hfill hzeros hl
      have hrun : (execOp a.eval o).run G.cx.P w = .ok (.value (.slice (some ⟨w.heap.size, 0, none⟩) len len)) (w.alloc (.cells B elem)) := by
        unfold execOp
        rw [hop]
        have hB' : Instr.fill (fun i => some (i * n, n)) ((Array.range (len * n)).map fun i => v.cells[i % v.cells.size]!) (ps.map fun (i, y) => (i, a.eval y)).toList = some B := by
          rw [← hB]; simp
        have hlim' : ¬ (len * n > 2 ^ 24) := by omega
        by_cases h0 : len * n = 0
        · have hE : ∀ g : Nat → Value, (Array.range (len * n)).map g = #[] := fun g => by rw [h0]; simp
          rw [hE] at hB'
          simp only [Instr.buildSlice, Sem.run_bind, run_underlying (hG.ok.un hu), Result.andThen_ok, Ev.size_run hG.ok hn, if_neg hlim', if_pos h0, Sem.run_pure, hE, hB']
          simp [newRow]
        · have hzr : (zeroValue elem).run G.cx.P w = .ok v w := by simp [zeroValue, typeInfo, hi, hzv]
          simp only [Instr.buildSlice, Sem.run_bind, run_underlying (hG.ok.un hu), Result.andThen_ok, Ev.size_run hG.ok hn, if_neg hlim', if_neg h0, Sem.run_pure, hzr, hB']
          simp [newRow]
      rw [hrun]
      exact pnewS_ok hR h hBB hc2.1.1 hcl hn0 hmx
    · exact h.elim
  · -- call
    rename_i y ars argTypes hop
    replace h := PSt.ev_ok hR h
    obtain ⟨x, h, hx⟩ := h
    split at h
    · rename_i f caps
      cases hext : G.ext.any (Nat.beq f) with
      | true => rw [hext] at h; replace h : OpS G s o q := h; unfold OpS at h; exact h I β a w hR
      | false =>
      rw [hext] at h
      replace h : argsK s ars fun l => pcall G s f (l ++ caps) q := h
      simp only [PV.Is] at hx
      obtain ⟨cvs, hfv, hcv⟩ := hx
      replace h := argsK_ok hR h
      obtain ⟨l, h, hl⟩ := h
      obtain ⟨hent, hcall⟩ := pcall_ok hR h (hl.append hcv)
      have hrun : (execOp a.eval o).run G.cx.P w = .ok (.enter f (ars.map a.eval ++ cvs.toList).toArray) w := by
        unfold execOp
        rw [hop]
        have e1 : (Array.mk ars).map a.eval ++ cvs = (ars.map a.eval ++ cvs.toList).toArray := by simp
        simp only [resolve, hfv, Deferred.ofValue, Sem.run_bind, Sem.run_pure, Result.andThen_ok, invoke]
        simp only [Array.empty_append]
        rw [e1]
        exact hent _ w
      rw [hrun]
      exact hcall
    · exact h.elim
  · -- append
    rename_i od ox t t' hop
    replace h := bif_ok h
    obtain ⟨ht, h⟩ := h
    have := Nat.eq_of_beq_eq_true ht
    subst this
    replace h := PSt.ev_ok hR h
    obtain ⟨d, h, hd⟩ := h
    replace h := PSt.ev_ok hR h
    obtain ⟨x, h, hx⟩ := h
    obtain ⟨r, w', hr, hp⟩ := pappend_ok (ty := o.type) hG hR h hd hx
    have hrun : (execOp a.eval o).run G.cx.P w = .ok (.value r) w' := by
      unfold execOp
      rw [hop]
      simp [resolve, invoke, builtin, hr]
    rw [hrun]
    exact hp
  · unfold OpS at h; exact h I β a w hR
  · unfold OpS at h; exact h I β a w hR
  · unfold OpS at h; exact h I β a w hR
  · unfold OpS at h; exact h I β a w hR
  · unfold OpS at h; exact h I β a w hR
  · unfold OpS at h; exact h I β a w hR
  · rename_i src dst ox hop
    cases hb : Nat.beq dst 9 with
    | true => rw [hb] at h; replace h : OpS G s o q := h; unfold OpS at h; exact h I β a w hR
    | false => rw [hb] at h; exact pureCase (by rw [hop]; exact h) fun _ h => h
  · exact pureCase h fun _ h => h
end

end Go.Proofs.YtjcacjeoddnmhaaDoor.Pw

/- Slots, guards, lists of operations; regions that draw their order, in general. -/
namespace Go.Proofs.YtjcacjeoddnmhaaDoor.Pw
open Go Go.RowKit

section
variable {w w' : World} {I I' : Nat → Prop} {β β' : Places} {cx : Ev.Cx} {G : Gx} {P : Program} {s : PSt} {a : Act} {st st' : List PBlk}

theorem TM.setK_ok {v : Option PV} : ∀ {f : Nat} {t : TM} {n : Nat} {k : TM → Prop}, TM.setK v f t n k → ∃ t', k t' ∧ ∀ m, t'.get m = if m = n then v else t.get m
  | 0, _, _, _, h => h.elim
  | f + 1, t, n, k, h => by
    have arith : ∀ m, Nat.beq n 0 = false → (m = n ↔ Nat.beq m 0 = false ∧ m % 2 = n % 2 ∧ (m - 1) / 2 = (n - 1) / 2) := fun m h0 => by
      have hn : n ≠ 0 := fun e => by subst e; cases h0
      constructor
      · rintro rfl; exact ⟨h0, rfl, rfl⟩
      · rintro ⟨h1, h2, h3⟩
        have hm : m ≠ 0 := fun e => by subst e; cases h1
        omega
    have key : ∀ (u : Option PV) (l r : TM), (bif Nat.beq n 0 then k (.node v l r) else bif Nat.beq (n % 2) 1 then TM.setK v f l ((n - 1) / 2) (fun t => k (.node u t r)) else TM.setK v f r ((n - 1) / 2) (fun t => k (.node u l t))) →
        ∃ t', k t' ∧ ∀ m, t'.get m = if m = n then v else (TM.node u l r).get m := by
      intro u l r h
      cases h0 : Nat.beq n 0 <;> rw [h0] at h
      · cases h1 : Nat.beq (n % 2) 1 <;> rw [h1] at h
        · obtain ⟨t', hk, ht⟩ := TM.setK_ok h
          refine ⟨_, hk, fun m => ?_⟩
          have hp : n % 2 = 0 := by
            have : n % 2 ≠ 1 := fun e => by rw [e] at h1; cases h1
            omega
          simp only [TM.get]
          cases hm0 : Nat.beq m 0
          · cases hm1 : Nat.beq (m % 2) 1
            · have hmp : m % 2 = 0 := by
                have : m % 2 ≠ 1 := fun e => by rw [e] at hm1; cases hm1
                omega
              simp only [cond_false, ht]
              by_cases e : (m - 1) / 2 = (n - 1) / 2
              · rw [if_pos e, if_pos ((arith m h0).2 ⟨hm0, by omega, e⟩)]
              · rw [if_neg e, if_neg fun e' => e ((arith m h0).1 e').2.2]
            · have hmp : m % 2 = 1 := Nat.eq_of_beq_eq_true hm1
              simp only [cond_false, cond_true]
              rw [if_neg fun e' => by rw [e'] at hmp; omega]
          · have := Nat.eq_of_beq_eq_true hm0
            subst this
            simp only [cond_true]
            rw [if_neg fun e => by rw [← e] at h0; cases h0]
        · obtain ⟨t', hk, ht⟩ := TM.setK_ok h
          refine ⟨_, hk, fun m => ?_⟩
          have hp : n % 2 = 1 := Nat.eq_of_beq_eq_true h1
          simp only [TM.get]
          cases hm0 : Nat.beq m 0
          · cases hm1 : Nat.beq (m % 2) 1
            · simp only [cond_false]
              rw [if_neg fun e' => by rw [e'] at hm1; rw [hm1] at h1; cases h1]
            · have hmp : m % 2 = 1 := Nat.eq_of_beq_eq_true hm1
              simp only [cond_false, cond_true, ht]
              by_cases e : (m - 1) / 2 = (n - 1) / 2
              · rw [if_pos e, if_pos ((arith m h0).2 ⟨hm0, by omega, e⟩)]
              · rw [if_neg e, if_neg fun e' => e ((arith m h0).1 e').2.2]
          · have := Nat.eq_of_beq_eq_true hm0
            subst this
            simp only [cond_true]
            rw [if_neg fun e => by rw [← e] at h0; cases h0]
      · have := Nat.eq_of_beq_eq_true h0
        subst this
        refine ⟨_, h, fun m => ?_⟩
        simp only [TM.get]
        cases hm0 : Nat.beq m 0
        · rw [if_neg fun e => by subst e; cases hm0]; rfl
        · rw [if_pos (Nat.eq_of_beq_eq_true hm0)]; rfl
    cases t with
    | nil =>
      obtain ⟨t', hk, ht⟩ := key none .nil .nil h
      refine ⟨t', hk, fun m => ?_⟩
      rw [ht]
      split
      · rfl
      · simp only [TM.get]; cases Nat.beq m 0 <;> cases Nat.beq (m % 2) 1 <;> rfl
    | node u l r => exact key u l r h

/-- the same but for the slots -/
structure SameBut (s s' : PSt) : Prop where
  n : s'.n = s.n
  st : s'.st = s.st
  base : s'.base = s.base
  rl : s'.rl = s.rl
theorem PSt.put_ok {dst : Option Tmp} {x : PV} {k : PSt → Prop} (h : s.put dst x k) : ∃ s', k s' ∧ SameBut s s' ∧ ∀ I β a w v, Rel G I β s a w → x.Is w I β v → Rel G I β s' (a.put dst v) w := by
  obtain ⟨n, t, st, b, rl⟩ := s
  unfold PSt.put at h
  simp only at h
  split at h
  · exact ⟨_, h, ⟨rfl, rfl, rfl, rfl⟩, fun I β a w v hR _ => hR⟩
  · rename_i d
    replace h := bif_ok h
    obtain ⟨hd, h⟩ := h
    have hd : d < n := Nat.le_of_ble_eq_true hd
    replace h := fc_ok h
    obtain ⟨t', hk, ht⟩ := TM.setK_ok h
    refine ⟨_, hk, ⟨rfl, rfl, rfl, rfl⟩, fun I β a w v hR hx => ⟨hR.small, hR.defers, by simpa [Act.put] using hR.size, hR.base, fun m y hy => ?_, hR.heap, hR.imm⟩⟩
    have hsz : d < a.tmps.size := by rw [hR.size]; exact hd
    have hy' : t'.get m = some y := hy
    rw [ht] at hy'
    by_cases e : m = d
    · subst e
      rw [if_pos rfl] at hy'
      cases hy'
      exact ⟨v, by simp [Act.put, hsz], hx⟩
    · rw [if_neg e] at hy'
      obtain ⟨u, hu, hi⟩ := hR.get m y hy'
      exact ⟨u, by simp only [Act.put, Array.getElem?_setIfInBounds_ne (Ne.symm e)]; exact hu, hi⟩
/-- a slot whose value is known better -/
theorem PSt.refine_ok {t : Nat} {x : PV} {v : Value} {k : PSt → Prop} (hR : Rel G I β s a w) (hv : a.tmps[t]? = some v) (hx : x.Is w I β v) (h : s.put (some t) x k) : ∃ s', k s' ∧ SameBut s s' ∧ Rel G I β s' a w := by
  obtain ⟨s', hk, hs, hr⟩ := PSt.put_ok (G := G) h
  refine ⟨s', hk, hs, ?_⟩
  have := hr I β a w v hR hx
  have e : a.put (some t) v = a := by
    unfold Act.put
    simp only
    have : a.tmps.setIfInBounds t v = a.tmps := by
      apply Array.ext_getElem?
      intro i
      rw [Array.getElem?_setIfInBounds]
      split
      · rename_i hi
        subst hi
        have := (Array.getElem?_eq_some_iff.1 hv).1
        rw [if_pos this, hv]
      · rfl
    rw [this]
  rw [e] at this
  exact this
theorem Is.undef : (PV.tup []).Is w I β Go.undef := by simp only [PV.Is]; exact ⟨#[], rfl, by simp only [IsL]⟩
theorem pguard_ok {ops : Array Oper} {o : Oper} {run skip : PSt → Prop} (hR : Rel G I β s a w) (h : pguard ops.toList s o run skip) :
    (Region.wanted o (yielded ops a.tmps) = true ∧ ∃ s', run s' ∧ SameBut s s' ∧ Rel G I β s' a w) ∨ (Region.wanted o (yielded ops a.tmps) = false ∧ ∃ s', skip s' ∧ SameBut s s' ∧ Rel G I β s' a w) := by
  have same : SameBut s s := ⟨rfl, rfl, rfl, rfl⟩
  unfold pguard at h
  cases hg : o.guard with
  | none =>
    rw [hg] at h
    exact .inl ⟨by simp [Region.wanted, hg], s, h, same, hR⟩
  | some jw =>
    obtain ⟨j, want⟩ := jw
    rw [hg] at h
    simp only at h
    replace h := need_ok h
    obtain ⟨t, ht, h⟩ := h
    replace h := need_ok h
    obtain ⟨x, hx, h⟩ := h
    obtain ⟨v, hv, hi⟩ := hR.get t x hx
    have ht' : (ops[j]?).bind (·.dst) = some t := by simpa using ht
    have hy : ∀ b, v = .bool b → Region.wanted o (yielded ops a.tmps) = (b == want) := fun b hb => by
      subst hb
      have : yielded ops a.tmps j = some b := by unfold yielded; rw [Option.bind_eq_some_iff.2 ⟨t, ht', hv⟩]
      simp [Region.wanted, hg, this]
    split at h <;> try simp only [PV.Is] at hi
    · cases want
      · exact .inr ⟨by rw [hy _ hi]; rfl, s, h, same, hR⟩
      · exact .inl ⟨by rw [hy _ hi]; rfl, s, h, same, hR⟩
    · cases want
      · exact .inl ⟨by rw [hy _ hi]; rfl, s, h, same, hR⟩
      · exact .inr ⟨by rw [hy _ hi]; rfl, s, h, same, hR⟩
    · rename_i p
      by_cases hp : p
      · obtain ⟨s', hk, hs, hr⟩ := PSt.refine_ok hR hv (x := .tt) (by rw [hi, pb_true hp]; exact Is.tt) (h.1 hp)
        cases want
        · exact .inr ⟨by rw [hy _ hi, pb_true hp]; rfl, s', hk, hs, hr⟩
        · exact .inl ⟨by rw [hy _ hi, pb_true hp]; rfl, s', hk, hs, hr⟩
      · obtain ⟨s', hk, hs, hr⟩ := PSt.refine_ok hR hv (x := .ff) (by rw [hi, pb_false hp]; exact Is.ff) (h.2 hp)
        cases want
        · exact .inl ⟨by rw [hy _ hi, pb_false hp]; rfl, s', hk, hs, hr⟩
        · exact .inr ⟨by rw [hy _ hi, pb_false hp]; rfl, s', hk, hs, hr⟩
    · obtain ⟨vs, rfl, _⟩ := hi
      refine .inr ⟨?_, s, h, same, hR⟩
      have : yielded ops a.tmps j = none := by unfold yielded; rw [Option.bind_eq_some_iff.2 ⟨t, ht', hv⟩]
      simp [Region.wanted, hg, this]
    · exact h.elim

/-- from a state to another -/
structure Goes (I : Nat → Prop) (β : Places) (s : PSt) (w : World) (I' : Nat → Prop) (β' : Places) (s' : PSt) (w' : World) : Prop where
  ext : Ext I β s.st w I' β' s'.st w'
  base : s'.base = s.base
  rl : s'.rl = s.rl
  n : s'.n = s.n
  low : ∀ l, l < s.base → l ∉ s.rl → β' l = β l
theorem Goes.same {s' : PSt} (h : SameBut s s') : Goes I β s w I β s' w := ⟨by rw [h.st]; exact Ext.refl, h.base, h.rl, h.n, fun _ _ _ => rfl⟩
theorem Goes.trans {I'' : Nat → Prop} {β'' : Places} {s' s'' : PSt} {w'' : World} (h : Goes I β s w I' β' s' w') (k : Goes I' β' s' w' I'' β'' s'' w'') : Goes I β s w I'' β'' s'' w'' :=
  ⟨h.ext.trans k.ext, k.base.trans h.base, k.rl.trans h.rl, k.n.trans h.n, fun l hl hr => (k.low l (by rw [h.base]; exact hl) (by rw [h.rl]; exact hr)).trans (h.low l hl hr)⟩

theorem pops_ok (hG : GOk G) {ops : Array Oper} {Q : X → PSt → Prop} {Q' : Exit → Act → World → Prop} : ∀ (l : List Oper) {s : PSt} {a : Act} {I : Nat → Prop} {β : Places} {w : World}, pops G ops.toList Q l s → Rel G I β s a w →
    (∀ x s' I' β' a' w', Q x s' → Rel G I' β' s' a' w' → Goes I β s w I' β' s' w' → Q' (X.e x) a' w') → wpList G.cx.P ops Q' l a w
  | [], s, a, I, β, w, h, hR, hQ => hQ .nml s I β a w h hR (Goes.same ⟨rfl, rfl, rfl, rfl⟩)
  | o :: l, s, a, I, β, w, h, hR, hQ => by
    unfold wpList
    rcases pguard_ok hR h with ⟨hw, s1, h1, hs1, hR1⟩ | ⟨hw, s1, h1, hs1, hR1⟩
    · rw [hw, if_pos rfl]
      refine .inl (Ev.resE_wp (pop_ok hG hR1 h1) fun v w' hp => ?_)
      obtain ⟨x, s2, I2, β2, h2, hR2, hx, hE, e1, e2, e3, hlow, _⟩ := hp
      obtain ⟨s3, h3, hs3, hr3⟩ := PSt.put_ok (G := G) h2
      have g1 : Goes I β s w I2 β2 s2 w' := (Goes.same hs1).trans ⟨hE, e1, e2, e3, hlow⟩
      exact pops_ok hG l h3 (hr3 _ _ _ _ v hR2 hx) fun x s' I' β' a' w'' hq hR' hg => hQ x s' I' β' a' w'' hq hR' ((g1.trans (Goes.same hs3)).trans hg)
    · rw [hw, if_neg (by simp)]
      obtain ⟨s3, h3, hs3, hr3⟩ := PSt.put_ok (G := G) h1
      exact pops_ok hG l h3 (hr3 _ _ _ _ _ hR1 Is.undef) fun x s' I' β' a' w'' hq hR' hg => hQ x s' I' β' a' w'' hq hR' (((Goes.same hs1).trans (Goes.same hs3)).trans hg)
end

/-! ### regions that draw their order -/
def loadOp : Op → Bool
  | .load .. => true
  | _ => false
/-- takes effect, or makes something -/
def eff (op : Op) : Bool := !(Ev.pureOp op || loadOp op)
structure PinY where
  k : Nat
  D : List Nat
  Y : World → Prop
section
variable {P : Program} {ops : Array Oper} {Q : Exit → Act → World → Prop}
/-- in every world that meets S the operation leaves v, and nothing is changed -/
def Yields (P : Program) (ops : Array Oper) (S : World → Prop) (o : Oper) (v : Value) (a : Act) : Prop :=
  (Region.wanted o (yielded ops a.tmps) = true ∧ ∀ w, S w → (execOp a.eval o).run P w = .ok (.value v) w) ∨ (Region.wanted o (yielded ops a.tmps) = false ∧ v = undef)
theorem Yields.mono {S S' : World → Prop} {o : Oper} {v : Value} {a : Act} (hS : ∀ w, S' w → S w) (h : Yields P ops S o v a) : Yields P ops S' o v a := h.imp (fun ⟨h1, h2⟩ => ⟨h1, fun w hw => h2 w (hS w hw)⟩) id
theorem Yields.of_same {S : World → Prop} {o : Oper} {v : Value} {a a' : Act} (hy : Yields P ops S o v a) (he : execOp a'.eval o = execOp a.eval o) (hw : Region.wanted o (yielded ops a'.tmps) = Region.wanted o (yielded ops a.tmps)) : Yields P ops S o v a' := by
  unfold Yields at *; rw [he, hw]; exact hy
def unpin (i : Nat) (pins : List PinY) : List PinY := pins.filter fun p => !p.D.any (Nat.beq i)
/-- whatever order is picked from here on -/
def AnyP (P : Program) (ops : Array Oper) (Q : Exit → Act → World → Prop) : Nat → Array Bool → Act → (World → Prop) → List PinY → Prop
  | 0, l, a, S, _ => Region.ready .any ops l = [] ∧ ∀ w, S w → Q .normal a w
  | f + 1, l, a, S, pins => (Region.ready .any ops l = [] → ∀ w, S w → Q .normal a w) ∧ ∀ i ∈ Region.ready .any ops l, ∀ o, ops[i]? = some o →
      (eff o.op = false → ∃ v, Yields P ops S o v a ∧ AnyP P ops Q f (l.setIfInBounds i true) (a.put o.dst v) S (unpin i pins)) ∧
      (eff o.op = true → ∀ w, S w → Ev.Does P ops o a w fun v w' => ∃ S' : World → Prop, (∀ p ∈ unpin i pins, ∀ w, S' w → p.Y w) ∧ S' w' ∧ AnyP P ops Q f (l.setIfInBounds i true) (a.put o.dst v) S' (unpin i pins))
theorem AnyP.sound : ∀ (f : Nat) (l : Array Bool) (a : Act) (S : World → Prop) (pins : List PinY) (w : World), AnyP P ops Q f l a S pins → S w → wpAny P .any ops Q f l a w
  | 0, l, a, S, _, w, h, hw => ⟨h.1, h.2 w hw⟩
  | f + 1, l, a, S, pins, w, h, hw => by
    refine ⟨fun h0 => h.1 h0 w hw, fun i hi => ?_⟩
    obtain ⟨o, ho⟩ := Ev.ready_op hi
    obtain ⟨h0, h1⟩ := h.2 i hi o ho
    unfold wpOp
    rw [ho]
    simp only
    by_cases hl : eff o.op = false
    · obtain ⟨v, hy, hn⟩ := h0 hl
      rcases hy with ⟨hwant, hy⟩ | ⟨hwant, rfl⟩
      · rw [if_pos hwant]
        refine .inl (Ev.resE_wp (K := fun u w' => u = v ∧ w' = w) (by rw [hy w hw]; exact ⟨rfl, rfl⟩) fun u w' ⟨hu, hb⟩ => ?_)
        subst hu; subst hb
        exact AnyP.sound f _ _ S _ w' hn hw
      · rw [if_neg (by rw [hwant]; simp)]
        exact AnyP.sound f _ _ S _ w hn hw
    · rcases h1 (by simpa using hl) w hw with ⟨hwant, hd⟩ | ⟨hwant, S', _, hS', hn⟩
      · rw [if_pos hwant]
        refine .inl (Ev.resE_wp hd fun u w' ⟨S', _, hS', hn⟩ => ?_)
        exact AnyP.sound f _ _ S' _ w' hn hS'
      · rw [if_neg (by rw [hwant]; simp)]
        exact AnyP.sound f _ _ S' _ w hn hS'
theorem does_mono {o : Oper} {a : Act} {w : World} {K K' : Value → World → Prop} (hK : ∀ v w, K v w → K' v w) (h : Ev.Does P ops o a w K) : Ev.Does P ops o a w K' := Ev.Does.mono hK h
theorem unpin_sub {i : Nat} {pins pins' : List PinY} (h : ∀ p ∈ pins', p ∈ pins) : ∀ p ∈ unpin i pins', p ∈ unpin i pins := fun p hp => by
  unfold unpin at *
  rw [List.mem_filter] at *
  exact ⟨h p hp.1, hp.2⟩
theorem AnyP.sub : ∀ (f : Nat) (l : Array Bool) (a : Act) (S : World → Prop) (pins pins' : List PinY), (∀ p ∈ pins', p ∈ pins) → AnyP P ops Q f l a S pins → AnyP P ops Q f l a S pins'
  | 0, _, _, _, _, _, _, h => h
  | f + 1, l, a, S, pins, pins', hs, h => by
    refine ⟨h.1, fun i hi o ho => ?_⟩
    obtain ⟨h0, h1⟩ := h.2 i hi o ho
    refine ⟨fun hl => ?_, fun hl w hw => does_mono (fun v w' ⟨S', h2, h3, h4⟩ => ⟨S', fun p hp => h2 p (unpin_sub hs p hp), h3, AnyP.sub f _ _ _ _ _ (unpin_sub hs) h4⟩) (h1 hl w hw)⟩
    obtain ⟨v, hy, hn⟩ := h0 hl
    exact ⟨v, hy, AnyP.sub f _ _ _ _ _ (unpin_sub hs) hn⟩
/-- an operation that changes nothing may be taken first -/
theorem AnyP.first {i : Nat} {oi : Oper} {v : Value} {D : List Nat} {Y : World → Prop} (hi : ops[i]? = some oi) (hli : eff oi.op = false) (hsel : Region.noSelect ops = true) :
    ∀ (f : Nat) (l : Array Bool) (a : Act) (S : World → Prop) (pins : List PinY),
      (∀ j oj, ops[j]? = some oj → j ≠ i → l.getD j true = false → (∀ e ∈ oj.after, Region.binds .any e = true → e.on ≠ i) → oi.apart ops oj = true) →
      (∀ j ∈ D, l.getD j false = false ∧ ∃ oj, ops[j]? = some oj ∧ ∃ e ∈ oj.after, Region.binds .any e = true ∧ (e.on = i ∨ e.on ∈ D)) →
      Yields P ops Y oi v a → (∀ w, S w → Y w) → i ∈ Region.ready .any ops l → AnyP P ops Q f (l.setIfInBounds i true) (a.put oi.dst v) S (⟨i, D, Y⟩ :: pins) → AnyP P ops Q (f + 1) l a S pins := by
  intro f
  induction f with
  | zero =>
    intro l a S pins _ _ hY hSY hr H
    refine ⟨fun h0 => (by rw [h0] at hr; cases hr), fun j hj o ho => ?_⟩
    by_cases hji : j = i
    · subst hji
      rw [hi] at ho; cases ho
      exact ⟨fun _ => ⟨v, hY.mono hSY, H⟩, fun h => by rw [hli] at h; cases h⟩
    · have := ready_mono hj hji
      rw [H.1] at this
      cases this
  | succ f ih =>
    intro l a S pins hfree hD hY hSY hr H
    refine ⟨fun h0 => (by rw [h0] at hr; cases hr), fun j hj oj hoj => ?_⟩
    by_cases hji : j = i
    · subst hji
      rw [hi] at hoj; cases hoj
      refine ⟨fun _ => ⟨v, hY.mono hSY, ?_⟩, fun h => by rw [hli] at h; cases h⟩
      refine AnyP.sub _ _ _ _ _ _ (fun p hp => ?_) H
      unfold unpin at hp
      exact List.mem_cons_of_mem _ (List.mem_filter.1 hp).1
    · obtain ⟨hjun, oj', hoj', hall⟩ := mem_ready.1 hj
      rw [hoj] at hoj'; cases hoj'
      have hiun := (mem_ready.1 hr).1
      have ilist : l.getD i false = false := by
        have hlt : i < l.size := by
          rcases Nat.lt_or_ge i l.size with h' | h'
          · exact h'
          · simp [Array.getElem?_eq_none h'] at hiun
        simp [hlt] at hiun ⊢; exact hiun
      have hnot : ∀ e ∈ oj.after, Region.binds .any e = true → e.on ≠ i := fun e he hb heq => by
        have h1 := hall e he hb
        rw [heq, ilist] at h1; cases h1
      have hjD : D.any (Nat.beq j) = false := by
        rw [List.any_eq_false]
        intro x hx e
        have := Nat.eq_of_beq_eq_true e
        subst this
        obtain ⟨_, oj2, ho2, ed, he, hb, h3⟩ := hD j hx
        rw [hoj] at ho2; cases ho2
        rcases h3 with h3 | h3
        · exact hnot ed he hb h3
        · have h4 := hall ed he hb
          rw [(hD _ h3).1] at h4; cases h4
      have hjD' : j ∉ D := fun hm => by
        rw [List.any_eq_false] at hjD
        exact hjD j hm (Nat.beq_refl j)
      have hun : unpin j (⟨i, D, Y⟩ :: pins) = ⟨i, D, Y⟩ :: unpin j pins := by
        unfold unpin
        rw [List.filter_cons, if_pos (by simp only [hjD]; rfl)]
      have hap := hfree j oj hoj hji hjun hnot
      obtain ⟨a1, a2, a3⟩ := Oper.apart_spec hap
      have hsi := fun cs b => Region.noSelect_spec hsel i oi cs b hi
      have hsj := fun cs b => Region.noSelect_spec hsel j oj cs b hoj
      have ej : execOp (a.put oi.dst v).eval oj = execOp a.eval oj := execOp_put oj hsj a oi.dst v a1
      have wj : Region.wanted oj (yielded ops (a.put oi.dst v).tmps) = Region.wanted oj (yielded ops a.tmps) := wanted_put oj a oi.dst v a1
      have ei : ∀ u, execOp (a.put oj.dst u).eval oi = execOp a.eval oi := fun u => execOp_put oi hsi a oj.dst u a3
      have wi : ∀ u, Region.wanted oi (yielded ops (a.put oj.dst u).tmps) = Region.wanted oi (yielded ops a.tmps) := fun u => wanted_put oi a oj.dst u a3
      have hfree' : ∀ k ok, ops[k]? = some ok → k ≠ i → (l.setIfInBounds j true).getD k true = false → (∀ e ∈ ok.after, Region.binds .any e = true → e.on ≠ i) → oi.apart ops ok = true := fun k ok hk hki hun hno => by
        refine hfree k ok hk hki ?_ hno
        by_cases hjk : j = k
        · subst hjk; exact hjun
        · rw [getD_set_ne true hjk] at hun; exact hun
      have hD' : ∀ k ∈ D, (l.setIfInBounds j true).getD k false = false ∧ ∃ oj, ops[k]? = some oj ∧ ∃ e ∈ oj.after, Region.binds .any e = true ∧ (e.on = i ∨ e.on ∈ D) := fun k hk => by
        refine ⟨?_, (hD k hk).2⟩
        rw [getD_set_ne false (fun e => hjD' (by rw [e]; exact hk))]
        exact (hD k hk).1
      obtain ⟨h0, h1⟩ := H.2 j (ready_mono hj hji) oj hoj
      rw [hun] at h0 h1
      refine ⟨fun hl => ?_, fun hl w hw => ?_⟩
      · obtain ⟨u, hu, hn⟩ := h0 hl
        refine ⟨u, hu.of_same ej.symm wj.symm, ?_⟩
        refine ih (l.setIfInBounds j true) (a.put oj.dst u) S (unpin j pins) hfree' hD' (hY.of_same (ei u) (wi u)) hSY (ready_mono hr (Ne.symm hji)) ?_
        rw [Array.setIfInBounds_comm _ _ hji, ← Act.put_comm a v u a2]
        exact hn
      · have hd := h1 hl w hw
        unfold Ev.Does at hd ⊢
        rw [ej, wj] at hd
        have step : ∀ u w', (∃ S' : World → Prop, (∀ p ∈ ⟨i, D, Y⟩ :: unpin j pins, ∀ w, S' w → p.Y w) ∧ S' w' ∧ AnyP P ops Q f ((l.setIfInBounds i true).setIfInBounds j true) ((a.put oi.dst v).put oj.dst u) S' (⟨i, D, Y⟩ :: unpin j pins)) →
            ∃ S' : World → Prop, (∀ p ∈ unpin j pins, ∀ w, S' w → p.Y w) ∧ S' w' ∧ AnyP P ops Q (f + 1) (l.setIfInBounds j true) (a.put oj.dst u) S' (unpin j pins) := by
          rintro u w' ⟨S', hS', hw', hn⟩
          refine ⟨S', fun p hp => hS' p (List.mem_cons_of_mem _ hp), hw', ih (l.setIfInBounds j true) (a.put oj.dst u) S' (unpin j pins) hfree' hD' (hY.of_same (ei u) (wi u)) (hS' _ List.mem_cons_self) (ready_mono hr (Ne.symm hji)) ?_⟩
          rw [Array.setIfInBounds_comm _ _ hji, ← Act.put_comm a v u a2]
          exact hn
        rcases hd with ⟨hw1, hd⟩ | ⟨hw1, hd⟩
        · exact .inl ⟨hw1, Ev.resE_mono step hd⟩
        · exact .inr ⟨hw1, step _ _ hd⟩
end

end Go.Proofs.YtjcacjeoddnmhaaDoor.Pw

/- Regions that draw their order, as the evaluator says. -/
namespace Go.Proofs.YtjcacjeoddnmhaaDoor.Pw
open Go Go.RowKit

/-- a load that was carried out ahead of its turn: which operations wait for it, of which block -/
structure Pin where
  D : List Nat
  l : Nat
def inL (i : Nat) (l : List Nat) : Bool := l.any (Nat.beq i)
def depsGo (listed : Array Bool) (i : Nat) : List Oper → Nat → List Nat → List Nat
  | [], _, acc => acc
  | o :: r, j, acc => bif !(listed.getD j true) && o.after.toList.any (fun e => Region.binds .any e && (Nat.beq e.on i || inL e.on acc)) then depsGo listed i r (j + 1) (j :: acc) else depsGo listed i r (j + 1) acc
def okD (ops : List Oper) (listed : Array Bool) (i : Nat) (D : List Nat) : Bool :=
  D.all fun j => !(listed.getD j false) && (match ops[j]? with
    | some o => o.after.toList.any fun e => Region.binds .any e && (Nat.beq e.on i || inL e.on D)
    | none => false)
def pinned (i : Nat) : List Pin → List Nat
  | [] => []
  | p :: r => bif inL i p.D then pinned i r else p.l :: pinned i r
def unpinP (i : Nat) (pins : List Pin) : List Pin := pins.filter fun p => !inL i p.D
def Md.isW : Md → Bool
  | .w => true
  | _ => false
def pinM (b : Bool) (m : Md) : Md := match b, m with
  | true, .w => .p
  | _, m => m
def unpinM (b : Bool) (m : Md) : Md := match b, m with
  | true, .p => .w
  | _, m => m
def mapM (f : Bool → Md → Md) (us : List Nat) : Nat → List PBlk → List PBlk
  | _, [] => []
  | j, ⟨k, ty, n, m, live, cs⟩ :: st => ⟨k, ty, n, f (inL j us) m, live, cs⟩ :: mapM f us (j + 1) st
def frB : List PBlk → (List PBlk → Prop) → Prop
  | [], q => q []
  | ⟨k, ty, n, m, live, cs⟩ :: st, q => match m with
    | .w => frB st fun st => q (⟨k, ty, n, .w, live, cs⟩ :: st)
    | .p => frB st fun st => q (⟨k, ty, n, .p, live, cs⟩ :: st)
    | .r => frB st fun st => q (⟨k, ty, n, .r, live, cs⟩ :: st)
def wsOf (st : List PBlk) (ls : List Nat) : List Nat := ls.filter fun j => match st[j]? with
  | some b => b.live && b.m.isW
  | none => false
def okP (st : List PBlk) (ls : List Nat) : Bool := ls.all fun j => match st[j]? with
  | some b => b.live
  | none => false
def prun1 (G : Gx) (ops : List Oper) (s : PSt) (i : Nat) (o : Oper) (pins : List Pin) (K : PSt → Prop) : Prop :=
  pguard ops s o (fun s => match pinned i pins with
    | [] => pop G s o fun v s2 => s2.put o.dst v K
    | ls => frB (mapM pinM (wsOf s.st ls) 0 s.st) fun st => pop G (s.store st) o fun v s2 => bif okP s2.st ls then frB (mapM unpinM (wsOf s.st ls) 0 s2.st) fun st2 => (s2.store st2).put o.dst v K else False)
    (fun s => s.put o.dst (.tup []) K)
def pureTake (ops : Array Oper) (listed : Array Bool) (i : Nat) : Bool := match ops[i]? with
  | some o => Ev.pureOp o.op && Region.free .any ops listed i
  | none => false
def loadTake (ops : Array Oper) (listed : Array Bool) (i : Nat) : Bool := match ops[i]? with
  | some o => loadOp o.op && Region.free .any ops listed i
  | none => false
def addPin (D : List Nat) (x : PV) (pins : List Pin) : List Pin := match x.blk with
  | some l => ⟨D, l⟩ :: pins
  | none => pins
section
variable {w w' : World} {I I' : Nat → Prop} {β β' : Places} {G : Gx} {s : PSt} {a : Act} {st st' : List PBlk} {ops : Array Oper}

theorem frB_ok : ∀ {st : List PBlk} {q : List PBlk → Prop}, frB st q → q st
  | [], _, h => h
  | ⟨k, ty, n, m, live, cs⟩ :: st, q, h => by
    unfold frB at h
    cases m <;> exact frB_ok (st := st) h
theorem mapM_get (f : Bool → Md → Md) (us : List Nat) : ∀ (st : List PBlk) (j l : Nat), (mapM f us j st)[l]? = (st[l]?).map fun b => { b with m := f (inL (j + l) us) b.m }
  | [], j, l => by simp [mapM]
  | ⟨k, ty, n, m, live, cs⟩ :: st, j, 0 => by simp [mapM]
  | ⟨k, ty, n, m, live, cs⟩ :: st, j, l + 1 => by
    simp only [mapM, List.getElem?_cons_succ]
    rw [mapM_get f us st (j + 1) l, show j + 1 + l = j + (l + 1) by omega]
theorem mapM_len (f : Bool → Md → Md) (us : List Nat) : ∀ (st : List PBlk) (j : Nat), (mapM f us j st).length = st.length
  | [], _ => rfl
  | ⟨_, _, _, _, _, _⟩ :: st, j => by simp [mapM, mapM_len f us st]
theorem pinM_r {b : Bool} {m : Md} : pinM b m = .r ↔ m = .r := by cases b <;> cases m <;> simp [pinM]
theorem pinM_w {b : Bool} {m : Md} (h : pinM b m = .w) : m = .w := by cases b <;> cases m <;> simp_all [pinM]
theorem unpinM_r {b : Bool} {m : Md} : unpinM b m = .r ↔ m = .r := by cases b <;> cases m <;> simp [unpinM]
/-- other modes, but the same of those that are never written -/
theorem HeapOk.modes (h : HeapOk I β st w) {f : Bool → Md → Md} {us : List Nat} (hf : ∀ b m, f b m = .r ↔ m = .r) : HeapOk I β (mapM f us 0 st) w := by
  refine ⟨fun l hl => h.far l (by rw [mapM_len] at hl; exact hl), fun l b' hl hlive => ?_⟩
  rw [mapM_get, Option.map_eq_some_iff] at hl
  obtain ⟨b, hb, rfl⟩ := hl
  have hb0 := h.blk l b hb hlive
  obtain ⟨p, hp, hk⟩ := hb0
  have own : ∀ {g : Nat} {fr : Nat × Nat}, Own I β st l g fr b → Own I β (mapM f us 0 st) l g fr { b with m := f (inL (0 + l) us) b.m } := fun ho => by
    refine ⟨fun hr => ?_, fun hr => ho.2 ((hf _ _).1 hr)⟩
    obtain ⟨h1, h2, h3⟩ := ho.1 fun e => hr ((hf _ _).2 e)
    refine ⟨h1, h2, fun l' b' hne hl' hlive' => ?_⟩
    rw [mapM_get, Option.map_eq_some_iff] at hl'
    obtain ⟨b2, hb2, rfl⟩ := hl'
    exact h3 l' b2 hne hb2 hlive'
  refine ⟨p, hp, ?_⟩
  simp only
  split at hk
  · rename_i hkk
    obtain ⟨g, o, arr, ty, fr, h1, h2, h3, ho⟩ := hk
    rw [hkk]
    exact ⟨g, o, arr, ty, fr, h1, h2, h3, own ho⟩
  · rename_i hkk
    obtain ⟨g, arr, fr, h1, h2, h3, ho, h4⟩ := hk
    rw [hkk]
    exact ⟨g, arr, fr, h1, h2, h3, own ho, h4⟩
  · rename_i hkk
    obtain ⟨h1, hk⟩ := hk
    rw [hkk]
    refine ⟨h1, ?_⟩
    rcases hk with h | ⟨g, arr, fr, h2, h3, h4, ho, h5⟩
    · exact .inl h
    · exact .inr ⟨g, arr, fr, h2, h3, h4, own ho, h5⟩
  · rename_i hkk
    obtain ⟨g, h1, h2, ho⟩ := hk
    rw [hkk]
    exact ⟨g, h1, h2, own ho⟩
theorem inL_iff {i : Nat} {l : List Nat} : inL i l = true ↔ i ∈ l := by
  unfold inL
  rw [List.any_eq_true]
  exact ⟨fun ⟨x, hx, e⟩ => by rw [Nat.eq_of_beq_eq_true e]; exact hx, fun h => ⟨i, h, Nat.beq_refl i⟩⟩

/-- loads that were carried out ahead of their turn: their blocks are as they were -/
def PinsOk (pins : List Pin) (ys : List PinY) (I : Nat → Prop) (β : Places) (st : List PBlk) (w : World) : Prop :=
  ∀ y ∈ ys, (∀ w2, y.Y w2) ∨ ∃ g, (∀ w2, y.Y w2 ↔ w2.heap[g]? = w.heap[g]?) ∧ g < w.heap.size ∧ (I g ∨ ∃ p ∈ pins, p.D = y.D ∧ ∃ b pl o, st[p.l]? = some b ∧ b.live = true ∧ β p.l = some pl ∧ pl.a = some (g, o))
theorem pinned_mem {i : Nat} {p : Pin} : ∀ {pins : List Pin}, p ∈ pins → inL i p.D = false → p.l ∈ pinned i pins
  | q :: pins, h, hd => by
    unfold pinned
    rcases List.mem_cons.1 h with rfl | h
    · rw [hd]; exact List.mem_cons_self
    · cases inL i q.D
      · exact List.mem_cons_of_mem _ (pinned_mem h hd)
      · exact pinned_mem h hd
theorem unpinP_mem {i : Nat} {p : Pin} {pins : List Pin} (h : p ∈ pins) (hd : inL i p.D = false) : p ∈ unpinP i pins := by
  unfold unpinP; rw [List.mem_filter]; exact ⟨h, by simp [hd]⟩
theorem unpin_mem {i : Nat} {y : PinY} {ys : List PinY} (h : y ∈ unpin i ys) : y ∈ ys ∧ inL i y.D = false := by
  unfold unpin at h; rw [List.mem_filter] at h; exact ⟨h.1, by simpa [inL] using h.2⟩
/-- nothing happened to memory -/
theorem PinsOk.unpin {i : Nat} {pins : List Pin} {ys : List PinY} (h : PinsOk pins ys I β st w) : PinsOk (unpinP i pins) (unpin i ys) I β st w := fun y hy => by
  obtain ⟨hy, hd⟩ := unpin_mem hy
  rcases h y hy with h | ⟨g, h1, h2, h3⟩
  · exact .inl h
  · exact .inr ⟨g, h1, h2, h3.imp id fun ⟨p, hp, he, h4⟩ => ⟨p, unpinP_mem hp (by rw [he]; exact hd), he, h4⟩⟩

theorem prun1_ok (hG : GOk G) {i : Nat} {o : Oper} {pins : List Pin} {ys : List PinY} {K : PSt → Prop} (h : prun1 G ops.toList s i o pins K) (hR : Rel G I β s a w) (hp : PinsOk pins ys I β s.st w) :
    Ev.Does G.cx.P ops o a w fun v w' => ∃ s' I' β', K s' ∧ Rel G I' β' s' (a.put o.dst v) w' ∧ Goes I β s w I' β' s' w' ∧ (∀ y ∈ unpin i ys, y.Y w') ∧ PinsOk (unpinP i pins) (unpin i ys) I' β' s'.st w' := by
  unfold prun1 at h
  rcases pguard_ok hR h with ⟨hw, s1, h1, hs1, hR1⟩ | ⟨hw, s1, h1, hs1, hR1⟩
  · refine .inl ⟨hw, ?_⟩
    -- what a pinned block keeps
    split at h1
    · rename_i hls
      refine Ev.resE_mono ?_ (pop_ok hG hR1 h1)
      rintro v w' ⟨x, s2, I2, β2, h2, hR2, hx, hE, e1, e2, e3, hlow, _⟩
      obtain ⟨s3, h3, hs3, hr3⟩ := PSt.put_ok (G := G) h2
      have hgo : Goes I β s w I2 β2 s3 w' := ((Goes.same hs1).trans ⟨hE, e1, e2, e3, hlow⟩).trans (Goes.same hs3)
      have hkeep : ∀ y ∈ unpin i ys, y.Y w' ∧ ((∀ w2, y.Y w2) ∨ ∃ g, (∀ w2, y.Y w2 ↔ w2.heap[g]? = w'.heap[g]?) ∧ g < w'.heap.size ∧ I2 g) := fun y hy => by
        obtain ⟨hy, hd⟩ := unpin_mem hy
        rcases hp y hy with h | ⟨g, h1, h2, h3⟩
        · exact ⟨h _, .inl h⟩
        · rcases h3 with h3 | ⟨p, hpm, he, _⟩
          · have hs := hgo.ext.keeps hR.heap hR.imm.imm g h3
            exact ⟨(h1 w').2 hs, .inr ⟨g, fun w2 => by rw [h1, hs], Nat.lt_of_lt_of_le h2 hgo.ext.size, hgo.ext.imm g h3⟩⟩
          · have := pinned_mem (i := i) hpm (by rw [he]; exact hd)
            rw [hls] at this
            cases this
      exact ⟨s3, I2, β2, h3, hr3 _ _ _ _ v hR2 hx, hgo, fun y hy => (hkeep y hy).1, fun y hy => (hkeep y hy).2.imp id fun ⟨g, a1, a2, a3⟩ => ⟨g, a1, a2, .inl a3⟩⟩
    · rename_i ls hls
      replace h1 := frB_ok h1
      have hmd := hR1.heap.modes (f := pinM) (us := wsOf s1.st (pinned i pins)) (fun b m => pinM_r)
      have hEp : Ext I β s1.st w I β (mapM pinM (wsOf s1.st (pinned i pins)) 0 s1.st) w := ⟨rfl, rfl, rfl, Nat.le_refl _, fun _ _ _ => rfl, fun g hg ⟨l, b', p, o', g1, g2, g3, g4, g5⟩ => by
        rw [mapM_get, Option.map_eq_some_iff] at g1
        obtain ⟨b, hb, rfl⟩ := g1
        refine ⟨l, b, p, o', hb, g2, ?_, g4, g5⟩
        simp only at g3
        exact pinM_w g3, fun _ h => h, fun _ _ h => .inl h⟩
      have hRp := hR1.grow hmd hEp (fun _ _ h => h) (by rw [mapM_len]; exact Nat.le_refl _) hR1.imm.imm
      refine Ev.resE_mono ?_ (pop_ok hG hRp h1)
      rintro v w' ⟨x, s2, I2, β2, h2, hR2, hx, hE, e1, e2, e3, hlow, hpn⟩
      obtain ⟨c1, c2, c3, c4, c5⟩ := PSt.store_eq s1 (mapM pinM (wsOf s1.st (pinned i pins)) 0 s1.st)
      rw [c3] at hE hpn
      rw [c4] at e1 hlow
      rw [c5] at e2 hlow
      rw [c1] at e3
      replace h2 := bif_ok h2
      obtain ⟨hokp, h2⟩ := h2
      replace h2 := frB_ok h2
      have hmu := hR2.heap.modes (f := unpinM) (us := wsOf s1.st (pinned i pins)) (fun b m => unpinM_r)
      -- the blocks that were pinned
      have hus : ∀ l ∈ wsOf s1.st (pinned i pins), ∃ b, s1.st[l]? = some b ∧ b.m = .w ∧ b.live = true := fun l hl => by
        unfold wsOf at hl
        rw [List.mem_filter] at hl
        have := hl.2
        cases hb : s1.st[l]? with
        | none => rw [hb] at this; cases this
        | some b =>
          rw [hb] at this
          simp only [Bool.and_eq_true] at this
          refine ⟨b, rfl, ?_, this.1⟩
          have := this.2
          cases hm : b.m <;> simp only [hm, Md.isW] at this <;> first | rfl | cases this
      have hfix : ∀ l b, s1.st[l]? = some b → b.m = .w → l ∈ wsOf s1.st (pinned i pins) → β2 l = β l := fun l b hb hm hl => by
        refine hpn l { b with m := .p } ?_ rfl
        rw [mapM_get, hb, Nat.zero_add, inL_iff.2 hl, Option.map_some, hm]; rfl
      have hE2 : Ext I β s1.st w I2 β2 (mapM unpinM (wsOf s1.st (pinned i pins)) 0 s2.st) w' := by
        have hE1 := hEp.trans hE
        refine ⟨hE1.os, hE1.tape, hE1.output, hE1.size, hE1.block, fun g hg ⟨l, b', p, o', g1, g2, g3, g4, g5⟩ => ?_, hE1.imm, hE1.new⟩
        rw [mapM_get, Option.map_eq_some_iff] at g1
        obtain ⟨b, hb, rfl⟩ := g1
        simp only [Nat.zero_add] at g3
        cases hin : inL l (wsOf s1.st (pinned i pins)) with
        | false =>
          rw [hin] at g3
          refine hE1.wr g hg ⟨l, b, p, o', hb, g2, ?_, g4, g5⟩
          cases hm : b.m <;> rw [hm] at g3 <;> first | rfl | cases g3
        | true =>
          have hl := inL_iff.1 hin
          obtain ⟨b0, hb0, hm0, hlive0⟩ := hus l hl
          exact ⟨l, b0, p, o', hb0, hlive0, hm0, by rw [← hfix l b0 hb0 hm0 hl]; exact g4, g5⟩
      have hkeep : ∀ y ∈ unpin i ys, y.Y w' ∧ ((∀ w2, y.Y w2) ∨ ∃ g, (∀ w2, y.Y w2 ↔ w2.heap[g]? = w'.heap[g]?) ∧ g < w'.heap.size ∧ (I2 g ∨ ∃ p ∈ unpinP i pins, p.D = y.D ∧ ∃ b pl o, (mapM unpinM (wsOf s1.st (pinned i pins)) 0 s2.st)[p.l]? = some b ∧ b.live = true ∧ β2 p.l = some pl ∧ pl.a = some (g, o))) := fun y hy => by
        obtain ⟨hy, hd⟩ := unpin_mem hy
        rcases hp y hy with h | ⟨g, g1, g2, g3⟩
        · exact ⟨h _, .inl h⟩
        · have byI : I g → y.Y w' ∧ ((∀ w2, y.Y w2) ∨ ∃ g, (∀ w2, y.Y w2 ↔ w2.heap[g]? = w'.heap[g]?) ∧ g < w'.heap.size ∧ (I2 g ∨ ∃ p ∈ unpinP i pins, p.D = y.D ∧ ∃ b pl o, (mapM unpinM (wsOf s1.st (pinned i pins)) 0 s2.st)[p.l]? = some b ∧ b.live = true ∧ β2 p.l = some pl ∧ pl.a = some (g, o))) := fun hI => by
            have hs := hE2.keeps hR1.heap hR1.imm.imm g hI
            exact ⟨(g1 w').2 hs, .inr ⟨g, fun w2 => by rw [g1, hs], Nat.lt_of_lt_of_le g2 hE2.size, .inl (hE2.imm g hI)⟩⟩
          rcases g3 with g3 | ⟨p, hpm, he, b, pl, o', hb, hlive, hpl, hpa⟩
          · exact byI g3
          · rw [← hs1.st] at hb
            have hb0 := hR1.heap.blk _ b hb hlive
            obtain ⟨arr, ty, fr, hh, ho⟩ := hb0.place hpl hpa
            by_cases hmr : b.m = .r
            · exact byI (ho.2 hmr)
            · have hlm := pinned_mem (i := i) hpm (by rw [he]; exact hd)
              -- it is pinned now
              have hpin : ∃ b', (mapM pinM (wsOf s1.st (pinned i pins)) 0 s1.st)[p.l]? = some b' ∧ b'.m = .p ∧ b'.live = true := by
                refine ⟨{ b with m := pinM (inL (0 + p.l) (wsOf s1.st (pinned i pins))) b.m }, by rw [mapM_get, hb]; rfl, ?_, hlive⟩
                simp only [Nat.zero_add]
                cases hm : b.m with
                | r => exact absurd hm hmr
                | p => cases inL p.l (wsOf s1.st (pinned i pins)) <;> rfl
                | w =>
                  have : p.l ∈ wsOf s1.st (pinned i pins) := by unfold wsOf; rw [List.mem_filter, hb]; exact ⟨hlm, by simp only [hm, hlive]; rfl⟩
                  rw [inL_iff.2 this]; rfl
              obtain ⟨b', hb', hm', hlive'⟩ := hpin
              have hb'0 := hmd.blk _ b' hb' hlive'
              obtain ⟨_, _, fr', _, ho'⟩ := hb'0.place hpl hpa
              have hnw : ¬ Wr β (mapM pinM (wsOf s1.st (pinned i pins)) 0 s1.st) g := fun ⟨l2, b2, p2, o2, k1, k2, k3, k4, k5⟩ => by
                by_cases hne : l2 = p.l
                · subst hne
                  rw [hb'] at k1; cases k1; rw [hm'] at k3; cases k3
                · exact (ho'.1 (by rw [hm']; decide)).2.2 l2 b2 hne k1 k2 p2 g o2 k4 k5 rfl
              have hs : w'.heap[g]? = w.heap[g]? := hE.block g g2 hnw
              have hβ2 : β2 p.l = some pl := (hpn _ b' hb' hm').trans hpl
              have hlv : ∃ b2, s2.st[p.l]? = some b2 ∧ b2.live = true := by
                unfold okP at hokp
                rw [List.all_eq_true] at hokp
                have := hokp _ hlm
                cases hb2 : s2.st[p.l]? with
                | none => rw [hb2] at this; cases this
                | some b2 => rw [hb2] at this; exact ⟨b2, rfl, this⟩
              obtain ⟨b2, hb2, hlive2⟩ := hlv
              refine ⟨(g1 w').2 hs, .inr ⟨g, fun w2 => by rw [g1, hs], Nat.lt_of_lt_of_le g2 hE2.size, .inr ⟨p, unpinP_mem hpm (by rw [he]; exact hd), he, { b2 with m := unpinM (inL (0 + p.l) (wsOf s1.st (pinned i pins))) b2.m }, pl, o', by rw [mapM_get, hb2]; rfl, hlive2, hβ2, hpa⟩⟩⟩
      have hEu : Ext I2 β2 s2.st w' I2 β2 (mapM unpinM (wsOf s1.st (pinned i pins)) 0 s2.st) w' → True := fun _ => trivial
      clear hEu
      have hR3 : Rel G I2 β2 (s2.store (mapM unpinM (wsOf s1.st (pinned i pins)) 0 s2.st)) a w' := by
        obtain ⟨d1, d2, d3, d4, d5⟩ := PSt.store_eq s2 (mapM unpinM (wsOf s1.st (pinned i pins)) 0 s2.st)
        exact ⟨by rw [d1]; exact hR2.small, hR2.defers, by rw [d1]; exact hR2.size, by rw [d4, d3, mapM_len]; exact hR2.base, by rw [d2]; exact hR2.get, by rw [d3]; exact hmu, hR2.imm⟩
      obtain ⟨s3, h3, hs3, hr3⟩ := PSt.put_ok (G := G) h2
      obtain ⟨d1, d2, d3, d4, d5⟩ := PSt.store_eq s2 (mapM unpinM (wsOf s1.st (pinned i pins)) 0 s2.st)
      refine ⟨s3, I2, β2, h3, hr3 _ _ _ _ v hR3 hx, (Goes.same hs1).trans ⟨by rw [hs3.st, d3]; exact hE2, by rw [hs3.base, d4]; exact e1, by rw [hs3.rl, d5]; exact e2, by rw [hs3.n, d1]; exact e3, hlow⟩, fun y hy => (hkeep y hy).1, fun y hy => ?_⟩
      rw [hs3.st, d3]
      exact (hkeep y hy).2
  · obtain ⟨s3, h3, hs3, hr3⟩ := PSt.put_ok (G := G) h1
    refine .inr ⟨hw, s3, I, β, h3, hr3 _ _ _ _ _ hR1 Is.undef, (Goes.same hs1).trans (Goes.same hs3), fun y hy => ?_, ?_⟩
    · obtain ⟨hy, _⟩ := unpin_mem hy
      rcases hp y hy with h | ⟨g, h1, _⟩
      · exact h w
      · exact (h1 w).2 rfl
    · rw [hs3.st, hs1.st]; exact hp.unpin

theorem AnyP.addTrue {P : Program} {Q : Exit → Act → World → Prop} {i : Nat} : ∀ (f : Nat) (l : Array Bool) (a : Act) (S : World → Prop) (pins : List PinY), AnyP P ops Q f l a S pins → AnyP P ops Q f l a S (⟨i, [], fun _ => True⟩ :: pins)
  | 0, _, _, _, _, h => h
  | f + 1, l, a, S, pins, h => by
    have hun : ∀ j, unpin j (⟨i, [], fun _ => True⟩ :: pins) = ⟨i, [], fun _ => True⟩ :: unpin j pins := fun j => by
      unfold unpin; rw [List.filter_cons, if_pos (by simp)]
    refine ⟨h.1, fun j hj o ho => ?_⟩
    obtain ⟨h0, h1⟩ := h.2 j hj o ho
    rw [hun]
    refine ⟨fun hl => ?_, fun hl w hw => does_mono (fun v w' ⟨S', h2, h3, h4⟩ => ⟨S', fun p hp => ?_, h3, AnyP.addTrue f _ _ _ _ h4⟩) (h1 hl w hw)⟩
    · obtain ⟨v, hy, hn⟩ := h0 hl
      exact ⟨v, hy, AnyP.addTrue f _ _ _ _ hn⟩
    · rcases List.mem_cons.1 hp with rfl | hp
      · exact fun _ _ => trivial
      · exact h2 p hp
theorem resE_exists {P : Program} {K : Value → World → Prop} {r : Result Next} (h : Ev.resE P K r) : ∃ v w, K v w := by
  cases r with
  | ok n w =>
    cases n <;> simp only [Ev.resE] at h
    case value u => exact ⟨_, _, h⟩
    case skip => exact ⟨_, _, h⟩
    case enter f args =>
      obtain ⟨e, w', fr, ⟨u, _, hu⟩, _⟩ := h []
      exact ⟨_, _, hu⟩
  | halt x w => exact h.elim
theorem does_exists {P : Program} {o : Oper} {K : Value → World → Prop} (h : Ev.Does P ops o a w K) : ∃ v w', K v w' := by
  rcases h with ⟨_, h⟩ | ⟨_, h⟩
  · exact resE_exists h
  · exact ⟨_, _, h⟩
theorem AnyP.ends {P : Program} {Q : Exit → Act → World → Prop} : ∀ (f : Nat) (l : Array Bool) (a : Act) (S : World → Prop) (pins : List PinY) (w : World), AnyP P ops Q f l a S pins → S w → ∃ a' w', Q .normal a' w'
  | 0, l, a, S, _, w, h, hw => ⟨a, w, h.2 w hw⟩
  | f + 1, l, a, S, pins, w, h, hw => by
    cases hr : Region.ready .any ops l with
    | nil => exact ⟨a, w, h.1 hr w hw⟩
    | cons i r =>
      have hi : i ∈ Region.ready .any ops l := by rw [hr]; exact List.mem_cons_self
      obtain ⟨o, ho⟩ := Ev.ready_op hi
      obtain ⟨h0, h1⟩ := h.2 i hi o ho
      cases he : eff o.op with
      | false =>
        obtain ⟨v, _, hn⟩ := h0 he
        exact AnyP.ends f _ _ S _ w hn hw
      | true =>
        obtain ⟨v, w', S', _, hS', hn⟩ := does_exists (h1 he w hw)
        exact AnyP.ends f _ _ S' _ w' hn hS'
theorem okD_ok {listed : Array Bool} {i : Nat} {D : List Nat} (h : okD ops.toList listed i D = true) : ∀ j ∈ D, listed.getD j false = false ∧ ∃ oj, ops[j]? = some oj ∧ ∃ e ∈ oj.after, Region.binds .any e = true ∧ (e.on = i ∨ e.on ∈ D) := by
  intro j hj
  unfold okD at h
  rw [List.all_eq_true] at h
  have := h j hj
  simp only [Bool.and_eq_true, Bool.not_eq_true'] at this
  refine ⟨this.1, ?_⟩
  have h2 := this.2
  cases ho : ops.toList[j]? with
  | none => rw [ho] at h2; cases h2
  | some oj =>
    rw [ho] at h2
    simp only [List.any_eq_true, Bool.and_eq_true, Bool.or_eq_true] at h2
    obtain ⟨e, he, hb, h3⟩ := h2
    exact ⟨oj, by simpa using ho, e, by simpa using he, hb, h3.imp Nat.eq_of_beq_eq_true inL_iff.1⟩

end

end Go.Proofs.YtjcacjeoddnmhaaDoor.Pw

/- What the laws of this claim are proved with, joined (join.py) of 13 texts: no condition. -/
import Derived.Test.YtjcacjeoddnmhaaDoorNb2
import Derived.Scope
import Derived.Test.YtjcacjeoddnmhaaDoorNb1
import Derived.Deep.Slices
import Derived.Below
import Derived.OpenShut
import Derived.LaidLaws
import Derived.ChangeArms
import Derived.MakeChecks
import Derived.Stop.Joined
set_option linter.unusedVariables false
set_option linter.unusedSimpArgs false

/- Append, calls, and every operation, as the evaluator says. -/
namespace Go.Proofs.YtjcacjeoddnmhaaDoor.Pw
open Go Go.RowKit

section
variable {w w' : World} {I I' : Nat → Prop} {β β' : Places} {cx : Ev.Cx} {G : Gx} {P : Program} {s : PSt} {a : Act} {st st' : List PBlk}

theorem store_store (s : PSt) (x y : List PBlk) : (s.store x).store y = s.store y := by cases s; rfl
theorem Ext.add2 {st1 : List PBlk} (h : HeapOk I β st1 w) (hsub : ∀ g, Wr β st1 g → Wr β st g) (hos : w'.os = w.os) (htape : w'.tape = w.tape) (hout : w'.output = w.output) (hsz : w.heap.size ≤ w'.heap.size) {b : PBlk} {p : Plc} (hw : ∀ g, g < w.heap.size → ¬ Wr β st g → w'.heap[g]? = w.heap[g]?)
    (hp : ∀ g o, p.a = some (g, o) → g < w.heap.size → Wr β st g) : Ext I β st w I (β.set st1.length p) (st1 ++ [b]) w' :=
  ⟨hos, htape, hout, hsz, hw, fun g hg ⟨l, b', q, o, h1, h2, h3, h4, h5⟩ => by
    unfold Places.set at h4
    split at h4
    · cases h4
      exact hp g o h5 hg
    · have := h.lt h4
      rw [List.getElem?_append_left this] at h1
      exact hsub g ⟨l, b', q, o, h1, h2, h3, h4, h5⟩, fun _ h => h, fun _ _ h => .inl h⟩
/-- what append leaves: the new block is laid into the store -/
theorem append_new (hR : Rel G I β s a w) {st1 : List PBlk} (hk : HeapOk I β st1 w) (hsub : ∀ g, Wr β st1 g → Wr β s.st g) (hlen : st1.length = s.st.length) {v : Value} (hv : ∀ g, v.ownBlock = some g → Wr β s.st g ∧ ¬ I g ∧ ¬ Lives β st1 g)
    (hg : w.grownBy w' v.ownBlock) {b : PBlk} {p : Plc} {q : PV → PSt → Prop} (h : pnewS (s.store st1) b q) (hp : ∀ g o, p.a = some (g, o) → v.ownBlock = some g ∨ g = w.heap.size) (hm : b.m = .w)
    (hb : (∀ g, p.a = some (g, 0) → Own I (β.set st1.length p) (st1 ++ [b]) st1.length g (0, 0) b) → (∀ g, I g → w'.heap[g]? = w.heap[g]?) → BlkOk I (β.set st1.length p) (st1 ++ [b]) w' st1.length b) : OpPost G s I β w a q p.whole w' := by
  have hst : (s.store st1).st = st1 := (PSt.store_eq s st1).2.2.1
  unfold pnewS at h
  rw [hst] at h
  replace h := addB_ok (lenK_ok h)
  rw [Nat.zero_add, store_store] at h
  have hset := Places.set_mono hk p
  have hown : ∀ g, Lives β st1 g ∨ I g → w'.heap[g]? = w.heap[g]? := fun g hgl => by
    refine hg.block g (hgl.elim hk.lives_lt (hR.imm.imm g)) fun e => ?_
    obtain ⟨_, h1, h2⟩ := hv g e.symm
    exact hgl.elim h2 h1
  have hfresh : ∀ g o, p.a = some (g, o) → ¬ I g ∧ ¬ Lives β st1 g := fun g o ha => by
    rcases hp g o ha with e | e
    · exact (hv g e).2
    · subst e
      exact ⟨fun h => by have := hR.imm.imm _ h; omega, fun h => by have := hk.lives_lt h; omega⟩
  have hO : ∀ g, p.a = some (g, 0) → Own I (β.set st1.length p) (st1 ++ [b]) st1.length g (0, 0) b := fun g ha => by
    refine ⟨fun _ => ⟨rfl, (hfresh g 0 ha).1, fun l' b' hne hl' hlive' p' g' o' hp' ha' e => ?_⟩, fun hr => by rw [hm] at hr; cases hr⟩
    subst e
    unfold Places.set at hp'
    rw [if_neg hne] at hp'
    have := hk.lt hp'
    rw [List.getElem?_append_left this] at hl'
    exact (hfresh _ _ ha).2 ⟨l', b', p', o', hl', hlive', hp', ha'⟩
  have hH := hk.add hown hfresh (hb hO fun g hg => hown g (.inr hg))
  have hE : Ext I β s.st w I (β.set st1.length p) (st1 ++ [b]) w' := Ext.add2 hk hsub hg.os hg.tape hg.output hg.size (fun g hlt hn => hg.block g hlt fun e => hn (hv g e.symm).1) fun g o ha hlt => by
    rcases hp g o ha with e | e
    · exact (hv g e).1
    · omega
  refine OpPost.mk' hR h hH hE hset (by simp; omega) (fun l hl => if_neg (by omega)) ?_
  simp only [PV.Is]; exact ⟨_, Places.set_self .., rfl⟩
theorem pappend_ok (hG : GOk G) (hR : Rel G I β s a w) {t ty : TypeId} {d x : PV} {u v : Value} {q : PV → PSt → Prop} (h : pappend G s t d x q) (hd : d.Is w I β v) (hx : x.Is w I β u) :
    ∃ r w', (Builtin.append_ #[t, t] ty #[v, u]).run G.cx.P w = .ok r w' ∧ OpPost G s I β w a q r w' := by
  replace h := need_ok h
  obtain ⟨td, hu, h⟩ := h
  split at h
  · rename_i elem
    replace h := need_ok h
    obtain ⟨n, hn, h⟩ := h
    replace h := need_ok h
    obtain ⟨ag, hag, h⟩ := h
    replace h := need_ok h
    obtain ⟨by_, hby, h⟩ := h
    replace h := zerosO_ok (w := w) (I := I) (β := β) hG.ok h
    obtain ⟨z, i, zv, h, hi, hzv, hzz⟩ := h
    replace h := bif_ok h
    obtain ⟨hc, h⟩ := h
    simp only [Bool.and_eq_true, Bool.or_eq_true] at hc
    have hn0 : 0 < n := Nat.le_of_ble_eq_true hc.1.1
    have hzn : z.length = n := Nat.eq_of_beq_eq_true hc.1.2
    have hagn : ag = true ∨ n = 1 := hc.2.imp id Nat.eq_of_beq_eq_true
    obtain ⟨i1, hi1, hi2⟩ := Ev.size_inf hG.ok hn
    rw [hi] at hi1
    cases hi1
    obtain ⟨i3, hi3, hi4⟩ := hG.by_ _ (Ev.lkT_mem hby)
    simp only at hi3 hi4
    rw [hi] at hi3
    cases hi3
    have hzl := hzz.length
    simp only [Array.length_toList] at hzl
    replace h := srcK_ok hG.ok hR.heap hn0 h hx
    obtain ⟨src, ad, len, c, news, h, rfl, hsrc, hnl, had, hnews⟩ := h
    replace h := destK_ok hR.heap hn0 h hd
    obtain ⟨dst, st1, xs, dlen, h, hown, hdst, hxl, hk, hstl, hext, hv, hvf⟩ := h
    have hsub : ∀ g, Wr β st1 g → Wr β s.st g := fun g hw => by
      have := hext.wr g
      rcases Nat.lt_or_ge g w.heap.size with hlt | hge
      · exact this hlt hw
      · obtain ⟨l, b, p, o, h1, h2, h3, h4, h5⟩ := hw
        have := hk.lives_lt ⟨l, b, p, o, h1, h2, h4, h5⟩
        omega
    have hones := hsrc.ones
    -- the run
    have run : (dlen + len) ≤ maxLen → (dlen + len) * by_ ≤ 140737488355328 → ∃ r w', (Builtin.append_ #[t, t] ty #[v, .slice ad len c]).run G.cx.P w = .ok r w' ∧ w'.ownsRow 0 elem n r (dlen + len) (xs ++ news) ∧ w.grownBy w' v.ownBlock ∧ (r.ownBlock = v.ownBlock ∨ r.ownBlock = some w.heap.size) := by
      intro h1 h2
      cases ad with
      | none =>
        have hl0 : len = 0 := by rcases had with h | ⟨g, o, h⟩ <;> first | exact h | cases h
        subst hl0
        have hn0' : news = [] := List.eq_nil_of_length_eq_zero (by rw [hnl, Nat.zero_mul])
        subst hn0'
        have hvv : ∃ b m c', v = .slice b m c' ∧ m ≤ c' := by
          rcases hown.2 with ⟨rfl, _⟩ | ⟨g, cap, cur, rfl, _, _, hle, _⟩
          · exact ⟨_, _, _, rfl, Nat.le_refl _⟩
          · exact ⟨_, _, _, rfl, hle⟩
        obtain ⟨b, m, c', rfl, hle⟩ := hvv
        refine ⟨_, w, run_append_none t ty elem i (hG.ok.un hu) hi b m c' c hle, ?_, ⟨rfl, rfl, rfl, Nat.le_refl _, fun _ _ _ => rfl⟩, .inl rfl⟩
        rw [List.append_nil]; exact hown
      | some ad =>
        obtain ⟨r, w', hr, h3, h4, _, h5⟩ := run_append_own_at (P := G.cx.P) w 0 t ty elem i zv n by_ (hG.ok.un hu) hi hzv hi2 hi4 (by omega) hn0 v dlen xs hown ad len c news hnl (fun j u hj => by
          rcases had with h0 | ⟨g, o, e⟩
          · rw [h0, Nat.zero_mul] at hnl
            have := List.eq_nil_of_length_eq_zero hnl
            subst this; simp at hj
          · cases e
            rw [Ev.addr_add]; exact hnews g o rfl j u hj) hones h1 h2 (Nat.zero_le _)
        exact ⟨r, w', hr, h3, h4, h5⟩
    -- the end
    have fin_ : ∀ {r : Value} {w' : World} {b : PBlk}, w'.ownsRow 0 elem n r (dlen + len) (xs ++ news) → w.grownBy w' v.ownBlock → (r.ownBlock = v.ownBlock ∨ r.ownBlock = some w.heap.size) → pnewS (s.store st1) b q → b.m = .w →
        (∀ (p : Plc), ((p.a = none ∧ p.len = 0 ∧ p.cap = 0 ∧ dlen + len = 0) ∨ ∃ g cur, p.a = some (g, 0) ∧ p.len = dlen + len ∧ w'.heap[g]? = some (.cells cur elem (0, 0)) ∧ p.len ≤ p.cap ∧ p.cap ≤ maxLen ∧ cur.size = p.cap * n ∧ (∀ (j : Nat) (v : Value), (xs ++ news)[j]? = some v → cur[j]? = some v)) →
          (∀ g, p.a = some (g, 0) → Own I (β.set st1.length p) (st1 ++ [b]) st1.length g (0, 0) b) → (∀ g, I g → w'.heap[g]? = w.heap[g]?) → BlkOk I (β.set st1.length p) (st1 ++ [b]) w' st1.length b) → OpPost G s I β w a q r w' := by
      intro r w' b hown' hg hblk h hm hb
      rcases hown'.2 with ⟨rfl, h0⟩ | ⟨g, cap, cur, rfl, _, hg1, hle, hmx, hcs, htake⟩
      · have := append_new (p := ⟨none, 0, 0⟩) hR hk hsub hstl hv hg h (fun g o e => by cases e) hm (hb ⟨none, 0, 0⟩ (.inl ⟨rfl, rfl, rfl, h0⟩))
        exact this
      · have := append_new (p := ⟨some (g, 0), dlen + len, cap⟩) hR hk hsub hstl hv hg h (fun g' o e => by
          cases e
          simp only [Value.ownBlock] at hblk
          exact hblk.imp (fun e => e.symm) (fun e => by cases e; rfl)) hm (hb ⟨some (g, 0), dlen + len, cap⟩ (.inr ⟨g, cur, rfl, rfl, hg1, hle, hmx, hcs, fun j v hj => by
            rw [← htake, List.getElem?_take] at hj
            split at hj
            · simpa using hj
            · cases hj⟩))
        exact this
    have keep : ∀ {w' : World}, w.grownBy w' v.ownBlock → ∀ g, I g → w'.heap[g]? = w.heap[g]? := fun hg g hI => hg.block g (hR.imm.imm g hI) fun e => (hv g e.symm).2.1 hI
    have hlenE : (xs ++ news).length = (dlen + len) * n := by rw [List.length_append, hxl, hnl, Nat.add_mul]
    have told : (need (elemsOf ag n dst) fun es => need (elemsOf ag n src) fun fs => es.length + fs.length ≤ maxLen ∧ (es.length + fs.length) * by_ ≤ 140737488355328 ∧ pnewS (s.store st1) ⟨.dyn, elem, n, .w, true, es ++ fs⟩ q) → ∃ r w', (Builtin.append_ #[t, t] ty #[v, .slice ad len c]).run G.cx.P w = .ok r w' ∧ OpPost G s I β w a q r w' := by
      intro h
      replace h := need_ok h
      obtain ⟨es, hes, h⟩ := h
      replace h := need_ok h
      obtain ⟨fs, hfs, h⟩ := h
      obtain ⟨he1, he2⟩ := elemsOf_ok hn0 hagn hes hdst hxl
      obtain ⟨hf1, hf2⟩ := elemsOf_ok hn0 hagn hfs hsrc hnl
      obtain ⟨h1, h2, h⟩ := h
      rw [he1, hf1] at h1 h2
      obtain ⟨r, w', hr, hown', hg, hblk⟩ := run h1 h2
      refine ⟨r, w', hr, fin_ hown' hg hblk h rfl fun p hp hO hI => ⟨p, Places.set_self .., ?_⟩⟩
      rcases hp with ⟨ha, hl, hcp, h0⟩ | ⟨g, cur, ha, hl, hg1, hle, hmx, hcs, hcell⟩
      · exact ⟨⟨hn0, by simp only [List.length_append]; omega, by omega, by rw [hcp]; exact Nat.zero_le _⟩, .inl ⟨ha, hcp⟩⟩
      · refine ⟨⟨hn0, by simp only [List.length_append]; omega, hle, hmx⟩, .inr ⟨g, cur, (0, 0), ha, hg1, ?_, hO g ha, hcs⟩⟩
        exact (he2.append hf2).at (fun j v hj => by rw [Ev.cells_of hg1]; exact hcell j v hj) (fun _ h => h) hI
    split at h
    · rename_i cs ds
      rw [lenK_eq, lenK_eq, Nat.zero_add, Nat.zero_add] at h
      replace h := bif_ok h
      obtain ⟨hc2, h⟩ := h
      simp only [Bool.and_eq_true] at hc2
      obtain ⟨⟨⟨hd0, hd1⟩, hd2⟩, hd3⟩ := hc2
      have hd0 : 0 < ds.length := Nat.le_of_ble_eq_true hd0
      have hd2 := Nat.le_of_ble_eq_true hd2
      have hd3 := Nat.le_of_ble_eq_true hd3
      replace h := forceL_ok h
      have hcl : cs.length = dlen * n := by rw [← hdst.1, hxl]
      have hdl : ds.length = len * n := by rw [← hsrc.1, hnl]
      have e1 : dlen ≤ dlen * n := Nat.le_mul_of_pos_right _ hn0
      have e2 : len ≤ len * n := Nat.le_mul_of_pos_right _ hn0
      obtain ⟨r, w', hr, hown', hg, hblk⟩ := run (by omega) (Nat.le_trans (Nat.mul_le_mul_right _ (by omega)) hd2)
      have hlen0 : 0 < len := by
        rcases Nat.eq_zero_or_pos len with h0 | h0
        · rw [h0, Nat.zero_mul] at hdl; omega
        · exact h0
      refine ⟨r, w', hr, fin_ hown' hg hblk h rfl fun p hp hO hI => ⟨p, Places.set_self .., ?_⟩⟩
      rcases hp with ⟨ha, hl, hcp, h0⟩ | ⟨g, cur, ha, hl, hg1, hle, hmx, hcs, hcell⟩
      · omega
      · refine ⟨g, cur, (0, 0), ha, hg1, fun j c hj => ?_, hO g ha, by simp only [List.length_append]; rw [hl, Nat.add_mul]; omega, hle, hmx, hcs, hn0⟩
        obtain ⟨v', h1, h2, h3⟩ := (CellsIs.append hdst hsrc).2 j c hj
        exact ⟨v', by rw [Nat.zero_add]; exact hcell j v' h1, PV.Is.mono (fun _ h => h) hI c β _ v' (fun l p' _ hp' => Places.set_mono hk p l p' hp') h2, h3⟩
    · exact told h
  · exact h.elim

/-! ### calls -/
theorem argsK_ok (hR : Rel G I β s a w) : ∀ {os : List Operand} {q : List PV → Prop}, argsK s os q → ∃ l, q l ∧ IsL w I l β (os.map a.eval)
  | [], q, h => ⟨[], h, by simp only [List.map_nil, IsL]⟩
  | o :: os, q, h => by
    replace h := PSt.ev_ok hR h
    obtain ⟨x, h, hx⟩ := h
    obtain ⟨l, h, hl⟩ := argsK_ok hR h
    exact ⟨_, h, by simp only [List.map_cons, IsL]; exact ⟨hx, hl⟩⟩
theorem TM.clear_get {rl : List Nat} : ∀ {t : TM} {n : Nat} {x : PV}, (t.clear rl).get n = some x → t.get n = some x ∧ x.leads rl = false
  | .nil, n, x, h => by cases h
  | .node v l r, n, x, h => by
    simp only [TM.clear, TM.get] at h ⊢
    cases h0 : Nat.beq n 0 <;> rw [h0] at h
    · cases h1 : Nat.beq (n % 2) 1 <;> rw [h1] at h
      · exact TM.clear_get (t := r) h
      · exact TM.clear_get (t := l) h
    · cases v with
      | none => cases h
      | some y =>
        simp only [cond_true] at h ⊢
        split at h
        · cases h
        · cases h
          rename_i hl
          exact ⟨rfl, by simpa using hl⟩
theorem clearK_ok {rl : List Nat} {t : TM} {q : TM → Prop} (h : clearK rl t q) : ∃ t', q t' ∧ ∀ n x, t'.get n = some x → t.get n = some x ∧ ∀ l ∈ x.uses, l ∉ rl := by
  unfold clearK at h
  split at h
  · exact ⟨t, h, fun n x hx => ⟨hx, fun _ _ hl => by cases hl⟩⟩
  · refine ⟨_, h, fun n x hx => ?_⟩
    obtain ⟨h1, h2⟩ := TM.clear_get hx
    refine ⟨h1, fun l hl hr => ?_⟩
    unfold PV.leads at h2
    rw [List.any_eq_false] at h2
    refine h2 l hl (List.any_eq_true.2 ⟨l, hr, ?_⟩)
    exact Nat.beq_refl l
/-- a call: what the caller has then -/
theorem pcall_ok (hR : Rel G I β s a w) {f : FuncId} {args : List PV} {vals : List Value} {q : PV → PSt → Prop} (h : pcall G s f args q) (ha : IsL w I args β vals) :
    Ev.Enters G.cx.P f ∧ Calls G.cx.P f vals.toArray w fun e w' => ∃ v, e = .returned v ∧ OpPost G s I β w a q v w' := by
  obtain ⟨n, t, st, b, rl0⟩ := s
  obtain ⟨rl, hrl, hs⟩ := h
  unfold Spec at hs
  obtain ⟨he, hs⟩ := hs
  refine ⟨he, (hs I β w vals hR.heap hR.imm ha).mono fun e w' ⟨v, r, S', I', β', he, hk, hr, hH, hM, hE, hlen, hβ⟩ => ⟨v, he, ?_⟩⟩
  obtain ⟨t', hq, ht'⟩ := clearK_ok hk
  refine ⟨r, _, I', β', hq, ⟨hR.small, hR.defers, hR.size, Nat.le_trans hR.base hlen, fun m x hx => ?_, hH, hM⟩, hr, hE, rfl, rfl, rfl, fun l hl hn => ?_, fun l b' hb' hm => hβ l (List.getElem?_eq_some_iff.1 hb').1 fun hr => (hrl l hr).2 b' hb' hm⟩
  · obtain ⟨h1, h2⟩ := ht' m x hx
    obtain ⟨u, hu, hi⟩ := hR.get m x h1
    refine ⟨u, hu, PV.Is.mono hE.imm (hE.keeps hR.heap hR.imm.imm) x β β' u (fun l p hl hp => ?_) hi⟩
    rw [hβ l (hR.heap.lt hp) (h2 l hl)]; exact hp
  · have hl' : l < b := hl
    refine hβ l (Nat.lt_of_lt_of_le hl' hR.base) fun hr => ?_
    rcases (hrl l hr).1 with h | h
    · omega
    · exact hn h

set_option maxHeartbeats 1000000 in
theorem pop_ok (hG : GOk G) (hR : Rel G I β s a w) {o : Oper} {q : PV → PSt → Prop} (h : pop G s o q) : Ev.resE G.cx.P (OpPost G s I β w a q) ((execOp a.eval o).run G.cx.P w) := by
  have pureCase : ∀ {q' : PV → Prop}, ppure G.cx s o.op q' → (∀ v, q' v → q v s) → Ev.resE G.cx.P (OpPost G s I β w a q) ((execOp a.eval o).run G.cx.P w) := by
    intro q' h hq
    obtain ⟨x, r, hx, hi, hr⟩ := ppure_ok hG.ok hR h
    rw [hr w]
    exact OpPost.same hR (hq x hx) hi
  unfold pop at h
  split at h
  · -- load
    rename_i t ad hop
    replace h := PSt.ev_ok hR h
    obtain ⟨x, h, hx⟩ := h
    obtain ⟨z, v, g, h, hz, _, hrun⟩ := pload_ok hG.ok hR.heap hR.imm h hx
    replace hrun := hrun w rfl
    unfold execOp
    rw [hop]
    simp only [Sem.run_bind, hrun, Result.andThen_ok, Sem.run_pure]
    exact OpPost.same hR h hz
  · -- store
    rename_i t ad y hop
    replace h := PSt.ev_ok hR h
    obtain ⟨x, h, hx⟩ := h
    replace h := PSt.ev_ok hR h
    obtain ⟨v, h, hv⟩ := h
    obtain ⟨w', hrun, hp⟩ := pstore_ok hG hR h hx hv
    unfold execOp
    rw [hop]
    simp only [Sem.run_bind, hrun, Result.andThen_ok, Sem.run_pure]
    exact hp
  · -- alloc
    rename_i t hop
    replace h := zerosO_ok (w := w) (I := I) (β := β) hG.ok h
    obtain ⟨z, i, v, h, hi, hzv, hzz⟩ := h
    replace h := bif_ok (forceL_ok h)
    obtain ⟨hall, h⟩ := h
    rw [List.all_eq_true] at hall
    have hrun : (execOp a.eval o).run G.cx.P w = .ok (.value (.pointer (some ⟨w.heap.size, 0, none⟩))) (w.alloc (.cells v.cells t)) := by
      unfold execOp
      rw [hop]
      simp [Instr.alloc, zeroValue, typeInfo, hi, hzv, newVar, newRow]
    rw [hrun]
    exact pnew_ok hR h hzz hall
  · -- box
    rename_i t y hop
    replace h := PSt.ev_ok hR h
    obtain ⟨x, h, hx⟩ := h
    have hrun : (execOp a.eval o).run G.cx.P w = .ok (.value (.pointer (some ⟨w.heap.size, 0, none⟩))) (w.alloc (.cells (a.eval y).cells t)) := by
      unfold execOp
      rw [hop]
      simp [Instr.box, newVar, newRow]
    rw [hrun]
    split at h
    · exact h.elim
    · rename_i hnt
      replace h := bif_ok h
      obtain ⟨hall, h⟩ := h
      rw [List.all_eq_true] at hall
      exact pnew_ok hR (forceL_ok h) (hx.cellsL fun vs e => hnt vs e) hall
  · -- buildSlice
    rename_i t len ps hop
    replace h := need_ok h
    obtain ⟨d, hu, h⟩ := h
    split at h
    · rename_i elem
      replace h := need_ok h
      obtain ⟨n, hn, h⟩ := h
      replace h := zerosO_ok (w := w) (I := I) (β := β) hG.ok h
      obtain ⟨z, i, v, h, hi, hzv, hzz⟩ := h
      replace h := partsK_ok hR h
      obtain ⟨l, h, hl⟩ := h
      replace h := bif_ok h
      obtain ⟨hc, h⟩ := h
      simp only [Bool.and_eq_true] at hc
      have hzl : z.length = n := Nat.eq_of_beq_eq_true hc.1.1
      have hlim : len * n ≤ 16777216 := Nat.le_of_ble_eq_true hc.1.2
      have hn0 : 0 < n := Nat.le_of_ble_eq_true hc.2
      replace h := fillF_ok h
      obtain ⟨cs, hfill, h⟩ := h
      replace h := bif_ok (forceL_ok h)
      obtain ⟨hc2, h⟩ := h
      simp only [Bool.and_eq_true, List.all_eq_true] at hc2
      have hcl := Nat.eq_of_beq_eq_true hc2.1.2
      have hmx := Nat.le_of_ble_eq_true hc2.2
      have hzs := hzz.length
      simp only [Array.length_toList] at hzs
      have rep : ∀ k, IsL w I ((List.replicate k z).flatten) β ((List.replicate k v.cells.toList).flatten) := fun k => by
        induction k with
        | zero => simp only [List.replicate_zero, List.flatten_nil, IsL]
        | succ k ih => simp only [List.replicate_succ, List.flatten_cons]; exact hzz.append ih
      have hzeros : IsL w I ((List.replicate len z).flatten) β ((Array.range (len * n)).map fun i => v.cells[i % v.cells.size]!).toList := by
        rw [show n = v.cells.size by omega, Ev.zeros_eq len (by omega)]; exact rep len
      obtain ⟨B, hB, hBB⟩ := fillP_ok hfill hzeros hl
      have hrun : (execOp a.eval o).run G.cx.P w = .ok (.value (.slice (some ⟨w.heap.size, 0, none⟩) len len)) (w.alloc (.cells B elem)) := by
        unfold execOp
        rw [hop]
        have hB' : Instr.fill (fun i => some (i * n, n)) ((Array.range (len * n)).map fun i => v.cells[i % v.cells.size]!) (ps.map fun (i, y) => (i, a.eval y)).toList = some B := by
          rw [← hB]; simp
        have hlim' : ¬ (len * n > 2 ^ 24) := by omega
        by_cases h0 : len * n = 0
        · have hE : ∀ g : Nat → Value, (Array.range (len * n)).map g = #[] := fun g => by rw [h0]; simp
          rw [hE] at hB'
          simp only [Instr.buildSlice, Sem.run_bind, run_underlying (hG.ok.un hu), Result.andThen_ok, Ev.size_run hG.ok hn, if_neg hlim', if_pos h0, Sem.run_pure, hE, hB']
          simp [newRow]
        · have hzr : (zeroValue elem).run G.cx.P w = .ok v w := by simp [zeroValue, typeInfo, hi, hzv]
          simp only [Instr.buildSlice, Sem.run_bind, run_underlying (hG.ok.un hu), Result.andThen_ok, Ev.size_run hG.ok hn, if_neg hlim', if_neg h0, Sem.run_pure, hzr, hB']
          simp [newRow]
      rw [hrun]
      exact pnewS_ok hR h hBB hc2.1.1 hcl hn0 hmx
    · exact h.elim
  · -- call
    rename_i y ars argTypes hop
    replace h := PSt.ev_ok hR h
    obtain ⟨x, h, hx⟩ := h
    split at h
    · rename_i f caps
      cases hext : G.ext.any (Nat.beq f) with
      | true => rw [hext] at h; replace h : OpS G s o q := h; unfold OpS at h; exact h I β a w hR
      | false =>
      rw [hext] at h
      replace h : argsK s ars fun l => pcall G s f (l ++ caps) q := h
      simp only [PV.Is] at hx
      obtain ⟨cvs, hfv, hcv⟩ := hx
      replace h := argsK_ok hR h
      obtain ⟨l, h, hl⟩ := h
      obtain ⟨hent, hcall⟩ := pcall_ok hR h (hl.append hcv)
      have hrun : (execOp a.eval o).run G.cx.P w = .ok (.enter f (ars.map a.eval ++ cvs.toList).toArray) w := by
        unfold execOp
        rw [hop]
        have e1 : (Array.mk ars).map a.eval ++ cvs = (ars.map a.eval ++ cvs.toList).toArray := by simp
        simp only [resolve, hfv, Deferred.ofValue, Sem.run_bind, Sem.run_pure, Result.andThen_ok, invoke]
        simp only [Array.empty_append]
        rw [e1]
        exact hent _ w
      rw [hrun]
      exact hcall
    · exact h.elim
  · -- append
    rename_i od ox t t' hop
    replace h := bif_ok h
    obtain ⟨ht, h⟩ := h
    have := Nat.eq_of_beq_eq_true ht
    subst this
    replace h := PSt.ev_ok hR h
    obtain ⟨d, h, hd⟩ := h
    replace h := PSt.ev_ok hR h
    obtain ⟨x, h, hx⟩ := h
    obtain ⟨r, w', hr, hp⟩ := pappend_ok (ty := o.type) hG hR h hd hx
    have hrun : (execOp a.eval o).run G.cx.P w = .ok (.value r) w' := by
      unfold execOp
      rw [hop]
      simp [resolve, invoke, builtin, hr]
    rw [hrun]
    exact hp
  · unfold OpS at h; exact h I β a w hR
  · unfold OpS at h; exact h I β a w hR
  · unfold OpS at h; exact h I β a w hR
  · unfold OpS at h; exact h I β a w hR
  · unfold OpS at h; exact h I β a w hR
  · unfold OpS at h; exact h I β a w hR
  · exact pureCase h fun _ h => h
end

end Go.Proofs.YtjcacjeoddnmhaaDoor.Pw

/- Slots, guards, lists of operations; regions that draw their order, in general. -/
namespace Go.Proofs.YtjcacjeoddnmhaaDoor.Pw
open Go Go.RowKit

section
variable {w w' : World} {I I' : Nat → Prop} {β β' : Places} {cx : Ev.Cx} {G : Gx} {P : Program} {s : PSt} {a : Act} {st st' : List PBlk}

theorem TM.setK_ok {v : Option PV} : ∀ {f : Nat} {t : TM} {n : Nat} {k : TM → Prop}, TM.setK v f t n k → ∃ t', k t' ∧ ∀ m, t'.get m = if m = n then v else t.get m
  | 0, _, _, _, h => h.elim
  | f + 1, t, n, k, h => by
    have arith : ∀ m, Nat.beq n 0 = false → (m = n ↔ Nat.beq m 0 = false ∧ m % 2 = n % 2 ∧ (m - 1) / 2 = (n - 1) / 2) := fun m h0 => by
      have hn : n ≠ 0 := fun e => by subst e; cases h0
      constructor
      · rintro rfl; exact ⟨h0, rfl, rfl⟩
      · rintro ⟨h1, h2, h3⟩
        have hm : m ≠ 0 := fun e => by subst e; cases h1
        omega
    have key : ∀ (u : Option PV) (l r : TM), (bif Nat.beq n 0 then k (.node v l r) else bif Nat.beq (n % 2) 1 then TM.setK v f l ((n - 1) / 2) (fun t => k (.node u t r)) else TM.setK v f r ((n - 1) / 2) (fun t => k (.node u l t))) →
        ∃ t', k t' ∧ ∀ m, t'.get m = if m = n then v else (TM.node u l r).get m := by
      intro u l r h
      cases h0 : Nat.beq n 0 <;> rw [h0] at h
      · cases h1 : Nat.beq (n % 2) 1 <;> rw [h1] at h
        · obtain ⟨t', hk, ht⟩ := TM.setK_ok h
          refine ⟨_, hk, fun m => ?_⟩
          have hp : n % 2 = 0 := by
            have : n % 2 ≠ 1 := fun e => by rw [e] at h1; cases h1
            omega
          simp only [TM.get]
          cases hm0 : Nat.beq m 0
          · cases hm1 : Nat.beq (m % 2) 1
            · have hmp : m % 2 = 0 := by
                have : m % 2 ≠ 1 := fun e => by rw [e] at hm1; cases hm1
                omega
              simp only [cond_false, ht]
              by_cases e : (m - 1) / 2 = (n - 1) / 2
              · rw [if_pos e, if_pos ((arith m h0).2 ⟨hm0, by omega, e⟩)]
              · rw [if_neg e, if_neg fun e' => e ((arith m h0).1 e').2.2]
            · have hmp : m % 2 = 1 := Nat.eq_of_beq_eq_true hm1
              simp only [cond_false, cond_true]
              rw [if_neg fun e' => by rw [e'] at hmp; omega]
          · have := Nat.eq_of_beq_eq_true hm0
            subst this
            simp only [cond_true]
            rw [if_neg fun e => by rw [← e] at h0; cases h0]
        · obtain ⟨t', hk, ht⟩ := TM.setK_ok h
          refine ⟨_, hk, fun m => ?_⟩
          have hp : n % 2 = 1 := Nat.eq_of_beq_eq_true h1
          simp only [TM.get]
          cases hm0 : Nat.beq m 0
          · cases hm1 : Nat.beq (m % 2) 1
            · simp only [cond_false]
              rw [if_neg fun e' => by rw [e'] at hm1; rw [hm1] at h1; cases h1]
            · have hmp : m % 2 = 1 := Nat.eq_of_beq_eq_true hm1
              simp only [cond_false, cond_true, ht]
              by_cases e : (m - 1) / 2 = (n - 1) / 2
              · rw [if_pos e, if_pos ((arith m h0).2 ⟨hm0, by omega, e⟩)]
              · rw [if_neg e, if_neg fun e' => e ((arith m h0).1 e').2.2]
          · have := Nat.eq_of_beq_eq_true hm0
            subst this
            simp only [cond_true]
            rw [if_neg fun e => by rw [← e] at h0; cases h0]
      · have := Nat.eq_of_beq_eq_true h0
        subst this
        refine ⟨_, h, fun m => ?_⟩
        simp only [TM.get]
        cases hm0 : Nat.beq m 0
        · rw [if_neg fun e => by subst e; cases hm0]; rfl
        · rw [if_pos (Nat.eq_of_beq_eq_true hm0)]; rfl
    cases t with
    | nil =>
      obtain ⟨t', hk, ht⟩ := key none .nil .nil h
      refine ⟨t', hk, fun m => ?_⟩
      rw [ht]
      split
      · rfl
      · simp only [TM.get]; cases Nat.beq m 0 <;> cases Nat.beq (m % 2) 1 <;> rfl
    | node u l r => exact key u l r h

/-- the same but for the slots -/
structure SameBut (s s' : PSt) : Prop where
  n : s'.n = s.n
  st : s'.st = s.st
  base : s'.base = s.base
  rl : s'.rl = s.rl
theorem PSt.put_ok {dst : Option Tmp} {x : PV} {k : PSt → Prop} (h : s.put dst x k) : ∃ s', k s' ∧ SameBut s s' ∧ ∀ I β a w v, Rel G I β s a w → x.Is w I β v → Rel G I β s' (a.put dst v) w := by
  obtain ⟨n, t, st, b, rl⟩ := s
  unfold PSt.put at h
  simp only at h
  split at h
  · exact ⟨_, h, ⟨rfl, rfl, rfl, rfl⟩, fun I β a w v hR _ => hR⟩
  · rename_i d
    replace h := bif_ok h
    obtain ⟨hd, h⟩ := h
    have hd : d < n := Nat.le_of_ble_eq_true hd
    replace h := fc_ok h
    obtain ⟨t', hk, ht⟩ := TM.setK_ok h
    refine ⟨_, hk, ⟨rfl, rfl, rfl, rfl⟩, fun I β a w v hR hx => ⟨hR.small, hR.defers, by simpa [Act.put] using hR.size, hR.base, fun m y hy => ?_, hR.heap, hR.imm⟩⟩
    have hsz : d < a.tmps.size := by rw [hR.size]; exact hd
    have hy' : t'.get m = some y := hy
    rw [ht] at hy'
    by_cases e : m = d
    · subst e
      rw [if_pos rfl] at hy'
      cases hy'
      exact ⟨v, by simp [Act.put, hsz], hx⟩
    · rw [if_neg e] at hy'
      obtain ⟨u, hu, hi⟩ := hR.get m y hy'
      exact ⟨u, by simp only [Act.put, Array.getElem?_setIfInBounds_ne (Ne.symm e)]; exact hu, hi⟩
/-- a slot whose value is known better -/
theorem PSt.refine_ok {t : Nat} {x : PV} {v : Value} {k : PSt → Prop} (hR : Rel G I β s a w) (hv : a.tmps[t]? = some v) (hx : x.Is w I β v) (h : s.put (some t) x k) : ∃ s', k s' ∧ SameBut s s' ∧ Rel G I β s' a w := by
  obtain ⟨s', hk, hs, hr⟩ := PSt.put_ok (G := G) h
  refine ⟨s', hk, hs, ?_⟩
  have := hr I β a w v hR hx
  have e : a.put (some t) v = a := by
    unfold Act.put
    simp only
    have : a.tmps.setIfInBounds t v = a.tmps := by
      apply Array.ext_getElem?
      intro i
      rw [Array.getElem?_setIfInBounds]
      split
      · rename_i hi
        subst hi
        have := (Array.getElem?_eq_some_iff.1 hv).1
        rw [if_pos this, hv]
      · rfl
    rw [this]
  rw [e] at this
  exact this
theorem Is.undef : (PV.tup []).Is w I β Go.undef := by simp only [PV.Is]; exact ⟨#[], rfl, by simp only [IsL]⟩
theorem pguard_ok {ops : Array Oper} {o : Oper} {run skip : PSt → Prop} (hR : Rel G I β s a w) (h : pguard ops.toList s o run skip) :
    (Region.wanted o (yielded ops a.tmps) = true ∧ ∃ s', run s' ∧ SameBut s s' ∧ Rel G I β s' a w) ∨ (Region.wanted o (yielded ops a.tmps) = false ∧ ∃ s', skip s' ∧ SameBut s s' ∧ Rel G I β s' a w) := by
  have same : SameBut s s := ⟨rfl, rfl, rfl, rfl⟩
  unfold pguard at h
  cases hg : o.guard with
  | none =>
    rw [hg] at h
    exact .inl ⟨by simp [Region.wanted, hg], s, h, same, hR⟩
  | some jw =>
    obtain ⟨j, want⟩ := jw
    rw [hg] at h
    simp only at h
    replace h := need_ok h
    obtain ⟨t, ht, h⟩ := h
    replace h := need_ok h
    obtain ⟨x, hx, h⟩ := h
    obtain ⟨v, hv, hi⟩ := hR.get t x hx
    have ht' : (ops[j]?).bind (·.dst) = some t := by simpa using ht
    have hy : ∀ b, v = .bool b → Region.wanted o (yielded ops a.tmps) = (b == want) := fun b hb => by
      subst hb
      have : yielded ops a.tmps j = some b := by unfold yielded; rw [Option.bind_eq_some_iff.2 ⟨t, ht', hv⟩]
      simp [Region.wanted, hg, this]
    split at h <;> try simp only [PV.Is] at hi
    · cases want
      · exact .inr ⟨by rw [hy _ hi]; rfl, s, h, same, hR⟩
      · exact .inl ⟨by rw [hy _ hi]; rfl, s, h, same, hR⟩
    · cases want
      · exact .inl ⟨by rw [hy _ hi]; rfl, s, h, same, hR⟩
      · exact .inr ⟨by rw [hy _ hi]; rfl, s, h, same, hR⟩
    · rename_i p
      by_cases hp : p
      · obtain ⟨s', hk, hs, hr⟩ := PSt.refine_ok hR hv (x := .tt) (by rw [hi, pb_true hp]; exact Is.tt) (h.1 hp)
        cases want
        · exact .inr ⟨by rw [hy _ hi, pb_true hp]; rfl, s', hk, hs, hr⟩
        · exact .inl ⟨by rw [hy _ hi, pb_true hp]; rfl, s', hk, hs, hr⟩
      · obtain ⟨s', hk, hs, hr⟩ := PSt.refine_ok hR hv (x := .ff) (by rw [hi, pb_false hp]; exact Is.ff) (h.2 hp)
        cases want
        · exact .inl ⟨by rw [hy _ hi, pb_false hp]; rfl, s', hk, hs, hr⟩
        · exact .inr ⟨by rw [hy _ hi, pb_false hp]; rfl, s', hk, hs, hr⟩
    · obtain ⟨vs, rfl, _⟩ := hi
      refine .inr ⟨?_, s, h, same, hR⟩
      have : yielded ops a.tmps j = none := by unfold yielded; rw [Option.bind_eq_some_iff.2 ⟨t, ht', hv⟩]
      simp [Region.wanted, hg, this]
    · exact h.elim

/-- from a state to another -/
structure Goes (I : Nat → Prop) (β : Places) (s : PSt) (w : World) (I' : Nat → Prop) (β' : Places) (s' : PSt) (w' : World) : Prop where
  ext : Ext I β s.st w I' β' s'.st w'
  base : s'.base = s.base
  rl : s'.rl = s.rl
  n : s'.n = s.n
  low : ∀ l, l < s.base → l ∉ s.rl → β' l = β l
theorem Goes.same {s' : PSt} (h : SameBut s s') : Goes I β s w I β s' w := ⟨by rw [h.st]; exact Ext.refl, h.base, h.rl, h.n, fun _ _ _ => rfl⟩
theorem Goes.trans {I'' : Nat → Prop} {β'' : Places} {s' s'' : PSt} {w'' : World} (h : Goes I β s w I' β' s' w') (k : Goes I' β' s' w' I'' β'' s'' w'') : Goes I β s w I'' β'' s'' w'' :=
  ⟨h.ext.trans k.ext, k.base.trans h.base, k.rl.trans h.rl, k.n.trans h.n, fun l hl hr => (k.low l (by rw [h.base]; exact hl) (by rw [h.rl]; exact hr)).trans (h.low l hl hr)⟩

theorem pops_ok (hG : GOk G) {ops : Array Oper} {Q : X → PSt → Prop} {Q' : Exit → Act → World → Prop} : ∀ (l : List Oper) {s : PSt} {a : Act} {I : Nat → Prop} {β : Places} {w : World}, pops G ops.toList Q l s → Rel G I β s a w →
    (∀ x s' I' β' a' w', Q x s' → Rel G I' β' s' a' w' → Goes I β s w I' β' s' w' → Q' (X.e x) a' w') → wpList G.cx.P ops Q' l a w
  | [], s, a, I, β, w, h, hR, hQ => hQ .nml s I β a w h hR (Goes.same ⟨rfl, rfl, rfl, rfl⟩)
  | o :: l, s, a, I, β, w, h, hR, hQ => by
    unfold wpList
    rcases pguard_ok hR h with ⟨hw, s1, h1, hs1, hR1⟩ | ⟨hw, s1, h1, hs1, hR1⟩
    · rw [hw, if_pos rfl]
      refine .inl (Ev.resE_wp (pop_ok hG hR1 h1) fun v w' hp => ?_)
      obtain ⟨x, s2, I2, β2, h2, hR2, hx, hE, e1, e2, e3, hlow, _⟩ := hp
      obtain ⟨s3, h3, hs3, hr3⟩ := PSt.put_ok (G := G) h2
      have g1 : Goes I β s w I2 β2 s2 w' := (Goes.same hs1).trans ⟨hE, e1, e2, e3, hlow⟩
      exact pops_ok hG l h3 (hr3 _ _ _ _ v hR2 hx) fun x s' I' β' a' w'' hq hR' hg => hQ x s' I' β' a' w'' hq hR' ((g1.trans (Goes.same hs3)).trans hg)
    · rw [hw, if_neg (by simp)]
      obtain ⟨s3, h3, hs3, hr3⟩ := PSt.put_ok (G := G) h1
      exact pops_ok hG l h3 (hr3 _ _ _ _ _ hR1 Is.undef) fun x s' I' β' a' w'' hq hR' hg => hQ x s' I' β' a' w'' hq hR' (((Goes.same hs1).trans (Goes.same hs3)).trans hg)
end

/-! ### regions that draw their order -/
def loadOp : Op → Bool
  | .load .. => true
  | _ => false
/-- takes effect, or makes something -/
def eff (op : Op) : Bool := !(Ev.pureOp op || loadOp op)
structure PinY where
  k : Nat
  D : List Nat
  Y : World → Prop
section
variable {P : Program} {ops : Array Oper} {Q : Exit → Act → World → Prop}
/-- in every world that meets S the operation leaves v, and nothing is changed -/
def Yields (P : Program) (ops : Array Oper) (S : World → Prop) (o : Oper) (v : Value) (a : Act) : Prop :=
  (Region.wanted o (yielded ops a.tmps) = true ∧ ∀ w, S w → (execOp a.eval o).run P w = .ok (.value v) w) ∨ (Region.wanted o (yielded ops a.tmps) = false ∧ v = undef)
theorem Yields.mono {S S' : World → Prop} {o : Oper} {v : Value} {a : Act} (hS : ∀ w, S' w → S w) (h : Yields P ops S o v a) : Yields P ops S' o v a := h.imp (fun ⟨h1, h2⟩ => ⟨h1, fun w hw => h2 w (hS w hw)⟩) id
theorem Yields.of_same {S : World → Prop} {o : Oper} {v : Value} {a a' : Act} (hy : Yields P ops S o v a) (he : execOp a'.eval o = execOp a.eval o) (hw : Region.wanted o (yielded ops a'.tmps) = Region.wanted o (yielded ops a.tmps)) : Yields P ops S o v a' := by
  unfold Yields at *; rw [he, hw]; exact hy
def unpin (i : Nat) (pins : List PinY) : List PinY := pins.filter fun p => !p.D.any (Nat.beq i)
/-- whatever order is picked from here on -/
def AnyP (P : Program) (ops : Array Oper) (Q : Exit → Act → World → Prop) : Nat → Array Bool → Act → (World → Prop) → List PinY → Prop
  | 0, l, a, S, _ => Region.ready .any ops l = [] ∧ ∀ w, S w → Q .normal a w
  | f + 1, l, a, S, pins => (Region.ready .any ops l = [] → ∀ w, S w → Q .normal a w) ∧ ∀ i ∈ Region.ready .any ops l, ∀ o, ops[i]? = some o →
      (eff o.op = false → ∃ v, Yields P ops S o v a ∧ AnyP P ops Q f (l.setIfInBounds i true) (a.put o.dst v) S (unpin i pins)) ∧
      (eff o.op = true → ∀ w, S w → Ev.Does P ops o a w fun v w' => ∃ S' : World → Prop, (∀ p ∈ unpin i pins, ∀ w, S' w → p.Y w) ∧ S' w' ∧ AnyP P ops Q f (l.setIfInBounds i true) (a.put o.dst v) S' (unpin i pins))
theorem AnyP.sound : ∀ (f : Nat) (l : Array Bool) (a : Act) (S : World → Prop) (pins : List PinY) (w : World), AnyP P ops Q f l a S pins → S w → wpAny P .any ops Q f l a w
  | 0, l, a, S, _, w, h, hw => ⟨h.1, h.2 w hw⟩
  | f + 1, l, a, S, pins, w, h, hw => by
    refine ⟨fun h0 => h.1 h0 w hw, fun i hi => ?_⟩
    obtain ⟨o, ho⟩ := Ev.ready_op hi
    obtain ⟨h0, h1⟩ := h.2 i hi o ho
    unfold wpOp
    rw [ho]
    simp only
    by_cases hl : eff o.op = false
    · obtain ⟨v, hy, hn⟩ := h0 hl
      rcases hy with ⟨hwant, hy⟩ | ⟨hwant, rfl⟩
      · rw [if_pos hwant]
        refine .inl (Ev.resE_wp (K := fun u w' => u = v ∧ w' = w) (by rw [hy w hw]; exact ⟨rfl, rfl⟩) fun u w' ⟨hu, hb⟩ => ?_)
        subst hu; subst hb
        exact AnyP.sound f _ _ S _ w' hn hw
      · rw [if_neg (by rw [hwant]; simp)]
        exact AnyP.sound f _ _ S _ w hn hw
    · rcases h1 (by simpa using hl) w hw with ⟨hwant, hd⟩ | ⟨hwant, S', _, hS', hn⟩
      · rw [if_pos hwant]
        refine .inl (Ev.resE_wp hd fun u w' ⟨S', _, hS', hn⟩ => ?_)
        exact AnyP.sound f _ _ S' _ w' hn hS'
      · rw [if_neg (by rw [hwant]; simp)]
        exact AnyP.sound f _ _ S' _ w hn hS'
theorem does_mono {o : Oper} {a : Act} {w : World} {K K' : Value → World → Prop} (hK : ∀ v w, K v w → K' v w) (h : Ev.Does P ops o a w K) : Ev.Does P ops o a w K' := Ev.Does.mono hK h
theorem unpin_sub {i : Nat} {pins pins' : List PinY} (h : ∀ p ∈ pins', p ∈ pins) : ∀ p ∈ unpin i pins', p ∈ unpin i pins := fun p hp => by
  unfold unpin at *
  rw [List.mem_filter] at *
  exact ⟨h p hp.1, hp.2⟩
theorem AnyP.sub : ∀ (f : Nat) (l : Array Bool) (a : Act) (S : World → Prop) (pins pins' : List PinY), (∀ p ∈ pins', p ∈ pins) → AnyP P ops Q f l a S pins → AnyP P ops Q f l a S pins'
  | 0, _, _, _, _, _, _, h => h
  | f + 1, l, a, S, pins, pins', hs, h => by
    refine ⟨h.1, fun i hi o ho => ?_⟩
    obtain ⟨h0, h1⟩ := h.2 i hi o ho
    refine ⟨fun hl => ?_, fun hl w hw => does_mono (fun v w' ⟨S', h2, h3, h4⟩ => ⟨S', fun p hp => h2 p (unpin_sub hs p hp), h3, AnyP.sub f _ _ _ _ _ (unpin_sub hs) h4⟩) (h1 hl w hw)⟩
    obtain ⟨v, hy, hn⟩ := h0 hl
    exact ⟨v, hy, AnyP.sub f _ _ _ _ _ (unpin_sub hs) hn⟩
/-- an operation that changes nothing may be taken first -/
theorem AnyP.first {i : Nat} {oi : Oper} {v : Value} {D : List Nat} {Y : World → Prop} (hi : ops[i]? = some oi) (hli : eff oi.op = false) (hsel : Region.noSelect ops = true) :
    ∀ (f : Nat) (l : Array Bool) (a : Act) (S : World → Prop) (pins : List PinY),
      (∀ j oj, ops[j]? = some oj → j ≠ i → l.getD j true = false → (∀ e ∈ oj.after, Region.binds .any e = true → e.on ≠ i) → oi.apart ops oj = true) →
      (∀ j ∈ D, l.getD j false = false ∧ ∃ oj, ops[j]? = some oj ∧ ∃ e ∈ oj.after, Region.binds .any e = true ∧ (e.on = i ∨ e.on ∈ D)) →
      Yields P ops Y oi v a → (∀ w, S w → Y w) → i ∈ Region.ready .any ops l → AnyP P ops Q f (l.setIfInBounds i true) (a.put oi.dst v) S (⟨i, D, Y⟩ :: pins) → AnyP P ops Q (f + 1) l a S pins := by
  intro f
  induction f with
  | zero =>
    intro l a S pins _ _ hY hSY hr H
    refine ⟨fun h0 => (by rw [h0] at hr; cases hr), fun j hj o ho => ?_⟩
    by_cases hji : j = i
    · subst hji
      rw [hi] at ho; cases ho
      exact ⟨fun _ => ⟨v, hY.mono hSY, H⟩, fun h => by rw [hli] at h; cases h⟩
    · have := ready_mono hj hji
      rw [H.1] at this
      cases this
  | succ f ih =>
    intro l a S pins hfree hD hY hSY hr H
    refine ⟨fun h0 => (by rw [h0] at hr; cases hr), fun j hj oj hoj => ?_⟩
    by_cases hji : j = i
    · subst hji
      rw [hi] at hoj; cases hoj
      refine ⟨fun _ => ⟨v, hY.mono hSY, ?_⟩, fun h => by rw [hli] at h; cases h⟩
      refine AnyP.sub _ _ _ _ _ _ (fun p hp => ?_) H
      unfold unpin at hp
      exact List.mem_cons_of_mem _ (List.mem_filter.1 hp).1
    · obtain ⟨hjun, oj', hoj', hall⟩ := mem_ready.1 hj
      rw [hoj] at hoj'; cases hoj'
      have hiun := (mem_ready.1 hr).1
      have ilist : l.getD i false = false := by
        have hlt : i < l.size := by
          rcases Nat.lt_or_ge i l.size with h' | h'
          · exact h'
          · simp [Array.getElem?_eq_none h'] at hiun
        simp [hlt] at hiun ⊢; exact hiun
      have hnot : ∀ e ∈ oj.after, Region.binds .any e = true → e.on ≠ i := fun e he hb heq => by
        have h1 := hall e he hb
        rw [heq, ilist] at h1; cases h1
      have hjD : D.any (Nat.beq j) = false := by
        rw [List.any_eq_false]
        intro x hx e
        have := Nat.eq_of_beq_eq_true e
        subst this
        obtain ⟨_, oj2, ho2, ed, he, hb, h3⟩ := hD j hx
        rw [hoj] at ho2; cases ho2
        rcases h3 with h3 | h3
        · exact hnot ed he hb h3
        · have h4 := hall ed he hb
          rw [(hD _ h3).1] at h4; cases h4
      have hjD' : j ∉ D := fun hm => by
        rw [List.any_eq_false] at hjD
        exact hjD j hm (Nat.beq_refl j)
      have hun : unpin j (⟨i, D, Y⟩ :: pins) = ⟨i, D, Y⟩ :: unpin j pins := by
        unfold unpin
        rw [List.filter_cons, if_pos (by simp only [hjD]; rfl)]
      have hap := hfree j oj hoj hji hjun hnot
      obtain ⟨a1, a2, a3⟩ := Oper.apart_spec hap
      have hsi := fun cs b => Region.noSelect_spec hsel i oi cs b hi
      have hsj := fun cs b => Region.noSelect_spec hsel j oj cs b hoj
      have ej : execOp (a.put oi.dst v).eval oj = execOp a.eval oj := execOp_put oj hsj a oi.dst v a1
      have wj : Region.wanted oj (yielded ops (a.put oi.dst v).tmps) = Region.wanted oj (yielded ops a.tmps) := wanted_put oj a oi.dst v a1
      have ei : ∀ u, execOp (a.put oj.dst u).eval oi = execOp a.eval oi := fun u => execOp_put oi hsi a oj.dst u a3
      have wi : ∀ u, Region.wanted oi (yielded ops (a.put oj.dst u).tmps) = Region.wanted oi (yielded ops a.tmps) := fun u => wanted_put oi a oj.dst u a3
      have hfree' : ∀ k ok, ops[k]? = some ok → k ≠ i → (l.setIfInBounds j true).getD k true = false → (∀ e ∈ ok.after, Region.binds .any e = true → e.on ≠ i) → oi.apart ops ok = true := fun k ok hk hki hun hno => by
        refine hfree k ok hk hki ?_ hno
        by_cases hjk : j = k
        · subst hjk; exact hjun
        · rw [getD_set_ne true hjk] at hun; exact hun
      have hD' : ∀ k ∈ D, (l.setIfInBounds j true).getD k false = false ∧ ∃ oj, ops[k]? = some oj ∧ ∃ e ∈ oj.after, Region.binds .any e = true ∧ (e.on = i ∨ e.on ∈ D) := fun k hk => by
        refine ⟨?_, (hD k hk).2⟩
        rw [getD_set_ne false (fun e => hjD' (by rw [e]; exact hk))]
        exact (hD k hk).1
      obtain ⟨h0, h1⟩ := H.2 j (ready_mono hj hji) oj hoj
      rw [hun] at h0 h1
      refine ⟨fun hl => ?_, fun hl w hw => ?_⟩
      · obtain ⟨u, hu, hn⟩ := h0 hl
        refine ⟨u, hu.of_same ej.symm wj.symm, ?_⟩
        refine ih (l.setIfInBounds j true) (a.put oj.dst u) S (unpin j pins) hfree' hD' (hY.of_same (ei u) (wi u)) hSY (ready_mono hr (Ne.symm hji)) ?_
        rw [Array.setIfInBounds_comm _ _ hji, ← Act.put_comm a v u a2]
        exact hn
      · have hd := h1 hl w hw
        unfold Ev.Does at hd ⊢
        rw [ej, wj] at hd
        have step : ∀ u w', (∃ S' : World → Prop, (∀ p ∈ ⟨i, D, Y⟩ :: unpin j pins, ∀ w, S' w → p.Y w) ∧ S' w' ∧ AnyP P ops Q f ((l.setIfInBounds i true).setIfInBounds j true) ((a.put oi.dst v).put oj.dst u) S' (⟨i, D, Y⟩ :: unpin j pins)) →
            ∃ S' : World → Prop, (∀ p ∈ unpin j pins, ∀ w, S' w → p.Y w) ∧ S' w' ∧ AnyP P ops Q (f + 1) (l.setIfInBounds j true) (a.put oj.dst u) S' (unpin j pins) := by
          rintro u w' ⟨S', hS', hw', hn⟩
          refine ⟨S', fun p hp => hS' p (List.mem_cons_of_mem _ hp), hw', ih (l.setIfInBounds j true) (a.put oj.dst u) S' (unpin j pins) hfree' hD' (hY.of_same (ei u) (wi u)) (hS' _ List.mem_cons_self) (ready_mono hr (Ne.symm hji)) ?_⟩
          rw [Array.setIfInBounds_comm _ _ hji, ← Act.put_comm a v u a2]
          exact hn
        rcases hd with ⟨hw1, hd⟩ | ⟨hw1, hd⟩
        · exact .inl ⟨hw1, Ev.resE_mono step hd⟩
        · exact .inr ⟨hw1, step _ _ hd⟩
end

end Go.Proofs.YtjcacjeoddnmhaaDoor.Pw

/- Regions that draw their order, as the evaluator says. -/
namespace Go.Proofs.YtjcacjeoddnmhaaDoor.Pw
open Go Go.RowKit

/-- a load that was carried out ahead of its turn: which operations wait for it, of which block -/
structure Pin where
  D : List Nat
  l : Nat
def inL (i : Nat) (l : List Nat) : Bool := l.any (Nat.beq i)
def depsGo (listed : Array Bool) (i : Nat) : List Oper → Nat → List Nat → List Nat
  | [], _, acc => acc
  | o :: r, j, acc => bif !(listed.getD j true) && o.after.toList.any (fun e => Region.binds .any e && (Nat.beq e.on i || inL e.on acc)) then depsGo listed i r (j + 1) (j :: acc) else depsGo listed i r (j + 1) acc
def okD (ops : List Oper) (listed : Array Bool) (i : Nat) (D : List Nat) : Bool :=
  D.all fun j => !(listed.getD j false) && (match ops[j]? with
    | some o => o.after.toList.any fun e => Region.binds .any e && (Nat.beq e.on i || inL e.on D)
    | none => false)
def pinned (i : Nat) : List Pin → List Nat
  | [] => []
  | p :: r => bif inL i p.D then pinned i r else p.l :: pinned i r
def unpinP (i : Nat) (pins : List Pin) : List Pin := pins.filter fun p => !inL i p.D
def Md.isW : Md → Bool
  | .w => true
  | _ => false
def pinM (b : Bool) (m : Md) : Md := match b, m with
  | true, .w => .p
  | _, m => m
def unpinM (b : Bool) (m : Md) : Md := match b, m with
  | true, .p => .w
  | _, m => m
def mapM (f : Bool → Md → Md) (us : List Nat) : Nat → List PBlk → List PBlk
  | _, [] => []
  | j, ⟨k, ty, n, m, live, cs⟩ :: st => ⟨k, ty, n, f (inL j us) m, live, cs⟩ :: mapM f us (j + 1) st
def frB : List PBlk → (List PBlk → Prop) → Prop
  | [], q => q []
  | ⟨k, ty, n, m, live, cs⟩ :: st, q => match m with
    | .w => frB st fun st => q (⟨k, ty, n, .w, live, cs⟩ :: st)
    | .p => frB st fun st => q (⟨k, ty, n, .p, live, cs⟩ :: st)
    | .r => frB st fun st => q (⟨k, ty, n, .r, live, cs⟩ :: st)
def wsOf (st : List PBlk) (ls : List Nat) : List Nat := ls.filter fun j => match st[j]? with
  | some b => b.live && b.m.isW
  | none => false
def okP (st : List PBlk) (ls : List Nat) : Bool := ls.all fun j => match st[j]? with
  | some b => b.live
  | none => false
def prun1 (G : Gx) (ops : List Oper) (s : PSt) (i : Nat) (o : Oper) (pins : List Pin) (K : PSt → Prop) : Prop :=
  pguard ops s o (fun s => match pinned i pins with
    | [] => pop G s o fun v s2 => s2.put o.dst v K
    | ls => frB (mapM pinM (wsOf s.st ls) 0 s.st) fun st => pop G (s.store st) o fun v s2 => bif okP s2.st ls then frB (mapM unpinM (wsOf s.st ls) 0 s2.st) fun st2 => (s2.store st2).put o.dst v K else False)
    (fun s => s.put o.dst (.tup []) K)
def pureTake (ops : Array Oper) (listed : Array Bool) (i : Nat) : Bool := match ops[i]? with
  | some o => Ev.pureOp o.op && Region.free .any ops listed i
  | none => false
def loadTake (ops : Array Oper) (listed : Array Bool) (i : Nat) : Bool := match ops[i]? with
  | some o => loadOp o.op && Region.free .any ops listed i
  | none => false
def addPin (D : List Nat) (x : PV) (pins : List Pin) : List Pin := match x.blk with
  | some l => ⟨D, l⟩ :: pins
  | none => pins
section
variable {w w' : World} {I I' : Nat → Prop} {β β' : Places} {G : Gx} {s : PSt} {a : Act} {st st' : List PBlk} {ops : Array Oper}

theorem frB_ok : ∀ {st : List PBlk} {q : List PBlk → Prop}, frB st q → q st
  | [], _, h => h
  | ⟨k, ty, n, m, live, cs⟩ :: st, q, h => by
    unfold frB at h
    cases m <;> exact frB_ok (st := st) h
theorem mapM_get (f : Bool → Md → Md) (us : List Nat) : ∀ (st : List PBlk) (j l : Nat), (mapM f us j st)[l]? = (st[l]?).map fun b => { b with m := f (inL (j + l) us) b.m }
  | [], j, l => by simp [mapM]
  | ⟨k, ty, n, m, live, cs⟩ :: st, j, 0 => by simp [mapM]
  | ⟨k, ty, n, m, live, cs⟩ :: st, j, l + 1 => by
    simp only [mapM, List.getElem?_cons_succ]
    rw [mapM_get f us st (j + 1) l, show j + 1 + l = j + (l + 1) by omega]
theorem mapM_len (f : Bool → Md → Md) (us : List Nat) : ∀ (st : List PBlk) (j : Nat), (mapM f us j st).length = st.length
  | [], _ => rfl
  | ⟨_, _, _, _, _, _⟩ :: st, j => by simp [mapM, mapM_len f us st]
theorem pinM_r {b : Bool} {m : Md} : pinM b m = .r ↔ m = .r := by cases b <;> cases m <;> simp [pinM]
theorem pinM_w {b : Bool} {m : Md} (h : pinM b m = .w) : m = .w := by cases b <;> cases m <;> simp_all [pinM]
theorem unpinM_r {b : Bool} {m : Md} : unpinM b m = .r ↔ m = .r := by cases b <;> cases m <;> simp [unpinM]
/-- other modes, but the same of those that are never written -/
theorem HeapOk.modes (h : HeapOk I β st w) {f : Bool → Md → Md} {us : List Nat} (hf : ∀ b m, f b m = .r ↔ m = .r) : HeapOk I β (mapM f us 0 st) w := by
  refine ⟨fun l hl => h.far l (by rw [mapM_len] at hl; exact hl), fun l b' hl hlive => ?_⟩
  rw [mapM_get, Option.map_eq_some_iff] at hl
  obtain ⟨b, hb, rfl⟩ := hl
  have hb0 := h.blk l b hb hlive
  obtain ⟨p, hp, hk⟩ := hb0
  have own : ∀ {g : Nat} {fr : Nat × Nat}, Own I β st l g fr b → Own I β (mapM f us 0 st) l g fr { b with m := f (inL (0 + l) us) b.m } := fun ho => by
    refine ⟨fun hr => ?_, fun hr => ho.2 ((hf _ _).1 hr)⟩
    obtain ⟨h1, h2, h3⟩ := ho.1 fun e => hr ((hf _ _).2 e)
    refine ⟨h1, h2, fun l' b' hne hl' hlive' => ?_⟩
    rw [mapM_get, Option.map_eq_some_iff] at hl'
    obtain ⟨b2, hb2, rfl⟩ := hl'
    exact h3 l' b2 hne hb2 hlive'
  refine ⟨p, hp, ?_⟩
  simp only
  split at hk
  · rename_i hkk
    obtain ⟨g, o, arr, ty, fr, h1, h2, h3, ho⟩ := hk
    rw [hkk]
    exact ⟨g, o, arr, ty, fr, h1, h2, h3, own ho⟩
  · rename_i hkk
    obtain ⟨g, arr, fr, h1, h2, h3, ho, h4⟩ := hk
    rw [hkk]
    exact ⟨g, arr, fr, h1, h2, h3, own ho, h4⟩
  · rename_i hkk
    obtain ⟨h1, hk⟩ := hk
    rw [hkk]
    refine ⟨h1, ?_⟩
    rcases hk with h | ⟨g, arr, fr, h2, h3, h4, ho, h5⟩
    · exact .inl h
    · exact .inr ⟨g, arr, fr, h2, h3, h4, own ho, h5⟩
  · rename_i hkk
    obtain ⟨g, h1, h2, ho⟩ := hk
    rw [hkk]
    exact ⟨g, h1, h2, own ho⟩
theorem inL_iff {i : Nat} {l : List Nat} : inL i l = true ↔ i ∈ l := by
  unfold inL
  rw [List.any_eq_true]
  exact ⟨fun ⟨x, hx, e⟩ => by rw [Nat.eq_of_beq_eq_true e]; exact hx, fun h => ⟨i, h, Nat.beq_refl i⟩⟩

/-- loads that were carried out ahead of their turn: their blocks are as they were -/
def PinsOk (pins : List Pin) (ys : List PinY) (I : Nat → Prop) (β : Places) (st : List PBlk) (w : World) : Prop :=
  ∀ y ∈ ys, (∀ w2, y.Y w2) ∨ ∃ g, (∀ w2, y.Y w2 ↔ w2.heap[g]? = w.heap[g]?) ∧ g < w.heap.size ∧ (I g ∨ ∃ p ∈ pins, p.D = y.D ∧ ∃ b pl o, st[p.l]? = some b ∧ b.live = true ∧ β p.l = some pl ∧ pl.a = some (g, o))
theorem pinned_mem {i : Nat} {p : Pin} : ∀ {pins : List Pin}, p ∈ pins → inL i p.D = false → p.l ∈ pinned i pins
  | q :: pins, h, hd => by
    unfold pinned
    rcases List.mem_cons.1 h with rfl | h
    · rw [hd]; exact List.mem_cons_self
    · cases inL i q.D
      · exact List.mem_cons_of_mem _ (pinned_mem h hd)
      · exact pinned_mem h hd
theorem unpinP_mem {i : Nat} {p : Pin} {pins : List Pin} (h : p ∈ pins) (hd : inL i p.D = false) : p ∈ unpinP i pins := by
  unfold unpinP; rw [List.mem_filter]; exact ⟨h, by simp [hd]⟩
theorem unpin_mem {i : Nat} {y : PinY} {ys : List PinY} (h : y ∈ unpin i ys) : y ∈ ys ∧ inL i y.D = false := by
  unfold unpin at h; rw [List.mem_filter] at h; exact ⟨h.1, by simpa [inL] using h.2⟩
/-- nothing happened to memory -/
theorem PinsOk.unpin {i : Nat} {pins : List Pin} {ys : List PinY} (h : PinsOk pins ys I β st w) : PinsOk (unpinP i pins) (unpin i ys) I β st w := fun y hy => by
  obtain ⟨hy, hd⟩ := unpin_mem hy
  rcases h y hy with h | ⟨g, h1, h2, h3⟩
  · exact .inl h
  · exact .inr ⟨g, h1, h2, h3.imp id fun ⟨p, hp, he, h4⟩ => ⟨p, unpinP_mem hp (by rw [he]; exact hd), he, h4⟩⟩

theorem prun1_ok (hG : GOk G) {i : Nat} {o : Oper} {pins : List Pin} {ys : List PinY} {K : PSt → Prop} (h : prun1 G ops.toList s i o pins K) (hR : Rel G I β s a w) (hp : PinsOk pins ys I β s.st w) :
    Ev.Does G.cx.P ops o a w fun v w' => ∃ s' I' β', K s' ∧ Rel G I' β' s' (a.put o.dst v) w' ∧ Goes I β s w I' β' s' w' ∧ (∀ y ∈ unpin i ys, y.Y w') ∧ PinsOk (unpinP i pins) (unpin i ys) I' β' s'.st w' := by
  unfold prun1 at h
  rcases pguard_ok hR h with ⟨hw, s1, h1, hs1, hR1⟩ | ⟨hw, s1, h1, hs1, hR1⟩
  · refine .inl ⟨hw, ?_⟩
    -- what a pinned block keeps
    split at h1
    · rename_i hls
      refine Ev.resE_mono ?_ (pop_ok hG hR1 h1)
      rintro v w' ⟨x, s2, I2, β2, h2, hR2, hx, hE, e1, e2, e3, hlow, _⟩
      obtain ⟨s3, h3, hs3, hr3⟩ := PSt.put_ok (G := G) h2
      have hgo : Goes I β s w I2 β2 s3 w' := ((Goes.same hs1).trans ⟨hE, e1, e2, e3, hlow⟩).trans (Goes.same hs3)
      have hkeep : ∀ y ∈ unpin i ys, y.Y w' ∧ ((∀ w2, y.Y w2) ∨ ∃ g, (∀ w2, y.Y w2 ↔ w2.heap[g]? = w'.heap[g]?) ∧ g < w'.heap.size ∧ I2 g) := fun y hy => by
        obtain ⟨hy, hd⟩ := unpin_mem hy
        rcases hp y hy with h | ⟨g, h1, h2, h3⟩
        · exact ⟨h _, .inl h⟩
        · rcases h3 with h3 | ⟨p, hpm, he, _⟩
          · have hs := hgo.ext.keeps hR.heap hR.imm.imm g h3
            exact ⟨(h1 w').2 hs, .inr ⟨g, fun w2 => by rw [h1, hs], Nat.lt_of_lt_of_le h2 hgo.ext.size, hgo.ext.imm g h3⟩⟩
          · have := pinned_mem (i := i) hpm (by rw [he]; exact hd)
            rw [hls] at this
            cases this
      exact ⟨s3, I2, β2, h3, hr3 _ _ _ _ v hR2 hx, hgo, fun y hy => (hkeep y hy).1, fun y hy => (hkeep y hy).2.imp id fun ⟨g, a1, a2, a3⟩ => ⟨g, a1, a2, .inl a3⟩⟩
    · rename_i ls hls
      replace h1 := frB_ok h1
      have hmd := hR1.heap.modes (f := pinM) (us := wsOf s1.st (pinned i pins)) (fun b m => pinM_r)
      have hEp : Ext I β s1.st w I β (mapM pinM (wsOf s1.st (pinned i pins)) 0 s1.st) w := ⟨rfl, rfl, rfl, Nat.le_refl _, fun _ _ _ => rfl, fun g hg ⟨l, b', p, o', g1, g2, g3, g4, g5⟩ => by
        rw [mapM_get, Option.map_eq_some_iff] at g1
        obtain ⟨b, hb, rfl⟩ := g1
        refine ⟨l, b, p, o', hb, g2, ?_, g4, g5⟩
        simp only at g3
        exact pinM_w g3, fun _ h => h, fun _ _ h => .inl h⟩
      have hRp := hR1.grow hmd hEp (fun _ _ h => h) (by rw [mapM_len]; exact Nat.le_refl _) hR1.imm.imm
      refine Ev.resE_mono ?_ (pop_ok hG hRp h1)
      rintro v w' ⟨x, s2, I2, β2, h2, hR2, hx, hE, e1, e2, e3, hlow, hpn⟩
      obtain ⟨c1, c2, c3, c4, c5⟩ := PSt.store_eq s1 (mapM pinM (wsOf s1.st (pinned i pins)) 0 s1.st)
      rw [c3] at hE hpn
      rw [c4] at e1 hlow
      rw [c5] at e2 hlow
      rw [c1] at e3
      replace h2 := bif_ok h2
      obtain ⟨hokp, h2⟩ := h2
      replace h2 := frB_ok h2
      have hmu := hR2.heap.modes (f := unpinM) (us := wsOf s1.st (pinned i pins)) (fun b m => unpinM_r)
      -- the blocks that were pinned
      have hus : ∀ l ∈ wsOf s1.st (pinned i pins), ∃ b, s1.st[l]? = some b ∧ b.m = .w ∧ b.live = true := fun l hl => by
        unfold wsOf at hl
        rw [List.mem_filter] at hl
        have := hl.2
        cases hb : s1.st[l]? with
        | none => rw [hb] at this; cases this
        | some b =>
          rw [hb] at this
          simp only [Bool.and_eq_true] at this
          refine ⟨b, rfl, ?_, this.1⟩
          have := this.2
          cases hm : b.m <;> simp only [hm, Md.isW] at this <;> first | rfl | cases this
      have hfix : ∀ l b, s1.st[l]? = some b → b.m = .w → l ∈ wsOf s1.st (pinned i pins) → β2 l = β l := fun l b hb hm hl => by
        refine hpn l { b with m := .p } ?_ rfl
        rw [mapM_get, hb, Nat.zero_add, inL_iff.2 hl, Option.map_some, hm]; rfl
      have hE2 : Ext I β s1.st w I2 β2 (mapM unpinM (wsOf s1.st (pinned i pins)) 0 s2.st) w' := by
        have hE1 := hEp.trans hE
        refine ⟨hE1.os, hE1.tape, hE1.output, hE1.size, hE1.block, fun g hg ⟨l, b', p, o', g1, g2, g3, g4, g5⟩ => ?_, hE1.imm, hE1.new⟩
        rw [mapM_get, Option.map_eq_some_iff] at g1
        obtain ⟨b, hb, rfl⟩ := g1
        simp only [Nat.zero_add] at g3
        cases hin : inL l (wsOf s1.st (pinned i pins)) with
        | false =>
          rw [hin] at g3
          refine hE1.wr g hg ⟨l, b, p, o', hb, g2, ?_, g4, g5⟩
          cases hm : b.m <;> rw [hm] at g3 <;> first | rfl | cases g3
        | true =>
          have hl := inL_iff.1 hin
          obtain ⟨b0, hb0, hm0, hlive0⟩ := hus l hl
          exact ⟨l, b0, p, o', hb0, hlive0, hm0, by rw [← hfix l b0 hb0 hm0 hl]; exact g4, g5⟩
      have hkeep : ∀ y ∈ unpin i ys, y.Y w' ∧ ((∀ w2, y.Y w2) ∨ ∃ g, (∀ w2, y.Y w2 ↔ w2.heap[g]? = w'.heap[g]?) ∧ g < w'.heap.size ∧ (I2 g ∨ ∃ p ∈ unpinP i pins, p.D = y.D ∧ ∃ b pl o, (mapM unpinM (wsOf s1.st (pinned i pins)) 0 s2.st)[p.l]? = some b ∧ b.live = true ∧ β2 p.l = some pl ∧ pl.a = some (g, o))) := fun y hy => by
        obtain ⟨hy, hd⟩ := unpin_mem hy
        rcases hp y hy with h | ⟨g, g1, g2, g3⟩
        · exact ⟨h _, .inl h⟩
        · have byI : I g → y.Y w' ∧ ((∀ w2, y.Y w2) ∨ ∃ g, (∀ w2, y.Y w2 ↔ w2.heap[g]? = w'.heap[g]?) ∧ g < w'.heap.size ∧ (I2 g ∨ ∃ p ∈ unpinP i pins, p.D = y.D ∧ ∃ b pl o, (mapM unpinM (wsOf s1.st (pinned i pins)) 0 s2.st)[p.l]? = some b ∧ b.live = true ∧ β2 p.l = some pl ∧ pl.a = some (g, o))) := fun hI => by
            have hs := hE2.keeps hR1.heap hR1.imm.imm g hI
            exact ⟨(g1 w').2 hs, .inr ⟨g, fun w2 => by rw [g1, hs], Nat.lt_of_lt_of_le g2 hE2.size, .inl (hE2.imm g hI)⟩⟩
          rcases g3 with g3 | ⟨p, hpm, he, b, pl, o', hb, hlive, hpl, hpa⟩
          · exact byI g3
          · rw [← hs1.st] at hb
            have hb0 := hR1.heap.blk _ b hb hlive
            obtain ⟨arr, ty, fr, hh, ho⟩ := hb0.place hpl hpa
            by_cases hmr : b.m = .r
            · exact byI (ho.2 hmr)
            · have hlm := pinned_mem (i := i) hpm (by rw [he]; exact hd)
              -- it is pinned now
              have hpin : ∃ b', (mapM pinM (wsOf s1.st (pinned i pins)) 0 s1.st)[p.l]? = some b' ∧ b'.m = .p ∧ b'.live = true := by
                refine ⟨{ b with m := pinM (inL (0 + p.l) (wsOf s1.st (pinned i pins))) b.m }, by rw [mapM_get, hb]; rfl, ?_, hlive⟩
                simp only [Nat.zero_add]
                cases hm : b.m with
                | r => exact absurd hm hmr
                | p => cases inL p.l (wsOf s1.st (pinned i pins)) <;> rfl
                | w =>
                  have : p.l ∈ wsOf s1.st (pinned i pins) := by unfold wsOf; rw [List.mem_filter, hb]; exact ⟨hlm, by simp only [hm, hlive]; rfl⟩
                  rw [inL_iff.2 this]; rfl
              obtain ⟨b', hb', hm', hlive'⟩ := hpin
              have hb'0 := hmd.blk _ b' hb' hlive'
              obtain ⟨_, _, fr', _, ho'⟩ := hb'0.place hpl hpa
              have hnw : ¬ Wr β (mapM pinM (wsOf s1.st (pinned i pins)) 0 s1.st) g := fun ⟨l2, b2, p2, o2, k1, k2, k3, k4, k5⟩ => by
                by_cases hne : l2 = p.l
                · subst hne
                  rw [hb'] at k1; cases k1; rw [hm'] at k3; cases k3
                · exact (ho'.1 (by rw [hm']; decide)).2.2 l2 b2 hne k1 k2 p2 g o2 k4 k5 rfl
              have hs : w'.heap[g]? = w.heap[g]? := hE.block g g2 hnw
              have hβ2 : β2 p.l = some pl := (hpn _ b' hb' hm').trans hpl
              have hlv : ∃ b2, s2.st[p.l]? = some b2 ∧ b2.live = true := by
                unfold okP at hokp
                rw [List.all_eq_true] at hokp
                have := hokp _ hlm
                cases hb2 : s2.st[p.l]? with
                | none => rw [hb2] at this; cases this
                | some b2 => rw [hb2] at this; exact ⟨b2, rfl, this⟩
              obtain ⟨b2, hb2, hlive2⟩ := hlv
              refine ⟨(g1 w').2 hs, .inr ⟨g, fun w2 => by rw [g1, hs], Nat.lt_of_lt_of_le g2 hE2.size, .inr ⟨p, unpinP_mem hpm (by rw [he]; exact hd), he, { b2 with m := unpinM (inL (0 + p.l) (wsOf s1.st (pinned i pins))) b2.m }, pl, o', by rw [mapM_get, hb2]; rfl, hlive2, hβ2, hpa⟩⟩⟩
      have hEu : Ext I2 β2 s2.st w' I2 β2 (mapM unpinM (wsOf s1.st (pinned i pins)) 0 s2.st) w' → True := fun _ => trivial
      clear hEu
      have hR3 : Rel G I2 β2 (s2.store (mapM unpinM (wsOf s1.st (pinned i pins)) 0 s2.st)) a w' := by
        obtain ⟨d1, d2, d3, d4, d5⟩ := PSt.store_eq s2 (mapM unpinM (wsOf s1.st (pinned i pins)) 0 s2.st)
        exact ⟨by rw [d1]; exact hR2.small, hR2.defers, by rw [d1]; exact hR2.size, by rw [d4, d3, mapM_len]; exact hR2.base, by rw [d2]; exact hR2.get, by rw [d3]; exact hmu, hR2.imm⟩
      obtain ⟨s3, h3, hs3, hr3⟩ := PSt.put_ok (G := G) h2
      obtain ⟨d1, d2, d3, d4, d5⟩ := PSt.store_eq s2 (mapM unpinM (wsOf s1.st (pinned i pins)) 0 s2.st)
      refine ⟨s3, I2, β2, h3, hr3 _ _ _ _ v hR3 hx, (Goes.same hs1).trans ⟨by rw [hs3.st, d3]; exact hE2, by rw [hs3.base, d4]; exact e1, by rw [hs3.rl, d5]; exact e2, by rw [hs3.n, d1]; exact e3, hlow⟩, fun y hy => (hkeep y hy).1, fun y hy => ?_⟩
      rw [hs3.st, d3]
      exact (hkeep y hy).2
  · obtain ⟨s3, h3, hs3, hr3⟩ := PSt.put_ok (G := G) h1
    refine .inr ⟨hw, s3, I, β, h3, hr3 _ _ _ _ _ hR1 Is.undef, (Goes.same hs1).trans (Goes.same hs3), fun y hy => ?_, ?_⟩
    · obtain ⟨hy, _⟩ := unpin_mem hy
      rcases hp y hy with h | ⟨g, h1, _⟩
      · exact h w
      · exact (h1 w).2 rfl
    · rw [hs3.st, hs1.st]; exact hp.unpin

theorem AnyP.addTrue {P : Program} {Q : Exit → Act → World → Prop} {i : Nat} : ∀ (f : Nat) (l : Array Bool) (a : Act) (S : World → Prop) (pins : List PinY), AnyP P ops Q f l a S pins → AnyP P ops Q f l a S (⟨i, [], fun _ => True⟩ :: pins)
  | 0, _, _, _, _, h => h
  | f + 1, l, a, S, pins, h => by
    have hun : ∀ j, unpin j (⟨i, [], fun _ => True⟩ :: pins) = ⟨i, [], fun _ => True⟩ :: unpin j pins := fun j => by
      unfold unpin; rw [List.filter_cons, if_pos (by simp)]
    refine ⟨h.1, fun j hj o ho => ?_⟩
    obtain ⟨h0, h1⟩ := h.2 j hj o ho
    rw [hun]
    refine ⟨fun hl => ?_, fun hl w hw => does_mono (fun v w' ⟨S', h2, h3, h4⟩ => ⟨S', fun p hp => ?_, h3, AnyP.addTrue f _ _ _ _ h4⟩) (h1 hl w hw)⟩
    · obtain ⟨v, hy, hn⟩ := h0 hl
      exact ⟨v, hy, AnyP.addTrue f _ _ _ _ hn⟩
    · rcases List.mem_cons.1 hp with rfl | hp
      · exact fun _ _ => trivial
      · exact h2 p hp
theorem resE_exists {P : Program} {K : Value → World → Prop} {r : Result Next} (h : Ev.resE P K r) : ∃ v w, K v w := by
  cases r with
  | ok n w =>
    cases n <;> simp only [Ev.resE] at h
    case value u => exact ⟨_, _, h⟩
    case skip => exact ⟨_, _, h⟩
    case enter f args =>
      obtain ⟨e, w', fr, ⟨u, _, hu⟩, _⟩ := h []
      exact ⟨_, _, hu⟩
  | halt x w => exact h.elim
theorem does_exists {P : Program} {o : Oper} {K : Value → World → Prop} (h : Ev.Does P ops o a w K) : ∃ v w', K v w' := by
  rcases h with ⟨_, h⟩ | ⟨_, h⟩
  · exact resE_exists h
  · exact ⟨_, _, h⟩
theorem AnyP.ends {P : Program} {Q : Exit → Act → World → Prop} : ∀ (f : Nat) (l : Array Bool) (a : Act) (S : World → Prop) (pins : List PinY) (w : World), AnyP P ops Q f l a S pins → S w → ∃ a' w', Q .normal a' w'
  | 0, l, a, S, _, w, h, hw => ⟨a, w, h.2 w hw⟩
  | f + 1, l, a, S, pins, w, h, hw => by
    cases hr : Region.ready .any ops l with
    | nil => exact ⟨a, w, h.1 hr w hw⟩
    | cons i r =>
      have hi : i ∈ Region.ready .any ops l := by rw [hr]; exact List.mem_cons_self
      obtain ⟨o, ho⟩ := Ev.ready_op hi
      obtain ⟨h0, h1⟩ := h.2 i hi o ho
      cases he : eff o.op with
      | false =>
        obtain ⟨v, _, hn⟩ := h0 he
        exact AnyP.ends f _ _ S _ w hn hw
      | true =>
        obtain ⟨v, w', S', _, hS', hn⟩ := does_exists (h1 he w hw)
        exact AnyP.ends f _ _ S' _ w' hn hS'
theorem okD_ok {listed : Array Bool} {i : Nat} {D : List Nat} (h : okD ops.toList listed i D = true) : ∀ j ∈ D, listed.getD j false = false ∧ ∃ oj, ops[j]? = some oj ∧ ∃ e ∈ oj.after, Region.binds .any e = true ∧ (e.on = i ∨ e.on ∈ D) := by
  intro j hj
  unfold okD at h
  rw [List.all_eq_true] at h
  have := h j hj
  simp only [Bool.and_eq_true, Bool.not_eq_true'] at this
  refine ⟨this.1, ?_⟩
  have h2 := this.2
  cases ho : ops.toList[j]? with
  | none => rw [ho] at h2; cases h2
  | some oj =>
    rw [ho] at h2
    simp only [List.any_eq_true, Bool.and_eq_true, Bool.or_eq_true] at h2
    obtain ⟨e, he, hb, h3⟩ := h2
    exact ⟨oj, by simpa using ho, e, by simpa using he, hb, h3.imp Nat.eq_of_beq_eq_true inL_iff.1⟩

end

end Go.Proofs.YtjcacjeoddnmhaaDoor.Pw

/- Regions that draw their order, by a plan that is given. -/
namespace Go.Proofs.YtjcacjeoddnmhaaDoor.Pw
open Go Go.RowKit

mutual
/-- in which order a region's operations are carried out: what looks at no memory; loads; what takes effect, and what else could come first -/
inductive Plan where
  | done
  | pure (i : Nat) (r : Plan)
  | load (i : Nat) (D : List Nat) (r : Plan)
  | eff (i : Nat) (r : Plan) (more : Plans)
inductive Plans where
  | nil
  | cons (j : Nat) (r : Plan) (more : Plans)
  | alt (j : Nat) (r : Plan) (more : Plans)
  | sub (j : Nat) (r : Plan) (more : Plans)
end
def natsB : List Nat → List Nat → Bool
  | [], [] => true
  | a :: l, b :: m => Nat.beq a b && natsB l m
  | _, _ => false
def effAt (ops : Array Oper) (i : Nat) : Bool := match ops[i]? with
  | some o => eff o.op
  | none => false
def plansB (chk : Nat → Plan → Bool) : List Nat → Plans → Bool
  | [], .nil => true
  | j :: l, .cons k r ms => Nat.beq j k && chk j r && plansB chk l ms
  | j :: l, .alt k r ms => Nat.beq j k && chk j r && plansB chk l ms
  | j :: l, .sub k r ms => Nat.beq j k && chk j r && plansB chk l ms
  | _, _ => false
/-- is a plan the region's? -/
def planB (ops : Array Oper) : Nat → Array Bool → Plan → Bool
  | _, listed, .done => (Region.ready .any ops listed).isEmpty
  | 0, _, _ => false
  | fuel + 1, listed, .pure i r => (match Ev.firstOf (pureTake ops listed) (Region.ready .any ops listed) with
    | some k => Nat.beq k i && planB ops fuel (listed.setIfInBounds i true) r
    | none => false)
  | fuel + 1, listed, .load i D r => (match Ev.firstOf (loadTake ops listed) (Region.ready .any ops listed) with
    | some k => Nat.beq k i && natsB D (depsGo listed i ops.toList 0 []) && okD ops.toList listed i D && planB ops fuel (listed.setIfInBounds i true) r
    | none => false)
  | fuel + 1, listed, .eff i r ms => (match Region.ready .any ops listed with
    | i0 :: more => Nat.beq i0 i && effAt ops i && more.all (effAt ops) && planB ops fuel (listed.setIfInBounds i true) r && plansB (fun j r => planB ops fuel (listed.setIfInBounds j true) r) more ms
    | [] => false)
/-- a state says no less than another one -/
def Sub (G : Gx) (s s' : PSt) : Prop := ∀ I β a w, Rel G I β s a w → ∃ I' β', Rel G I' β' s' a w ∧ Goes I β s w I' β' s' w
mutual
def runPlan (G : Gx) (ops : List Oper) : Plan → PSt → List Pin → (PSt → Prop) → Prop
  | .done, s, _, K => K s
  | .pure i r, s, pins, K => need ops[i]? fun o => pguard ops s o (fun s => ppure G.cx s o.op fun v => s.put o.dst v fun s => runPlan G ops r s pins K) (fun s => s.put o.dst (.tup []) fun s => runPlan G ops r s pins K)
  | .load i D r, s, pins, K => need ops[i]? fun o => pguard ops s o (fun s => match o.op with
      | .load t ad => s.ev ad fun x => pload G s.st t x fun v => s.put o.dst v fun s => runPlan G ops r s (addPin D x pins) K
      | _ => False) (fun s => s.put o.dst (.tup []) fun s => runPlan G ops r s pins K)
  | .eff i r ms, s, pins, K => need ops[i]? fun o => match ms with
    | .nil => prun1 G ops s i o pins fun s1 => runPlan G ops r s1 (unpinP i pins) K
    | .cons j r' ms' => prun1 G ops s i o pins fun s1 => runPlan G ops r s1 (unpinP i pins) fun sf => K sf ∧ (need ops[j]? fun o => prun1 G ops s j o pins fun s2 => runPlan G ops r' s2 (unpinP j pins) fun sf2 => sf2 = sf) ∧ runPlans G ops ms' s pins sf
    | .sub j r' ms' => prun1 G ops s i o pins fun s1 => runPlan G ops r s1 (unpinP i pins) fun sf => ∃ sf0, Sub G sf sf0 ∧ K sf0 ∧ (need ops[j]? fun o => prun1 G ops s j o pins fun s2 => runPlan G ops r' s2 (unpinP j pins) fun sf2 => Sub G sf2 sf0) ∧ runSubs G ops ms' s pins sf0
    | .alt j r' ms' => (prun1 G ops s i o pins fun s1 => runPlan G ops r s1 (unpinP i pins) K) ∧ (need ops[j]? fun o => prun1 G ops s j o pins fun s2 => runPlan G ops r' s2 (unpinP j pins) K) ∧ runAlts G ops ms' s pins K
def runPlans (G : Gx) (ops : List Oper) : Plans → PSt → List Pin → PSt → Prop
  | .nil, _, _, _ => True
  | .cons j r ms, s, pins, sf => (need ops[j]? fun o => prun1 G ops s j o pins fun s2 => runPlan G ops r s2 (unpinP j pins) fun sf2 => sf2 = sf) ∧ runPlans G ops ms s pins sf
  | .alt _ _ _, _, _, _ => False
  | .sub _ _ _, _, _, _ => False
/-- other orders, each of which ends in no less than is known of the first -/
def runSubs (G : Gx) (ops : List Oper) : Plans → PSt → List Pin → PSt → Prop
  | .nil, _, _, _ => True
  | .sub j r ms, s, pins, sf => (need ops[j]? fun o => prun1 G ops s j o pins fun s2 => runPlan G ops r s2 (unpinP j pins) fun sf2 => Sub G sf2 sf) ∧ runSubs G ops ms s pins sf
  | .cons _ _ _, _, _, _ => False
  | .alt _ _ _, _, _, _ => False
/-- other orders, each of which ends as is asked by itself -/
def runAlts (G : Gx) (ops : List Oper) : Plans → PSt → List Pin → (PSt → Prop) → Prop
  | .nil, _, _, _ => True
  | .alt j r ms, s, pins, K => (need ops[j]? fun o => prun1 G ops s j o pins fun s2 => runPlan G ops r s2 (unpinP j pins) K) ∧ runAlts G ops ms s pins K
  | .cons _ _ _, _, _, _ => False
  | .sub _ _ _, _, _, _ => False
end

section
variable {w w' : World} {I I' : Nat → Prop} {β β' : Places} {G : Gx} {s : PSt} {a : Act} {st st' : List PBlk} {ops : Array Oper}

theorem plansB_mem {chk : Nat → Plan → Bool} : ∀ {l : List Nat} {ms : Plans}, plansB chk l ms = true → ∀ {pins : List Pin} {sf : PSt}, runPlans G ops.toList ms s pins sf → ∀ j ∈ l, ∃ r, chk j r = true ∧ need ops.toList[j]? fun o => prun1 G ops.toList s j o pins fun s2 => runPlan G ops.toList r s2 (unpinP j pins) fun sf2 => sf2 = sf
  | [], _, _, _, _, _, _, hj => by cases hj
  | i :: l, .nil, h, _, _, _, _, _ => by cases h
  | i :: l, .alt k r ms, h, pins, sf, hr, j, hj => by unfold runPlans at hr; exact hr.elim
  | i :: l, .sub k r ms, h, pins, sf, hr, j, hj => by unfold runPlans at hr; exact hr.elim
  | i :: l, .cons k r ms, h, pins, sf, hr, j, hj => by
    simp only [plansB, Bool.and_eq_true] at h
    obtain ⟨⟨h1, h2⟩, h3⟩ := h
    obtain rfl := Nat.eq_of_beq_eq_true h1
    unfold runPlans at hr
    rcases List.mem_cons.1 hj with rfl | hj
    · exact ⟨r, h2, hr.1⟩
    · exact plansB_mem h3 hr.2 j hj
theorem plansB_memA {chk : Nat → Plan → Bool} : ∀ {l : List Nat} {ms : Plans}, plansB chk l ms = true → ∀ {pins : List Pin} {K : PSt → Prop}, runAlts G ops.toList ms s pins K → ∀ j ∈ l, ∃ r, chk j r = true ∧ need ops.toList[j]? fun o => prun1 G ops.toList s j o pins fun s2 => runPlan G ops.toList r s2 (unpinP j pins) K
  | [], _, _, _, _, _, _, hj => by cases hj
  | i :: l, .nil, h, _, _, _, _, _ => by cases h
  | i :: l, .cons k r ms, h, pins, K, hr, j, hj => by unfold runAlts at hr; exact hr.elim
  | i :: l, .sub k r ms, h, pins, K, hr, j, hj => by unfold runAlts at hr; exact hr.elim
  | i :: l, .alt k r ms, h, pins, K, hr, j, hj => by
    simp only [plansB, Bool.and_eq_true] at h
    obtain ⟨⟨h1, h2⟩, h3⟩ := h
    obtain rfl := Nat.eq_of_beq_eq_true h1
    unfold runAlts at hr
    rcases List.mem_cons.1 hj with rfl | hj
    · exact ⟨r, h2, hr.1⟩
    · exact plansB_memA h3 hr.2 j hj
theorem plansB_memS {chk : Nat → Plan → Bool} : ∀ {l : List Nat} {ms : Plans}, plansB chk l ms = true → ∀ {pins : List Pin} {sf : PSt}, runSubs G ops.toList ms s pins sf → ∀ j ∈ l, ∃ r, chk j r = true ∧ need ops.toList[j]? fun o => prun1 G ops.toList s j o pins fun s2 => runPlan G ops.toList r s2 (unpinP j pins) fun sf2 => Sub G sf2 sf
  | [], _, _, _, _, _, _, hj => by cases hj
  | i :: l, .nil, h, _, _, _, _, _ => by cases h
  | i :: l, .cons k r ms, h, pins, sf, hr, j, hj => by unfold runSubs at hr; exact hr.elim
  | i :: l, .alt k r ms, h, pins, sf, hr, j, hj => by unfold runSubs at hr; exact hr.elim
  | i :: l, .sub k r ms, h, pins, sf, hr, j, hj => by
    simp only [plansB, Bool.and_eq_true] at h
    obtain ⟨⟨h1, h2⟩, h3⟩ := h
    obtain rfl := Nat.eq_of_beq_eq_true h1
    unfold runSubs at hr
    rcases List.mem_cons.1 hj with rfl | hj
    · exact ⟨r, h2, hr.1⟩
    · exact plansB_memS h3 hr.2 j hj
theorem effAt_ok {i : Nat} {o : Oper} (ho : ops[i]? = some o) (h : effAt ops i = true) : eff o.op = true := by unfold effAt at h; rw [ho] at h; exact h

theorem runPlan_ok (hG : GOk G) (hsel : Region.noSelect ops = true) : ∀ (fuel : Nat) (p : Plan) (Q : Exit → Act → World → Prop) (l : Array Bool) (s : PSt) (a : Act) (I : Nat → Prop) (β : Places) (w : World) (pins : List Pin) (ys : List PinY) (K : PSt → Prop),
    planB ops fuel l p = true → runPlan G ops.toList p s pins K → Rel G I β s a w → PinsOk pins ys I β s.st w → (∀ s' I' β' a' w', K s' → Rel G I' β' s' a' w' → Goes I β s w I' β' s' w' → Q .normal a' w') → AnyP G.cx.P ops Q fuel l a (fun w2 => w2 = w) ys := by
  intro fuel
  have fin : ∀ (fuel : Nat) (Q : Exit → Act → World → Prop) (l : Array Bool) (s : PSt) (a : Act) (I : Nat → Prop) (β : Places) (w : World) (ys : List PinY) (K : PSt → Prop), (Region.ready .any ops l).isEmpty = true → K s → Rel G I β s a w → (∀ s' I' β' a' w', K s' → Rel G I' β' s' a' w' → Goes I β s w I' β' s' w' → Q .normal a' w') → AnyP G.cx.P ops Q fuel l a (fun w2 => w2 = w) ys := by
    intro fuel Q l s a I β w ys K hr h hR hQ
    have hr' : Region.ready .any ops l = [] := by simpa using hr
    cases fuel with
    | zero => exact ⟨hr', fun w2 hw => by subst hw; exact hQ s I β a w2 h hR (Goes.same ⟨rfl, rfl, rfl, rfl⟩)⟩
    | succ fuel => exact ⟨fun _ w2 hw => by subst hw; exact hQ s I β a w2 h hR (Goes.same ⟨rfl, rfl, rfl, rfl⟩), fun i hi => by rw [hr'] at hi; cases hi⟩
  induction fuel with
  | zero =>
    intro p Q l s a I β w pins ys K hp h hR _ hQ
    cases p with
    | done => exact fin 0 Q l s a I β w ys K (by simpa only [planB] using hp) (by simpa only [runPlan] using h) hR hQ
    | pure => simp [planB] at hp
    | load => simp [planB] at hp
    | eff => simp [planB] at hp
  | succ fuel ih =>
    intro p Q l s a I β w pins ys K hp h hR hpo hQ
    cases p with
    | done => exact fin (fuel + 1) Q l s a I β w ys K (by simpa only [planB] using hp) (by simpa only [runPlan] using h) hR hQ
    | pure i r =>
      simp only [planB] at hp
      split at hp
      · rename_i k hfirst
        simp only [Bool.and_eq_true] at hp
        obtain ⟨hk, hp⟩ := hp
        obtain rfl := Nat.eq_of_beq_eq_true hk
        obtain ⟨hmem, htake⟩ := Ev.firstOf_some hfirst
        unfold runPlan at h
        replace h := need_ok h
        obtain ⟨o, ho, h⟩ := h
        rw [Array.getElem?_toList] at ho
        unfold pureTake at htake
        rw [ho] at htake
        simp only [Bool.and_eq_true] at htake
        have he : eff o.op = false := by unfold eff; rw [htake.1]; rfl
        rcases pguard_ok hR h with ⟨hwant, s1, h1, hs1, hR1⟩ | ⟨hwant, s1, h1, hs1, hR1⟩
        · obtain ⟨x, v, h1, hx, hrun⟩ := ppure_ok hG.ok hR1 h1
          obtain ⟨s3, h3, hs3, hr3⟩ := PSt.put_ok (G := G) h1
          refine AnyP.first (v := v) (D := []) (Y := fun _ => True) ho he hsel fuel l a _ ys (Region.free_spec ho htake.2) (fun j hj => by cases hj) (.inl ⟨hwant, fun w2 _ => hrun w2⟩) (fun _ _ => trivial) hmem (AnyP.addTrue _ _ _ _ _ ?_)
          exact ih r Q _ s3 _ I β w pins ys K hp h3 (hr3 _ _ _ _ _ hR1 hx) (by rw [hs3.st, hs1.st]; exact hpo) (fun s' I' β' a' w' hk hR' hg => hQ s' I' β' a' w' hk hR' (((Goes.same hs1).trans (Goes.same hs3)).trans hg))
        · obtain ⟨s3, h3, hs3, hr3⟩ := PSt.put_ok (G := G) h1
          refine AnyP.first (v := undef) (D := []) (Y := fun _ => True) ho he hsel fuel l a _ ys (Region.free_spec ho htake.2) (fun j hj => by cases hj) (.inr ⟨hwant, rfl⟩) (fun _ _ => trivial) hmem (AnyP.addTrue _ _ _ _ _ ?_)
          exact ih r Q _ s3 _ I β w pins ys K hp h3 (hr3 _ _ _ _ _ hR1 Is.undef) (by rw [hs3.st, hs1.st]; exact hpo) (fun s' I' β' a' w' hk hR' hg => hQ s' I' β' a' w' hk hR' (((Goes.same hs1).trans (Goes.same hs3)).trans hg))
      · cases hp
    | load i D r =>
      simp only [planB] at hp
      split at hp
      · rename_i k hfirst
        simp only [Bool.and_eq_true] at hp
        obtain ⟨⟨⟨hk, hDe⟩, hD⟩, hp⟩ := hp
        obtain rfl := Nat.eq_of_beq_eq_true hk
        obtain ⟨hmem, htake⟩ := Ev.firstOf_some hfirst
        unfold runPlan at h
        replace h := need_ok h
        obtain ⟨o, ho, h⟩ := h
        rw [Array.getElem?_toList] at ho
        unfold loadTake at htake
        rw [ho] at htake
        simp only [Bool.and_eq_true] at htake
        have he : eff o.op = false := by unfold eff; rw [htake.1, Bool.or_true]; rfl
        rcases pguard_ok hR h with ⟨hwant, s1, h1, hs1, hR1⟩ | ⟨hwant, s1, h1, hs1, hR1⟩
        · split at h1
          · rename_i t ad hop
            replace h1 := PSt.ev_ok hR1 h1
            obtain ⟨x, h1, hx⟩ := h1
            obtain ⟨z, v, g, h1, hz, hg, hrun⟩ := pload_ok hG.ok hR1.heap hR1.imm h1 hx
            obtain ⟨s3, h3, hs3, hr3⟩ := PSt.put_ok (G := G) h1
            have hrun' : ∀ w2 : World, w2.heap[g]? = w.heap[g]? → (execOp a.eval o).run G.cx.P w2 = .ok (.value v) w2 := fun w2 hw2 => by
              unfold execOp
              rw [hop]
              simp only [Sem.run_bind, hrun w2 hw2, Result.andThen_ok, Sem.run_pure]
            have hgl : g < w.heap.size := by
              rcases hg with hg | ⟨l', b, p, o', _, hb, hlive, hpl, hpa⟩
              · exact hR.imm.imm g hg
              · exact hR1.heap.lives_lt ⟨l', b, p, o', hb, hlive, hpl, hpa⟩
            refine AnyP.first (v := v) (D := D) (Y := fun w2 => w2.heap[g]? = w.heap[g]?) ho he hsel fuel l a _ ys (Region.free_spec ho htake.2) (okD_ok hD) (.inl ⟨hwant, hrun'⟩) (fun w2 hw2 => by rw [hw2]) hmem ?_
            refine ih r Q _ s3 _ I β w (addPin D x pins) _ K hp h3 (hr3 _ _ _ _ _ hR1 hz) ?_ (fun s' I' β' a' w' hk hR' hg => hQ s' I' β' a' w' hk hR' (((Goes.same hs1).trans (Goes.same hs3)).trans hg))
            rw [hs3.st, hs1.st]
            intro y hy
            rcases List.mem_cons.1 hy with rfl | hy
            · refine .inr ⟨g, fun _ => Iff.rfl, hgl, ?_⟩
              rcases hg with hg | ⟨l', b, p, o', hblk, hb, hlive, hpl, hpa⟩
              · exact .inl hg
              · refine .inr ⟨⟨D, l'⟩, by unfold addPin; rw [hblk]; exact List.mem_cons_self, rfl, b, p, o', by rw [← hs1.st]; exact hb, hlive, hpl, hpa⟩
            · rcases hpo y hy with h | ⟨g', k1, k2, k3⟩
              · exact .inl h
              · refine .inr ⟨g', k1, k2, k3.imp id fun ⟨p, hpm, k4⟩ => ⟨p, ?_, k4⟩⟩
                unfold addPin
                split
                · exact List.mem_cons_of_mem _ hpm
                · exact hpm
          · exact h1.elim
        · obtain ⟨s3, h3, hs3, hr3⟩ := PSt.put_ok (G := G) h1
          refine AnyP.first (v := undef) (D := []) (Y := fun _ => True) ho he hsel fuel l a _ ys (Region.free_spec ho htake.2) (fun j hj => by cases hj) (.inr ⟨hwant, rfl⟩) (fun _ _ => trivial) hmem (AnyP.addTrue _ _ _ _ _ ?_)
          exact ih r Q _ s3 _ I β w pins ys K hp h3 (hr3 _ _ _ _ _ hR1 Is.undef) (by rw [hs3.st, hs1.st]; exact hpo) (fun s' I' β' a' w' hk hR' hg => hQ s' I' β' a' w' hk hR' (((Goes.same hs1).trans (Goes.same hs3)).trans hg))
      · cases hp
    | eff i r ms =>
      simp only [planB] at hp
      split at hp
      · rename_i i0 more hrdy
        simp only [Bool.and_eq_true] at hp
        obtain ⟨⟨⟨⟨hk, hei⟩, hem⟩, hpr⟩, hpm⟩ := hp
        obtain rfl := Nat.eq_of_beq_eq_true hk
        rw [List.all_eq_true] at hem
        unfold runPlan at h
        replace h := need_ok h
        obtain ⟨o, ho, h⟩ := h
        rw [Array.getElem?_toList] at ho
        have he := effAt_ok ho hei
        have hne : Region.ready .any ops l ≠ [] := by rw [hrdy]; simp
        -- one of them, then the rest
        have go : ∀ {j : Nat} {oj : Oper} {rj : Plan} {K' : PSt → Prop}, planB ops fuel (l.setIfInBounds j true) rj = true → ops[j]? = some oj → eff oj.op = true → (prun1 G ops.toList s j oj pins fun s1 => runPlan G ops.toList rj s1 (unpinP j pins) K') → (∀ sf, K' sf → K sf) →
            (eff oj.op = false → ∃ v, Yields G.cx.P ops (fun w2 => w2 = w) oj v a ∧ AnyP G.cx.P ops Q fuel (l.setIfInBounds j true) (a.put oj.dst v) (fun w2 => w2 = w) (unpin j ys)) ∧
            (eff oj.op = true → ∀ w2, w2 = w → Ev.Does G.cx.P ops oj a w2 fun v w' => ∃ S' : World → Prop, (∀ p ∈ unpin j ys, ∀ w, S' w → p.Y w) ∧ S' w' ∧ AnyP G.cx.P ops Q fuel (l.setIfInBounds j true) (a.put oj.dst v) S' (unpin j ys)) := by
          intro j oj rj K' hpj hoj hej h' hK
          refine ⟨(fun e => by rw [hej] at e; cases e), fun _ w2 hw2 => ?_⟩
          subst hw2
          refine does_mono ?_ (prun1_ok hG h' hR hpo)
          rintro v w' ⟨s', I', β', hk, hR', hg, hY, hp'⟩
          refine ⟨fun w2 => w2 = w', fun p hp w2 hw2 => by rw [hw2]; exact hY p hp, rfl, ?_⟩
          exact ih rj Q _ s' _ I' β' w' _ _ K' hpj hk hR' hp' fun s2 I2 β2 a2 w3 hk2 hR2 hg2 => hQ s2 I2 β2 a2 w3 (hK s2 hk2) hR2 (hg.trans hg2)
        have goS : ∀ {j : Nat} {oj : Oper} {rj : Plan} {K' : PSt → Prop}, planB ops fuel (l.setIfInBounds j true) rj = true → ops[j]? = some oj → eff oj.op = true → (prun1 G ops.toList s j oj pins fun s1 => runPlan G ops.toList rj s1 (unpinP j pins) K') → (∀ sf, K' sf → ∃ sf0, Sub G sf sf0 ∧ K sf0) →
            (eff oj.op = false → ∃ v, Yields G.cx.P ops (fun w2 => w2 = w) oj v a ∧ AnyP G.cx.P ops Q fuel (l.setIfInBounds j true) (a.put oj.dst v) (fun w2 => w2 = w) (unpin j ys)) ∧
            (eff oj.op = true → ∀ w2, w2 = w → Ev.Does G.cx.P ops oj a w2 fun v w' => ∃ S' : World → Prop, (∀ p ∈ unpin j ys, ∀ w, S' w → p.Y w) ∧ S' w' ∧ AnyP G.cx.P ops Q fuel (l.setIfInBounds j true) (a.put oj.dst v) S' (unpin j ys)) := by
          intro j oj rj K' hpj hoj hej h' hK
          refine ⟨(fun e => by rw [hej] at e; cases e), fun _ w2 hw2 => ?_⟩
          subst hw2
          refine does_mono ?_ (prun1_ok hG h' hR hpo)
          rintro v w' ⟨s', I', β', hk, hR', hg, hY, hp'⟩
          refine ⟨fun w2 => w2 = w', fun p hp w2 hw2 => by rw [hw2]; exact hY p hp, rfl, ?_⟩
          exact ih rj Q _ s' _ I' β' w' _ _ K' hpj hk hR' hp' fun s2 I2 β2 a2 w3 hk2 hR2 hg2 => by
            obtain ⟨sf0, hs, hk0⟩ := hK s2 hk2
            obtain ⟨I3, β3, hR3, hg3⟩ := hs I2 β2 a2 w3 hR2
            exact hQ sf0 I3 β3 a2 w3 hk0 hR3 ((hg.trans hg2).trans hg3)
        cases ms with
        | nil =>
          cases more with
          | cons => simp [plansB] at hpm
          | nil =>
            refine ⟨fun e => absurd e hne, fun j hj oj hoj => ?_⟩
            rw [hrdy, List.mem_singleton] at hj
            subst hj
            rw [ho] at hoj
            cases hoj
            exact go hpr ho he h fun _ hk => hk
        | cons j0 r0 ms0 =>
          have hall : ∀ sf, ((need ops.toList[j0]? fun o => prun1 G ops.toList s j0 o pins fun s2 => runPlan G ops.toList r0 s2 (unpinP j0 pins) fun sf2 => sf2 = sf) ∧ runPlans G ops.toList ms0 s pins sf) → runPlans G ops.toList (.cons j0 r0 ms0) s pins sf := fun sf h => by unfold runPlans; exact h
          -- what the first order comes to
          obtain ⟨sf, hKf, hothers⟩ : ∃ sf, K sf ∧ runPlans G ops.toList (.cons j0 r0 ms0) s pins sf := by
            obtain ⟨v, w', s', I', β', hk, hR', hg, hY, hp'⟩ := does_exists (prun1_ok hG h hR hpo)
            have hA := ih r (fun _ _ _ => ∃ sf, K sf ∧ runPlans G ops.toList (.cons j0 r0 ms0) s pins sf) _ s' (a.put o.dst v) I' β' w' _ _ _ hpr hk hR' hp' fun s2 I2 β2 a2 w3 hk2 _ _ => ⟨s2, hk2.1, hall _ hk2.2⟩
            obtain ⟨_, _, h3⟩ := AnyP.ends _ _ _ _ _ w' hA rfl
            exact h3
          refine ⟨fun e => absurd e hne, fun j hj oj hoj => ?_⟩
          rw [hrdy] at hj
          rcases List.mem_cons.1 hj with rfl | hj
          · rw [ho] at hoj
            cases hoj
            exact go hpr ho he h fun _ hk => hk.1
          · obtain ⟨rj, hrj, h2⟩ := plansB_mem hpm hothers j hj
            replace h2 := need_ok h2
            obtain ⟨oj', hoj', h2⟩ := h2
            rw [Array.getElem?_toList, hoj] at hoj'
            cases hoj'
            exact go hrj hoj (effAt_ok hoj (hem j hj)) h2 fun sf2 e => by rw [e]; exact hKf
        | sub j0 r0 ms0 =>
          have hall : ∀ sf, ((need ops.toList[j0]? fun o => prun1 G ops.toList s j0 o pins fun s2 => runPlan G ops.toList r0 s2 (unpinP j0 pins) fun sf2 => Sub G sf2 sf) ∧ runSubs G ops.toList ms0 s pins sf) → runSubs G ops.toList (.sub j0 r0 ms0) s pins sf := fun sf h => by unfold runSubs; exact h
          obtain ⟨sf, hKf, hothers⟩ : ∃ sf, K sf ∧ runSubs G ops.toList (.sub j0 r0 ms0) s pins sf := by
            obtain ⟨v, w', s', I', β', hk, hR', hg, hY, hp'⟩ := does_exists (prun1_ok hG h hR hpo)
            have hA := ih r (fun _ _ _ => ∃ sf, K sf ∧ runSubs G ops.toList (.sub j0 r0 ms0) s pins sf) _ s' (a.put o.dst v) I' β' w' _ _ _ hpr hk hR' hp' fun s2 I2 β2 a2 w3 hk2 _ _ => let ⟨sf0, _, h2, h3⟩ := hk2; ⟨sf0, h2, hall _ h3⟩
            obtain ⟨_, _, h3⟩ := AnyP.ends _ _ _ _ _ w' hA rfl
            exact h3
          refine ⟨fun e => absurd e hne, fun j hj oj hoj => ?_⟩
          rw [hrdy] at hj
          rcases List.mem_cons.1 hj with rfl | hj
          · rw [ho] at hoj
            cases hoj
            exact goS hpr ho he h fun _ hk => let ⟨sf0, h1, h2, _⟩ := hk; ⟨sf0, h1, h2⟩
          · obtain ⟨rj, hrj, h2⟩ := plansB_memS hpm hothers j hj
            replace h2 := need_ok h2
            obtain ⟨oj', hoj', h2⟩ := h2
            rw [Array.getElem?_toList, hoj] at hoj'
            cases hoj'
            exact goS hrj hoj (effAt_ok hoj (hem j hj)) h2 fun sf2 e => ⟨sf, e, hKf⟩
        | alt j0 r0 ms0 =>
          obtain ⟨h, hothers⟩ := h
          have hall : runAlts G ops.toList (.alt j0 r0 ms0) s pins K := by unfold runAlts; exact hothers
          refine ⟨fun e => absurd e hne, fun j hj oj hoj => ?_⟩
          rw [hrdy] at hj
          rcases List.mem_cons.1 hj with rfl | hj
          · rw [ho] at hoj
            cases hoj
            exact go hpr ho he h fun _ hk => hk
          · obtain ⟨rj, hrj, h2⟩ := plansB_memA hpm hall j hj
            replace h2 := need_ok h2
            obtain ⟨oj', hoj', h2⟩ := h2
            rw [Array.getElem?_toList, hoj] at hoj'
            cases hoj'
            exact go hrj hoj (effAt_ok hoj (hem j hj)) h2 fun _ hk => hk
      · cases hp
end

end Go.Proofs.YtjcacjeoddnmhaaDoor.Pw

/- Code, and calls from their arguments, as the evaluator says; loops. -/
namespace Go.Proofs.YtjcacjeoddnmhaaDoor.Pw
open Go Go.RowKit

/-! ### code -/
def seqK (k : PSt → Prop) (Q : X → PSt → Prop) (x : X) (s : PSt) : Prop := match x with
  | .nml => k s
  | x => Q x s
def blockK (id : Nat) (Q : X → PSt → Prop) (x : X) (s : PSt) : Prop := match x with
  | .exit j => bif Nat.beq j id then Q .nml s else Q (.exit j) s
  | x => Q x s
def condK (s : PSt) (c : Operand) (t e : PSt → Prop) : Prop := s.ev c fun x => match x with
  | .tt => t s
  | .ff => e s
  | .bool p => (match c with
    | .tmp i => (p → s.put (some i) .tt t) ∧ (¬ p → s.put (some i) .ff e)
    | _ => (p → t s) ∧ (¬ p → e s))
  | _ => False
/-- the plans are those of the code's regions -/
def planAll (R : List (Nat × Plan)) : Code → Bool
  | .region id ops true => (match Ev.lkT id R with
    | some p => Region.noSelect ops && planB ops ops.size (Array.replicate ops.size false) p
    | none => true)
  | .seq a b => planAll R a && planAll R b
  | .cond _ a b => planAll R a && planAll R b
  | .block _ c => planAll R c
  | .scope c => planAll R c
  | .loop c => planAll R c
  | _ => true
def pw (G : Gx) (R : List (Nat × Plan)) : Nat → Code → (X → PSt → Prop) → PSt → Prop
  | 0, _, _, _ => False
  | n + 1, c, Q, s => match c with
    | .skip | .label _ => Q .nml s
    | .ret => Q .ret s
    | .exit id => Q (.exit id) s
    | .seq a b => pw G R n a (seqK (pw G R n b Q) Q) s
    | .cond c a b => condK s c (pw G R n a Q) (pw G R n b Q)
    | .block id c => pw G R n c (blockK id Q) s
    | .scope c => pw G R n c Q s
    | .loop c => SW G (.loop c) Q s
    | .region id ops draw => (match draw with
      | true => need (Ev.lkT id R) fun p => runPlan G ops.toList p s [] (Q .nml)
      | false => pops G ops.toList Q ops.toList s)
    | _ => False

section
variable {w w' : World} {I I' : Nat → Prop} {β β' : Places} {G : Gx} {s : PSt} {a : Act} {st st' : List PBlk}

theorem Post.of {Q : X → PSt → Prop} {x : X} {s' : PSt} {w0 : World} (hq : Q x s') {a' : Act} (hR : Rel G I' β' s' a' w') (hg : Goes I β s w0 I' β' s' w') : Post G s I β w0 Q (X.e x) a' w' :=
  ⟨x, s', I', β', rfl, hq, hR, hg.ext, hg.base, hg.rl, hg.n, hg.low⟩
theorem Post.goes {Q : X → PSt → Prop} {e : Exit} {a' : Act} (h : Post G s I β w Q e a' w') : ∃ x s' I' β', e = X.e x ∧ Q x s' ∧ Rel G I' β' s' a' w' ∧ Goes I β s w I' β' s' w' :=
  let ⟨x, s', I', β', he, hq, hR, h1, h2, h3, h4, h5⟩ := h; ⟨x, s', I', β', he, hq, hR, h1, h2, h3, h4, h5⟩
theorem SW.intro {c : Code} {Q : X → PSt → Prop} (h : ∀ I β a w, Rel G I β s a w → c.wp G.cx.P (Post G s I β w Q) a w) : SW G c Q s := by unfold SW; exact h
theorem SW.run {c : Code} {Q : X → PSt → Prop} (h : SW G c Q s) (hR : Rel G I β s a w) : c.wp G.cx.P (Post G s I β w Q) a w := by unfold SW at h; exact h I β a w hR
/-- from where one is already -/
theorem SW.from {c : Code} {Q : X → PSt → Prop} {s0 : PSt} {I0 : Nat → Prop} {β0 : Places} {w0 : World} (h : SW G c Q s) (hR : Rel G I β s a w) (hg : Goes I0 β0 s0 w0 I β s w) : c.wp G.cx.P (Post G s0 I0 β0 w0 Q) a w :=
  wp_mono (h.run hR) fun e a' w' hp => by
    obtain ⟨x, s', I', β', rfl, hq, hR', hg'⟩ := hp.goes
    exact Post.of hq hR' (hg.trans hg')
theorem Ext.ofHeap (hh : w'.heap = w.heap) (h1 : w'.os = w.os) (h2 : w'.tape = w.tape) (h3 : w'.output = w.output) : Ext I β st w I β st w' :=
  ⟨h1, h2, h3, by rw [hh]; exact Nat.le_refl _, fun g _ _ => by rw [hh], fun _ _ h => h, fun _ h => h, fun _ _ h => .inl h⟩
theorem HeapOk.ofHeap (h : HeapOk I β st w) (hh : w'.heap = w.heap) : HeapOk I β st w' :=
  ⟨h.far, fun l b hl hlive => (h.blk l b hl hlive).mono (fun _ h => h) (fun _ _ => by rw [hh]) (fun _ _ h => h) fun p g o hp ha => ⟨by rw [hh], fun hr => by
    obtain ⟨_, _, fr, _, ho⟩ := (h.blk l b hl hlive).place hp ha
    exact ⟨(ho.1 hr).2.1, (ho.1 hr).2.2⟩⟩⟩
theorem store_self (s : PSt) : s.store s.st = s := by cases s; rfl
theorem Rel.ofHeap (hR : Rel G I β s a w) (hh : w'.heap = w.heap) (h1 : w'.os = w.os) (h2 : w'.tape = w.tape) (h3 : w'.output = w.output) : Rel G I β s a w' := by
  have := hR.grow (hR.heap.ofHeap hh) (Ext.ofHeap hh h1 h2 h3) (fun _ _ h => h) (Nat.le_refl _) (fun g hg => by rw [hh]; exact hR.imm.imm g hg)
  rwa [store_self] at this

theorem condK_ok {c : Operand} {t e : PSt → Prop} (hR : Rel G I β s a w) (h : condK s c t e) : ∃ b s', a.eval c = .bool b ∧ (if b then t s' else e s') ∧ SameBut s s' ∧ Rel G I β s' a w := by
  have same : SameBut s s := ⟨rfl, rfl, rfl, rfl⟩
  unfold condK at h
  cases c with
  | tmp i =>
    replace h := need_ok h
    obtain ⟨x, hx, h⟩ := h
    obtain ⟨v, hv, hi⟩ := hR.get i x hx
    have he : a.eval (.tmp i) = v := by simp only [Act.eval, Array.getD_eq_getD_getElem?, hv, Option.getD_some]
    rw [he]
    split at h <;> try simp only [PV.Is] at hi
    · exact ⟨true, s, hi, h, same, hR⟩
    · exact ⟨false, s, hi, h, same, hR⟩
    · rename_i p
      by_cases hp : p
      · obtain ⟨s', hk, hs, hr⟩ := PSt.refine_ok hR hv (x := .tt) (by rw [hi, pb_true hp]; exact Is.tt) (h.1 hp)
        exact ⟨true, s', by rw [hi, pb_true hp], hk, hs, hr⟩
      · obtain ⟨s', hk, hs, hr⟩ := PSt.refine_ok hR hv (x := .ff) (by rw [hi, pb_false hp]; exact Is.ff) (h.2 hp)
        exact ⟨false, s', by rw [hi, pb_false hp], hk, hs, hr⟩
    · exact h.elim
  | _ =>
    replace h := PSt.ev_ok hR h
    obtain ⟨x, h, hx⟩ := h
    split at h <;> try simp only [PV.Is] at hx
    · exact ⟨true, s, hx, h, same, hR⟩
    · exact ⟨false, s, hx, h, same, hR⟩
    · rename_i p
      by_cases hp : p
      · exact ⟨true, s, by rw [hx, pb_true hp], h.1 hp, same, hR⟩
      · exact ⟨false, s, by rw [hx, pb_false hp], h.2 hp, same, hR⟩
    · exact h.elim

theorem pw_ok (hG : GOk G) {R : List (Nat × Plan)} : ∀ (n : Nat) (c : Code) (Q : X → PSt → Prop) (s : PSt), planAll R c = true → pw G R n c Q s → SW G c Q s
  | 0, _, _, _, _, h => h.elim
  | n + 1, c, Q, s, hc, h => by
    cases c with
    | skip => exact SW.intro fun I β a w hR => wp_skip (Post.of (x := .nml) h hR (Goes.same ⟨rfl, rfl, rfl, rfl⟩))
    | label l => exact SW.intro fun I β a w hR => wp_label (Post.of (x := .nml) h hR (Goes.same ⟨rfl, rfl, rfl, rfl⟩))
    | ret => exact SW.intro fun I β a w hR => wp_ret (Post.of (x := .ret) h hR (Goes.same ⟨rfl, rfl, rfl, rfl⟩))
    | exit id => exact SW.intro fun I β a w hR => wp_exit (Post.of (x := .exit id) h hR (Goes.same ⟨rfl, rfl, rfl, rfl⟩))
    | seq x y =>
      simp only [planAll, Bool.and_eq_true] at hc
      have h1 := pw_ok hG n x _ s hc.1 h
      refine SW.intro fun I β a w hR => wp_seq (wp_mono (h1.run hR) fun e a' w' hp => ?_)
      obtain ⟨x', s', I', β', rfl, hq, hR', hg⟩ := hp.goes
      cases x' with
      | nml => exact (pw_ok hG n y Q s' hc.2 hq).from hR' hg
      | exit id => exact Post.of (Q := Q) (x := .exit id) hq hR' hg
      | ret => exact Post.of (Q := Q) (x := .ret) hq hR' hg
    | cond c x y =>
      simp only [planAll, Bool.and_eq_true] at hc
      refine SW.intro fun I β a w hR => ?_
      obtain ⟨b, s', he, hk, hs, hR'⟩ := condK_ok hR h
      refine wp_cond he ?_
      cases b with
      | true => exact (pw_ok hG n x Q s' hc.1 hk).from hR' (Goes.same hs)
      | false => exact (pw_ok hG n y Q s' hc.2 hk).from hR' (Goes.same hs)
    | block id c =>
      have h1 := pw_ok hG n c _ s hc h
      refine SW.intro fun I β a w hR => wp_block (wp_mono (h1.run hR) fun e a' w' hp => ?_)
      obtain ⟨x', s', I', β', rfl, hq, hR', hg⟩ := hp.goes
      cases x' with
      | nml => exact Post.of (Q := Q) (x := .nml) hq hR' hg
      | exit j =>
        show Exit.inBlock id _ (.exit j) a' w'
        simp only [Exit.inBlock]
        by_cases hj : j = id
        · subst hj
          rw [if_pos rfl]
          have hq' : Q .nml s' := by simpa [blockK, Nat.beq_refl] using hq
          exact Post.of (x := .nml) hq' hR' hg
        · have hb' : Nat.beq j id = false := by rw [Bool.eq_false_iff]; exact fun e => hj (Nat.eq_of_beq_eq_true e)
          rw [if_neg hj]
          have hq' : Q (.exit j) s' := by simpa [blockK, hb'] using hq
          exact Post.of (x := .exit j) hq' hR' hg
      | ret => exact Post.of (Q := Q) (x := .ret) hq hR' hg
    | scope c =>
      have h1 := pw_ok hG n c _ s hc h
      refine SW.intro fun I β a w hR => wp_scope_straight (wp_mono (h1.run hR) fun e a' w' hp => ?_)
      obtain ⟨x', s', I', β', rfl, hq, hR', hg⟩ := hp.goes
      cases x' with
      | nml => exact Post.of (Q := Q) (x := .nml) hq hR' hg
      | exit j => exact Post.of (Q := Q) (x := .exit j) hq hR' hg
      | ret => exact Post.of (Q := Q) (x := .ret) hq hR' hg
    | loop c => exact h
    | region id ops draw =>
      refine SW.intro fun I β a w hR => ?_
      cases draw with
      | true =>
        obtain ⟨p, hp, h⟩ := need_ok h
        unfold planAll at hc
        rw [hp] at hc
        simp only [Bool.and_eq_true] at hc
        have hR' : Rel G I β s a { w with drawn := w.drawn + 1 } := hR.ofHeap rfl rfl rfl rfl
        have hd : Goes I β s w I β s { w with drawn := w.drawn + 1 } := ⟨Ext.ofHeap rfl rfl rfl rfl, rfl, rfl, rfl, fun _ _ _ => rfl⟩
        have hA := runPlan_ok hG hc.1 ops.size p (Post G s I β w Q) _ s a I β _ [] [] _ hc.2 h hR' (fun y hy => by cases hy) fun s' I' β' a' w' hk hR2 hg => Post.of (Q := Q) (x := .nml) hk hR2 (hd.trans hg)
        exact wp_region_any hG.ok.mix (AnyP.sound _ _ _ _ _ _ hA rfl)
      | false => exact wp_region_list (pops_ok hG _ h hR fun x s' I' β' a' w' hq hR' hg => Post.of hq hR' hg)
    | _ => exact h.elim

/-! ### loops -/
def backK (k : PSt → Prop) (Q : X → PSt → Prop) (x : X) (s : PSt) : Prop := match x with
  | .nml => k s
  | x => Q x s
/-- a loop of no more than n rounds -/
def rnd (G : Gx) (R : List (Nat × Plan)) (N : Nat) (c : Code) (Q : X → PSt → Prop) : Nat → PSt → Prop
  | 0, _ => False
  | n + 1, s => pw G R N c (backK (rnd G R N c Q n) Q) s
theorem SW.rounds (hG : GOk G) (R : List (Nat × Plan)) {N : Nat} {c : Code} {Q : X → PSt → Prop} (hc : planAll R c = true) (n : Nat) (h : rnd G R N c Q n s) : SW G (.loop c) Q s := by
  have key : ∀ (n : Nat) (s0 s : PSt) (I0 I : Nat → Prop) (β0 β : Places) (w0 w : World) (a : Act), rnd G R N c Q n s → Rel G I β s a w → Goes I0 β0 s0 w0 I β s w → Code.rounds G.cx.P c (Post G s0 I0 β0 w0 Q) n a w := by
    intro n
    induction n with
    | zero => intro s0 s I0 I β0 β w0 w a h _ _; exact h.elim
    | succ n ih =>
      intro s0 s I0 I β0 β w0 w a h hR hg
      rw [rounds_succ]
      refine wp_mono ((pw_ok hG N c _ s hc h).run hR) fun e a' w' hp => ?_
      obtain ⟨x', s', I', β', rfl, hq, hR', hg'⟩ := hp.goes
      cases x' with
      | nml => exact ih s0 s' I0 I' β0 β' w0 w' a' hq hR' (hg.trans hg')
      | exit id => exact Post.of (Q := Q) (x := .exit id) hq hR' (hg.trans hg')
      | ret => exact Post.of (Q := Q) (x := .ret) hq hR' (hg.trans hg')
  exact SW.intro fun I β a w hR => wp_loop_rounds n (key n s s I I β β w w a h hR (Goes.same ⟨rfl, rfl, rfl, rfl⟩))
theorem Sub.refl : Sub G s s := fun I β _ _ hR => ⟨I, β, hR, Goes.same ⟨rfl, rfl, rfl, rfl⟩⟩
/-- a loop by what holds at its head: the states inv, of which each round leads to one whose measure is less -/
theorem SW.inv (hG : GOk G) {R : List (Nat × Plan)} {α : Type} (inv : α → PSt) (μ : α → Nat) {N : Nat} {c : Code} {Q : X → PSt → Prop} (hc : planAll R c = true) (x0 : α) (h0 : Sub G s (inv x0)) (K : α → PSt → Prop) (hK : ∀ x s', K x s' → ∃ y, μ y < μ x ∧ Sub G s' (inv y))
    (h : ∀ x, pw G R N c (backK (K x) Q) (inv x)) : SW G (.loop c) Q s := by
  refine SW.intro fun I0 β0 a w hR => ?_
  obtain ⟨I, β, hR1, hg1⟩ := h0 I0 β0 a w hR
  let J : Nat → Act → World → Prop := fun m a w' => ∃ x I β, μ x = m ∧ Rel G I β (inv x) a w' ∧ Goes I0 β0 s w I β (inv x) w'
  have key : ∀ (m : Nat) (a : Act) (w' : World), J m a w' → ∀ (b : Frame) (k : List Item) (cs : List Frame), ∃ e a' w'', Post G s I0 β0 w Q e a' w'' ∧ Arrives G.cx.P (lone (b.at a (.code c :: .inLoop c :: k)) cs w') b k cs e a' w'' := by
    intro m
    induction m using Nat.strongRecOn with
    | _ m ih =>
      rintro a w' ⟨x, I, β, hx, hR, hg⟩ b k cs
      obtain ⟨e, a₁, w₁, hp, harr⟩ := (pw_ok hG N c _ _ hc (h x)).run hR b (.inLoop c :: k) cs
      obtain ⟨x', s', I', β', rfl, hq, hR', hg'⟩ := hp.goes
      cases x' with
      | nml =>
        obtain ⟨y, hy, hs⟩ := hK x s' hq
        obtain ⟨I2, β2, hR2, hg2⟩ := hs I' β' a₁ w₁ hR'
        obtain ⟨e₂, a₂, w₂, hq₂, harr₂⟩ := ih (μ y) (by omega) a₁ w₁ ⟨y, I2, β2, rfl, hR2, (hg.trans hg').trans hg2⟩ b k cs
        exact ⟨e₂, a₂, w₂, hq₂, .of_steps (Steps.trans harr (.one step_inLoop)) harr₂⟩
      | exit id => exact ⟨_, a₁, w₁, Post.of (Q := Q) (x := .exit id) hq hR' (hg.trans hg'), .pass (x := .inLoop c) rfl (fun _ _ => .inl (by simp [X.e])) harr⟩
      | ret => exact ⟨_, a₁, w₁, Post.of (Q := Q) (x := .ret) hq hR' (hg.trans hg'), .pass (x := .inLoop c) rfl (fun _ _ => .inl (by simp [X.e])) harr⟩
  intro b k cs
  obtain ⟨e, a', w', hq, harr⟩ := key (μ x0) a w ⟨x0, I, β, rfl, hR1, hg1⟩ b k cs
  exact ⟨e, a', w', hq, .of_steps (.one step_loop) harr⟩
end

end Go.Proofs.YtjcacjeoddnmhaaDoor.Pw

/- When a state says no more than another one; a loop's head. -/
namespace Go.Proofs.YtjcacjeoddnmhaaDoor.Pw
open Go Go.RowKit

/-- what a value says is said by another one -/
def le1 (x y : PV) : Prop := match x, y with
  | .lit k a, .lit l b => if decide (k = l) then a = b else False
  | .lit k a, .int l b => if decide (k = l) then a = b else False
  | .int k a, .lit l b => if decide (k = l) then a = b else False
  | .int k a, .int l b => if decide (k = l) then a = b else False
  | .tt, .tt => True | .ff, .ff => True
  | .tt, .bool p => p | .ff, .bool p => ¬ p
  | .bool p, .tt => p | .bool p, .ff => ¬ p
  | .bool p, .bool q => p ↔ q
  | .val v, .val u => v = u
  | .nil, .nil => True
  | .nil, .sl _ es => es = []
  | .sl n es, .sl m fs => if Nat.beq n m then es = fs else False
  | .wref l, .wref m => if Nat.beq l m then True else False
  | .mref l, .mref m => if Nat.beq l m then True else False
  | .ref l o n, .ref l' o' n' => if Nat.beq l l' && Nat.beq o o' && Nat.beq n n' then True else False
  | .ptr l o, .ptr l' o' => if Nat.beq l l' && Nat.beq o o' then True else False
  | .pti l o i n, .pti l' o' i' n' => if Nat.beq l l' && Nat.beq o o' && Nat.beq n n' then i = i' else False
  | .dpt l i n o, .dpt l' i' n' o' => if Nat.beq l l' && Nat.beq o o' && Nat.beq n n' then i = i' else False
  | .ep cs o, .ep ds o' => if Nat.beq o o' then cs = ds else False
  | .gp g o, .gp g' o' => if Nat.beq g g' && Nat.beq o o' then True else False
  | .gpi g o i n, .gpi g' o' i' n' => if Nat.beq g g' && Nat.beq o o' && Nat.beq n n' then i = i' else False
  | _, _ => False
def leL (r : PV → PV → Prop) : List PV → List PV → Prop
  | [], [] => True
  | x :: xs, y :: ys => r x y ∧ leL r xs ys
  | _, _ => False
def leA (x y : PV) : Prop := match x, y with
  | .agg cs, .agg ds => leL le1 cs ds
  | .clo f cs, .clo g ds => if Nat.beq f g then leL le1 cs ds else False
  | x, y => le1 x y
def leK (x y : PV) : Prop := match x, y with
  | .tup cs, .tup ds => leL leA cs ds
  | x, y => leA x y
def PLe (x y : PV) : Prop := ∀ w I β v, x.Is w I β v → y.Is w I β v
theorem PLe.refl (x : PV) : PLe x x := fun _ _ _ _ h => h
section
variable {w w' : World} {I I' : Nat → Prop} {β β' : Places} {G : Gx} {s : PSt} {a : Act} {st st' : List PBlk}
theorem if_ok {c p : Prop} [Decidable c] (h : if c then p else False) : c ∧ p := by
  split at h
  · exact ⟨‹_›, h⟩
  · exact h.elim
theorem le1_ok {x y : PV} (h : le1 x y) : PLe x y := by
  intro w I β v hx
  unfold le1 at h
  split at h <;> first | exact h.elim | (simp only [PV.Is] at hx ⊢)
  · obtain ⟨hk, h⟩ := if_ok h; rw [hx, of_decide_eq_true hk, h]
  · obtain ⟨hk, h⟩ := if_ok h; rw [hx, of_decide_eq_true hk, h]
  · obtain ⟨hk, h⟩ := if_ok h; rw [hx, of_decide_eq_true hk, h]
  · obtain ⟨hk, h⟩ := if_ok h; rw [hx, of_decide_eq_true hk, h]
  · exact hx
  · exact hx
  · rw [hx, pb_true h]
  · rw [hx, pb_false h]
  · rw [hx, pb_true h]
  · rw [hx, pb_false h]
  · rw [hx, show pb _ = pb _ from congrArg pb (propext h)]
  · rw [← h]; exact hx
  · exact hx
  · subst h; exact ⟨none, 0, hx, Nat.le_refl _, Nat.zero_le _, (fun _ _ e => by cases e), fun hn => absurd rfl hn⟩
  · obtain ⟨hb, h⟩ := if_ok h; rw [← h, ← Nat.eq_of_beq_eq_true hb]; exact hx
  · obtain ⟨hb, h⟩ := if_ok h; rw [← Nat.eq_of_beq_eq_true hb]; exact hx
  · obtain ⟨hb, h⟩ := if_ok h; rw [← Nat.eq_of_beq_eq_true hb]; exact hx
  · obtain ⟨hb, h⟩ := if_ok h
    simp only [Bool.and_eq_true] at hb
    rw [← Nat.eq_of_beq_eq_true hb.1.1, ← Nat.eq_of_beq_eq_true hb.1.2, ← Nat.eq_of_beq_eq_true hb.2]; exact hx
  · obtain ⟨hb, h⟩ := if_ok h
    simp only [Bool.and_eq_true] at hb
    rw [← Nat.eq_of_beq_eq_true hb.1, ← Nat.eq_of_beq_eq_true hb.2]; exact hx
  · obtain ⟨hb, h⟩ := if_ok h
    simp only [Bool.and_eq_true] at hb
    rw [← Nat.eq_of_beq_eq_true hb.1.1, ← Nat.eq_of_beq_eq_true hb.1.2, ← Nat.eq_of_beq_eq_true hb.2, ← h]; exact hx
  · obtain ⟨hb, h⟩ := if_ok h
    simp only [Bool.and_eq_true] at hb
    rw [← Nat.eq_of_beq_eq_true hb.1.1, ← Nat.eq_of_beq_eq_true hb.1.2, ← Nat.eq_of_beq_eq_true hb.2, ← h]; exact hx
  · obtain ⟨hb, h⟩ := if_ok h; rw [← Nat.eq_of_beq_eq_true hb, ← h]; exact hx
  · obtain ⟨hb, h⟩ := if_ok h
    simp only [Bool.and_eq_true] at hb
    rw [← Nat.eq_of_beq_eq_true hb.1, ← Nat.eq_of_beq_eq_true hb.2]; exact hx
  · obtain ⟨hb, h⟩ := if_ok h
    simp only [Bool.and_eq_true] at hb
    rw [← Nat.eq_of_beq_eq_true hb.1.1, ← Nat.eq_of_beq_eq_true hb.1.2, ← Nat.eq_of_beq_eq_true hb.2, ← h]; exact hx
theorem leL_ok {r : PV → PV → Prop} (hr : ∀ x y, r x y → PLe x y) : ∀ {xs ys : List PV} {vs : List Value}, leL r xs ys → IsL w I xs β vs → IsL w I ys β vs
  | [], [], _, _, h => h
  | x :: xs, y :: ys, v :: vs, h, hx => by
    simp only [IsL] at hx ⊢
    exact ⟨hr x y h.1 w I β v hx.1, leL_ok hr h.2 hx.2⟩
  | x :: xs, y :: ys, [], h, hx => by simp only [IsL] at hx
  | [], _ :: _, _, h, _ => h.elim
  | _ :: _, [], _, h, _ => h.elim
theorem leA_ok {x y : PV} (h : leA x y) : PLe x y := by
  unfold leA at h
  split at h
  · intro w I β v hx
    simp only [PV.Is] at hx ⊢
    obtain ⟨vs, rfl, hx⟩ := hx
    exact ⟨vs, rfl, leL_ok (fun _ _ => le1_ok) h hx⟩
  · intro w I β v hx
    split at h
    · rename_i hb
      simp only [PV.Is] at hx ⊢
      obtain ⟨vs, rfl, hx⟩ := hx
      exact ⟨vs, by rw [Nat.eq_of_beq_eq_true hb], leL_ok (fun _ _ => le1_ok) h hx⟩
    · exact h.elim
  · exact le1_ok h
theorem leK_ok {x y : PV} (h : leK x y) : PLe x y := by
  unfold leK at h
  split at h
  · intro w I β v hx
    simp only [PV.Is] at hx ⊢
    obtain ⟨vs, rfl, hx⟩ := hx
    exact ⟨vs, rfl, leL_ok (fun _ _ => leA_ok) h hx⟩
  · exact leA_ok h

/-! ### blocks under other numbers -/
/-- from the numbers of the new state to those of the old one; none: nothing lies there yet -/
abbrev Ren := List (Option Nat)
def PV.ren1 (π : Ren) (x : PV) : Option PV := match x with
  | .wref l => (match π[l]? with
    | some (some m) => some (.wref m)
    | some none => some .nil
    | none => none)
  | .mref l => (match π[l]? with
    | some (some m) => some (.mref m)
    | _ => none)
  | .ref l o n => (match π[l]? with
    | some (some m) => some (.ref m o n)
    | _ => none)
  | .ptr l o => (match π[l]? with
    | some (some m) => some (.ptr m o)
    | _ => none)
  | .pti l o i n => (match π[l]? with
    | some (some m) => some (.pti m o i n)
    | _ => none)
  | .dpt l i n o => (match π[l]? with
    | some (some m) => some (.dpt m i n o)
    | _ => none)
  | .agg _ | .tup _ | .clo .. => none
  | x => some x
def renL (π : Ren) : List PV → Option (List PV)
  | [] => some []
  | c :: cs => (match c.ren1 π, renL π cs with
    | some x, some l => some (x :: l)
    | _, _ => none)
def PV.ren (π : Ren) (x : PV) : Option PV := match x with
  | .agg cs => (renL π cs).map .agg
  | .clo f cs => (renL π cs).map (.clo f)
  | .tup _ => none
  | x => x.ren1 π
def renB (β : Places) (π : Ren) : Places := fun l => match π[l]? with
  | some (some m) => β m
  | some none => some ⟨none, 0, 0⟩
  | none => none
theorem renB_some {π : Ren} {l m : Nat} (h : π[l]? = some (some m)) : renB β π l = β m := by unfold renB; rw [h]
theorem renB_none {π : Ren} {l : Nat} (h : π[l]? = some none) : renB β π l = some ⟨none, 0, 0⟩ := by unfold renB; rw [h]
theorem ren1_ok {π : Ren} {x y : PV} {v : Value} (h : x.ren1 π = some y) (hy : y.Is w I β v) : x.Is w I (renB β π) v := by
  unfold PV.ren1 at h
  split at h
  · split at h
    · rename_i m hm
      cases h
      simp only [PV.Is] at hy ⊢
      rw [renB_some hm]; exact hy
    · rename_i hm
      cases h
      simp only [PV.Is] at hy ⊢
      exact ⟨_, renB_none hm, hy⟩
    · cases h
  · split at h
    · rename_i m hm
      cases h
      simp only [PV.Is] at hy ⊢
      rw [renB_some hm]; exact hy
    · cases h
  · split at h
    · rename_i m hm
      cases h
      simp only [PV.Is] at hy ⊢
      rw [renB_some hm]; exact hy
    · cases h
  · split at h
    · rename_i m hm
      cases h
      simp only [PV.Is] at hy ⊢
      rw [renB_some hm]; exact hy
    · cases h
  · split at h
    · rename_i m hm
      cases h
      simp only [PV.Is] at hy ⊢
      rw [renB_some hm]; exact hy
    · cases h
  · split at h
    · rename_i m hm
      cases h
      simp only [PV.Is] at hy ⊢
      rw [renB_some hm]; exact hy
    · cases h
  · cases h
  · cases h
  · cases h
  · cases h
    refine PV.Is.mono (fun _ h => h) (fun _ _ => rfl) x β _ v (fun l p hl => ?_) hy
    cases x <;> first | (simp_all [PV.uses]; done) | (rename_i a1 a2 a3 a4 a5 a6 a7 a8 a9; first | exact (a4 _ _ _ _ rfl).elim | exact (a5 _ _ _ _ rfl).elim | exact (a6 _ _ _ _ rfl).elim)
theorem renL_ok {π : Ren} : ∀ {xs ys : List PV} {vs : List Value}, renL π xs = some ys → IsL w I ys β vs → IsL w I xs (renB β π) vs
  | [], ys, vs, h, hy => by
    simp only [renL, Option.some.injEq] at h
    subst h
    cases vs with
    | nil => simp only [IsL]
    | cons v vs => simp only [IsL] at hy
  | x :: xs, ys, vs, h, hy => by
    simp only [renL] at h
    split at h
    · rename_i y l h1 h2
      cases h
      cases vs with
      | nil => simp only [IsL] at hy
      | cons v vs =>
        simp only [IsL] at hy ⊢
        exact ⟨ren1_ok h1 hy.1, renL_ok h2 hy.2⟩
    · cases h
theorem ren_ok {π : Ren} {x y : PV} {v : Value} (h : x.ren π = some y) (hy : y.Is w I β v) : x.Is w I (renB β π) v := by
  unfold PV.ren at h
  split at h
  · rw [Option.map_eq_some_iff] at h
    obtain ⟨l, hl, rfl⟩ := h
    simp only [PV.Is] at hy ⊢
    obtain ⟨vs, rfl, hy⟩ := hy
    exact ⟨vs, rfl, renL_ok hl hy⟩
  · rw [Option.map_eq_some_iff] at h
    obtain ⟨l, hl, rfl⟩ := h
    simp only [PV.Is] at hy ⊢
    obtain ⟨vs, rfl, hy⟩ := hy
    exact ⟨vs, rfl, renL_ok hl hy⟩
  · cases h
  · exact ren1_ok h hy

def TM.leK (π : Ren) : TM → TM → Prop
  | _, .nil => True
  | .nil, .node v l r => (match v with
    | none => True
    | some _ => False) ∧ TM.leK π .nil l ∧ TM.leK π .nil r
  | .node v l r, .node v' l' r' => (match v' with
    | none => True
    | some y => need v fun x => need (y.ren π) fun y => Pw.leK x y) ∧ TM.leK π l l' ∧ TM.leK π r r'
def Md.beq : Md → Md → Bool
  | .w, .w => true | .p, .p => true | .r, .r => true
  | _, _ => false
def BK.beq : BK → BK → Bool
  | .loc, .loc => true | .arr, .arr => true | .dyn, .dyn => true | .mp, .mp => true
  | _, _ => false
def blkK (cx : Ev.Cx) (π : Ren) (b b' : PBlk) : Prop := bif Nat.beq b.ty b'.ty && Nat.beq b.size b'.size && Md.beq b.m b'.m && b.live then (match b.k, b'.k with
  | .loc, .loc => need (renL π b'.cs) fun cs => leL le1 b.cs cs
  | .arr, .arr => need (renL π b'.cs) fun cs => leL le1 b.cs cs
  | .dyn, .dyn => b.cs = b'.cs
  | .mp, .mp => b.cs = b'.cs
  | .arr, .dyn => need (Ev.isAggT cx b.ty) fun ag => bif ag || Nat.beq b.size 1 then b.szK fun n => need (elemsOf ag n (.stat b.cs)) fun es => es = b'.cs else False
  | _, _ => False) else False
def stK (cx : Ev.Cx) (π : Ren) (st : List PBlk) : List PBlk → Ren → Prop
  | [], [] => True
  | b' :: r, some m :: π' => (match b'.live with
    | true => need st[m]? fun b => blkK cx π b b'
    | false => True) ∧ stK cx π st r π'
  | b' :: r, none :: π' => (match b'.k, b'.cs with
    | .dyn, [] => bif Nat.blt 0 b'.size then True else False
    | _, _ => False) ∧ stK cx π st r π'
  | _, _ => False
def nodupR : Ren → Bool
  | [] => true
  | none :: π => nodupR π
  | some m :: π => !(π.any fun x => match x with
    | some k => Nat.beq m k
    | none => false) && nodupR π
def baseK (rl : List Nat) : Nat → Nat → Ren → Bool
  | 0, _, _ => true
  | n + 1, l, some m :: π => (Nat.beq l m || inL l rl) && baseK rl n (l + 1) π
  | n + 1, l, none :: π => inL l rl && baseK rl n (l + 1) π
  | _ + 1, _, [] => false
def subK (cx : Ev.Cx) (π : Ren) (s s' : PSt) : Prop :=
  s'.n = s.n ∧ s'.base = s.base ∧ s'.rl = s.rl ∧ (bif nodupR π && baseK s.rl s.base 0 π then True else False) ∧ stK cx π s.st s'.st π ∧ TM.leK π s.t s'.t

theorem TM.leK_ok {π : Ren} : ∀ {t t' : TM} {n : Nat} {y : PV}, TM.leK π t t' → t'.get n = some y → ∃ x z, t.get n = some x ∧ y.ren π = some z ∧ Pw.leK x z
  | _, .nil, n, y, _, hy => by cases hy
  | .nil, .node v l r, n, y, h, hy => by
    exfalso
    have key : ∀ (t' : TM), TM.leK π .nil t' → ∀ n y, t'.get n = some y → False := by
      intro t'
      induction t' with
      | nil => intro _ n y hy; cases hy
      | node v l r ihl ihr =>
        intro h n y hy
        obtain ⟨h1, h2, h3⟩ := h
        cases v with
        | some _ => exact h1.elim
        | none =>
          simp only [TM.get] at hy
          cases h0 : Nat.beq n 0 <;> rw [h0] at hy
          · cases h1 : Nat.beq (n % 2) 1 <;> rw [h1] at hy
            · exact ihr h3 _ _ hy
            · exact ihl h2 _ _ hy
          · cases hy
    exact key _ h n y hy
  | .node v l r, .node v' l' r', n, y, h, hy => by
    obtain ⟨h1, h2, h3⟩ := h
    simp only [TM.get] at hy ⊢
    cases h0 : Nat.beq n 0 <;> rw [h0] at hy
    · cases hp : Nat.beq (n % 2) 1 <;> rw [hp] at hy
      · exact TM.leK_ok h3 hy
      · exact TM.leK_ok h2 hy
    · cases v' with
      | none => cases hy
      | some y' =>
        cases hy
        obtain ⟨x, hx, h1⟩ := need_ok h1
        obtain ⟨z, hz, h1⟩ := need_ok h1
        exact ⟨x, z, hx, hz, h1⟩
theorem Md.beq_ok {m n : Md} (h : Md.beq m n = true) : m = n := by cases m <;> cases n <;> first | rfl | cases h
/-- blocks of the new state and those of the old one -/
theorem stK_ok {cx : Ev.Cx} {π0 : Ren} {st : List PBlk} : ∀ {st' : List PBlk} {π : Ren}, stK cx π0 st st' π → π.length = st'.length ∧ ∀ (l : Nat) (b' : PBlk), st'[l]? = some b' → b'.live = true → (∃ (m : Nat) (b : PBlk), π[l]? = some (some m) ∧ st[m]? = some b ∧ blkK cx π0 b b') ∨ (π[l]? = some none ∧ b'.k = .dyn ∧ b'.cs = [] ∧ 0 < b'.size)
  | [], [], _ => ⟨rfl, fun l b' hl => by simp at hl⟩
  | b0 :: r, some m :: π, h => by
    obtain ⟨h1, h2⟩ := h
    obtain ⟨ih1, ih2⟩ := stK_ok h2
    refine ⟨by simp [ih1], fun l b' hl hlive => ?_⟩
    cases l with
    | zero =>
      simp at hl; subst hl
      rw [hlive] at h1
      obtain ⟨b, hb, h1⟩ := need_ok h1
      exact .inl ⟨m, b, rfl, hb, h1⟩
    | succ l => simpa using ih2 l b' (by simpa using hl) hlive
  | b0 :: r, none :: π, h => by
    obtain ⟨h1, h2⟩ := h
    obtain ⟨ih1, ih2⟩ := stK_ok h2
    refine ⟨by simp [ih1], fun l b' hl hlive => ?_⟩
    cases l with
    | zero =>
      simp at hl; subst hl
      split at h1
      · rename_i hk hc
        obtain ⟨hb, _⟩ := bif_ok h1
        exact .inr ⟨rfl, hk, hc, Nat.le_of_ble_eq_true hb⟩
      · exact h1.elim
    | succ l => simpa using ih2 l b' (by simpa using hl) hlive
  | [], _ :: _, h => h.elim
  | _ :: _, [], h => h.elim
theorem nodupR_ok : ∀ {π : Ren}, nodupR π = true → ∀ (l l' m : Nat), π[l]? = some (some m) → π[l']? = some (some m) → l = l'
  | [], _, l, _, _, h, _ => by simp at h
  | none :: π, hn, l, l', m, h, h' => by
    cases l with
    | zero => simp at h
    | succ l => cases l' with
      | zero => simp at h'
      | succ l' => rw [nodupR_ok (π := π) hn l l' m (by simpa using h) (by simpa using h')]
  | some k :: π, hn, l, l', m, h, h' => by
    simp only [nodupR, Bool.and_eq_true, Bool.not_eq_true', List.any_eq_false] at hn
    have no : ∀ l, π[l]? = some (some k) → False := fun l hl => by
      have := hn.1 _ (List.mem_of_getElem? hl)
      simp at this
    cases l with
    | zero =>
      simp at h; subst h
      cases l' with
      | zero => rfl
      | succ l' => exact (no l' (by simpa using h')).elim
    | succ l =>
      cases l' with
      | zero => simp at h'; subst h'; exact (no l (by simpa using h)).elim
      | succ l' => rw [nodupR_ok (π := π) hn.2 l l' m (by simpa using h) (by simpa using h')]
theorem baseK_len {rl : List Nat} : ∀ {n l : Nat} {π : Ren}, baseK rl n l π = true → n ≤ π.length
  | 0, _, _, _ => Nat.zero_le _
  | n + 1, l, some m :: π, h => by
    simp only [baseK, Bool.and_eq_true] at h
    simpa using baseK_len h.2
  | n + 1, l, none :: π, h => by
    simp only [baseK, Bool.and_eq_true] at h
    simpa using baseK_len h.2
  | _ + 1, _, [], h => by cases h
theorem baseK_ok {rl : List Nat} : ∀ {n l : Nat} {π : Ren}, baseK rl n l π = true → ∀ i, i < n → (π[i]? = some (some (l + i)) ∨ (l + i) ∈ rl)
  | 0, _, _, _, i, hi => by omega
  | n + 1, l, some m :: π, h, i, hi => by
    simp only [baseK, Bool.and_eq_true, Bool.or_eq_true] at h
    cases i with
    | zero => exact h.1.imp (fun e => by rw [← Nat.eq_of_beq_eq_true e]; rfl) inL_iff.1
    | succ i =>
      have := baseK_ok h.2 i (by omega)
      rw [show l + 1 + i = l + (i + 1) by omega] at this
      simpa using this
  | n + 1, l, none :: π, h, i, hi => by
    simp only [baseK, Bool.and_eq_true] at h
    cases i with
    | zero => exact .inr (inL_iff.1 h.1)
    | succ i =>
      have := baseK_ok h.2 i (by omega)
      rw [show l + 1 + i = l + (i + 1) by omega] at this
      simpa using this
  | _ + 1, _, [], h, _, _ => by cases h
end

end Go.Proofs.YtjcacjeoddnmhaaDoor.Pw

/- A state that says no more than another one: sound; the states at a loop's head. -/
namespace Go.Proofs.YtjcacjeoddnmhaaDoor.Pw
open Go Go.RowKit

section
variable {w w' : World} {I I' : Nat → Prop} {β β' : Places} {G : Gx} {s : PSt} {a : Act} {st st' : List PBlk}

theorem leL_cells {cs ds : List PV} {arr : Array Value} {o : Nat} (h : leL le1 cs ds) (hc : CellsAt w I β cs arr o) : CellsAt w I β ds arr o := by
  have key : ∀ (cs ds : List PV) (o : Nat), leL le1 cs ds → CellsAt w I β cs arr o → CellsAt w I β ds arr o := by
    intro cs
    induction cs with
    | nil => intro ds o h hc; cases ds with
      | nil => exact hc
      | cons _ _ => exact h.elim
    | cons c cs ih =>
      intro ds o h hc
      cases ds with
      | nil => exact h.elim
      | cons d ds =>
        intro i x hx
        cases i with
        | zero =>
          simp at hx; subst hx
          obtain ⟨v, hv, hi, h1⟩ := hc 0 c rfl
          exact ⟨v, hv, le1_ok h.1 w I β v hi, h1⟩
        | succ i =>
          have := ih ds (o + 1) h.2 (fun j y hy => by
            obtain ⟨v, hv, h1⟩ := hc (j + 1) y (by simpa using hy)
            exact ⟨v, by rw [show o + 1 + j = o + (j + 1) by omega]; exact hv, h1⟩) i x (by simpa using hx)
          obtain ⟨v, hv, h1⟩ := this
          exact ⟨v, by rw [show o + (i + 1) = o + 1 + i by omega]; exact hv, h1⟩
  exact key cs ds o h hc
theorem renL_cells {π : Ren} {cs ds : List PV} {arr : Array Value} {o : Nat} (h : renL π ds = some cs) (hc : CellsAt w I β cs arr o) : CellsAt w I (renB β π) ds arr o := by
  have key : ∀ (ds cs : List PV) (o : Nat), renL π ds = some cs → CellsAt w I β cs arr o → CellsAt w I (renB β π) ds arr o := by
    intro ds
    induction ds with
    | nil => intro cs o _ _ i c hc; simp at hc
    | cons d ds ih =>
      intro cs o h hc
      simp only [renL] at h
      split at h
      · rename_i y l h1 h2
        cases h
        intro i x hx
        cases i with
        | zero =>
          simp at hx; subst hx
          obtain ⟨v, hv, hi, h3⟩ := hc 0 y rfl
          exact ⟨v, hv, ren1_ok h1 hi, h3⟩
        | succ i =>
          have := ih l (o + 1) h2 (fun j y hy => by
            obtain ⟨v, hv, h1⟩ := hc (j + 1) y (by simpa using hy)
            exact ⟨v, by rw [show o + 1 + j = o + (j + 1) by omega]; exact hv, h1⟩) i x (by simpa using hx)
          obtain ⟨v, hv, h1⟩ := this
          exact ⟨v, by rw [show o + (i + 1) = o + 1 + i by omega]; exact hv, h1⟩
      · cases h
  exact key ds cs o h hc
theorem leL_len {r : PV → PV → Prop} : ∀ {cs ds : List PV}, leL r cs ds → cs.length = ds.length
  | [], [], _ => rfl
  | _ :: _, _ :: _, h => by simp [leL_len h.2]
  | [], _ :: _, h => h.elim
  | _ :: _, [], h => h.elim
theorem renL_len {π : Ren} : ∀ {ds cs : List PV}, renL π ds = some cs → ds.length = cs.length
  | [], cs, h => by simp only [renL, Option.some.injEq] at h; subst h; rfl
  | d :: ds, cs, h => by
    simp only [renL] at h
    split at h
    · rename_i y l h1 h2
      cases h; simp [renL_len h2]
    · cases h
theorem subK_ok (hO : Ev.CxOk G.cx) {π : Ren} {s s' : PSt} (h : subK G.cx π s s') : Sub G s s' := by
  obtain ⟨hn, hbase, hrl, hnd, hst, ht⟩ := h
  obtain ⟨hnd, _⟩ := bif_ok hnd
  simp only [Bool.and_eq_true] at hnd
  obtain ⟨hnd, hbk⟩ := hnd
  obtain ⟨hπl, hblk⟩ := stK_ok hst
  have hinj := nodupR_ok hnd
  have hbl := baseK_len hbk
  have hbk := baseK_ok hbk
  intro I β a w hR
  have hH : HeapOk I (renB β π) s'.st w := by
    refine ⟨fun l hl => by unfold renB; rw [List.getElem?_eq_none (by omega)], fun l b' hl hlive => ?_⟩
    rcases hblk l b' hl hlive with ⟨m, b, hπ, hb, hk⟩ | ⟨hπ, hk, hc, hsz⟩
    · obtain ⟨hc, hk⟩ := bif_ok hk
      simp only [Bool.and_eq_true] at hc
      obtain ⟨⟨⟨hty, hsz⟩, hm⟩, hlb⟩ := hc
      have hty := Nat.eq_of_beq_eq_true hty
      have hsz := Nat.eq_of_beq_eq_true hsz
      have hm := Md.beq_ok hm
      obtain ⟨p, hp, hB⟩ := hR.heap.blk m b hb hlb
      have own : ∀ {g : Nat} {fr : Nat × Nat}, Own I β s.st m g fr b → Own I (renB β π) s'.st l g fr b' := fun ho => by
        refine ⟨fun hr => ?_, fun hr => ho.2 (by rw [hm]; exact hr)⟩
        obtain ⟨h1, h2, h3⟩ := ho.1 (by rw [hm]; exact hr)
        refine ⟨h1, h2, fun l2 b2 hne hl2 hlive2 p2 g2 o2 hp2 ha2 => ?_⟩
        rcases hblk l2 b2 hl2 hlive2 with ⟨m2, b3, hπ2, hb3, hk3⟩ | ⟨hπ2, _⟩
        · rw [renB_some hπ2] at hp2
          obtain ⟨hc3, _⟩ := bif_ok hk3
          simp only [Bool.and_eq_true] at hc3
          exact h3 m2 b3 (fun e => hne (by subst e; exact hinj l2 l _ hπ2 hπ)) hb3 hc3.2 p2 g2 o2 hp2 ha2
        · rw [renB_none hπ2] at hp2
          cases hp2; cases ha2
      refine ⟨p, by rw [renB_some hπ]; exact hp, ?_⟩
      split at hk
      · rename_i hkb hkb'
        rw [hkb] at hB
        rw [hkb']
        obtain ⟨g, o, arr, ty, fr, h1, h2, h3, ho⟩ := hB
        obtain ⟨cs, hcs, hk⟩ := need_ok hk
        exact ⟨g, o, arr, ty, fr, h1, h2, renL_cells hcs (leL_cells hk h3), own ho⟩
      · rename_i hkb hkb'
        rw [hkb] at hB
        rw [hkb']
        obtain ⟨g, arr, fr, h1, h2, h3, ho, h4, h5, h6, h7, h8⟩ := hB
        obtain ⟨cs, hcs, hk⟩ := need_ok hk
        exact ⟨g, arr, fr, h1, by rw [← hty]; exact h2, renL_cells hcs (leL_cells hk h3), own ho, by rw [renL_len hcs, ← leL_len hk, ← hsz]; exact h4, h5, h6, by rw [← hsz]; exact h7, by rw [← hsz]; exact h8⟩
      · rename_i hkb hkb'
        rw [hkb] at hB
        rw [hkb']
        obtain ⟨⟨h1, h2, h3, h4⟩, hB⟩ := hB
        refine ⟨⟨by rw [← hsz]; exact h1, by rw [← hk]; exact h2, h3, h4⟩, ?_⟩
        rcases hB with h | ⟨g, arr, fr, h5, h6, h7, ho, h8⟩
        · exact .inl h
        · exact .inr ⟨g, arr, fr, h5, by rw [← hty]; exact h6, by rw [← hk, ← hsz]; exact h7, own ho, by rw [← hsz]; exact h8⟩
      · rename_i hkb hkb'
        rw [hkb] at hB
        rw [hkb']
        obtain ⟨g, h1, h2, ho⟩ := hB
        exact ⟨g, h1, by rw [← hk]; exact h2, own ho⟩
      · rename_i hkb hkb'
        rw [hkb] at hB
        rw [hkb']
        obtain ⟨g, arr, fr, h1, h2, h3, ho, h4, h5, h6, h7, h8⟩ := hB
        obtain ⟨ag, hag, hk⟩ := need_ok hk
        obtain ⟨hag2, hk⟩ := bif_ok hk
        rw [PBlk.szK_eq] at hk
        obtain ⟨es, hes, hk⟩ := need_ok hk
        simp only [Bool.or_eq_true] at hag2
        have hxl : (arr.toList.take (p.len * b.size)).length = p.len * b.size := by
          rw [List.length_take, Array.length_toList, h7]
          have := Nat.mul_le_mul_right b.size h5
          omega
        have hsrc : SrcIs w I β b.size (.stat b.cs) (arr.toList.take (p.len * b.size)) := by
          refine ⟨by rw [hxl, h4], fun j c hj => ?_⟩
          obtain ⟨u, hu, h9⟩ := h3 j c hj
          have hj' : j < p.len * b.size := by rw [← h4]; exact (List.getElem?_eq_some_iff.1 hj).1
          exact ⟨u, by rw [List.getElem?_take, if_pos hj']; simpa using hu, h9⟩
        obtain ⟨e1, e2⟩ := elemsOf_ok h8 (hag2.imp id Nat.eq_of_beq_eq_true) hes hsrc hxl
        refine ⟨⟨by rw [← hsz]; exact h8, by rw [← hk]; exact e1, h5, h6⟩, .inr ⟨g, arr, fr, h1, by rw [← hty]; exact h2, ?_, own ho, by rw [← hsz]; exact h7⟩⟩
        rw [← hk, ← hsz]
        refine e2.at (fun j v hj => ?_) (fun _ h => h) (fun _ _ => rfl)
        have := take_at h2 0 (p.len * b.size) j v (by simpa using hj)
        simpa using this
      · exact hk.elim
    · refine ⟨_, renB_none hπ, ?_⟩
      rw [hk]
      exact ⟨⟨hsz, by rw [hc]; rfl, Nat.le_refl _, Nat.zero_le _⟩, .inl ⟨rfl, rfl⟩⟩
  refine ⟨I, renB β π, ⟨by rw [hn]; exact hR.small, hR.defers, by rw [hn]; exact hR.size, ?_, fun t y hy => ?_, hH, hR.imm⟩, ⟨⟨rfl, rfl, rfl, Nat.le_refl _, fun _ _ _ => rfl, fun g hg ⟨l, b', p, o, h1, h2, h3, h4, h5⟩ => ?_, fun _ h => h, fun _ _ h => .inl h⟩, hbase, hrl, hn, fun l hl hnr => ?_⟩⟩
  · rw [hbase]
    rw [← hπl]; exact hbl
  · obtain ⟨x, z, hx, hz, hle⟩ := TM.leK_ok ht hy
    obtain ⟨v, hv, hi⟩ := hR.get t x hx
    exact ⟨v, hv, ren_ok hz (leK_ok hle w I β v hi)⟩
  · rcases hblk l b' h1 h2 with ⟨m, b, hπ, hb, hk⟩ | ⟨hπ, _⟩
    · obtain ⟨hc, _⟩ := bif_ok hk
      simp only [Bool.and_eq_true] at hc
      rw [renB_some hπ] at h4
      exact ⟨m, b, p, o, hb, hc.2, by rw [Md.beq_ok hc.1.2]; exact h3, h4, h5⟩
    · rw [renB_none hπ] at h4
      cases h4; cases h5
  · rcases hbk l hl with h | h
    · rw [Nat.zero_add] at h
      exact renB_some h
    · rw [Nat.zero_add] at h; exact absurd h hnr

/-! ### a state is laid bare -/
def frO (v : Option PV) (q : Option PV → Prop) : Prop := match v with
  | none => q none
  | some x => fc x fun x => q (some x)
def frT : TM → (TM → Prop) → Prop
  | .nil, q => q .nil
  | .node v l r, q => frO v fun v => frT l fun l => frT r fun r => q (.node v l r)
def frK (b : PBlk) (q : PBlk → Prop) : Prop := match b with
  | ⟨.loc, ty, n, m, live, cs⟩ => forceL cs fun cs => q ⟨.loc, ty, n, m, live, cs⟩
  | ⟨.arr, ty, n, m, live, cs⟩ => forceL cs fun cs => q ⟨.arr, ty, n, m, live, cs⟩
  | ⟨.dyn, ty, n, m, live, cs⟩ => q ⟨.dyn, ty, n, m, live, cs⟩
  | ⟨.mp, ty, n, m, live, cs⟩ => q ⟨.mp, ty, n, m, live, cs⟩
def frBB : List PBlk → (List PBlk → Prop) → Prop
  | [], q => q []
  | b :: st, q => frK b fun b => frBB st fun st => q (b :: st)
def frS (s : PSt) (q : PSt → Prop) : Prop := match s with
  | ⟨n, t, st, b, rl⟩ => frT t fun t => frBB st fun st => q ⟨n, t, st, b, rl⟩
theorem frT_ok : ∀ {t : TM} {q : TM → Prop}, frT t q → q t
  | .nil, _, h => h
  | .node v l r, q, h => by
    have h1 : frT l fun l => frT r fun r => q (.node v l r) := by
      cases v with
      | none => exact h
      | some x => exact fc_ok (x := x) (q := fun x => frT l fun l => frT r fun r => q (.node (some x) l r)) h
    have h2 := frT_ok h1
    exact frT_ok (q := fun r => q (.node v l r)) h2
theorem frK_ok {b : PBlk} {q : PBlk → Prop} (h : frK b q) : q b := by
  obtain ⟨k, ty, n, m, live, cs⟩ := b
  cases k
  · exact forceL_ok (q := fun cs => q ⟨.loc, ty, n, m, live, cs⟩) h
  · exact forceL_ok (q := fun cs => q ⟨.arr, ty, n, m, live, cs⟩) h
  · exact h
  · exact h
theorem frBB_ok : ∀ {st : List PBlk} {q : List PBlk → Prop}, frBB st q → q st
  | [], _, h => h
  | b :: st, q, h => frBB_ok (q := fun st => q (b :: st)) (frK_ok h)
theorem frS_ok {q : PSt → Prop} (h : frS s q) : q s := by
  obtain ⟨n, t, st, b, rl⟩ := s
  have h1 := frT_ok h
  exact frBB_ok (q := fun st => q ⟨n, t, st, b, rl⟩) h1

/-! ### a loop's head -/
def TM.setF (v : Option PV) : Nat → TM → Nat → TM
  | 0, t, _ => t
  | f + 1, .nil, n => bif Nat.beq n 0 then .node v .nil .nil else bif Nat.beq (n % 2) 1 then .node none (TM.setF v f .nil ((n - 1) / 2)) .nil else .node none .nil (TM.setF v f .nil ((n - 1) / 2))
  | f + 1, .node u l r, n => bif Nat.beq n 0 then .node v l r else bif Nat.beq (n % 2) 1 then .node u (TM.setF v f l ((n - 1) / 2)) r else .node u l (TM.setF v f r ((n - 1) / 2))
def dstsO : List Oper → List Nat
  | [] => []
  | o :: r => (match o.dst with
    | some d => [d]
    | none => []) ++ dstsO r
def dsts : Code → List Nat
  | .region _ ops _ => dstsO ops.toList
  | .seq a b => dsts a ++ dsts b
  | .cond _ a b => dsts a ++ dsts b
  | .block _ c => dsts c
  | .loop c => dsts c
  | .scope c => dsts c
  | _ => []
def clearF : List Nat → TM → TM
  | [], t => t
  | d :: ds, t => clearF ds (t.setF none 24 d)
def layF : List (Nat × PV) → TM → TM
  | [], t => t
  | (d, x) :: r, t => layF r (t.setF (some x) 24 d)
/-- the state at a loop's head: what the loop writes is let go, but for some slots; the store is another one -/
def PSt.head (s : PSt) (c : Code) (vs : List (Nat × PV)) (st : List PBlk) : PSt := match s with
  | ⟨n, t, _, b, rl⟩ => ⟨n, layF vs (clearF (dsts c) t), st, b, rl⟩
def idR : Nat → List PBlk → Ren
  | _, [] => []
  | n, _ :: r => some n :: idR (n + 1) r
/-- a loop: slots and store by x; π0, π: which blocks are which, at the start and behind a round -/
theorem SW.loop (hG : GOk G) (R : List (Nat × Plan)) {α : Type} {c : Code} {Q : X → PSt → Prop} (hc : planAll R c = true) (vs : α → List (Nat × PV)) (st : α → List PBlk) (μ : α → Nat) (x0 : α) (N : Nat) (π0 : Ren) (h0 : subK G.cx π0 s (s.head c (vs x0) (st x0)))
    (h : ∀ x, frS (s.head c (vs x) (st x)) (pw G R N c (backK (fun s' => ∃ y π, μ y < μ x ∧ subK G.cx π s' (s.head c (vs y) (st y))) Q))) : SW G (.loop c) Q s :=
  SW.inv hG (fun x => s.head c (vs x) (st x)) μ (N := N) hc x0 (subK_ok hG.ok h0) (fun x s' => ∃ y π, μ y < μ x ∧ subK G.cx π s' (s.head c (vs y) (st y))) (fun x s' ⟨y, π, hy, hs⟩ => ⟨y, hy, subK_ok hG.ok hs⟩) fun x => frS_ok (h x)

/-! ### calls from their arguments -/
def argT : List PV → Nat → TM → (TM → Prop) → Prop
  | [], _, t, k => k t
  | x :: xs, i, t, k => fc x fun x => t.setK (some x) 24 i fun t => argT xs (i + 1) t k
def resK1 (G : Gx) (s : PSt) (r : ResultVar) (q : PV → Prop) : Prop := match r with
  | .tmp t => need (s.t.get t) fun x => (match x with
    | .tup _ => False
    | x => q x)
  | .cell a t => need (s.t.get a) fun x => pload G s.st t x q
def resKL (G : Gx) (s : PSt) : List ResultVar → (List PV → Prop) → Prop
  | [], q => q []
  | r :: rs, q => resK1 G s r fun x => resKL G s rs fun xs => q (x :: xs)
def resK (G : Gx) (s : PSt) (rs : List ResultVar) (q : PV → Prop) : Prop := match rs with
  | [.tmp t] => need (s.t.get t) q
  | rs => resKL G s rs fun l => (match l with
    | [x] => q x
    | l => q (.tup l))
def notP : Md → Bool
  | .p => false
  | _ => true
def frzL (r : PV → (PV → Prop) → Prop) : List PV → (List PV → Prop) → Prop
  | [], q => q []
  | c :: cs, q => r c fun c => frzL r cs fun cs => q (c :: cs)
/-- what a function made is never changed any more -/
def frz (cx : Ev.Cx) (st : List PBlk) (base : Nat) : Nat → PV → (PV → Prop) → Prop
  | 0, _, _ => False
  | n + 1, x, q => match x with
    | .wref l => bif Nat.blt l base then q (.wref l) else need st[l]? fun b => bif b.live && notP b.m then (match b.k with
      | .arr => frzL (frz cx st base n) b.cs fun cs => need (Ev.isAggT cx b.ty) fun ag => bif ag || Nat.beq b.size 1 then b.szK fun n => need (elemsOf ag n (.stat cs)) fun es => q (.sl n es) else False
      | .dyn => q (.sl b.size b.cs)
      | _ => False) else False
    | .agg cs => frzL (frz cx st base n) cs fun cs => q (.agg cs)
    | .tup cs => frzL (frz cx st base n) cs fun cs => q (.tup cs)
    | .clo f cs => frzL (frz cx st base n) cs fun cs => q (.clo f cs)
    | x => bif x.uses.all (fun l => Nat.blt l base) then q x else False
def lowB (base : Nat) (b : PBlk) : Bool := match b.k with
  | .dyn => true
  | .mp => true
  | _ => b.cs.all fun c => c.uses.all fun l => Nat.blt l base
def retK (G : Gx) (rs : List ResultVar) (base : Nat) (K : PV → List PBlk → Prop) (x : X) (s : PSt) : Prop := match x with
  | .exit _ => False
  | _ => resK G s rs fun r => frz G.cx s.st base 8 r fun r => bif (s.st.take base).all (lowB base) then frBB (s.st.take base) fun S => ∃ r', PLe r r' ∧ K r' S else False
/-- a call: its body, from its arguments -/
def enterK (G : Gx) (R : List (Nat × Plan)) (N : Nat) (fn : Func) (c : Code) (args : List PV) (S : List PBlk) (rl : List Nat) (K : PV → List PBlk → Prop) : Prop :=
  bif Nat.ble args.length fn.ntmps && Nat.ble fn.ntmps 16777215 && !(fn.name == "runtime.NumGoroutine") then
    lenK S 0 fun b => argT args 0 .nil fun t => pw G R N c (retK G fn.results.toList b K) ⟨fn.ntmps, t, S, b, rl⟩ else False

section
variable {w w' : World} {I I' : Nat → Prop} {β β' : Places} {G : Gx} {s : PSt} {a : Act} {st st' : List PBlk}
theorem argT_ok : ∀ {xs : List PV} {i : Nat} {t : TM} {k : TM → Prop}, argT xs i t k → ∃ t', k t' ∧ ∀ n x, t'.get n = some x → (∃ j, n = i + j ∧ xs[j]? = some x) ∨ t.get n = some x
  | [], i, t, k, h => ⟨t, h, fun n x hx => .inr hx⟩
  | x :: xs, i, t, k, h => by
    obtain ⟨t1, h1, ht1⟩ := TM.setK_ok (fc_ok h)
    obtain ⟨t', hk, ht'⟩ := argT_ok h1
    refine ⟨t', hk, fun n y hy => ?_⟩
    rcases ht' n y hy with ⟨j, hj, hx⟩ | hy
    · exact .inl ⟨j + 1, by omega, by simpa using hx⟩
    · rw [ht1] at hy
      split at hy
      · rename_i hn
        cases hy
        exact .inl ⟨0, by omega, rfl⟩
      · exact .inr hy
def resV (a : Act) (rv : ResultVar) : Sem Value := match rv with
  | .tmp t => pure (a.tmps.getD t Go.undef)
  | .cell b t => do loadVar t (← asAddr (a.tmps.getD b Go.undef))
theorem resK1_ok (hG : GOk G) (hR : Rel G I β s a w) {r : ResultVar} {q : PV → Prop} (h : resK1 G s r q) : ∃ x v, q x ∧ x.Is w I β v ∧ (resV a r).run G.cx.P w = .ok v w := by
  cases r with
  | tmp t =>
    obtain ⟨x, hx, h⟩ := need_ok h
    obtain ⟨v, hv, hi⟩ := hR.get t x hx
    have hq : q x := by
      split at h
      · exact h.elim
      · exact h
    exact ⟨x, v, hq, hi, by simp [resV, hv]⟩
  | cell b t =>
    obtain ⟨x, hx, h⟩ := need_ok h
    obtain ⟨v, hv, hi⟩ := hR.get b x hx
    obtain ⟨z, r, g, hz, hzi, _, hrun⟩ := pload_ok hG.ok hR.heap hR.imm h hi
    have hrun := hrun w rfl
    refine ⟨z, r, hz, hzi, ?_⟩
    have hptr : ∃ ad, v = .pointer (some ad) := by
      unfold pload at h
      split at h <;> try simp only [PV.Is] at hi
      · obtain ⟨_, _, _, _, _, rfl⟩ := hi; exact ⟨_, rfl⟩
      · obtain ⟨_, _, _, _, _, rfl⟩ := hi; exact ⟨_, rfl⟩
      · obtain ⟨_, _, _, _, _, rfl⟩ := hi; exact ⟨_, rfl⟩
      · obtain ⟨_, _, rfl, _⟩ := hi; exact ⟨_, rfl⟩
      · exact ⟨_, hi⟩
      · exact ⟨_, hi⟩
      · exact h.elim
    obtain ⟨ad, rfl⟩ := hptr
    simp only [Instr.loadAt, Instr.sureAddr, Sem.run_bind, Sem.run_pure, Result.andThen_ok] at hrun
    simp [resV, hv, asAddr, hrun]
theorem resKL_ok (hG : GOk G) (hR : Rel G I β s a w) : ∀ {rs : List ResultVar} {q : List PV → Prop}, resKL G s rs q → ∃ xs vs, q xs ∧ IsL w I xs β vs ∧ (rs.mapM (resV a)).run G.cx.P w = .ok vs w
  | [], q, h => ⟨[], [], h, by simp only [IsL], rfl⟩
  | r :: rs, q, h => by
    obtain ⟨x, v, h, hx, hr⟩ := resK1_ok hG hR h
    obtain ⟨xs, vs, h, hxs, hrs⟩ := resKL_ok hG hR h
    exact ⟨x :: xs, v :: vs, h, by simp only [IsL]; exact ⟨hx, hxs⟩, by simp [List.mapM_cons, hr, hrs]⟩
theorem resK_ok (hG : GOk G) (hR : Rel G I β s a w) {fn : Func} {q : PV → Prop} (h : resK G s fn.results.toList q) : ∃ x v, q x ∧ x.Is w I β v ∧ (results fn a.tmps).run G.cx.P w = .ok v w := by
  have key : ∀ {q' : List PV → Prop}, resKL G s fn.results.toList q' → (∀ l, q' l → match l with
      | [x] => q x
      | l => q (.tup l)) → ∃ x v, q x ∧ x.Is w I β v ∧ (results fn a.tmps).run G.cx.P w = .ok v w := by
    intro q' h hq
    obtain ⟨xs, vs, h, hxs, hrun⟩ := resKL_ok hG hR h
    have hres : (results fn a.tmps).run G.cx.P w = .ok (if h : vs.toArray.size = 1 then vs.toArray[0] else .tuple vs.toArray) w := by
      unfold results
      rw [Array.mapM_eq_mapM_toList]
      simp only [Sem.run_bind, Sem.run_map]
      erw [hrun]
      rfl
    have hq := hq xs h
    match xs, vs, hxs, hq, hres with
    | [], [], _, hq, hres => exact ⟨_, _, hq, by simp only [PV.Is]; exact ⟨#[], rfl, by simp only [IsL]⟩, hres⟩
    | [x], [v], hxs, hq, hres => exact ⟨x, v, hq, by simp only [IsL] at hxs; exact hxs.1, hres⟩
    | x :: x' :: xs, v :: v' :: vs, hxs, hq, hres => exact ⟨_, _, hq, by simp only [PV.Is]; exact ⟨_, rfl, by simpa using hxs⟩, by rw [hres, dif_neg (by simp)]⟩
    | [], _ :: _, hxs, _, _ => simp only [IsL] at hxs
    | _ :: _, [], hxs, _, _ => simp only [IsL] at hxs
    | [_], _ :: _ :: _, hxs, _, _ => simp [IsL] at hxs
    | _ :: _ :: _, [_], hxs, _, _ => simp [IsL] at hxs
  unfold resK at h
  split at h
  · rename_i t heq
    obtain ⟨x, hx, h⟩ := need_ok h
    obtain ⟨v, hv, hi⟩ := hR.get t x hx
    refine ⟨x, v, h, hi, ?_⟩
    have hfr : fn.results = #[.tmp t] := by rw [← Array.toList_inj]; simpa using heq
    simp [results, hfr, hv]
  · refine key h fun l hl => ?_
    split
    · exact hl
    · rename_i hne
      split at hl
      · rename_i x; exact absurd rfl (hne x)
      · exact hl
end
end

end Go.Proofs.YtjcacjeoddnmhaaDoor.Pw

/- Calls from their arguments, as the evaluator says; how contracts are used. -/
namespace Go.Proofs.YtjcacjeoddnmhaaDoor.Pw
open Go Go.RowKit

section
variable {w w' : World} {I I' : Nat → Prop} {β β' : Places} {G : Gx} {s : PSt} {a : Act} {st st' : List PBlk}

/-- what is never changed any more, when a function has ended -/
def EndI (I : Nat → Prop) (β : Places) (st : List PBlk) (base : Nat) (g : Nat) : Prop := I g ∨ ∃ l b p o, base ≤ l ∧ st[l]? = some b ∧ b.live = true ∧ b.m = .w ∧ β l = some p ∧ p.a = some (g, o)
def EndB (β : Places) (base : Nat) : Places := fun l => if l < base then β l else none
theorem uses_low {x : PV} {base : Nat} {v : Value} (h : x.uses.all (fun l => Nat.blt l base) = true) (hx : x.Is w I β v) (hI : ∀ g, I g → I' g) : x.Is w I' (EndB β base) v :=
  PV.Is.mono hI (fun _ _ => rfl) x β _ v (fun l p hl hp => by
    rw [List.all_eq_true] at h
    unfold EndB
    rw [if_pos (show l < base from Nat.le_of_ble_eq_true (h l hl))]; exact hp) hx
theorem frzL_ok {r : PV → (PV → Prop) → Prop} (hr : ∀ x q v, r x q → x.Is w I β v → ∃ y, q y ∧ y.Is w I' β' v) : ∀ {cs : List PV} {vs : List Value} {q : List PV → Prop}, frzL r cs q → IsL w I cs β vs → ∃ ds, q ds ∧ IsL w I' ds β' vs
  | [], [], q, h, _ => ⟨[], h, by simp only [IsL]⟩
  | c :: cs, v :: vs, q, h, hx => by
    simp only [IsL] at hx
    obtain ⟨y, h, hy⟩ := hr c _ v h hx.1
    obtain ⟨ds, h, hd⟩ := frzL_ok hr h hx.2
    exact ⟨y :: ds, h, by simp only [IsL]; exact ⟨hy, hd⟩⟩
  | [], _ :: _, _, _, hx => by simp only [IsL] at hx
  | _ :: _, [], _, _, hx => by simp only [IsL] at hx
theorem frz_ok {cx : Ev.Cx} (hh : HeapOk I β st w) {base : Nat} : ∀ (n : Nat) (x : PV) (q : PV → Prop) (v : Value), frz cx st base n x q → x.Is w I β v → ∃ y, q y ∧ y.Is w (EndI I β st base) (EndB β base) v
  | 0, _, _, _, h, _ => h.elim
  | n + 1, x, q, v, h, hx => by
    have ih := frz_ok (cx := cx) hh (base := base) n
    have hI : ∀ g, I g → EndI I β st base g := fun g h => .inl h
    unfold frz at h
    split at h
    · rename_i l
      cases hl : Nat.blt l base
      case true =>
        rw [hl] at h
        exact ⟨_, h, uses_low (by simp only [PV.uses, List.all_cons, List.all_nil, hl, Bool.and_true]) hx hI⟩
      case false =>
        rw [hl] at h
        have hlb : base ≤ l := by
          rcases Nat.lt_or_ge l base with h' | h'
          · have : Nat.blt l base = true := by unfold Nat.blt; exact Nat.ble_eq_true_of_le h'
            rw [this] at hl; cases hl
          · exact h'
        obtain ⟨b, hb, h⟩ := need_ok h
        obtain ⟨hc, h⟩ := bif_ok h
        simp only [Bool.and_eq_true] at hc
        simp only [PV.Is] at hx
        obtain ⟨p, hp, rfl⟩ := hx
        have hgI : ∀ {g o : Nat} {fr : Nat × Nat}, p.a = some (g, o) → Own I β st l g fr b → EndI I β st base g := fun {g o fr} ha ho => by
          cases hm : b.m with
          | w => exact .inr ⟨l, b, p, o, hlb, hb, hc.1, hm, hp, ha⟩
          | p => rw [hm] at hc; cases hc.2
          | r => exact .inl (ho.2 hm)
        split at h
        · rename_i hk
          obtain ⟨g, arr, fr, ha, hw, hhg, hca, hown, hlen, hle, hmx, has, hn0⟩ := whole_arr hh hb hc.1 hk hp
          have hsz : p.len * b.size ≤ arr.size := by rw [has]; exact Nat.mul_le_mul_right _ hle
          have hxl : (arr.toList.take (p.len * b.size)).length = p.len * b.size := by rw [List.length_take, Array.length_toList]; omega
          have hcells : IsL w I b.cs β (arr.toList.take (p.len * b.size)) := IsL.of (by rw [hxl, hlen]) fun i c hc => by
            obtain ⟨u, hu, hi, _⟩ := hca i c hc
            have hj' : i < p.len * b.size := by rw [← hlen]; exact (List.getElem?_eq_some_iff.1 hc).1
            exact ⟨u, by rw [List.getElem?_take, if_pos hj']; simpa using hu, hi⟩
          obtain ⟨ds, h, hds⟩ := frzL_ok (fun x q v => ih x q v) h hcells
          obtain ⟨ag, hag, h⟩ := need_ok h
          obtain ⟨hag2, h⟩ := bif_ok h
          rw [PBlk.szK_eq] at h
          obtain ⟨es, hes, h⟩ := need_ok h
          simp only [Bool.or_eq_true] at hag2
          have hsrc : SrcIs w (EndI I β st base) (EndB β base) b.size (.stat ds) (arr.toList.take (p.len * b.size)) := by
            refine ⟨by rw [hds.length], fun j c hj => ?_⟩
            obtain ⟨u, hu, hi⟩ := hds.get hj
            refine ⟨u, hu, hi, ?_⟩
            have hj' : j < b.cs.length := by rw [hcells.length, ← hds.length]; exact (List.getElem?_eq_some_iff.1 hj).1
            obtain ⟨u2, hu2, _, h1⟩ := hca j _ (List.getElem?_eq_getElem hj')
            rw [List.getElem?_take] at hu
            split at hu
            · have : arr[0 + j]? = some u := by simpa using hu
              rw [this] at hu2; cases hu2; exact h1
            · cases hu
          obtain ⟨e1, e2⟩ := elemsOf_ok hn0 (hag2.imp id Nat.eq_of_beq_eq_true) hes hsrc hxl
          have hEs : IsEs w (EndI I β st base) es b.size g 0 := e2.at (fun j v hj => by
            have := take_at hhg 0 (p.len * b.size) j v (by simpa using hj)
            simpa using this) (fun _ h => h) (fun _ _ => rfl)
          refine ⟨_, h, ?_⟩
          simp only [PV.Is]
          refine ⟨some ⟨g, 0, none⟩, p.cap, by rw [hw, e1], by omega, by omega, fun g' o' e => by cases e; exact hEs, fun _ => ⟨g, 0, rfl, hgI ha hown, hn0⟩⟩
        · rename_i hk
          obtain ⟨hn0, hlen, hle, hmx, hor⟩ := whole_dyn hh hb hc.1 hk hp
          refine ⟨_, h, ?_⟩
          simp only [PV.Is]
          rcases hor with ⟨ha, hc0, hw⟩ | ⟨g, arr, fr, ha, hw, hhg, hes, hown, has⟩
          · have : b.cs = [] := List.eq_nil_of_length_eq_zero (by omega)
            rw [this, hw]
            exact ⟨none, 0, rfl, Nat.le_refl _, Nat.zero_le _, (fun _ _ e => by cases e), fun hn => absurd rfl hn⟩
          · exact ⟨some ⟨g, 0, none⟩, p.cap, by rw [hw, hlen], by omega, by omega, (fun g' o' e => by cases e; exact IsEs.mono hI (fun _ _ => rfl) _ _ _ _ rfl hes), fun _ => ⟨g, 0, rfl, hgI ha hown, hn0⟩⟩
        · exact h.elim
    · simp only [PV.Is] at hx
      obtain ⟨vs, rfl, hx⟩ := hx
      obtain ⟨ds, h, hd⟩ := frzL_ok (fun x q v => ih x q v) h hx
      exact ⟨_, h, by simp only [PV.Is]; exact ⟨vs, rfl, hd⟩⟩
    · simp only [PV.Is] at hx
      obtain ⟨vs, rfl, hx⟩ := hx
      obtain ⟨ds, h, hd⟩ := frzL_ok (fun x q v => ih x q v) h hx
      exact ⟨_, h, by simp only [PV.Is]; exact ⟨vs, rfl, hd⟩⟩
    · simp only [PV.Is] at hx
      obtain ⟨vs, rfl, hx⟩ := hx
      obtain ⟨ds, h, hd⟩ := frzL_ok (fun x q v => ih x q v) h hx
      exact ⟨_, h, by simp only [PV.Is]; exact ⟨vs, rfl, hd⟩⟩
    · obtain ⟨hu, h⟩ := bif_ok h
      exact ⟨_, h, uses_low hu hx hI⟩

theorem Spec.intro {f : FuncId} {args : List PV} {S : List PBlk} {rl : List Nat} {K : PV → List PBlk → Prop} (he : Ev.Enters G.cx.P f) (h : ∀ I β w vals, HeapOk I β S w → ImmOk G I w → IsL w I args β vals →
    Calls G.cx.P f vals.toArray w fun e w' => ∃ v r S' I' β', e = .returned v ∧ K r S' ∧ r.Is w' I' β' v ∧ HeapOk I' β' S' w' ∧ ImmOk G I' w' ∧ Ext I β S w I' β' S' w' ∧ S.length ≤ S'.length ∧ ∀ l, l < S.length → l ∉ rl → β' l = β l) : Spec G f args S rl K := by
  unfold Spec; exact ⟨he, h⟩
theorem Spec.run {f : FuncId} {args : List PV} {S : List PBlk} {rl : List Nat} {K : PV → List PBlk → Prop} (h : Spec G f args S rl K) : Ev.Enters G.cx.P f ∧ ∀ I β w vals, HeapOk I β S w → ImmOk G I w → IsL w I args β vals →
    Calls G.cx.P f vals.toArray w fun e w' => ∃ v r S' I' β', e = .returned v ∧ K r S' ∧ r.Is w' I' β' v ∧ HeapOk I' β' S' w' ∧ ImmOk G I' w' ∧ Ext I β S w I' β' S' w' ∧ S.length ≤ S'.length ∧ ∀ l, l < S.length → l ∉ rl → β' l = β l := by
  unfold Spec at h; exact h
theorem Spec.mono {f : FuncId} {args : List PV} {S : List PBlk} {rl : List Nat} {K K' : PV → List PBlk → Prop} (h : Spec G f args S rl K) (hK : ∀ r S', K r S' → K' r S') : Spec G f args S rl K' :=
  Spec.intro h.run.1 fun I β w vals h1 h2 h3 => (h.run.2 I β w vals h1 h2 h3).mono fun e w' ⟨v, r, S', I', β', h1, h2, h3⟩ => ⟨v, r, S', I', β', h1, hK r S' h2, h3⟩

theorem Spec.enter (hG : GOk G) (R : List (Nat × Plan)) {f : FuncId} {fn : Func} {c : Code} {args : List PV} {S : List PBlk} {rl : List Nat} {K : PV → List PBlk → Prop} (N : Nat) (hf : G.cx.P.funcs[f]? = some fn) (hb : fn.body = some c) (hpl : planAll R c = true) (h : enterK G R N fn c args S rl K) : Spec G f args S rl K := by
  obtain ⟨hc, h⟩ := bif_ok h
  simp only [Bool.and_eq_true, Bool.not_eq_true'] at hc
  obtain ⟨⟨hle, hlim⟩, hname⟩ := hc
  have hle := Nat.le_of_ble_eq_true hle
  have hlim := Nat.le_of_ble_eq_true hlim
  replace h := lenK_ok h
  rw [Nat.zero_add] at h
  obtain ⟨t, h, ht⟩ := argT_ok h
  refine Spec.intro (Ev.enters_of hf hb hname) fun I β w vals hH hM hA => calls_of_wp hf hb ?_
  have hal := hA.length
  have hR : Rel G I β ⟨fn.ntmps, t, S, S.length, rl⟩ { tmps := vals.toArray ++ Array.replicate (fn.ntmps - vals.toArray.size) Go.undef, defers := [] } w := by
    refine ⟨hlim, rfl, by simp; omega, Nat.le_refl _, fun n x hx => ?_, hH, hM⟩
    rcases ht n x hx with ⟨j, hj, hx⟩ | hx
    · rw [Nat.zero_add] at hj
      subst hj
      obtain ⟨v, hv, hi⟩ := hA.get hx
      have hlt : n < vals.length := (List.getElem?_eq_some_iff.1 hv).1
      exact ⟨v, by rw [Array.getElem?_append_left (by simpa using hlt)]; simpa using hv, hi⟩
    · cases hx
  refine wp_mono ((pw_ok hG N c _ _ hpl h).run hR) fun e a' w' hp => ?_
  obtain ⟨x, s', I', β', rfl, hq, hR', hg⟩ := hp.goes
  have fin_ : retK G fn.results.toList S.length K .nml s' → a'.defers = [] ∧ ∃ v, (results fn a'.tmps).run G.cx.P w' = .ok v w' ∧ ∃ v', ∃ r S' I' β', Ending.returned v = .returned v' ∧ K r S' ∧ r.Is w' I' β' v' ∧ HeapOk I' β' S' w' ∧ ImmOk G I' w' ∧ Ext I β S w I' β' S' w' ∧ S.length ≤ S'.length ∧ ∀ l, l < S.length → l ∉ rl → β' l = β l := by
    intro hq
    obtain ⟨r, v, hq, hr, hrun⟩ := resK_ok hG hR' hq
    obtain ⟨y, hq, hy⟩ := frz_ok hR'.heap 8 r _ v hq hr
    obtain ⟨hlow, hq⟩ := bif_ok hq
    obtain ⟨r', hle', hK⟩ := frBB_ok hq
    rw [List.all_eq_true] at hlow
    have hbase : s'.base = S.length := hg.base
    have hlen : S.length ≤ s'.st.length := by have := hR'.base; rw [hbase] at this; exact this
    have hI : ∀ g, I' g → EndI I' β' s'.st S.length g := fun g h => .inl h
    have hget : ∀ (l : Nat) (b : PBlk), (s'.st.take S.length)[l]? = some b → l < S.length ∧ s'.st[l]? = some b := fun l b hb => by
      rw [List.getElem?_take] at hb
      split at hb
      · exact ⟨‹_›, hb⟩
      · cases hb
    have hHe : HeapOk (EndI I' β' s'.st S.length) (EndB β' S.length) (s'.st.take S.length) w' := by
      refine ⟨fun l hl => ?_, fun l b hb hlive => ?_⟩
      · unfold EndB
        rw [if_neg (by simp at hl; omega)]
      · obtain ⟨hl, hb'⟩ := hget l b hb
        have hlb := hlow b (List.mem_of_getElem? hb)
        obtain ⟨p, hp, hk⟩ := hR'.heap.blk l b hb' hlive
        have own : ∀ {g : Nat} {o : Nat} {fr : Nat × Nat}, p.a = some (g, o) → Own I' β' s'.st l g fr b → Own (EndI I' β' s'.st S.length) (EndB β' S.length) (s'.st.take S.length) l g fr b := fun {g o fr} ha ho => by
          refine ⟨fun hr => ?_, fun hr => hI g (ho.2 hr)⟩
          obtain ⟨h1, h2, h3⟩ := ho.1 hr
          refine ⟨h1, fun hE => ?_, fun l2 b2 hne hl2 hlive2 p2 g2 o2 hp2 ha2 => ?_⟩
          · rcases hE with hE | ⟨l2, b2, p2, o2, k1, k2, k3, _, k5, k6⟩
            · exact h2 hE
            · exact h3 l2 b2 (by omega) k2 k3 p2 g o2 k5 k6 rfl
          · obtain ⟨hl2', hb2⟩ := hget l2 b2 hl2
            unfold EndB at hp2
            rw [if_pos hl2'] at hp2
            exact h3 l2 b2 hne hb2 hlive2 p2 g2 o2 hp2 ha2
        have cells : b.k.isC = true → ∀ {arr : Array Value} {o : Nat}, CellsAt w' I' β' b.cs arr o → CellsAt w' (EndI I' β' s'.st S.length) (EndB β' S.length) b.cs arr o := fun hk {arr o} hc i c hi => by
          obtain ⟨u, hu, hi', h1⟩ := hc i c hi
          refine ⟨u, hu, uses_low ?_ hi' hI, h1⟩
          unfold lowB at hlb
          cases hkk : b.k with
          | dyn => rw [hkk] at hk; cases hk
          | mp => rw [hkk] at hk; cases hk
          | loc => rw [hkk] at hlb; rw [List.all_eq_true] at hlb; exact hlb c (List.mem_of_getElem? hi)
          | arr => rw [hkk] at hlb; rw [List.all_eq_true] at hlb; exact hlb c (List.mem_of_getElem? hi)
        refine ⟨p, by unfold EndB; rw [if_pos hl]; exact hp, ?_⟩
        split at hk
        · rename_i hkk
          obtain ⟨g, o, arr, ty, fr, h1, h2, h3, ho⟩ := hk
          exact ⟨g, o, arr, ty, fr, h1, h2, cells (by rw [hkk]; decide) h3, own h1 ho⟩
        · rename_i hkk
          obtain ⟨g, arr, fr, h1, h2, h3, ho, h4⟩ := hk
          exact ⟨g, arr, fr, h1, h2, cells (by rw [hkk]; decide) h3, own h1 ho, h4⟩
        · obtain ⟨h1, hk⟩ := hk
          refine ⟨h1, ?_⟩
          rcases hk with h | ⟨g, arr, fr, h2, h3, h4, ho, h5⟩
          · exact .inl h
          · exact .inr ⟨g, arr, fr, h2, h3, IsEs.mono hI (fun _ _ => rfl) _ _ _ _ rfl h4, own h2 ho, h5⟩
        · obtain ⟨g, h1, h2, ho⟩ := hk
          exact ⟨g, h1, h2, own h1 ho⟩
    have hlt : ∀ g, EndI I' β' s'.st S.length g → g < w'.heap.size := fun g hg => by
      rcases hg with hg | ⟨l, b, p, o, _, k2, k3, _, k5, k6⟩
      · exact hR'.imm.imm g hg
      · exact hR'.heap.lives_lt ⟨l, b, p, o, k2, k3, k5, k6⟩
    have hMe : ImmOk G (EndI I' β' s'.st S.length) w' := ⟨hlt, fun g cs hgc => by
      obtain ⟨h1, h2⟩ := hR'.imm.tab g cs hgc
      exact ⟨hI g h1, IsAt.mono hI (fun _ _ => rfl) cs g 0 rfl h2⟩, hR'.imm.row⟩
    have hE := hg.ext
    refine ⟨hR'.defers, v, hrun, v, r', _, _, _, rfl, hK, hle' _ _ _ _ hy, hHe, hMe, ⟨hE.os, hE.tape, hE.output, hE.size, hE.block, fun g hgl ⟨l, b, p, o, h1, h2, h3, h4, h5⟩ => ?_, fun g hg => hI g (hE.imm g hg), fun g hgl hgI => ?_⟩, by rw [List.length_take]; omega, fun l hl hr => ?_⟩
    · obtain ⟨hl, hb⟩ := hget l b h1
      unfold EndB at h4
      rw [if_pos hl] at h4
      exact hE.wr g hgl ⟨l, b, p, o, hb, h2, h3, h4, h5⟩
    · rcases hgI with hgI | ⟨l, b, p, o, _, k2, k3, k4, k5, k6⟩
      · exact hE.new g hgl hgI
      · exact .inr (hE.wr g hgl ⟨l, b, p, o, k2, k3, k4, k5, k6⟩)
    · unfold EndB
      rw [if_pos hl]
      exact hg.low l hl hr
  cases x with
  | nml => exact fin_ hq
  | ret => exact fin_ hq
  | exit id => exact hq.elim
end

end Go.Proofs.YtjcacjeoddnmhaaDoor.Pw

/- How contracts are used. -/
namespace Go.Proofs.YtjcacjeoddnmhaaDoor.Pw
open Go Go.RowKit

section
variable {w w' : World} {I I' : Nat → Prop} {β β' : Places} {G : Gx} {s : PSt} {a : Act} {st st' : List PBlk}

/-- a function of values alone: at args it yields r -/
def PureF (G : Gx) (f : FuncId) (args : List PV) (r : PV) : Prop := Spec G f args [] [] fun r' _ => r' = r
theorem uses_none {x : PV} {v : Value} (h : x.uses = []) (hx : x.Is w I β v) : x.Is w I β' v := PV.Is.mono (fun _ h => h) (fun _ _ => rfl) x β β' v (fun l p hl => by rw [h] at hl; cases hl) hx
theorem usesL_none {xs : List PV} {vs : List Value} (h : usesL xs = []) (hx : IsL w I xs β vs) : IsL w I xs β' vs := IsL.mono (fun _ h => h) (fun _ _ => rfl) xs β β' vs (fun l p hl => by rw [h] at hl; cases hl) hx
theorem PureF.use {f : FuncId} {args args' : List PV} {r : PV} {S : List PBlk} {K : PV → List PBlk → Prop} (h : PureF G f args' r) (hle : leL leK args args') (hu : usesL args' = []) (hr : r.uses = []) (hK : K r S) : Spec G f args S [] K := by
  refine Spec.intro h.run.1 fun I β w vals hH hM hA => ?_
  have h0 : HeapOk I (fun _ => none) ([] : List PBlk) w := ⟨fun _ _ => rfl, fun l b hl => by simp at hl⟩
  refine (h.run.2 I (fun _ => none) w vals h0 hM (usesL_none hu (leL_ok (fun _ _ => leK_ok) hle hA))).mono fun e w' ⟨v, r', S', I', β', he, hr', hi, _, hM', hE, _, _⟩ => ?_
  subst hr'
  have hnw : ∀ g, ¬ Wr (fun _ => none) ([] : List PBlk) g := fun g ⟨l, b, p, o, h1, _⟩ => by simp at h1
  have hold : ∀ g, g < w.heap.size → w'.heap[g]? = w.heap[g]? := fun g hg => hE.block g hg (hnw g)
  have hI' : ∀ g, g < w.heap.size → I' g → I g := fun g hg h => (hE.new g hg h).elim id fun h => absurd h (hnw g)
  refine ⟨v, r', S, I', β, he, hK, uses_none hr hi, ⟨hH.far, fun l b hl hlive => ?_⟩, hM', ⟨hE.os, hE.tape, hE.output, hE.size, fun g hg _ => hold g hg, fun g _ h => h, hE.imm, fun g hg h => .inl (hI' g hg h)⟩, Nat.le_refl _, fun _ _ _ => rfl⟩
  have hb := hH.blk l b hl hlive
  refine hb.mono hE.imm (fun g hg => hold g (hM.imm g hg)) (fun _ _ h => h) fun p g o hp ha => ?_
  obtain ⟨arr, ty, fr, hh, ho⟩ := hb.place hp ha
  have hlt := lt_of_heap hh
  exact ⟨hold g hlt, fun hr => ⟨fun hI => (ho.1 hr).2.1 (hI' g hlt hI), (ho.1 hr).2.2⟩⟩
/-- the same at arguments that say more -/
theorem Spec.args {f : FuncId} {args args' : List PV} {S : List PBlk} {rl : List Nat} {K : PV → List PBlk → Prop} (h : Spec G f args' S rl K) (hle : leL leK args args') : Spec G f args S rl K :=
  Spec.intro h.run.1 fun I β w vals hH hM hA => h.run.2 I β w vals hH hM (leL_ok (fun _ _ => leK_ok) hle hA)

theorem retE {r r0 : PV} (h : leK r r0) : ∃ r', PLe r r' ∧ r' = r0 := ⟨r0, leK_ok h, rfl⟩
theorem inR_i64 {z : Int} (h : -9223372036854775808 ≤ z ∧ z ≤ 9223372036854775807) : InR .i64 z := by unfold InR Ev.kmin Ev.kmax; simp only [IntKind.signed, IntKind.bits]; simpa using h
theorem inR_u32 {z : Int} (h : 0 ≤ z ∧ z ≤ 4294967295) : InR .u32 z := by unfold InR Ev.kmin Ev.kmax; simp only [IntKind.signed, IntKind.bits]; simpa using h
theorem inR_u64 {z : Int} (h : 0 ≤ z ∧ z ≤ 18446744073709551615) : InR .u64 z := by unfold InR Ev.kmin Ev.kmax; simp only [IntKind.signed, IntKind.bits]; simpa using h
theorem inR_u8 {z : Int} (h : 0 ≤ z ∧ z ≤ 255) : InR .u8 z := by unfold InR Ev.kmin Ev.kmax; simp only [IntKind.signed, IntKind.bits]; simpa using h
end

end Go.Proofs.YtjcacjeoddnmhaaDoor.Pw

/- What the evaluator without a heap asks of the program. Written by a program (mkpw.py) off the given program. -/
namespace Go.Proofs.YtjcacjeoddnmhaaDoor.Pw
open Go

noncomputable def bt : List (Nat × Nat) := [(3, Tryd.t3.bytes), (24, Tryd.t24.bytes), (29, Tryd.t29.bytes), (26, Tryd.t26.bytes), (74, Tryd.t74.bytes), (72, Tryd.t72.bytes), (42, Tryd.t42.bytes), (63, Tryd.t63.bytes), (37, Tryd.t37.bytes), (44, Tryd.t44.bytes), (22, Tryd.t22.bytes), (41, Tryd.t41.bytes), (60, Tryd.t60.bytes), (31, Tryd.t31.bytes), (70, Tryd.t70.bytes), (45, Tryd.t45.bytes), (5, Tryd.t5.bytes), (68, Tryd.t68.bytes), (80, Tryd.t80.bytes), (4, Tryd.t4.bytes), (105, Tryd.t105.bytes), (90, Tryd.t90.bytes), (102, Tryd.t102.bytes), (9, Tryd.t9.bytes), (38, Tryd.t38.bytes), (58, Tryd.t58.bytes), (86, Tryd.t86.bytes), (101, Tryd.t101.bytes)]
theorem bt_ok : ∀ p ∈ bt, ∃ i, Tryd.prog.info? p.1 = some i ∧ i.bytes = p.2 :=
  Ev.all_cons ⟨Tryd.t3, by kernel_rfl, rfl⟩ <|
  Ev.all_cons ⟨Tryd.t24, by kernel_rfl, rfl⟩ <|
  Ev.all_cons ⟨Tryd.t29, by kernel_rfl, rfl⟩ <|
  Ev.all_cons ⟨Tryd.t26, by kernel_rfl, rfl⟩ <|
  Ev.all_cons ⟨Tryd.t74, by kernel_rfl, rfl⟩ <|
  Ev.all_cons ⟨Tryd.t72, by kernel_rfl, rfl⟩ <|
  Ev.all_cons ⟨Tryd.t42, by kernel_rfl, rfl⟩ <|
  Ev.all_cons ⟨Tryd.t63, by kernel_rfl, rfl⟩ <|
  Ev.all_cons ⟨Tryd.t37, by kernel_rfl, rfl⟩ <|
  Ev.all_cons ⟨Tryd.t44, by kernel_rfl, rfl⟩ <|
  Ev.all_cons ⟨Tryd.t22, by kernel_rfl, rfl⟩ <|
  Ev.all_cons ⟨Tryd.t41, by kernel_rfl, rfl⟩ <|
  Ev.all_cons ⟨Tryd.t60, by kernel_rfl, rfl⟩ <|
  Ev.all_cons ⟨Tryd.t31, by kernel_rfl, rfl⟩ <|
  Ev.all_cons ⟨Tryd.t70, by kernel_rfl, rfl⟩ <|
  Ev.all_cons ⟨Tryd.t45, by kernel_rfl, rfl⟩ <|
  Ev.all_cons ⟨Tryd.t5, by kernel_rfl, rfl⟩ <|
  Ev.all_cons ⟨Tryd.t68, by kernel_rfl, rfl⟩ <|
  Ev.all_cons ⟨Tryd.t80, by kernel_rfl, rfl⟩ <|
  Ev.all_cons ⟨Tryd.t4, by kernel_rfl, rfl⟩ <|
  Ev.all_cons ⟨Tryd.t105, by kernel_rfl, rfl⟩ <|
  Ev.all_cons ⟨Tryd.t90, by kernel_rfl, rfl⟩ <|
  Ev.all_cons ⟨Tryd.t102, by kernel_rfl, rfl⟩ <|
  Ev.all_cons ⟨Tryd.t9, by kernel_rfl, rfl⟩ <|
  Ev.all_cons ⟨Tryd.t38, by kernel_rfl, rfl⟩ <|
  Ev.all_cons ⟨Tryd.t58, by kernel_rfl, rfl⟩ <|
  Ev.all_cons ⟨Tryd.t86, by kernel_rfl, rfl⟩ <|
  Ev.all_cons ⟨Tryd.t101, by kernel_rfl, rfl⟩ <| Ev.all_nil
noncomputable def gxOf (tabs : List (Nat × List PV)) : Gx := { cx := Ev.cxOf [] [], tabs := tabs, bt := bt }
theorem gxOk (tabs : List (Nat × List PV)) : GOk (gxOf tabs) := ⟨Ev.cxOk [] [], bt_ok⟩
end Go.Proofs.YtjcacjeoddnmhaaDoor.Pw

/- What the code of this claim's laws may read: the package's tables, and what the model does itself. -/
namespace Go.Proofs.YtjcacjeoddnmhaaDoor.Pw
open Go Go.RowKit

def facP : List PV := [.lit .u32 1, .lit .u32 65537, .lit .u32 16777472, .lit .u32 16843009]
def shP : List PV := [0, 1, 1, 1, 2, 2, 3, 3, 4, 4, 4, 4, 5, 5, 5, 5, 5, 5, 5, 5, 5, 5, 5, 5, 5, 5, 5, 5, 6, 6, 6, 7, 8, 2, 2, 9, 9, 8, 8, 8, 10, 10, 11, 12, 13, 14, 15, 16, 17, 17, 18, 18, 18, 18, 18, 18, 18, 18, 18, 18, 19, 19, 20, 20, 20, 20, 21, 21, 21, 21, 21, 21, 21, 21, 21, 21, 22, 22, 23, 23, 23, 23, 24, 24, 25, 25, 26, 26, 27, 27, 27, 27, 28, 29, 30, 31, 31, 28, 32, 33, 34].map (.lit .i64)
noncomputable def gT : Gx := gxOf [(1, facP), (0, shP)]
theorem gTok : GOk gT := gxOk _

end Go.Proofs.YtjcacjeoddnmhaaDoor.Pw

/- Contracts over worlds as contracts over values, and back; arguments that come in, opened. -/
namespace Go.Proofs.YtjcacjeoddnmhaaDoor.Pw
open Go Go.RowKit

section
variable {w w' : World} {I I' : Nat → Prop} {β β' : Places} {G : Gx} {s : PSt} {a : Act} {st st' : List PBlk}

theorem HeapOk.none0 (hH : HeapOk I β [] w) (w' : World) (I' : Nat → Prop) : HeapOk I' β [] w' := ⟨hH.far, fun l b hl => by simp at hl⟩
theorem ImmOk.below (hM : ImmOk G I w) (hB : Below w.heap.size w w') : ImmOk G I w' :=
  ⟨fun g hg => Nat.lt_of_lt_of_le (hM.imm g hg) hB.size, fun g cs h => ⟨(hM.tab g cs h).1, IsAt.mono (fun _ h => h) (fun g hg => hB.block g (hM.imm g hg)) _ _ _ (hB.block g (hM.imm g (hM.tab g cs h).1)) (hM.tab g cs h).2⟩, fun g cs h => by
    obtain ⟨arr, ty, fr, h1, h2⟩ := hM.row g cs h
    exact ⟨arr, ty, fr, (hB.block g (hM.imm g (hM.tab g cs h).1)).trans h1, h2⟩⟩
/-- a contract over worlds as one over values -/
theorem PureF.of_calls {f : FuncId} {args : List PV} {r : PV} (he : Ev.Enters G.cx.P f) (vs : List Value) (v : Value) (ha : ∀ w I β vals, IsL w I args β vals → vals = vs) (hr : ∀ w I β, r.Is w I β v)
    (h : ∀ w, Calls G.cx.P f vs.toArray w fun e w' => e = .returned v ∧ Below w.heap.size w w') : PureF G f args r := by
  refine Spec.intro he fun I β w vals hH hM hA => ?_
  rw [ha _ _ _ _ hA]
  refine (h w).mono fun e w' ⟨he, hB⟩ => ⟨v, r, [], I, β, he, rfl, hr _ _ _, hH.none0 _ _, hM.below hB, ⟨hB.os, hB.tape, hB.output, hB.size, fun g hg _ => hB.block g hg, fun g _ h => h, fun _ h => h, fun _ _ h => .inl h⟩, Nat.le_refl _, fun _ _ _ => rfl⟩
theorem PureF.of_same {f : FuncId} {args : List PV} {r : PV} (he : Ev.Enters G.cx.P f) (vs : List Value) (v : Value) (ha : ∀ w I β vals, IsL w I args β vals → vals = vs) (hr : ∀ w I β, r.Is w I β v)
    (h : ∀ w, Calls G.cx.P f vs.toArray w fun e w' => e = .returned v ∧ w' = w) : PureF G f args r :=
  PureF.of_calls he vs v ha hr fun w => (h w).mono fun e w' ⟨h1, h2⟩ => ⟨h1, h2 ▸ Below.refl _ _⟩
/-- a contract over values as one over a world -/
theorem PureF.calls {f : FuncId} {args : List PV} {r : PV} {vals : List Value} (h : PureF G f args r) (hM : ImmOk G I w) (hA : IsL w I args (fun _ => none) vals) (v : Value) (hr : ∀ w' I' β' v', r.Is w' I' β' v' → v' = v) :
    Calls G.cx.P f vals.toArray w fun e w' => e = .returned v ∧ Below w.heap.size w w' := by
  have h0 : HeapOk I (fun _ => none) ([] : List PBlk) w := ⟨fun _ _ => rfl, fun l b hl => by simp at hl⟩
  refine (h.run.2 I (fun _ => none) w vals h0 hM hA).mono fun e w' ⟨v', r', S', I', β', he, hr', hi, _, hM', hE, _, _⟩ => ?_
  subst hr'
  rw [hr _ _ _ _ hi] at he
  exact ⟨he, hE.os, hE.tape, hE.output, hE.size, fun g hg => hE.block g hg fun ⟨l, b, p, o, h1, _⟩ => by simp at h1⟩
theorem tt_only (w' : World) (I' : Nat → Prop) (β' : Places) (v' : Value) (h : PV.tt.Is w' I' β' v') : v' = .bool true := by simpa [PV.Is] using h
end

/-- all that lies in a world -/
def In (w : World) (g : Nat) : Prop := g < w.heap.size
abbrev no : Places := fun _ => none

/-- what comes in as a t is a value that is S -/
def Op (P : Program) (t : TypeId) (S : PV → Prop) : Prop := ∀ {H : Type} (e : TypeId × Value → H) (w : World) (base : Nat) (held : Bool) (fuel : Nat) (cs : List Value) (x : DataW H × List MemPlace),
  DataW.trod e P w base (fun _ => true) held fuel t cs = some x → (∀ n ∈ x.1.weights P t, n ≤ reachBytes) → ∃ y, S y ∧ (∀ vs, y ≠ .tup vs) ∧ IsL w (In w) y.cells no cs ∧ cs.length = P.cellsOf t ∧ ∀ c ∈ cs, c.oneCell' = true
def SInt (k : IntKind) (x : PV) : Prop := ∃ z, InR k z ∧ x = .int k z
def SBool (x : PV) : Prop := ∃ b : Bool, x = .bool (b = true)
def SSl (n b : Nat) (S : PV → Prop) (x : PV) : Prop := ∃ es : List PV, (es.length ≤ maxLen ∧ es.length * b ≤ reachBytes) ∧ (∀ e ∈ es, S e) ∧ x = .sl n es
def All2S : List (PV → Prop) → List PV → Prop
  | [], [] => True
  | S :: Ss, x :: xs => S x ∧ All2S Ss xs
  | _, _ => False
def SAgg (Ss : List (PV → Prop)) (x : PV) : Prop := ∃ xs, All2S Ss xs ∧ x = .agg (xs.flatMap PV.cells)

theorem all2_cons {S : PV → Prop} {Ss : List (PV → Prop)} {xs : List PV} (h : All2S (S :: Ss) xs) : ∃ x r, xs = x :: r ∧ S x ∧ All2S Ss r := by
  cases xs with
  | nil => exact h.elim
  | cons x r => exact ⟨x, r, rfl, h⟩
theorem all2_nil {xs : List PV} (h : All2S [] xs) : xs = [] := by
  cases xs with
  | nil => rfl
  | cons x r => exact h.elim
section
variable {P : Program} {t e : TypeId}
theorem inR_wf {k : IntKind} {z : Int} (h : (Lit.int k z).wf = true) : InR k z := by
  unfold InR
  cases k <;> simp_all [Lit.wf, Ev.kmin, Ev.kmax, IntKind.min, IntKind.max, IntKind.signed, IntKind.bits] <;> omega
theorem opInt {k : IntKind} (ht : P.underlying t = some (.int k)) (hc : P.cellsOf t = 1) : Op P t (SInt k) := fun e w base held fuel cs x h hwt => by
  obtain ⟨n, rfl, _, hw⟩ := DataW.trod_int ht h
  exact ⟨.int k n, ⟨n, inR_wf hw, rfl⟩, nofun, IsL.one (by simp only [PV.Is]), by rw [hc]; rfl, fun c hc => by simp only [List.mem_singleton] at hc; subst hc; rfl⟩
theorem choose_list {α : Type _} {p : Nat → α → Prop} : ∀ n : Nat, (∀ i, i < n → ∃ y, p i y) → ∃ l : List α, l.length = n ∧ ∀ i y, l[i]? = some y → p i y
  | 0, _ => ⟨[], rfl, fun i y h => by simp at h⟩
  | n + 1, h => by
    obtain ⟨l, hl, hp⟩ := choose_list (p := p) n fun i hi => h i (by omega)
    obtain ⟨y, hy⟩ := h n (by omega)
    refine ⟨l ++ [y], by simp [hl], fun i z hz => ?_⟩
    rw [List.getElem?_append] at hz
    split at hz
    · exact hp i z hz
    · rename_i hge
      have h0 : i - l.length = 0 := by
        have := (List.getElem?_eq_some_iff.1 hz).1
        simp at this; omega
      rw [h0] at hz
      simp only [List.getElem?_cons_zero, Option.some.injEq] at hz
      subst hz
      have : i = n := by omega
      subst this; exact hy
theorem weights_all {H : Type} {n : Nat} : ∀ {l : List (DataW H)} {d : DataW H}, d ∈ l → n ∈ d.weights P e → n ∈ DataW.weightsAll P e l
  | [], _, h, _ => by cases h
  | a :: l, d, h, hn => by
    simp only [DataW.weightsAll, List.mem_append]
    rcases List.mem_cons.1 h with rfl | h
    · exact .inl hn
    · exact .inr (weights_all h hn)
theorem weights_each {H : Type} {n : Nat} : ∀ {ts : List TypeId} {l : List (DataW H)} {i : Nat} {t : TypeId} {d : DataW H}, ts[i]? = some t → l[i]? = some d → n ∈ d.weights P t → n ∈ DataW.weightsEach P ts l
  | [], _, _, _, _, h, _, _ => by simp at h
  | _ :: _, [], _, _, _, _, h, _ => by simp at h
  | u :: ts, a :: l, 0, t, d, h, h', hn => by
    simp only [List.getElem?_cons_zero, Option.some.injEq] at h h'
    subst h; subst h'
    simp only [DataW.weightsEach, List.mem_append]
    exact .inl hn
  | u :: ts, a :: l, i + 1, t, d, h, h', hn => by
    simp only [DataW.weightsEach, List.mem_append]
    exact .inr (weights_each (by simpa using h) (by simpa using h') hn)
theorem opSlice {S : PV → Prop} (he : Op P e S) (n b : Nat) (hbb : P.bytesOf e = b) (ht : P.underlying t = some (.slice e)) (hn : P.cellsOf e = n) (h0 : 0 < n) (hc : P.cellsOf t = 1) : Op P t (SSl n b S) := fun {H} ec w base held fuel cs x h hwt => by
  subst hn
  subst hbb
  rcases Deep.open_slice ht h with ⟨rfl, _⟩ | ⟨a, len, cap, m, k, D, Pl, rfl, hb, hl, hm, hmm, rfl, hx⟩
  · exact ⟨.sl _ [], ⟨[], ⟨by simp, by simp⟩, fun _ h => by simp at h, rfl⟩, nofun, IsL.one (by simp only [PV.Is]; exact ⟨none, 0, rfl, Nat.le_refl _, by simp, fun _ _ h => by simp at h, fun h => absurd rfl h⟩), by rw [hc]; rfl, fun c hc => by simp only [List.mem_singleton] at hc; subst hc; rfl⟩
  · simp only [if_true] at hmm
    subst hmm
    have hwl : len * P.bytesOf e ≤ reachBytes := by
      have := hwt ((len + (m - len)) * P.bytesOf e) (by simp only [DataW.weights, ht, List.length_map, List.length_range]; exact List.mem_cons_self)
      exact Nat.le_trans (Nat.mul_le_mul_right _ (Nat.le_add_right _ _)) this
    have hwe : ∀ i, i < len → ∀ n ∈ (D i).weights P e, n ≤ reachBytes := fun i hi n hn => hwt n (by
      simp only [DataW.weights, ht]
      exact List.mem_cons_of_mem _ (List.mem_append.2 (.inl (weights_all (List.mem_map.2 ⟨i, List.mem_range.2 hi, rfl⟩) hn))))
    have hs0 : 0 < len → a.spot = none := fun hp => by
      obtain ⟨cs', h1, h2⟩ := hx 0 (by omega)
      obtain ⟨y, _, _, hy, hlen, _⟩ := he ec w base held k cs' _ h2 (hwe 0 hp)
      obtain ⟨_, _, hcell⟩ := World.cells?_some h1
      have hc0 := hcell 0 h0
      rw [List.getElem?_eq_getElem (by omega), Nat.zero_mul] at hc0
      exact World.cell?_spot hc0
    have each : ∀ i, i < len → ∃ y, S y ∧ a.spot = none ∧ a.block < w.heap.size ∧ ElAt w (In w) (P.cellsOf e) y a.block (a.off + i * P.cellsOf e) := fun i hi => by
      obtain ⟨cs', h1, h2⟩ := hx i (by omega)
      obtain ⟨y, hS, _, hy, hlen, h1c⟩ := he ec w base held k cs' _ h2 (hwe i hi)
      obtain ⟨_, _, hcell⟩ := World.cells?_some h1
      have hc0 := hcell 0 h0
      rw [List.getElem?_eq_getElem (by omega)] at hc0
      have hs : a.spot = none := hs0 (by omega)
      obtain ⟨b, off, sp⟩ := a
      dsimp only at hs
      subst hs
      have ea : ∀ b off k, (⟨b, off, none⟩ : Addr).add k = ⟨b, off + k, none⟩ := fun b off k => by unfold Addr.add; split <;> simp_all
      refine ⟨y, hS, rfl, ?_, ?_, IsAt.of fun j c hj => ?_⟩
      · have := World.block_lt_of_cell? w _ hc0
        rw [ea, ea] at this; exact this
      · rw [hy.length, hlen]
      · obtain ⟨v, hv, hi'⟩ := hy.get hj
        have hj' : j < P.cellsOf e := by rw [← hlen]; exact (List.getElem?_eq_some_iff.1 hv).1
        have := hcell j hj'
        rw [ea, ea, hv] at this
        exact ⟨v, by simpa only [Nat.add_assoc] using this, hi', h1c v (List.mem_of_getElem? hv)⟩
    obtain ⟨es, hes, hp⟩ := choose_list len each
    refine ⟨.sl _ es, ⟨es, ⟨by omega, by rw [hes]; exact hwl⟩, fun y hy => ?_, rfl⟩, nofun, IsL.one ?_, by rw [hc]; rfl, fun c hc => by simp only [List.mem_singleton] at hc; subst hc; rfl⟩
    · obtain ⟨i, hi⟩ := List.getElem?_of_mem hy
      exact (hp i y hi).1
    · simp only [PV.Is]
      refine ⟨some a, m, by rw [hes], by omega, by omega, fun g o hgo => ?_, fun hne => ?_⟩
      · cases hgo
        exact IsEs.of fun i y hy => (hp i y hy).2.2.2
      · have h1 : 0 < es.length := by omega
        obtain ⟨_, h2, h3, _⟩ := hp 0 es[0] (List.getElem?_eq_getElem h1)
        obtain ⟨b, off, sp⟩ := a
        dsimp only at h2
        subst h2
        exact ⟨b, off, rfl, h3, h0⟩
/-- fields, one behind the other -/
def OpFs (P : Program) (total : Nat) : Nat → List Field → List (PV → Prop) → Prop
  | off, [], [] => off = total
  | off, f :: fs, S :: Ss => f.offset = off ∧ Op P f.type S ∧ OpFs P total (off + P.cellsOf f.type) fs Ss
  | _, _, _ => False
theorem opAgg {fs : Array Field} {Ss : List (PV → Prop)} (ht : P.underlying t = some (.struct fs)) (hf : OpFs P (P.cellsOf t) 0 fs.toList Ss) : Op P t (SAgg Ss) := fun {H} ec w base held fuel cs x h hwt => by
  obtain ⟨xs, n, _, rfl, hl, hxl, hx⟩ := DataW.trod_struct ht h
  have key : ∀ (l : List Field) (Ss : List (PV → Prop)) (off : Nat), OpFs P (P.cellsOf t) off l Ss → (∀ f ∈ l, ∃ y, DataW.trod ec P w base (fun _ => true) held n f.type ((cs.drop f.offset).take (P.cellsOf f.type)) = some y ∧ ∀ n ∈ y.1.weights P f.type, n ≤ reachBytes) → off ≤ cs.length →
      ∃ ys, All2S Ss ys ∧ IsL w (In w) (ys.flatMap PV.cells) no (cs.drop off) ∧ ∀ c ∈ cs.drop off, c.oneCell' = true := by
    intro l
    induction l with
    | nil =>
      intro Ss off h _ _
      cases Ss with
      | nil =>
        simp only [OpFs] at h
        refine ⟨[], trivial, ?_, ?_⟩
        · rw [List.drop_eq_nil_of_le (by omega)]; simp only [List.flatMap_nil, IsL]
        · rw [List.drop_eq_nil_of_le (by omega)]; intro c hc; cases hc
      | cons => exact h.elim
    | cons f l ih =>
      intro Ss off h ht hle
      cases Ss with
      | nil => exact h.elim
      | cons S Ss =>
        obtain ⟨h1, h2, h3⟩ := h
        subst h1
        obtain ⟨z, hz, hzw⟩ := ht f (List.mem_cons_self ..)
        obtain ⟨y, hS, _, hy, hyl, hy1⟩ := h2 ec w base held n _ z hz hzw
        have hle2 : f.offset + P.cellsOf f.type ≤ cs.length := by
          rw [List.length_take, List.length_drop] at hyl; omega
        obtain ⟨ys, hys, hyL, hyO⟩ := ih Ss _ h3 (fun g hg => ht g (List.mem_cons_of_mem _ hg)) hle2
        have hd : cs.drop f.offset = (cs.drop f.offset).take (P.cellsOf f.type) ++ cs.drop (f.offset + P.cellsOf f.type) := by
          rw [← List.drop_drop, List.take_append_drop]
        refine ⟨y :: ys, ⟨hS, hys⟩, ?_, ?_⟩
        · rw [hd, List.flatMap_cons]; exact hy.append hyL
        · intro c hc
          rw [hd, List.mem_append] at hc
          exact hc.elim (hy1 c) (hyO c)
  obtain ⟨ys, h1, h2, h3⟩ := key fs.toList Ss 0 hf (fun f hf => by
    obtain ⟨i, hi⟩ := List.getElem?_of_mem hf
    have hi' : i < fs.size := by simpa using (List.getElem?_eq_some_iff.1 hi).1
    have := hx i f (by simpa using hi)
    rw [this]
    have hlt : i < xs.length := by omega
    refine ⟨_, List.getElem?_eq_getElem hlt, fun n hn => hwt n ?_⟩
    simp only [DataW.weights, ht]
    exact weights_each (i := i) (by rw [List.getElem?_map, hi]; rfl) (by rw [List.getElem?_map, List.getElem?_eq_getElem hlt]; rfl) hn) (Nat.zero_le _)
  rw [List.drop_zero] at h2 h3
  exact ⟨.agg (ys.flatMap PV.cells), ⟨ys, h1, rfl⟩, nofun, h2, hl, h3⟩
theorem Op.weak {S S' : PV → Prop} (h : Op P t S) (hS : ∀ x, S x → S' x) : Op P t S' := fun e w base held fuel cs x hx hwt => by
  obtain ⟨y, h1, h2⟩ := h e w base held fuel cs x hx hwt
  exact ⟨y, hS y h1, h2⟩
theorem decode {α : Type} {S : PV → Prop} {enc : α → PV} {ok : α → Prop} (h : ∀ x, S x → ∃ z, ok z ∧ x = enc z) : ∀ (es : List PV), (∀ e ∈ es, S e) → ∃ l : List α, (∀ z ∈ l, ok z) ∧ es = l.map enc
  | [], _ => ⟨[], fun _ h => by simp at h, rfl⟩
  | e :: es, hS => by
    obtain ⟨z, hz, rfl⟩ := h e (hS e (List.mem_cons_self ..))
    obtain ⟨l, hl, rfl⟩ := decode h es fun e he => hS e (List.mem_cons_of_mem _ he)
    refine ⟨z :: l, fun y hy => ?_, rfl⟩
    rcases List.mem_cons.1 hy with rfl | hy
    · exact hz
    · exact hl y hy
/-- a list that comes in, by what its elements are -/
def SLs {α : Type} (n b : Nat) (enc : α → PV) (ok : α → Prop) (x : PV) : Prop := ∃ l : List α, (l.length ≤ maxLen ∧ l.length * b ≤ reachBytes) ∧ (∀ z ∈ l, ok z) ∧ x = .sl n (l.map enc)
theorem opList {α : Type} {S : PV → Prop} {n b : Nat} {enc : α → PV} {ok : α → Prop} (h : Op P t (SSl n b S)) (hd : ∀ x, S x → ∃ z, ok z ∧ x = enc z) : Op P t (SLs n b enc ok) := h.weak fun x ⟨es, h1, h2, h3⟩ => by
  obtain ⟨l, hl, rfl⟩ := decode hd es h2
  exact ⟨l, by simpa using h1, hl, h3⟩
theorem each_le {H : Type} {ts : List TypeId} {l : List (DataW H)} (h : (DataW.weightsEach P ts l).all (· ≤ reachBytes) = true) {i : Nat} {d : DataW H} (ht : ts[i]? = some t) (hd : l[i]? = some d) : ∀ n ∈ d.weights P t, n ≤ reachBytes := fun n hn => by
  have := List.all_eq_true.1 h n (weights_each ht hd hn)
  simpa using this
/-- an argument of one cell; a struct -/
theorem Op.arg1 {S : PV → Prop} (h : Op P t S) (h1 : ∀ y, S y → y.cells = [y]) {H : Type} {ec : TypeId × Value → H} {w : World} {base : Nat} {held : Bool} {v : Value} {d : DataW H} {p : List MemPlace} (hv : v.cells = #[v]) (ht : DataW.Trod ec P w base (fun _ => true) held t v d p) (hwt : ∀ n ∈ d.weights P t, n ≤ reachBytes) :
    ∃ y, S y ∧ y.Is w (In w) no v := by
  obtain ⟨fuel, ht⟩ := ht
  obtain ⟨y, hS, _, hy, _⟩ := h ec w base held fuel _ _ ht hwt
  refine ⟨y, hS, ?_⟩
  rw [h1 y hS, hv] at hy
  simp only [IsL, and_true] at hy
  exact hy
theorem Op.argA {Ss : List (PV → Prop)} (h : Op P t (SAgg Ss)) {H : Type} {ec : TypeId × Value → H} {w : World} {base : Nat} {held : Bool} {vs : Array Value} {d : DataW H} {p : List MemPlace} (ht : DataW.Trod ec P w base (fun _ => true) held t (.agg vs) d p) (hwt : ∀ n ∈ d.weights P t, n ≤ reachBytes) :
    ∃ y, SAgg Ss y ∧ y.Is w (In w) no (.agg vs) := by
  obtain ⟨fuel, ht⟩ := ht
  obtain ⟨y, hS, _, hy, _⟩ := h ec w base held fuel _ _ ht hwt
  refine ⟨y, hS, ?_⟩
  obtain ⟨xs, _, rfl⟩ := hS
  simp only [PV.Is]
  exact ⟨vs, rfl, hy⟩
theorem SSl.cell {n b : Nat} {S : PV → Prop} (y : PV) : SSl n b S y → y.cells = [y] := fun ⟨_, _, _, h⟩ => by subst h; rfl
theorem SLs.cell {α : Type} {n b : Nat} {enc : α → PV} {ok : α → Prop} (y : PV) : SLs n b enc ok y → y.cells = [y] := fun ⟨_, _, _, h⟩ => by subst h; rfl
theorem SInt.cell {k : IntKind} (y : PV) : SInt k y → y.cells = [y] := fun ⟨_, _, h⟩ => by subst h; rfl
theorem SBool.cell (y : PV) : SBool y → y.cells = [y] := fun ⟨_, h⟩ => by subst h; rfl
end

end Go.Proofs.YtjcacjeoddnmhaaDoor.Pw

/- Package tables that are laid, as values; contracts that end in new memory. -/
namespace Go.Proofs.YtjcacjeoddnmhaaDoor.Pw
open Go Go.RowKit

def tabPs (P : Program) (total : Nat) (r : TypeId → DataW Unit → Option (List PV)) : Nat → List (Nat × TypeId) → List (DataW Unit) → Option (List PV)
  | off, [], [] => if off = total then some [] else none
  | off, (o, t) :: ps, d :: ds => if o = off then (match r t d, tabPs P total r (off + P.cellsOf t) ps ds with
      | some xs, some ys => some (xs ++ ys)
      | _, _ => none) else none
  | _, _, _ => none
/-- a table's cells, off what is laid -/
def tabV (P : Program) : Nat → TypeId → DataW Unit → Option (List PV)
  | 0, _, _ => none
  | f + 1, t, d => match P.underlying t, d with
    | some (.int k), .lit (.int l n) => if k = l then some [.lit k n] else none
    | some .bool, .lit (.bool b) => some [if b then .tt else .ff]
    | some (.struct fs), .agg ds => tabPs P (P.cellsOf t) (tabV P f) 0 (fs.toList.map fun f => (f.offset, f.type)) ds
    | some (.array n e), .agg ds => tabPs P (P.cellsOf t) (tabV P f) 0 ((List.range n).map fun i => (i * P.cellsOf e, e)) ds
    | _, _ => none
section
variable {P : Program} {w : World} {I : Nat → Prop}
theorem tabV_ok {base : Nat} {sp : Nat → Bool} {held : Bool} {enc : TypeId × Value → Unit} : ∀ (f : Nat) (t : TypeId) (d : DataW Unit) (xs : List PV) (fuel : Nat) (cs : List Value) (p : List MemPlace), tabV P f t d = some xs → DataW.trod enc P w base sp held fuel t cs = some (d, p) → IsL w I xs no cs ∧ ∀ c ∈ cs, c.oneCell' = true
  | 0, _, _, _, _, _, _, h, _ => by simp [tabV] at h
  | f + 1, t, d, xs, fuel, cs, p, h, ht => by
    have key : ∀ (n : Nat) (ps : List (Nat × TypeId)) (ds : List (DataW Unit)) (off : Nat) (xs : List PV), tabPs P (P.cellsOf t) (tabV P f) off ps ds = some xs → cs.length = P.cellsOf t →
        (∀ (i : Nat) (o : Nat) (u : TypeId), ps[i]? = some (o, u) → ∃ d p, ds[i]? = some d ∧ DataW.trod enc P w base sp held n u ((cs.drop o).take (P.cellsOf u)) = some (d, p)) → IsL w I xs no (cs.drop off) ∧ ∀ c ∈ cs.drop off, c.oneCell' = true := by
      intro n ps
      induction ps with
      | nil =>
        intro ds off xs h hl _
        cases ds with
        | cons => simp [tabPs] at h
        | nil =>
          simp only [tabPs] at h
          split at h
          · cases h
            rw [List.drop_eq_nil_of_le (by omega)]
            exact ⟨by simp only [IsL], fun c hc => by cases hc⟩
          · cases h
      | cons q ps ih =>
        obtain ⟨o, u⟩ := q
        intro ds off xs h hl ha
        cases ds with
        | nil => simp [tabPs] at h
        | cons d ds =>
          simp only [tabPs] at h
          split at h
          · rename_i ho
            subst ho
            split at h
            · rename_i xs1 ys h1 h2
              cases h
              obtain ⟨d', p', hd, ht⟩ := ha 0 o u rfl
              simp only [List.getElem?_cons_zero, Option.some.injEq] at hd
              subst hd
              have i1 := tabV_ok f u _ _ n _ _ h1 ht
              have i2 := ih ds _ _ h2 hl fun i o' u' hi => by
                obtain ⟨d', p', hd, ht⟩ := ha (i + 1) o' u' (by simpa using hi)
                exact ⟨d', p', by simpa using hd, ht⟩
              have hd : cs.drop o = (cs.drop o).take (P.cellsOf u) ++ cs.drop (o + P.cellsOf u) := by
                rw [← List.drop_drop, List.take_append_drop]
              rw [hd]
              refine ⟨i1.1.append i2.1, fun c hc => ?_⟩
              rw [List.mem_append] at hc
              exact hc.elim (i1.2 c) (i2.2 c)
            · cases h
          · cases h
    unfold tabV at h
    split at h
    · rename_i hu
      obtain ⟨z, rfl, hz, _⟩ := DataW.trod_int hu ht
      simp only [Prod.mk.injEq, DataW.lit.injEq, Lit.int.injEq] at hz
      obtain ⟨⟨rfl, rfl⟩, _⟩ := hz
      simp only [if_true, Option.some.injEq] at h
      subst h
      exact ⟨IsL.one (by simp only [PV.Is]), fun c hc => by simp only [List.mem_singleton] at hc; subst hc; rfl⟩
    · rename_i hu
      obtain ⟨b, rfl, hz⟩ := DataW.trod_bool hu ht
      simp only [Prod.mk.injEq, DataW.lit.injEq, Lit.bool.injEq] at hz
      obtain ⟨rfl, _⟩ := hz
      simp only [Option.some.injEq] at h
      subst h
      refine ⟨IsL.one ?_, fun c hc => by simp only [List.mem_singleton] at hc; subst hc; rfl⟩
      split <;> simp only [PV.Is] <;> simp_all
    · rename_i hu
      obtain ⟨ys, n, _, hz, hl, hyl, hy⟩ := DataW.trod_struct hu ht
      simp only [Prod.mk.injEq, DataW.agg.injEq] at hz
      obtain ⟨rfl, _⟩ := hz
      have := key n _ _ 0 xs h hl fun i o u hi => by
        simp only [List.getElem?_map, Option.map_eq_some_iff, Prod.mk.injEq] at hi
        obtain ⟨f', hf, rfl, rfl⟩ := hi
        have hy := hy i f' (by simpa using hf)
        have hlt : i < ys.length := by rw [hyl]; simpa using (List.getElem?_eq_some_iff.1 hf).1
        exact ⟨ys[i].1, ys[i].2, by simp [hlt], by rw [hy]; simp [hlt]⟩
      simpa using this
    · rename_i hu
      obtain ⟨ys, n, _, hz, hl, hyl, hy⟩ := DataW.trod_array hu ht
      simp only [Prod.mk.injEq, DataW.agg.injEq] at hz
      obtain ⟨rfl, _⟩ := hz
      have := key n _ _ 0 xs h hl fun i o u hi => by
        simp only [List.getElem?_map, Option.map_eq_some_iff, Prod.mk.injEq] at hi
        obtain ⟨j, hj, rfl, rfl⟩ := hi
        obtain ⟨hj1, rfl⟩ := List.getElem?_eq_some_iff.1 hj
        simp only [List.length_range] at hj1
        rw [List.getElem_range]
        have hy := hy i hj1
        have hlt : i < ys.length := by omega
        exact ⟨ys[i].1, ys[i].2, by simp [hlt], by rw [hy]; simp [hlt]⟩
      simpa using this
    · cases h
theorem laid_at {laid : List (String × DataW Unit)} : ∀ {l : List (String × DataW Unit)} {ps : List MemPlace}, DataW.LaidVars P w l ps → ∀ {name : String} {d : DataW Unit}, (name, d) ∈ l → ∀ {g : Nat} {t : TypeId} {xs : List PV} (f : Nat), P.globalNamed name = some g → (P.globals[g]?).map (·.type) = some t → tabV P f t d = some xs → xs ≠ [] → (g < w.heap.size ∧ IsAt w I xs g 0) ∧ ∃ arr ty fr, w.heap[g]? = some (.cells arr ty fr) ∧ arr.size = xs.length
  | [], _, _, _, _, hm, _, _, _, _, _, _, _, _ => by cases hm
  | (n, d) :: r, ps, h, name, d', hm, g, t, xs, f, hg, ht, hx, hne => by
    obtain ⟨g', t', cs, fuel, p, q, hg', ht', hvar, hd, hr, _⟩ := h
    rcases List.mem_cons.1 hm with he | hm
    · cases he
      obtain rfl := Option.some.inj (hg.symm.trans hg')
      obtain rfl := Option.some.inj (ht.symm.trans ht')
      obtain ⟨h1, h2⟩ := tabV_ok (I := I) f t _ _ fuel _ _ hx hd
      have hat : IsAt w I xs g 0 := IsAt.of fun i c hc => by
        obtain ⟨v, hv, hi⟩ := h1.get hc
        exact ⟨v, by rw [Nat.zero_add, World.var?_cell hg hvar]; simpa using hv, hi, h2 v (List.mem_of_getElem? hv)⟩
      refine ⟨⟨?_, hat⟩, ?_⟩
      rotate_left 1
      · have hl := h1.length
        unfold World.var? at hvar
        rw [hg, Option.bind_some] at hvar
        split at hvar
        · rename_i arr ty fr hh
          cases hvar
          exact ⟨_, ty, fr, hh, by simpa using hl.symm⟩
        · cases hvar
      cases xs with
      | nil => exact absurd rfl hne
      | cons c xs =>
        obtain ⟨v, hv, _⟩ := hat.get (i := 0) rfl
        exact World.block_lt_of_cell? w _ hv
    · exact laid_at (laid := laid) hr hm f hg ht hx hne
/-- what is laid, as the tables of the evaluator's context -/
theorem immOk_laid {G : Gx} {laid : List (String × DataW Unit)} (hpl : (laid.all fun x => x.2.handleName?.isNone) = true) (h : laidMetH P laid w)
    (hall : ∀ x ∈ G.tabs, ∃ name d t, (name, d) ∈ laid ∧ P.globalNamed name = some x.1 ∧ (P.globals[x.1]?).map (·.type) = some t ∧ tabV P 8 t d = some x.2 ∧ x.2 ≠ []) : ImmOk G (In w) w := by
  rw [MakeChecks.laidMetH_plain _ _ _ hpl] at h
  obtain ⟨ps, h, _⟩ := h
  have key : ∀ (g : Nat) (cs : List PV), (g, cs) ∈ G.tabs → (g < w.heap.size ∧ IsAt w (In w) cs g 0) ∧ ∃ arr ty fr, w.heap[g]? = some (.cells arr ty fr) ∧ arr.size = cs.length := fun g cs hg => by
    obtain ⟨name, d, t, h1, h2, h3, h4, h5⟩ := hall _ hg
    exact laid_at (I := In w) (laid := laid) h h1 8 h2 h3 h4 h5
  exact ⟨fun g hg => hg, fun g cs hg => (key g cs hg).1, fun g cs hg => (key g cs hg).2⟩
end

section
variable {w w' : World} {I I' : Nat → Prop} {β β' : Places} {G : Gx} {s : PSt} {a : Act} {st st' : List PBlk}
/-- what was never changed, and all that is new -/
def NewI (I : Nat → Prop) (w w' : World) (g : Nat) : Prop := I g ∨ (w.heap.size ≤ g ∧ g < w'.heap.size)
theorem PureF.of_new {f : FuncId} {args : List PV} {r : PV} (he : Ev.Enters G.cx.P f)
    (h : ∀ I β w vals, ImmOk G I w → IsL w I args β vals → Calls G.cx.P f vals.toArray w fun e w' => ∃ v, e = .returned v ∧ Below w.heap.size w w' ∧ r.Is w' (NewI I w w') no v) (hu : r.uses = []) : PureF G f args r := by
  refine Spec.intro he fun I β w vals hH hM hA => ?_
  refine (h I β w vals hM hA).mono fun e w' ⟨v, he, hB, hr⟩ => ⟨v, r, [], NewI I w w', β, he, rfl, uses_none hu hr, hH.none0 _ _, ?_, ⟨hB.os, hB.tape, hB.output, hB.size, fun g hg _ => hB.block g hg, fun g _ ⟨l, b, p, o, h1, _⟩ => by simp at h1, fun _ h => .inl h, fun g hg h => ?_⟩, Nat.le_refl _, fun _ _ _ => rfl⟩
  · have hM' := hM.below hB
    exact ⟨fun g hg => hg.elim (fun h => hM'.imm g h) (fun h => h.2), fun g cs hg => ⟨.inl (hM'.tab g cs hg).1, IsAt.mono (fun _ h => .inl h) (fun _ _ => rfl) _ _ _ rfl (hM'.tab g cs hg).2⟩, hM'.row⟩
  · rcases h with h | h
    · exact .inl h
    · omega
end

end Go.Proofs.YtjcacjeoddnmhaaDoor.Pw

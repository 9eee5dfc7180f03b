/- What the laws of this claim are proved with, joined (join.py) of 3 texts: no condition. -/
import Derived.Test.YtnbngokbamifbaaGreatDoorNa13
import Derived.Maps.Views
import Derived.Carry
import Derived.Laws.BytesArg
set_option linter.unusedVariables false
set_option linter.unusedSimpArgs false

/- Maps from ints to ints, over values: made, put into, looked up. -/
namespace Go.Proofs.YtnbngokbamifbaaGreatDoor.Pw
open Go Go.RowKit

/-- an entry that is put in -/
def kvP (x : Int × Int) : PV := .agg [.int .i64 x.1, .int .i64 x.2]
/-- what a map holds at a key, by what was put in, one after the other -/
def lkM (l : List (Int × Int)) (k : Int) : Int := l.foldl (fun a x => if x.1 = k then x.2 else a) 0
theorem lkM_snoc (l : List (Int × Int)) (x : Int × Int) (k : Int) : lkM (l ++ [x]) k = if x.1 = k then x.2 else lkM l k := by unfold lkM; rw [List.foldl_append]; rfl
theorem mapD_at (k : Int) : ∀ (l : List (Int × Int)) (D : DataW Unit) (a : Int), Maps.IsMap D → D.atKey (.int .i64 k) (.lit (.int .i64 0)) = .lit (.int .i64 a) →
    ((l.map kvP).foldl (fun D e => D.put (kvD e).1 (kvD e).2) D).atKey (.int .i64 k) (.lit (.int .i64 0)) = .lit (.int .i64 (l.foldl (fun a x => if x.1 = k then x.2 else a) a))
  | [], _, _, _, h => h
  | x :: l, D, a, hD, h => by
    refine mapD_at k l _ _ (by obtain ⟨es, rfl⟩ := hD; exact ⟨_, rfl⟩) ?_
    show (D.put (.int .i64 x.1) (.lit (.int .i64 x.2))).atKey (.int .i64 k) (.lit (.int .i64 0)) = .lit (.int .i64 (if x.1 = k then x.2 else a))
    by_cases hx : x.1 = k
    · subst hx
      rw [if_pos rfl]
      exact Maps.atKey_put_same hD (show WideAt.IsKeyLit (.int .i64 x.1) from trivial) _ _
    · rw [if_neg hx, Maps.atKey_put_other (fun e => hx (by injection e with _ e; exact e.symm))]
      exact h
theorem mapD_lk (l : List (Int × Int)) (k : Int) : (mapD (l.map kvP)).atKey (.int .i64 k) (.lit (.int .i64 0)) = .lit (.int .i64 (lkM l k)) := mapD_at k l (.map []) 0 ⟨_, rfl⟩ rfl
theorem mapD_snoc (cs : List PV) (x : Int × Int) : mapD (cs ++ [kvP x]) = (mapD cs).put (.int .i64 x.1) (.lit (.int .i64 x.2)) := by unfold mapD; rw [List.foldl_append]; rfl
theorem wf_i64 {k : Int} (h : InR .i64 k) : (Lit.int .i64 k).wf = true := by
  unfold InR Ev.kmin Ev.kmax at h
  simp only [IntKind.signed, IntKind.bits] at h
  simp only [Lit.wf, IntKind.min, IntKind.max, IntKind.signed, IntKind.bits, Bool.and_eq_true, decide_eq_true_eq]
  simpa using h

def mpB (l : List (Int × Int)) : PBlk := ⟨.mp, 0, 1, .w, true, l.map kvP⟩
/-- a map's type is this one, of ints -/
def mpT (G : Gx) (t : TypeId) (q : Prop) : Prop := need (G.cx.und t) fun d => match d with
  | .map k e => bif Nat.beq k 3 && Nat.beq e 3 then G.cx.P = Tryz.prog ∧ q else False
  | _ => False
def pmakeMap (s : PSt) (o : Oper) (q : PV → PSt → Prop) : Prop := match o.op with
  | .makeMap _ none => lenK s.st 0 fun l => addB s.st ⟨.mp, 0, 1, .w, true, []⟩ fun st => q (.mref l) (s.store st)
  | _ => False
def plookup (G : Gx) (s : PSt) (o : Oper) (q : PV → PSt → Prop) : Prop := match o.op with
  | .lookup t x i false => mpT G t (s.ev x fun x => s.ev i fun i => match x with
    | .mref l => need s.st[l]? fun b => (match b.k with
      | .mp => bif b.live then need i.num fun n => InR .i64 n.2.2 ∧ n.2.1 = .i64 ∧ ∃ L : List (Int × Int), b.cs = L.map kvP ∧ q (.int .i64 (lkM L n.2.2)) s else False
      | _ => False)
    | _ => False)
  | _ => False
def pmapPut (G : Gx) (s : PSt) (o : Oper) (q : PV → PSt → Prop) : Prop := match o.op with
  | .mapUpdate t x i v => mpT G t (s.ev x fun x => s.ev i fun i => s.ev v fun v => match x with
    | .mref l => need s.st[l]? fun b => (match b.k with
      | .mp => bif b.can then need i.num fun n => need v.num fun m => InR .i64 n.2.2 ∧ n.2.1 = .i64 ∧ InR .i64 m.2.2 ∧ m.2.1 = .i64 ∧ b.cs.length < maxLen ∧ setB s.st l (b.withCs (b.cs ++ [kvP (n.2.2, m.2.2)])) fun st => q (.tup []) (s.store st) else False
      | _ => False)
    | _ => False)
  | _ => False

section
variable {w w' : World} {I I' : Nat → Prop} {β β' : Places} {G : Gx} {s : PSt} {a : Act} {st st' : List PBlk}
theorem alloc_newO (hh : HeapOk I β st w) (hI : ∀ g, I g → g < w.heap.size) {ob : Obj} {b : PBlk} {p : Plc} (hp : p.a = some (w.heap.size, 0))
    (hb : Own I (β.set st.length p) (st ++ [b]) st.length w.heap.size (0, 0) b → BlkOk I (β.set st.length p) (st ++ [b]) (w.alloc ob) st.length b) (hm : b.m = .w) :
    HeapOk I (β.set st.length p) (st ++ [b]) (w.alloc ob) ∧ Ext I β st w I (β.set st.length p) (st ++ [b]) (w.alloc ob) := by
  have hfresh : ∀ g o, p.a = some (g, o) → ¬ I g ∧ ¬ Lives β st g := fun g o ha => by
    rw [hp] at ha; cases ha
    exact ⟨fun h => by have := hI _ h; omega, fun h => by have := hh.lives_lt h; omega⟩
  refine ⟨hh.add (alloc_keeps hh hI _) hfresh (hb ⟨fun _ => ⟨rfl, (hfresh _ _ hp).1, fun l' b' hne hl' hlive' p' g' o' hp' ha' e => ?_⟩, fun hr => by rw [hm] at hr; cases hr⟩), Ext.add (w' := w.alloc ob) hh rfl rfl rfl (by simp) (fun g hg _ => Ev.heap_old w _ g hg) (fun g o ha hg => by rw [hp] at ha; cases ha; omega)⟩
  subst e
  unfold Places.set at hp'
  rw [if_neg hne] at hp'
  have := hh.lt hp'
  rw [List.getElem?_append_left this] at hl'
  exact (hfresh _ _ hp).2 ⟨l', b', p', o', hl', hlive', hp', ha'⟩
theorem pmakeMap_ok {o : Oper} {q : PV → PSt → Prop} (h : pmakeMap s o q) : OpS G s o q := OpS.intro fun I β a w hR => by
  unfold pmakeMap at h
  split at h
  · rename_i t hop
    replace h := addB_ok (lenK_ok h)
    rw [Nat.zero_add] at h
    have hrun : (execOp a.eval o).run G.cx.P w = .ok (.value (.map (some w.heap.size))) (w.alloc (.map #[] 0)) := by
      unfold execOp
      rw [hop]
      simp only [Option.map_none, Sem.run_bind, run_makeMap, Result.andThen_ok, Sem.run_pure]
    rw [hrun]
    have hset := Places.set_mono hR.heap ⟨some (w.heap.size, 0), 0, 0⟩
    obtain ⟨hH, hE⟩ := alloc_newO (ob := .map #[] 0) hR.heap hR.imm.imm (b := ⟨.mp, 0, 1, .w, true, []⟩) (p := ⟨some (w.heap.size, 0), 0, 0⟩) rfl (fun ho => ⟨_, Places.set_self .., ⟨w.heap.size, rfl, World.ownsMap_made w .., ho⟩⟩) rfl
    refine OpPost.mk' hR h hH hE hset (by simp) (fun l hl => if_neg (by omega)) ?_
    simp only [PV.Is]; exact ⟨_, _, Places.set_self .., rfl, rfl⟩
  · exact h.elim
theorem num_is {x : PV} {v : Value} {n : Bool × IntKind × Int} (h : x.num = some n) (hx : x.Is w I β v) : v = .int n.2.1 n.2.2 := by
  cases x <;> simp only [PV.num] at h <;> first | cases h; simp only [PV.Is] at hx; exact hx | cases h
theorem map_at (hH : HeapOk I β st w) {l : Nat} {b : PBlk} {v : Value} (hb : st[l]? = some b) (hl : b.live = true) (hk : b.k = .mp) (hx : (PV.mref l).Is w I β v) : ∃ p g, β l = some p ∧ p.a = some (g, 0) ∧ v = .map (some g) ∧ MapAt w g b.cs ∧ Own I β st l g (0, 0) b := by
  simp only [PV.Is] at hx
  obtain ⟨p, g, hp, ha, rfl⟩ := hx
  obtain ⟨p', hp', hB⟩ := hH.blk l b hb hl
  rw [hp] at hp'
  cases hp'
  rw [hk] at hB
  obtain ⟨g', ha', hm, ho⟩ := hB
  rw [ha] at ha'
  cases ha'
  exact ⟨p, g, hp, ha, rfl, hm, ho⟩
theorem mpT_ok (hG : GOk G) {t : TypeId} {q : Prop} (h : mpT G t q) : G.cx.P = Tryz.prog ∧ Tryz.prog.underlying t = some (.map 3 3) ∧ q := by
  obtain ⟨d, hd, h⟩ := need_ok h
  split at h
  · obtain ⟨hc, hP, h⟩ := bif_ok h
    simp only [Bool.and_eq_true] at hc
    obtain ⟨h1, h2⟩ := hc
    have := hG.ok.un hd
    rw [hP, Nat.eq_of_beq_eq_true h1, Nat.eq_of_beq_eq_true h2] at this
    exact ⟨hP, this, h⟩
  · exact h.elim
theorem plookup_ok (hG : GOk G) {o : Oper} {q : PV → PSt → Prop} (h : plookup G s o q) : OpS G s o q := OpS.intro fun I β a w hR => by
  unfold plookup at h
  split at h
  · rename_i t ox oi hop
    replace h := mpT_ok hG h
    obtain ⟨hP, hu, h⟩ := h
    replace h := PSt.ev_ok hR h
    obtain ⟨x, h, hx⟩ := h
    replace h := PSt.ev_ok hR h
    obtain ⟨i, h, hi⟩ := h
    split at h
    · rename_i l
      replace h := need_ok h
      obtain ⟨b, hb, h⟩ := h
      split at h
      · rename_i hk
        replace h := bif_ok h
        obtain ⟨hl, h⟩ := h
        replace h := need_ok h
        obtain ⟨n, hn, hr, hkn, L, hL, h⟩ := h
        have hiv := num_is hn hi
        rw [hkn] at hiv
        obtain ⟨p, g, hp, ha, hv, hm, ho⟩ := map_at hR.heap hb hl hk hx
        have hz : ∀ w, (zeroValue 3).run Tryz.prog w = .ok (.int .i64 0) w := Tryz.zeroValue3
        obtain ⟨c, hrun, hat, _⟩ := World.ownsMap.lookup_int hm (Maps.int_keyed Tryz.underlying3) hu Tryz.underlying3 (hz w) (Maps.keyOf_int_mk Tryz.underlying3 (wf_i64 hr))
        rw [hL, mapD_lk] at hat
        obtain rfl : lkM L n.2.2 = c := (Lit.int.inj (DataW.lit.inj hat)).2
        have hrun2 : (execOp a.eval o).run G.cx.P w = .ok (.value (.int .i64 (lkM L n.2.2))) w := by
          unfold execOp
          rw [hop]
          simp only [hv, hiv, hP, Sem.run_bind, hrun, Result.andThen_ok, Sem.run_pure]
        rw [hrun2]
        exact OpPost.same hR h (by simp only [PV.Is])
      · exact h.elim
    · exact h.elim
  · exact h.elim
theorem pmapPut_ok (hG : GOk G) {o : Oper} {q : PV → PSt → Prop} (h : pmapPut G s o q) : OpS G s o q := OpS.intro fun I β a w hR => by
  unfold pmapPut at h
  split at h
  · rename_i t ox oi ov hop
    replace h := mpT_ok hG h
    obtain ⟨hP, hu, h⟩ := h
    replace h := PSt.ev_ok hR h
    obtain ⟨x, h, hx⟩ := h
    replace h := PSt.ev_ok hR h
    obtain ⟨i, h, hi⟩ := h
    replace h := PSt.ev_ok hR h
    obtain ⟨v, h, hv⟩ := h
    split at h
    · rename_i l
      replace h := need_ok h
      obtain ⟨b, hb, h⟩ := h
      split at h
      · rename_i hk
        replace h := bif_ok h
        obtain ⟨hc, h⟩ := h
        obtain ⟨hlive, hmw⟩ := can_ok hc
        replace h := need_ok h
        obtain ⟨n, hn, h⟩ := h
        replace h := need_ok h
        obtain ⟨m, hm1, hr, hkn, hr2, hkm, hlen, h⟩ := h
        replace h := setB_ok h
        obtain ⟨hlt, h⟩ := h
        have hiv := num_is hn hi
        rw [hkn] at hiv
        have hvv := num_is hm1 hv
        rw [hkm] at hvv
        obtain ⟨p, g, hp, ha, hxv, hm, ho⟩ := map_at hR.heap hb hlive hk hx
        obtain ⟨w', hrun, hown, hgrow⟩ := World.ownsMap.update hm (Maps.int_keyed Tryz.underlying3) hu hlen (Maps.keyOf_int_mk Tryz.underlying3 (wf_i64 hr)) (plainElem_int Tryz.underlying3 (wf_i64 hr2))
        have hrun2 : (execOp a.eval o).run G.cx.P w = .ok .skip w' := by
          unfold execOp
          rw [hop]
          simp only [hxv, hiv, hvv, hP, Sem.run_bind, hrun, Result.andThen_ok, Sem.run_pure]
        rw [hrun2]
        obtain ⟨k1, k2, k3, k4, k5, k6⟩ := withCs_k b (b.cs ++ [kvP (n.2.2, m.2.2)])
        have hgl : g < w.heap.size := by obtain ⟨es, clock, hb, _⟩ := hm; exact lt_of_heap hb
        obtain ⟨_, hIg, huniq⟩ := ho.1 (by rw [hmw]; decide)
        have hold : ∀ y, y < w.heap.size → y ≠ g → w'.heap[y]? = w.heap[y]? := fun y hy hne => hgrow.block y hy (fun e => hne (Option.some.inj e))
        have hII : ∀ y, I y → w'.heap[y]? = w.heap[y]? := fun y hy => hold y (hR.imm.imm y hy) fun e => hIg (e ▸ hy)
        have huniq' : ∀ l' b'', l' ≠ l → (s.st.set l (b.withCs (b.cs ++ [kvP (n.2.2, m.2.2)])))[l']? = some b'' → b''.live = true → ∀ p g' o', β l' = some p → p.a = some (g', o') → g' ≠ g := fun l' b'' hne hl'' hlive'' p g' o' hp' ha' => by
          rw [List.getElem?_set_ne (fun e => hne e.symm)] at hl''
          exact huniq l' b'' hne hl'' hlive'' p g' o' hp' ha'
        have hH : HeapOk I β (s.st.set l (b.withCs (b.cs ++ [kvP (n.2.2, m.2.2)]))) w' := by
          refine ⟨fun l2 hl2 => hR.heap.far l2 (by simpa using hl2), fun l2 b2 hl2 hlive2 => ?_⟩
          by_cases hne : l2 = l
          · subst hne
            rw [List.getElem?_set_self hlt] at hl2
            cases hl2
            refine ⟨p, hp, ?_⟩
            rw [k1, hk]
            refine ⟨g, ha, ?_, ⟨fun _ => ⟨rfl, hIg, huniq'⟩, fun hr => by rw [k4, hmw] at hr; cases hr⟩⟩
            rw [k6]
            unfold MapAt
            rw [mapD_snoc, List.length_append, List.length_singleton]
            exact hown
          · rw [List.getElem?_set_ne (fun e => hne e.symm)] at hl2
            have hb2 := hR.heap.blk l2 b2 hl2 hlive2
            refine hb2.mono (fun _ h => h) hII (fun _ _ h => h) fun q2 g2 o2 hq ha2 => ?_
            obtain ⟨ob, _, fr2, hh2, ho2⟩ := hb2.place hq ha2
            have hg2 : g2 ≠ g := huniq l2 b2 hne hl2 hlive2 q2 g2 o2 hq ha2
            refine ⟨hold g2 (lt_of_heap hh2) hg2, fun hr => ⟨(ho2.1 hr).2.1, fun l3 b3 hne3 hl3 hlive3 p3 g3 o3 hp3 ha3 => ?_⟩⟩
            by_cases h3 : l3 = l
            · subst h3
              rw [hp] at hp3
              cases hp3
              rw [ha] at ha3
              cases ha3
              exact fun e => hg2 e.symm
            · rw [List.getElem?_set_ne (fun e => h3 e.symm)] at hl3
              exact (ho2.1 hr).2.2 l3 b3 hne3 hl3 hlive3 p3 g3 o3 hp3 ha3
        have hE : Ext I β s.st w I β (s.st.set l (b.withCs (b.cs ++ [kvP (n.2.2, m.2.2)]))) w' :=
          ⟨hgrow.os, hgrow.tape, hgrow.output, hgrow.size, fun y hy hn => hold y hy fun e => hn (e ▸ ⟨l, b, p, 0, hb, hlive, hmw, hp, ha⟩), fun y hy hw => wr_set (.inr ⟨b, hb, by rw [k5], by rw [k4]⟩) hw, fun _ h => h, fun _ _ h => .inl h⟩
        refine OpPost.mk' hR h hH hE (fun _ _ h => h) (by simp) (fun _ _ => rfl) ?_
        simp only [PV.Is]; exact ⟨#[], rfl, by simp only [IsL]⟩
      · exact h.elim
    · exact h.elim
  · exact h.elim
end

end Go.Proofs.YtnbngokbamifbaaGreatDoor.Pw

/- Slices of a length that is told. -/
namespace Go.Proofs.YtnbngokbamifbaaGreatDoor.Pw
open Go Go.RowKit

/-- make of a length that is told, elements of one cell -/
def pmakeN (G : Gx) (s : PSt) (o : Oper) (q : PV → PSt → Prop) : Prop := match o.op with
  | .makeSlice t l c => need (G.cx.und t) fun d => match d with
    | .slice elem => need (Ev.sizeT G.cx elem) fun n => need (Ev.lkT elem G.bt) fun by_ => zerosO G.cx elem fun z => s.ev l fun l => s.ev c fun c => need l.num fun n1 => need c.num fun n2 => (match z with
      | [x] => bif Nat.beq n 1 && x.noRef then ∃ N : Nat, n1.2.2 = N ∧ n2.2.2 = N ∧ n1.2.1 = .i64 ∧ n2.2.1 = .i64 ∧ by_ * N ≤ 281474976710656 ∧ N ≤ maxLen ∧ pnewS s ⟨.dyn, elem, 1, .w, true, List.replicate N x.norm⟩ q else False
      | _ => False)
    | _ => False
  | _ => False
section
variable {w w' : World} {I I' : Nat → Prop} {β β' : Places} {G : Gx} {s : PSt} {a : Act} {st st' : List PBlk}
theorem pmakeN_ok (hG : GOk G) {o : Oper} {q : PV → PSt → Prop} (h : pmakeN G s o q) : OpS G s o q := OpS.intro fun I β a w hR => by
  unfold pmakeN at h
  split at h
  · rename_i t l c hop
    replace h := need_ok h
    obtain ⟨d, hu, h⟩ := h
    split at h
    · rename_i elem
      replace h := need_ok h
      obtain ⟨n, hn, h⟩ := h
      replace h := need_ok h
      obtain ⟨by_, hby, h⟩ := h
      replace h := zerosO_ok (w := w) (I := I) (β := β) hG.ok h
      obtain ⟨z, i, v, h, hi, hzv, hzz⟩ := h
      replace h := PSt.ev_ok hR h
      obtain ⟨x, h, hx⟩ := h
      replace h := PSt.ev_ok hR h
      obtain ⟨y, h, hy⟩ := h
      replace h := need_ok h
      obtain ⟨n1, hn1, h⟩ := h
      replace h := need_ok h
      obtain ⟨n2, hn2, h⟩ := h
      have hx := num_is hn1 hx
      have hy := num_is hn2 hy
      split at h
      · rename_i x
        replace h := bif_ok h
        obtain ⟨hc, N, e1, e2, k1, k2, h4, h5, h⟩ := h
        simp only [Bool.and_eq_true] at hc
        obtain ⟨h3, h6⟩ := hc
        obtain rfl := Nat.eq_of_beq_eq_true h3
        rw [e1, k1] at hx
        rw [e2, k2] at hy
        obtain ⟨i2, hi2, hib⟩ := hG.by_ _ (Ev.lkT_mem hby)
        rw [hi] at hi2; cases hi2
        obtain ⟨i3, hi3, his⟩ := Ev.size_inf hG.ok hn
        rw [hi] at hi3; cases hi3
        match hvc : v.cells.toList, hzz with
        | [u], hzz =>
          have hvc' : v.cells = #[u] := by rw [← Array.toArray_toList (xs := v.cells), hvc]
          simp only [IsL, and_true] at hzz
          have hu1 : u.oneCell' = true := by
            refine flat_one (hzz.flat (show x.cell1 = true from ?_))
            cases x <;> first | rfl | cases h6
          have hv1 : v.cells = #[u] := hvc'
          have hrun : (execOp a.eval o).run G.cx.P w = .ok (.value (.slice (some ⟨w.heap.size, 0, none⟩) N N)) (w.alloc (.cells (madeCells #[u] N) elem)) := by
            have h7 : ((by_ * N : Nat) : Int) ≤ 281474976710656 := Int.ofNat_le.2 h4
            have h8 : (i.bytes : Int) * (N : Int) ≤ 281474976710656 := by rw [hib, ← Int.natCast_mul]; exact h7
            have := run_make (P := G.cx.P) w t elem i v (hG.ok.un hu) hi hzv .i64 .i64 N N (by omega) (Int.le_refl _) h8 (by unfold maxLen at h5; omega)
            rw [show i.size = 1 from his, hv1] at this
            simp only [Int.toNat_natCast, Nat.mul_one] at this
            unfold execOp
            rw [hop]
            simp only [hx, hy, Sem.run_bind, this, Result.andThen_ok, Sem.run_pure]
          rw [hrun]
          replace h := addB_ok (lenK_ok h)
          rw [Nat.zero_add] at h
          have hset := Places.set_mono hR.heap ⟨some (w.heap.size, 0), N, N⟩
          have hsz : (madeCells #[u] N).size = N := size_madeCells _ _
          have hec : x.norm.cells = [x.norm] := by cases x <;> first | rfl | cases h6
          have hEs : IsEs (w.alloc (.cells (madeCells #[u] N) elem)) I (List.replicate N x.norm) 1 w.heap.size 0 := IsEs.of fun j e he => by
            rw [List.getElem?_replicate] at he
            split at he
            · rename_i hj
              cases he
              refine ⟨by rw [hec]; rfl, IsAt.of fun j2 c hc => ?_⟩
              rw [hec] at hc
              match j2, hc with
              | 0, hc =>
                simp at hc; subst hc
                refine ⟨u, ?_, norm_is ?_, hu1⟩
                · rw [Ev.cells_of (Ev.heap_new w _)]
                  simp [madeCells, hj, Nat.mod_one]
                · refine PV.Is.mono (fun _ h => h) (fun g hg => alloc_keeps hR.heap hR.imm.imm _ g (.inr hg)) x β _ u (fun l p hl => ?_) hzz
                  exfalso
                  cases x <;> first | (simp [PV.uses] at hl; done) | (simp [PV.noRef] at h6; done)
            · cases he
          obtain ⟨hH, hE⟩ := alloc_new (vs := madeCells #[u] N) (t := elem) hR.heap hR.imm.imm (b := ⟨.dyn, elem, 1, .w, true, List.replicate N x.norm⟩) (p := ⟨some (w.heap.size, 0), N, N⟩) rfl (fun ho =>
            ⟨_, Places.set_self .., ⟨Nat.zero_lt_one, List.length_replicate, Nat.le_refl _, h5⟩, .inr ⟨w.heap.size, madeCells #[u] N, (0, 0), rfl, Ev.heap_new w _, hEs, ho, by rw [hsz, Nat.mul_one]⟩⟩) rfl
          refine OpPost.mk' hR h hH hE hset (by simp) (fun l hl => if_neg (by omega)) ?_
          simp only [PV.Is]; exact ⟨_, Places.set_self .., rfl⟩
        | [], hzz => simp only [IsL] at hzz
        | _ :: _ :: _, hzz => simp only [IsL, and_false] at hzz
      · exact h.elim
    · exact h.elim
  · exact h.elim
end

end Go.Proofs.YtnbngokbamifbaaGreatDoor.Pw

/- Bytes as a string. -/
namespace Go.Proofs.YtnbngokbamifbaaGreatDoor.Pw
open Go Go.RowKit

def strK (x : PV) (q : List Int → Prop) : Prop := match x with
  | .sl n es => n = 1 ∧ ∃ l : List Int, es = l.map (PV.int .u8) ∧ q l
  | .nil => q []
  | _ => False
/-- what a string is made of bytes -/
def pstr (G : Gx) (s : PSt) (o : Oper) (q : PV → PSt → Prop) : Prop := match o.op with
  | .convert src dst x => need (G.cx.und src) fun d => (match d with
    | .slice e => need (G.cx.und dst) fun d2 => need (G.cx.und e) fun d3 => (match d2, d3 with
      | .string, .int .u8 => s.ev x fun x => strK x fun l => q (.val (.string (strOfNums l))) s
      | _, _ => False)
    | _ => False)
  | _ => False
section
variable {w : World} {I : Nat → Prop} {β : Places} {G : Gx} {s : PSt}
theorem bytes_cells {l : List Int} {g o : Nat} (h : IsEs w I (l.map (PV.int .u8)) 1 g o) : ∀ i, i < l.length → w.cell? ⟨g, o + i, none⟩ = some (.int .u8 (l.getD i 0)) := fun i hi => by
  obtain ⟨_, h2⟩ := IsEs.get h (i := i) (e := PV.int .u8 l[i]) (by rw [List.getElem?_map, List.getElem?_eq_getElem hi]; rfl)
  obtain ⟨v, h3, h4, _⟩ := IsAt.get h2 (i := 0) (c := PV.int .u8 l[i]) rfl
  simp only [PV.Is] at h4
  subst h4
  rw [List.getD_eq_getElem?_getD, List.getElem?_eq_getElem hi]
  simpa using h3
theorem pstr_ok (hG : GOk G) {o : Oper} {q : PV → PSt → Prop} (h : pstr G s o q) : OpS G s o q := OpS.intro fun I β a w hR => by
  unfold pstr at h
  split at h
  · rename_i src dst ox hop
    replace h := need_ok h
    obtain ⟨d, hd, h⟩ := h
    split at h
    · rename_i e
      replace h := need_ok h
      obtain ⟨d2, hd2, h⟩ := h
      replace h := need_ok h
      obtain ⟨d3, hd3, h⟩ := h
      split at h
      · replace h := PSt.ev_ok hR h
        obtain ⟨x, h, hx⟩ := h
        have key : ∃ l : List Int, q (.val (.string (strOfNums l))) s ∧ (convert src dst (a.eval ox)).run G.cx.P w = .ok (.string (strOfNums l)) w := by
          unfold strK at h
          split at h
          · obtain ⟨rfl, l, rfl, h⟩ := h
            simp only [PV.Is] at hx
            obtain ⟨ad, cap, hv, _, _, h1, h2⟩ := hx
            rw [List.length_map] at hv h2
            refine ⟨l, h, ?_⟩
            by_cases hl : l.length = 0
            · obtain rfl := List.eq_nil_of_length_eq_zero hl
              rw [hv]
              cases ad with
              | none => exact run_convert_bytes_nil w src e (hG.ok.un hd) (hG.ok.un hd3) _ _ dst (hG.ok.un hd2)
              | some ad =>
                rw [run_convert_bytes_string w src dst e _ _ cap (hG.ok.un hd) (hG.ok.un hd3) (hG.ok.un hd2)]
                exact (run_bytesToString (P := G.cx.P) w ad 0 cap [] (run_loadCells_list (P := G.cx.P) w ad [] fun j v hj => by simp at hj)).trans rfl
            · obtain ⟨g, off, rfl, _, _⟩ := h2 hl
              rw [hv]
              exact run_convert_bytes_arg w src e (hG.ok.un hd) (hG.ok.un hd3) g off l.length cap l rfl (bytes_cells (h1 g off rfl)) dst (hG.ok.un hd2)
          · simp only [PV.Is] at hx
            refine ⟨[], h, ?_⟩
            rw [hx]
            exact run_convert_bytes_nil w src e (hG.ok.un hd) (hG.ok.un hd3) _ _ dst (hG.ok.un hd2)
          · exact h.elim
        obtain ⟨l, h, hrun⟩ := key
        have hrun2 : (execOp a.eval o).run G.cx.P w = .ok (.value (.string (strOfNums l))) w := by
          unfold execOp
          rw [hop]
          simp only [Sem.run_bind, hrun, Result.andThen_ok, Sem.run_pure]
        rw [hrun2]
        exact OpPost.same hR h (by simp only [PV.Is]; exact ⟨trivial, rfl⟩)
      · exact h.elim
    · exact h.elim
  · exact h.elim
end
end Go.Proofs.YtnbngokbamifbaaGreatDoor.Pw

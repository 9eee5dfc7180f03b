/- What the laws of this claim are proved with, joined (join.py) of 7 texts: no condition. -/
import Derived.Test.YtjcacjeoddnmhaaDoorNc8
import Derived.Test.YtjcacjeoddnmhaaDoorNc3
import Derived.Deep.Slices
import Derived.Below
import Derived.OpenShut
import Derived.LaidLaws
import Derived.ChangeArms
import Derived.MakeChecks
import Derived.Stop.Joined
set_option linter.unusedVariables false
set_option linter.unusedSimpArgs false

/- A state that says no more than another one: sound; the states at a loop's head. -/
namespace Go.Proofs.YtjcacjeoddnmhaaDoor.Pw
open Go Go.RowKit

section
variable {w w' : World} {I I' : Nat → Prop} {β β' : Places} {G : Gx} {s : PSt} {a : Act} {st st' : List PBlk}

theorem leL_cells {cs ds : List PV} {arr : Array Value} {o : Nat} (h : leL le1 cs ds) (hc : CellsAt w I β cs arr o) : CellsAt w I β ds arr o := by
  have key : ∀ (cs ds : List PV) (o : Nat), leL le1 cs ds → CellsAt w I β cs arr o → CellsAt w I β ds arr o := by
    intro cs
    induction cs with
    | nil => intro ds o h hc; cases ds with
      | nil => exact hc
      | cons _ _ => exact h.elim
    | cons c cs ih =>
      intro ds o h hc
      cases ds with
      | nil => exact h.elim
      | cons d ds =>
        intro i x hx
        cases i with
        | zero =>
          simp at hx; subst hx
          obtain ⟨v, hv, hi, h1⟩ := hc 0 c rfl
          exact ⟨v, hv, le1_ok h.1 w I β v hi, h1⟩
        | succ i =>
          have := ih ds (o + 1) h.2 (fun j y hy => by
            obtain ⟨v, hv, h1⟩ := hc (j + 1) y (by simpa using hy)
            exact ⟨v, by rw [show o + 1 + j = o + (j + 1) by omega]; exact hv, h1⟩) i x (by simpa using hx)
          obtain ⟨v, hv, h1⟩ := this
          exact ⟨v, by rw [show o + (i + 1) = o + 1 + i by omega]; exact hv, h1⟩
  exact key cs ds o h hc
theorem renL_cells {π : Ren} {cs ds : List PV} {arr : Array Value} {o : Nat} (h : renL π ds = some cs) (hc : CellsAt w I β cs arr o) : CellsAt w I (renB β π) ds arr o := by
  have key : ∀ (ds cs : List PV) (o : Nat), renL π ds = some cs → CellsAt w I β cs arr o → CellsAt w I (renB β π) ds arr o := by
    intro ds
    induction ds with
    | nil => intro cs o _ _ i c hc; simp at hc
    | cons d ds ih =>
      intro cs o h hc
      simp only [renL] at h
      split at h
      · rename_i y l h1 h2
        cases h
        intro i x hx
        cases i with
        | zero =>
          simp at hx; subst hx
          obtain ⟨v, hv, hi, h3⟩ := hc 0 y rfl
          exact ⟨v, hv, ren1_ok h1 hi, h3⟩
        | succ i =>
          have := ih l (o + 1) h2 (fun j y hy => by
            obtain ⟨v, hv, h1⟩ := hc (j + 1) y (by simpa using hy)
            exact ⟨v, by rw [show o + 1 + j = o + (j + 1) by omega]; exact hv, h1⟩) i x (by simpa using hx)
          obtain ⟨v, hv, h1⟩ := this
          exact ⟨v, by rw [show o + (i + 1) = o + 1 + i by omega]; exact hv, h1⟩
      · cases h
  exact key ds cs o h hc
theorem leL_len {r : PV → PV → Prop} : ∀ {cs ds : List PV}, leL r cs ds → cs.length = ds.length
  | [], [], _ => rfl
  | _ :: _, _ :: _, h => by simp [leL_len h.2]
  | [], _ :: _, h => h.elim
  | _ :: _, [], h => h.elim
theorem renL_len {π : Ren} : ∀ {ds cs : List PV}, renL π ds = some cs → ds.length = cs.length
  | [], cs, h => by simp only [renL, Option.some.injEq] at h; subst h; rfl
  | d :: ds, cs, h => by
    simp only [renL] at h
    split at h
    · rename_i y l h1 h2
      cases h; simp [renL_len h2]
    · cases h
theorem subK_ok (hO : Ev.CxOk G.cx) {π : Ren} {s s' : PSt} (h : subK G.cx π s s') : Sub G s s' := by
  obtain ⟨hn, hbase, hrl, hnd, hst, ht⟩ := h
  obtain ⟨hnd, _⟩ := bif_ok hnd
  simp only [Bool.and_eq_true] at hnd
  obtain ⟨hnd, hbk⟩ := hnd
  obtain ⟨hπl, hblk⟩ := stK_ok hst
  have hinj := nodupR_ok hnd
  have hbl := baseK_len hbk
  have hbk := baseK_ok hbk
  intro I β a w hR
  have hH : HeapOk I (renB β π) s'.st w := by
    refine ⟨fun l hl => by unfold renB; rw [List.getElem?_eq_none (by omega)], fun l b' hl hlive => ?_⟩
    rcases hblk l b' hl hlive with ⟨m, b, hπ, hb, hk⟩ | ⟨hπ, hk, hc, hsz⟩
    · obtain ⟨hc, hk⟩ := bif_ok hk
      simp only [Bool.and_eq_true] at hc
      obtain ⟨⟨⟨hty, hsz⟩, hm⟩, hlb⟩ := hc
      have hty := Nat.eq_of_beq_eq_true hty
      have hsz := Nat.eq_of_beq_eq_true hsz
      have hm := Md.beq_ok hm
      obtain ⟨p, hp, hB⟩ := hR.heap.blk m b hb hlb
      have own : ∀ {g : Nat} {fr : Nat × Nat}, Own I β s.st m g fr b → Own I (renB β π) s'.st l g fr b' := fun ho => by
        refine ⟨fun hr => ?_, fun hr => ho.2 (by rw [hm]; exact hr)⟩
        obtain ⟨h1, h2, h3⟩ := ho.1 (by rw [hm]; exact hr)
        refine ⟨h1, h2, fun l2 b2 hne hl2 hlive2 p2 g2 o2 hp2 ha2 => ?_⟩
        rcases hblk l2 b2 hl2 hlive2 with ⟨m2, b3, hπ2, hb3, hk3⟩ | ⟨hπ2, _⟩
        · rw [renB_some hπ2] at hp2
          obtain ⟨hc3, _⟩ := bif_ok hk3
          simp only [Bool.and_eq_true] at hc3
          exact h3 m2 b3 (fun e => hne (by subst e; exact hinj l2 l _ hπ2 hπ)) hb3 hc3.2 p2 g2 o2 hp2 ha2
        · rw [renB_none hπ2] at hp2
          cases hp2; cases ha2
      refine ⟨p, by rw [renB_some hπ]; exact hp, ?_⟩
      split at hk
      · rename_i hkb hkb'
        rw [hkb] at hB
        rw [hkb']
        obtain ⟨g, o, arr, ty, fr, h1, h2, h3, ho⟩ := hB
        obtain ⟨cs, hcs, hk⟩ := need_ok hk
        exact ⟨g, o, arr, ty, fr, h1, h2, renL_cells hcs (leL_cells hk h3), own ho⟩
      · rename_i hkb hkb'
        rw [hkb] at hB
        rw [hkb']
        obtain ⟨g, arr, fr, h1, h2, h3, ho, h4, h5, h6, h7, h8⟩ := hB
        obtain ⟨cs, hcs, hk⟩ := need_ok hk
        exact ⟨g, arr, fr, h1, by rw [← hty]; exact h2, renL_cells hcs (leL_cells hk h3), own ho, by rw [renL_len hcs, ← leL_len hk, ← hsz]; exact h4, h5, h6, by rw [← hsz]; exact h7, by rw [← hsz]; exact h8⟩
      · rename_i hkb hkb'
        rw [hkb] at hB
        rw [hkb']
        obtain ⟨⟨h1, h2, h3, h4⟩, hB⟩ := hB
        refine ⟨⟨by rw [← hsz]; exact h1, by rw [← hk]; exact h2, h3, h4⟩, ?_⟩
        rcases hB with h | ⟨g, arr, fr, h5, h6, h7, ho, h8⟩
        · exact .inl h
        · exact .inr ⟨g, arr, fr, h5, by rw [← hty]; exact h6, by rw [← hk, ← hsz]; exact h7, own ho, by rw [← hsz]; exact h8⟩
      · rename_i hkb hkb'
        rw [hkb] at hB
        rw [hkb']
        obtain ⟨g, h1, h2, ho⟩ := hB
        exact ⟨g, h1, by rw [← hk]; exact h2, own ho⟩
      · rename_i hkb hkb'
        rw [hkb] at hB
        rw [hkb']
        obtain ⟨g, arr, fr, h1, h2, h3, ho, h4, h5, h6, h7, h8⟩ := hB
        obtain ⟨ag, hag, hk⟩ := need_ok hk
        obtain ⟨hag2, hk⟩ := bif_ok hk
        rw [PBlk.szK_eq] at hk
        obtain ⟨es, hes, hk⟩ := need_ok hk
        simp only [Bool.or_eq_true] at hag2
        have hxl : (arr.toList.take (p.len * b.size)).length = p.len * b.size := by
          rw [List.length_take, Array.length_toList, h7]
          have := Nat.mul_le_mul_right b.size h5
          omega
        have hsrc : SrcIs w I β b.size (.stat b.cs) (arr.toList.take (p.len * b.size)) := by
          refine ⟨by rw [hxl, h4], fun j c hj => ?_⟩
          obtain ⟨u, hu, h9⟩ := h3 j c hj
          have hj' : j < p.len * b.size := by rw [← h4]; exact (List.getElem?_eq_some_iff.1 hj).1
          exact ⟨u, by rw [List.getElem?_take, if_pos hj']; simpa using hu, h9⟩
        obtain ⟨e1, e2⟩ := elemsOf_ok h8 (hag2.imp id Nat.eq_of_beq_eq_true) hes hsrc hxl
        refine ⟨⟨by rw [← hsz]; exact h8, by rw [← hk]; exact e1, h5, h6⟩, .inr ⟨g, arr, fr, h1, by rw [← hty]; exact h2, ?_, own ho, by rw [← hsz]; exact h7⟩⟩
        rw [← hk, ← hsz]
        refine e2.at (fun j v hj => ?_) (fun _ h => h) (fun _ _ => rfl)
        have := take_at h2 0 (p.len * b.size) j v (by simpa using hj)
        simpa using this
      · exact hk.elim
    · refine ⟨_, renB_none hπ, ?_⟩
      rw [hk]
      exact ⟨⟨hsz, by rw [hc]; rfl, Nat.le_refl _, Nat.zero_le _⟩, .inl ⟨rfl, rfl⟩⟩
  refine ⟨I, renB β π, ⟨by rw [hn]; exact hR.small, hR.defers, by rw [hn]; exact hR.size, ?_, fun t y hy => ?_, hH, hR.imm⟩, ⟨⟨rfl, rfl, rfl, Nat.le_refl _, fun _ _ _ => rfl, fun g hg ⟨l, b', p, o, h1, h2, h3, h4, h5⟩ => ?_, fun _ h => h, fun _ _ h => .inl h⟩, hbase, hrl, hn, fun l hl hnr => ?_⟩⟩
  · rw [hbase]
    rw [← hπl]; exact hbl
  · obtain ⟨x, z, hx, hz, hle⟩ := TM.leK_ok ht hy
    obtain ⟨v, hv, hi⟩ := hR.get t x hx
    exact ⟨v, hv, ren_ok hz (leK_ok hle w I β v hi)⟩
  · rcases hblk l b' h1 h2 with ⟨m, b, hπ, hb, hk⟩ | ⟨hπ, _⟩
    · obtain ⟨hc, _⟩ := bif_ok hk
      simp only [Bool.and_eq_true] at hc
      rw [renB_some hπ] at h4
      exact ⟨m, b, p, o, hb, hc.2, by rw [Md.beq_ok hc.1.2]; exact h3, h4, h5⟩
    · rw [renB_none hπ] at h4
      cases h4; cases h5
  · rcases hbk l hl with h | h
    · rw [Nat.zero_add] at h
      exact renB_some h
    · rw [Nat.zero_add] at h; exact absurd h hnr

/-! ### a state is laid bare -/
def frO (v : Option PV) (q : Option PV → Prop) : Prop := match v with
  | none => q none
  | some x => fc x fun x => q (some x)
def frT : TM → (TM → Prop) → Prop
  | .nil, q => q .nil
  | .node v l r, q => frO v fun v => frT l fun l => frT r fun r => q (.node v l r)
def frK (b : PBlk) (q : PBlk → Prop) : Prop := match b with
  | ⟨.loc, ty, n, m, live, cs⟩ => forceL cs fun cs => q ⟨.loc, ty, n, m, live, cs⟩
  | ⟨.arr, ty, n, m, live, cs⟩ => forceL cs fun cs => q ⟨.arr, ty, n, m, live, cs⟩
  | ⟨.dyn, ty, n, m, live, cs⟩ => q ⟨.dyn, ty, n, m, live, cs⟩
  | ⟨.mp, ty, n, m, live, cs⟩ => q ⟨.mp, ty, n, m, live, cs⟩
def frBB : List PBlk → (List PBlk → Prop) → Prop
  | [], q => q []
  | b :: st, q => frK b fun b => frBB st fun st => q (b :: st)
def frS (s : PSt) (q : PSt → Prop) : Prop := match s with
  | ⟨n, t, st, b, rl⟩ => frT t fun t => frBB st fun st => q ⟨n, t, st, b, rl⟩
theorem frT_ok : ∀ {t : TM} {q : TM → Prop}, frT t q → q t
  | .nil, _, h => h
  | .node v l r, q, h => by
    have h1 : frT l fun l => frT r fun r => q (.node v l r) := by
      cases v with
      | none => exact h
      | some x => exact fc_ok (x := x) (q := fun x => frT l fun l => frT r fun r => q (.node (some x) l r)) h
    have h2 := frT_ok h1
    exact frT_ok (q := fun r => q (.node v l r)) h2
theorem frK_ok {b : PBlk} {q : PBlk → Prop} (h : frK b q) : q b := by
  obtain ⟨k, ty, n, m, live, cs⟩ := b
  cases k
  · exact forceL_ok (q := fun cs => q ⟨.loc, ty, n, m, live, cs⟩) h
  · exact forceL_ok (q := fun cs => q ⟨.arr, ty, n, m, live, cs⟩) h
  · exact h
  · exact h
theorem frBB_ok : ∀ {st : List PBlk} {q : List PBlk → Prop}, frBB st q → q st
  | [], _, h => h
  | b :: st, q, h => frBB_ok (q := fun st => q (b :: st)) (frK_ok h)
theorem frS_ok {q : PSt → Prop} (h : frS s q) : q s := by
  obtain ⟨n, t, st, b, rl⟩ := s
  have h1 := frT_ok h
  exact frBB_ok (q := fun st => q ⟨n, t, st, b, rl⟩) h1

/-! ### a loop's head -/
def TM.setF (v : Option PV) : Nat → TM → Nat → TM
  | 0, t, _ => t
  | f + 1, .nil, n => bif Nat.beq n 0 then .node v .nil .nil else bif Nat.beq (n % 2) 1 then .node none (TM.setF v f .nil ((n - 1) / 2)) .nil else .node none .nil (TM.setF v f .nil ((n - 1) / 2))
  | f + 1, .node u l r, n => bif Nat.beq n 0 then .node v l r else bif Nat.beq (n % 2) 1 then .node u (TM.setF v f l ((n - 1) / 2)) r else .node u l (TM.setF v f r ((n - 1) / 2))
def dstsO : List Oper → List Nat
  | [] => []
  | o :: r => (match o.dst with
    | some d => [d]
    | none => []) ++ dstsO r
def dsts : Code → List Nat
  | .region _ ops _ => dstsO ops.toList
  | .seq a b => dsts a ++ dsts b
  | .cond _ a b => dsts a ++ dsts b
  | .block _ c => dsts c
  | .loop c => dsts c
  | .scope c => dsts c
  | _ => []
def clearF : List Nat → TM → TM
  | [], t => t
  | d :: ds, t => clearF ds (t.setF none 24 d)
def layF : List (Nat × PV) → TM → TM
  | [], t => t
  | (d, x) :: r, t => layF r (t.setF (some x) 24 d)
/-- the state at a loop's head: what the loop writes is let go, but for some slots; the store is another one -/
def PSt.head (s : PSt) (c : Code) (vs : List (Nat × PV)) (st : List PBlk) : PSt := match s with
  | ⟨n, t, _, b, rl⟩ => ⟨n, layF vs (clearF (dsts c) t), st, b, rl⟩
def idR : Nat → List PBlk → Ren
  | _, [] => []
  | n, _ :: r => some n :: idR (n + 1) r
/-- a loop: slots and store by x; π0, π: which blocks are which, at the start and behind a round -/
theorem SW.loop (hG : GOk G) (R : List (Nat × Plan)) {α : Type} {c : Code} {Q : X → PSt → Prop} (hc : planAll R c = true) (vs : α → List (Nat × PV)) (st : α → List PBlk) (μ : α → Nat) (x0 : α) (N : Nat) (π0 : Ren) (h0 : subK G.cx π0 s (s.head c (vs x0) (st x0)))
    (h : ∀ x, frS (s.head c (vs x) (st x)) (pw G R N c (backK (fun s' => ∃ y π, μ y < μ x ∧ subK G.cx π s' (s.head c (vs y) (st y))) Q))) : SW G (.loop c) Q s :=
  SW.inv hG (fun x => s.head c (vs x) (st x)) μ (N := N) hc x0 (subK_ok hG.ok h0) (fun x s' => ∃ y π, μ y < μ x ∧ subK G.cx π s' (s.head c (vs y) (st y))) (fun x s' ⟨y, π, hy, hs⟩ => ⟨y, hy, subK_ok hG.ok hs⟩) fun x => frS_ok (h x)

/-! ### calls from their arguments -/
def argT : List PV → Nat → TM → (TM → Prop) → Prop
  | [], _, t, k => k t
  | x :: xs, i, t, k => fc x fun x => t.setK (some x) 24 i fun t => argT xs (i + 1) t k
def resK1 (G : Gx) (s : PSt) (r : ResultVar) (q : PV → Prop) : Prop := match r with
  | .tmp t => need (s.t.get t) fun x => (match x with
    | .tup _ => False
    | x => q x)
  | .cell a t => need (s.t.get a) fun x => pload G s.st t x q
def resKL (G : Gx) (s : PSt) : List ResultVar → (List PV → Prop) → Prop
  | [], q => q []
  | r :: rs, q => resK1 G s r fun x => resKL G s rs fun xs => q (x :: xs)
def resK (G : Gx) (s : PSt) (rs : List ResultVar) (q : PV → Prop) : Prop := match rs with
  | [.tmp t] => need (s.t.get t) q
  | rs => resKL G s rs fun l => (match l with
    | [x] => q x
    | l => q (.tup l))
def notP : Md → Bool
  | .p => false
  | _ => true
def frzL (r : PV → (PV → Prop) → Prop) : List PV → (List PV → Prop) → Prop
  | [], q => q []
  | c :: cs, q => r c fun c => frzL r cs fun cs => q (c :: cs)
/-- what a function made is never changed any more -/
def frz (cx : Ev.Cx) (st : List PBlk) (base : Nat) : Nat → PV → (PV → Prop) → Prop
  | 0, _, _ => False
  | n + 1, x, q => match x with
    | .wref l => bif Nat.blt l base then q (.wref l) else need st[l]? fun b => bif b.live && notP b.m then (match b.k with
      | .arr => frzL (frz cx st base n) b.cs fun cs => need (Ev.isAggT cx b.ty) fun ag => bif ag || Nat.beq b.size 1 then b.szK fun n => need (elemsOf ag n (.stat cs)) fun es => q (.sl n es) else False
      | .dyn => q (.sl b.size b.cs)
      | _ => False) else False
    | .agg cs => frzL (frz cx st base n) cs fun cs => q (.agg cs)
    | .tup cs => frzL (frz cx st base n) cs fun cs => q (.tup cs)
    | .clo f cs => frzL (frz cx st base n) cs fun cs => q (.clo f cs)
    | x => bif x.uses.all (fun l => Nat.blt l base) then q x else False
def lowB (base : Nat) (b : PBlk) : Bool := match b.k with
  | .dyn => true
  | .mp => true
  | _ => b.cs.all fun c => c.uses.all fun l => Nat.blt l base
def retK (G : Gx) (rs : List ResultVar) (base : Nat) (K : PV → List PBlk → Prop) (x : X) (s : PSt) : Prop := match x with
  | .exit _ => False
  | _ => resK G s rs fun r => frz G.cx s.st base 8 r fun r => bif (s.st.take base).all (lowB base) then frBB (s.st.take base) fun S => ∃ r', PLe r r' ∧ K r' S else False
/-- a call: its body, from its arguments -/
def enterK (G : Gx) (R : List (Nat × Plan)) (N : Nat) (fn : Func) (c : Code) (args : List PV) (S : List PBlk) (rl : List Nat) (K : PV → List PBlk → Prop) : Prop :=
  bif Nat.ble args.length fn.ntmps && Nat.ble fn.ntmps 16777215 && !(fn.name == "runtime.NumGoroutine") then
    lenK S 0 fun b => argT args 0 .nil fun t => pw G R N c (retK G fn.results.toList b K) ⟨fn.ntmps, t, S, b, rl⟩ else False

section
variable {w w' : World} {I I' : Nat → Prop} {β β' : Places} {G : Gx} {s : PSt} {a : Act} {st st' : List PBlk}
theorem argT_ok : ∀ {xs : List PV} {i : Nat} {t : TM} {k : TM → Prop}, argT xs i t k → ∃ t', k t' ∧ ∀ n x, t'.get n = some x → (∃ j, n = i + j ∧ xs[j]? = some x) ∨ t.get n = some x
  | [], i, t, k, h => ⟨t, h, fun n x hx => .inr hx⟩
  | x :: xs, i, t, k, h => by
    obtain ⟨t1, h1, ht1⟩ := TM.setK_ok (fc_ok h)
    obtain ⟨t', hk, ht'⟩ := argT_ok h1
    refine ⟨t', hk, fun n y hy => ?_⟩
    rcases ht' n y hy with ⟨j, hj, hx⟩ | hy
    · exact .inl ⟨j + 1, by omega, by simpa using hx⟩
    · rw [ht1] at hy
      split at hy
      · rename_i hn
        cases hy
        exact .inl ⟨0, by omega, rfl⟩
      · exact .inr hy
def resV (a : Act) (rv : ResultVar) : Sem Value := match rv with
  | .tmp t => pure (a.tmps.getD t Go.undef)
  | .cell b t => do loadVar t (← asAddr (a.tmps.getD b Go.undef))
theorem resK1_ok (hG : GOk G) (hR : Rel G I β s a w) {r : ResultVar} {q : PV → Prop} (h : resK1 G s r q) : ∃ x v, q x ∧ x.Is w I β v ∧ (resV a r).run G.cx.P w = .ok v w := by
  cases r with
  | tmp t =>
    obtain ⟨x, hx, h⟩ := need_ok h
    obtain ⟨v, hv, hi⟩ := hR.get t x hx
    have hq : q x := by
      split at h
      · exact h.elim
      · exact h
    exact ⟨x, v, hq, hi, by simp [resV, hv]⟩
  | cell b t =>
    obtain ⟨x, hx, h⟩ := need_ok h
    obtain ⟨v, hv, hi⟩ := hR.get b x hx
    obtain ⟨z, r, g, hz, hzi, _, hrun⟩ := pload_ok hG.ok hR.heap hR.imm h hi
    have hrun := hrun w rfl
    refine ⟨z, r, hz, hzi, ?_⟩
    have hptr : ∃ ad, v = .pointer (some ad) := by
      unfold pload at h
      split at h <;> try simp only [PV.Is] at hi
      · obtain ⟨_, _, _, _, _, rfl⟩ := hi; exact ⟨_, rfl⟩
      · obtain ⟨_, _, _, _, _, rfl⟩ := hi; exact ⟨_, rfl⟩
      · obtain ⟨_, _, _, _, _, rfl⟩ := hi; exact ⟨_, rfl⟩
      · obtain ⟨_, _, rfl, _⟩ := hi; exact ⟨_, rfl⟩
      · exact ⟨_, hi⟩
      · exact ⟨_, hi⟩
      · exact h.elim
    obtain ⟨ad, rfl⟩ := hptr
    simp only [Instr.loadAt, Instr.sureAddr, Sem.run_bind, Sem.run_pure, Result.andThen_ok] at hrun
    simp [resV, hv, asAddr, hrun]
theorem resKL_ok (hG : GOk G) (hR : Rel G I β s a w) : ∀ {rs : List ResultVar} {q : List PV → Prop}, resKL G s rs q → ∃ xs vs, q xs ∧ IsL w I xs β vs ∧ (rs.mapM (resV a)).run G.cx.P w = .ok vs w
  | [], q, h => ⟨[], [], h, by simp only [IsL], rfl⟩
  | r :: rs, q, h => by
    obtain ⟨x, v, h, hx, hr⟩ := resK1_ok hG hR h
    obtain ⟨xs, vs, h, hxs, hrs⟩ := resKL_ok hG hR h
    exact ⟨x :: xs, v :: vs, h, by simp only [IsL]; exact ⟨hx, hxs⟩, by simp [List.mapM_cons, hr, hrs]⟩
theorem resK_ok (hG : GOk G) (hR : Rel G I β s a w) {fn : Func} {q : PV → Prop} (h : resK G s fn.results.toList q) : ∃ x v, q x ∧ x.Is w I β v ∧ (results fn a.tmps).run G.cx.P w = .ok v w := by
  have key : ∀ {q' : List PV → Prop}, resKL G s fn.results.toList q' → (∀ l, q' l → match l with
      | [x] => q x
      | l => q (.tup l)) → ∃ x v, q x ∧ x.Is w I β v ∧ (results fn a.tmps).run G.cx.P w = .ok v w := by
    intro q' h hq
    obtain ⟨xs, vs, h, hxs, hrun⟩ := resKL_ok hG hR h
    have hres : (results fn a.tmps).run G.cx.P w = .ok (if h : vs.toArray.size = 1 then vs.toArray[0] else .tuple vs.toArray) w := by
      unfold results
      rw [Array.mapM_eq_mapM_toList]
      simp only [Sem.run_bind, Sem.run_map]
      erw [hrun]
      rfl
    have hq := hq xs h
    match xs, vs, hxs, hq, hres with
    | [], [], _, hq, hres => exact ⟨_, _, hq, by simp only [PV.Is]; exact ⟨#[], rfl, by simp only [IsL]⟩, hres⟩
    | [x], [v], hxs, hq, hres => exact ⟨x, v, hq, by simp only [IsL] at hxs; exact hxs.1, hres⟩
    | x :: x' :: xs, v :: v' :: vs, hxs, hq, hres => exact ⟨_, _, hq, by simp only [PV.Is]; exact ⟨_, rfl, by simpa using hxs⟩, by rw [hres, dif_neg (by simp)]⟩
    | [], _ :: _, hxs, _, _ => simp only [IsL] at hxs
    | _ :: _, [], hxs, _, _ => simp only [IsL] at hxs
    | [_], _ :: _ :: _, hxs, _, _ => simp [IsL] at hxs
    | _ :: _ :: _, [_], hxs, _, _ => simp [IsL] at hxs
  unfold resK at h
  split at h
  · rename_i t heq
    obtain ⟨x, hx, h⟩ := need_ok h
    obtain ⟨v, hv, hi⟩ := hR.get t x hx
    refine ⟨x, v, h, hi, ?_⟩
    have hfr : fn.results = #[.tmp t] := by rw [← Array.toList_inj]; simpa using heq
    simp [results, hfr, hv]
  · refine key h fun l hl => ?_
    split
    · exact hl
    · rename_i hne
      split at hl
      · rename_i x; exact absurd rfl (hne x)
      · exact hl
end
end

end Go.Proofs.YtjcacjeoddnmhaaDoor.Pw

/- Calls from their arguments, as the evaluator says; how contracts are used. -/
namespace Go.Proofs.YtjcacjeoddnmhaaDoor.Pw
open Go Go.RowKit

section
variable {w w' : World} {I I' : Nat → Prop} {β β' : Places} {G : Gx} {s : PSt} {a : Act} {st st' : List PBlk}

/-- what is never changed any more, when a function has ended -/
def EndI (I : Nat → Prop) (β : Places) (st : List PBlk) (base : Nat) (g : Nat) : Prop := I g ∨ ∃ l b p o, base ≤ l ∧ st[l]? = some b ∧ b.live = true ∧ b.m = .w ∧ β l = some p ∧ p.a = some (g, o)
def EndB (β : Places) (base : Nat) : Places := fun l => if l < base then β l else none
theorem uses_low {x : PV} {base : Nat} {v : Value} (h : x.uses.all (fun l => Nat.blt l base) = true) (hx : x.Is w I β v) (hI : ∀ g, I g → I' g) : x.Is w I' (EndB β base) v :=
  PV.Is.mono hI (fun _ _ => rfl) x β _ v (fun l p hl hp => by
    rw [List.all_eq_true] at h
    unfold EndB
    rw [if_pos (show l < base from Nat.le_of_ble_eq_true (h l hl))]; exact hp) hx
theorem frzL_ok {r : PV → (PV → Prop) → Prop} (hr : ∀ x q v, r x q → x.Is w I β v → ∃ y, q y ∧ y.Is w I' β' v) : ∀ {cs : List PV} {vs : List Value} {q : List PV → Prop}, frzL r cs q → IsL w I cs β vs → ∃ ds, q ds ∧ IsL w I' ds β' vs
  | [], [], q, h, _ => ⟨[], h, by simp only [IsL]⟩
  | c :: cs, v :: vs, q, h, hx => by
    simp only [IsL] at hx
    obtain ⟨y, h, hy⟩ := hr c _ v h hx.1
    obtain ⟨ds, h, hd⟩ := frzL_ok hr h hx.2
    exact ⟨y :: ds, h, by simp only [IsL]; exact ⟨hy, hd⟩⟩
  | [], _ :: _, _, _, hx => by simp only [IsL] at hx
  | _ :: _, [], _, _, hx => by simp only [IsL] at hx
theorem frz_ok {cx : Ev.Cx} (hh : HeapOk I β st w) {base : Nat} : ∀ (n : Nat) (x : PV) (q : PV → Prop) (v : Value), frz cx st base n x q → x.Is w I β v → ∃ y, q y ∧ y.Is w (EndI I β st base) (EndB β base) v
  | 0, _, _, _, h, _ => h.elim
  | n + 1, x, q, v, h, hx => by
    have ih := frz_ok (cx := cx) hh (base := base) n
    have hI : ∀ g, I g → EndI I β st base g := fun g h => .inl h
    unfold frz at h
    split at h
    · rename_i l
      cases hl : Nat.blt l base
      case true =>
        rw [hl] at h
        exact ⟨_, h, uses_low (by simp only [PV.uses, List.all_cons, List.all_nil, hl, Bool.and_true]) hx hI⟩
      case false =>
        rw [hl] at h
        have hlb : base ≤ l := by
          rcases Nat.lt_or_ge l base with h' | h'
          · have : Nat.blt l base = true := by unfold Nat.blt; exact Nat.ble_eq_true_of_le h'
            rw [this] at hl; cases hl
          · exact h'
        obtain ⟨b, hb, h⟩ := need_ok h
        obtain ⟨hc, h⟩ := bif_ok h
        simp only [Bool.and_eq_true] at hc
        simp only [PV.Is] at hx
        obtain ⟨p, hp, rfl⟩ := hx
        have hgI : ∀ {g o : Nat} {fr : Nat × Nat}, p.a = some (g, o) → Own I β st l g fr b → EndI I β st base g := fun {g o fr} ha ho => by
          cases hm : b.m with
          | w => exact .inr ⟨l, b, p, o, hlb, hb, hc.1, hm, hp, ha⟩
          | p => rw [hm] at hc; cases hc.2
          | r => exact .inl (ho.2 hm)
        split at h
        · rename_i hk
          obtain ⟨g, arr, fr, ha, hw, hhg, hca, hown, hlen, hle, hmx, has, hn0⟩ := whole_arr hh hb hc.1 hk hp
          have hsz : p.len * b.size ≤ arr.size := by rw [has]; exact Nat.mul_le_mul_right _ hle
          have hxl : (arr.toList.take (p.len * b.size)).length = p.len * b.size := by rw [List.length_take, Array.length_toList]; omega
          have hcells : IsL w I b.cs β (arr.toList.take (p.len * b.size)) := IsL.of (by rw [hxl, hlen]) fun i c hc => by
            obtain ⟨u, hu, hi, _⟩ := hca i c hc
            have hj' : i < p.len * b.size := by rw [← hlen]; exact (List.getElem?_eq_some_iff.1 hc).1
            exact ⟨u, by rw [List.getElem?_take, if_pos hj']; simpa using hu, hi⟩
          obtain ⟨ds, h, hds⟩ := frzL_ok (fun x q v => ih x q v) h hcells
          obtain ⟨ag, hag, h⟩ := need_ok h
          obtain ⟨hag2, h⟩ := bif_ok h
          rw [PBlk.szK_eq] at h
          obtain ⟨es, hes, h⟩ := need_ok h
          simp only [Bool.or_eq_true] at hag2
          have hsrc : SrcIs w (EndI I β st base) (EndB β base) b.size (.stat ds) (arr.toList.take (p.len * b.size)) := by
            refine ⟨by rw [hds.length], fun j c hj => ?_⟩
            obtain ⟨u, hu, hi⟩ := hds.get hj
            refine ⟨u, hu, hi, ?_⟩
            have hj' : j < b.cs.length := by rw [hcells.length, ← hds.length]; exact (List.getElem?_eq_some_iff.1 hj).1
            obtain ⟨u2, hu2, _, h1⟩ := hca j _ (List.getElem?_eq_getElem hj')
            rw [List.getElem?_take] at hu
            split at hu
            · have : arr[0 + j]? = some u := by simpa using hu
              rw [this] at hu2; cases hu2; exact h1
            · cases hu
          obtain ⟨e1, e2⟩ := elemsOf_ok hn0 (hag2.imp id Nat.eq_of_beq_eq_true) hes hsrc hxl
          have hEs : IsEs w (EndI I β st base) es b.size g 0 := e2.at (fun j v hj => by
            have := take_at hhg 0 (p.len * b.size) j v (by simpa using hj)
            simpa using this) (fun _ h => h) (fun _ _ => rfl)
          refine ⟨_, h, ?_⟩
          simp only [PV.Is]
          refine ⟨some ⟨g, 0, none⟩, p.cap, by rw [hw, e1], by omega, by omega, fun g' o' e => by cases e; exact hEs, fun _ => ⟨g, 0, rfl, hgI ha hown, hn0⟩⟩
        · rename_i hk
          obtain ⟨hn0, hlen, hle, hmx, hor⟩ := whole_dyn hh hb hc.1 hk hp
          refine ⟨_, h, ?_⟩
          simp only [PV.Is]
          rcases hor with ⟨ha, hc0, hw⟩ | ⟨g, arr, fr, ha, hw, hhg, hes, hown, has⟩
          · have : b.cs = [] := List.eq_nil_of_length_eq_zero (by omega)
            rw [this, hw]
            exact ⟨none, 0, rfl, Nat.le_refl _, Nat.zero_le _, (fun _ _ e => by cases e), fun hn => absurd rfl hn⟩
          · exact ⟨some ⟨g, 0, none⟩, p.cap, by rw [hw, hlen], by omega, by omega, (fun g' o' e => by cases e; exact IsEs.mono hI (fun _ _ => rfl) _ _ _ _ rfl hes), fun _ => ⟨g, 0, rfl, hgI ha hown, hn0⟩⟩
        · exact h.elim
    · simp only [PV.Is] at hx
      obtain ⟨vs, rfl, hx⟩ := hx
      obtain ⟨ds, h, hd⟩ := frzL_ok (fun x q v => ih x q v) h hx
      exact ⟨_, h, by simp only [PV.Is]; exact ⟨vs, rfl, hd⟩⟩
    · simp only [PV.Is] at hx
      obtain ⟨vs, rfl, hx⟩ := hx
      obtain ⟨ds, h, hd⟩ := frzL_ok (fun x q v => ih x q v) h hx
      exact ⟨_, h, by simp only [PV.Is]; exact ⟨vs, rfl, hd⟩⟩
    · simp only [PV.Is] at hx
      obtain ⟨vs, rfl, hx⟩ := hx
      obtain ⟨ds, h, hd⟩ := frzL_ok (fun x q v => ih x q v) h hx
      exact ⟨_, h, by simp only [PV.Is]; exact ⟨vs, rfl, hd⟩⟩
    · obtain ⟨hu, h⟩ := bif_ok h
      exact ⟨_, h, uses_low hu hx hI⟩

theorem Spec.intro {f : FuncId} {args : List PV} {S : List PBlk} {rl : List Nat} {K : PV → List PBlk → Prop} (he : Ev.Enters G.cx.P f) (h : ∀ I β w vals, HeapOk I β S w → ImmOk G I w → IsL w I args β vals →
    Calls G.cx.P f vals.toArray w fun e w' => ∃ v r S' I' β', e = .returned v ∧ K r S' ∧ r.Is w' I' β' v ∧ HeapOk I' β' S' w' ∧ ImmOk G I' w' ∧ Ext I β S w I' β' S' w' ∧ S.length ≤ S'.length ∧ ∀ l, l < S.length → l ∉ rl → β' l = β l) : Spec G f args S rl K := by
  unfold Spec; exact ⟨he, h⟩
theorem Spec.run {f : FuncId} {args : List PV} {S : List PBlk} {rl : List Nat} {K : PV → List PBlk → Prop} (h : Spec G f args S rl K) : Ev.Enters G.cx.P f ∧ ∀ I β w vals, HeapOk I β S w → ImmOk G I w → IsL w I args β vals →
    Calls G.cx.P f vals.toArray w fun e w' => ∃ v r S' I' β', e = .returned v ∧ K r S' ∧ r.Is w' I' β' v ∧ HeapOk I' β' S' w' ∧ ImmOk G I' w' ∧ Ext I β S w I' β' S' w' ∧ S.length ≤ S'.length ∧ ∀ l, l < S.length → l ∉ rl → β' l = β l := by
  unfold Spec at h; exact h
theorem Spec.mono {f : FuncId} {args : List PV} {S : List PBlk} {rl : List Nat} {K K' : PV → List PBlk → Prop} (h : Spec G f args S rl K) (hK : ∀ r S', K r S' → K' r S') : Spec G f args S rl K' :=
  Spec.intro h.run.1 fun I β w vals h1 h2 h3 => (h.run.2 I β w vals h1 h2 h3).mono fun e w' ⟨v, r, S', I', β', h1, h2, h3⟩ => ⟨v, r, S', I', β', h1, hK r S' h2, h3⟩

theorem Spec.enter (hG : GOk G) (R : List (Nat × Plan)) {f : FuncId} {fn : Func} {c : Code} {args : List PV} {S : List PBlk} {rl : List Nat} {K : PV → List PBlk → Prop} (N : Nat) (hf : G.cx.P.funcs[f]? = some fn) (hb : fn.body = some c) (hpl : planAll R c = true) (h : enterK G R N fn c args S rl K) : Spec G f args S rl K := by
  obtain ⟨hc, h⟩ := bif_ok h
  simp only [Bool.and_eq_true, Bool.not_eq_true'] at hc
  obtain ⟨⟨hle, hlim⟩, hname⟩ := hc
  have hle := Nat.le_of_ble_eq_true hle
  have hlim := Nat.le_of_ble_eq_true hlim
  replace h := lenK_ok h
  rw [Nat.zero_add] at h
  obtain ⟨t, h, ht⟩ := argT_ok h
  refine Spec.intro (Ev.enters_of hf hb hname) fun I β w vals hH hM hA => calls_of_wp hf hb ?_
  have hal := hA.length
  have hR : Rel G I β ⟨fn.ntmps, t, S, S.length, rl⟩ { tmps := vals.toArray ++ Array.replicate (fn.ntmps - vals.toArray.size) Go.undef, defers := [] } w := by
    refine ⟨hlim, rfl, by simp; omega, Nat.le_refl _, fun n x hx => ?_, hH, hM⟩
    rcases ht n x hx with ⟨j, hj, hx⟩ | hx
    · rw [Nat.zero_add] at hj
      subst hj
      obtain ⟨v, hv, hi⟩ := hA.get hx
      have hlt : n < vals.length := (List.getElem?_eq_some_iff.1 hv).1
      exact ⟨v, by rw [Array.getElem?_append_left (by simpa using hlt)]; simpa using hv, hi⟩
    · cases hx
  refine wp_mono ((pw_ok hG N c _ _ hpl h).run hR) fun e a' w' hp => ?_
  obtain ⟨x, s', I', β', rfl, hq, hR', hg⟩ := hp.goes
  have fin_ : retK G fn.results.toList S.length K .nml s' → a'.defers = [] ∧ ∃ v, (results fn a'.tmps).run G.cx.P w' = .ok v w' ∧ ∃ v', ∃ r S' I' β', Ending.returned v = .returned v' ∧ K r S' ∧ r.Is w' I' β' v' ∧ HeapOk I' β' S' w' ∧ ImmOk G I' w' ∧ Ext I β S w I' β' S' w' ∧ S.length ≤ S'.length ∧ ∀ l, l < S.length → l ∉ rl → β' l = β l := by
    intro hq
    obtain ⟨r, v, hq, hr, hrun⟩ := resK_ok hG hR' hq
    obtain ⟨y, hq, hy⟩ := frz_ok hR'.heap 8 r _ v hq hr
    obtain ⟨hlow, hq⟩ := bif_ok hq
    obtain ⟨r', hle', hK⟩ := frBB_ok hq
    rw [List.all_eq_true] at hlow
    have hbase : s'.base = S.length := hg.base
    have hlen : S.length ≤ s'.st.length := by have := hR'.base; rw [hbase] at this; exact this
    have hI : ∀ g, I' g → EndI I' β' s'.st S.length g := fun g h => .inl h
    have hget : ∀ (l : Nat) (b : PBlk), (s'.st.take S.length)[l]? = some b → l < S.length ∧ s'.st[l]? = some b := fun l b hb => by
      rw [List.getElem?_take] at hb
      split at hb
      · exact ⟨‹_›, hb⟩
      · cases hb
    have hHe : HeapOk (EndI I' β' s'.st S.length) (EndB β' S.length) (s'.st.take S.length) w' := by
      refine ⟨fun l hl => ?_, fun l b hb hlive => ?_⟩
      · unfold EndB
        rw [if_neg (by simp at hl; omega)]
      · obtain ⟨hl, hb'⟩ := hget l b hb
        have hlb := hlow b (List.mem_of_getElem? hb)
        obtain ⟨p, hp, hk⟩ := hR'.heap.blk l b hb' hlive
        have own : ∀ {g : Nat} {o : Nat} {fr : Nat × Nat}, p.a = some (g, o) → Own I' β' s'.st l g fr b → Own (EndI I' β' s'.st S.length) (EndB β' S.length) (s'.st.take S.length) l g fr b := fun {g o fr} ha ho => by
          refine ⟨fun hr => ?_, fun hr => hI g (ho.2 hr)⟩
          obtain ⟨h1, h2, h3⟩ := ho.1 hr
          refine ⟨h1, fun hE => ?_, fun l2 b2 hne hl2 hlive2 p2 g2 o2 hp2 ha2 => ?_⟩
          · rcases hE with hE | ⟨l2, b2, p2, o2, k1, k2, k3, _, k5, k6⟩
            · exact h2 hE
            · exact h3 l2 b2 (by omega) k2 k3 p2 g o2 k5 k6 rfl
          · obtain ⟨hl2', hb2⟩ := hget l2 b2 hl2
            unfold EndB at hp2
            rw [if_pos hl2'] at hp2
            exact h3 l2 b2 hne hb2 hlive2 p2 g2 o2 hp2 ha2
        have cells : b.k.isC = true → ∀ {arr : Array Value} {o : Nat}, CellsAt w' I' β' b.cs arr o → CellsAt w' (EndI I' β' s'.st S.length) (EndB β' S.length) b.cs arr o := fun hk {arr o} hc i c hi => by
          obtain ⟨u, hu, hi', h1⟩ := hc i c hi
          refine ⟨u, hu, uses_low ?_ hi' hI, h1⟩
          unfold lowB at hlb
          cases hkk : b.k with
          | dyn => rw [hkk] at hk; cases hk
          | mp => rw [hkk] at hk; cases hk
          | loc => rw [hkk] at hlb; rw [List.all_eq_true] at hlb; exact hlb c (List.mem_of_getElem? hi)
          | arr => rw [hkk] at hlb; rw [List.all_eq_true] at hlb; exact hlb c (List.mem_of_getElem? hi)
        refine ⟨p, by unfold EndB; rw [if_pos hl]; exact hp, ?_⟩
        split at hk
        · rename_i hkk
          obtain ⟨g, o, arr, ty, fr, h1, h2, h3, ho⟩ := hk
          exact ⟨g, o, arr, ty, fr, h1, h2, cells (by rw [hkk]; decide) h3, own h1 ho⟩
        · rename_i hkk
          obtain ⟨g, arr, fr, h1, h2, h3, ho, h4⟩ := hk
          exact ⟨g, arr, fr, h1, h2, cells (by rw [hkk]; decide) h3, own h1 ho, h4⟩
        · obtain ⟨h1, hk⟩ := hk
          refine ⟨h1, ?_⟩
          rcases hk with h | ⟨g, arr, fr, h2, h3, h4, ho, h5⟩
          · exact .inl h
          · exact .inr ⟨g, arr, fr, h2, h3, IsEs.mono hI (fun _ _ => rfl) _ _ _ _ rfl h4, own h2 ho, h5⟩
        · obtain ⟨g, h1, h2, ho⟩ := hk
          exact ⟨g, h1, h2, own h1 ho⟩
    have hlt : ∀ g, EndI I' β' s'.st S.length g → g < w'.heap.size := fun g hg => by
      rcases hg with hg | ⟨l, b, p, o, _, k2, k3, _, k5, k6⟩
      · exact hR'.imm.imm g hg
      · exact hR'.heap.lives_lt ⟨l, b, p, o, k2, k3, k5, k6⟩
    have hMe : ImmOk G (EndI I' β' s'.st S.length) w' := ⟨hlt, fun g cs hgc => by
      obtain ⟨h1, h2⟩ := hR'.imm.tab g cs hgc
      exact ⟨hI g h1, IsAt.mono hI (fun _ _ => rfl) cs g 0 rfl h2⟩, hR'.imm.row⟩
    have hE := hg.ext
    refine ⟨hR'.defers, v, hrun, v, r', _, _, _, rfl, hK, hle' _ _ _ _ hy, hHe, hMe, ⟨hE.os, hE.tape, hE.output, hE.size, hE.block, fun g hgl ⟨l, b, p, o, h1, h2, h3, h4, h5⟩ => ?_, fun g hg => hI g (hE.imm g hg), fun g hgl hgI => ?_⟩, by rw [List.length_take]; omega, fun l hl hr => ?_⟩
    · obtain ⟨hl, hb⟩ := hget l b h1
      unfold EndB at h4
      rw [if_pos hl] at h4
      exact hE.wr g hgl ⟨l, b, p, o, hb, h2, h3, h4, h5⟩
    · rcases hgI with hgI | ⟨l, b, p, o, _, k2, k3, k4, k5, k6⟩
      · exact hE.new g hgl hgI
      · exact .inr (hE.wr g hgl ⟨l, b, p, o, k2, k3, k4, k5, k6⟩)
    · unfold EndB
      rw [if_pos hl]
      exact hg.low l hl hr
  cases x with
  | nml => exact fin_ hq
  | ret => exact fin_ hq
  | exit id => exact hq.elim
end

end Go.Proofs.YtjcacjeoddnmhaaDoor.Pw

/- How contracts are used. -/
namespace Go.Proofs.YtjcacjeoddnmhaaDoor.Pw
open Go Go.RowKit

section
variable {w w' : World} {I I' : Nat → Prop} {β β' : Places} {G : Gx} {s : PSt} {a : Act} {st st' : List PBlk}

/-- a function of values alone: at args it yields r -/
def PureF (G : Gx) (f : FuncId) (args : List PV) (r : PV) : Prop := Spec G f args [] [] fun r' _ => r' = r
theorem uses_none {x : PV} {v : Value} (h : x.uses = []) (hx : x.Is w I β v) : x.Is w I β' v := PV.Is.mono (fun _ h => h) (fun _ _ => rfl) x β β' v (fun l p hl => by rw [h] at hl; cases hl) hx
theorem usesL_none {xs : List PV} {vs : List Value} (h : usesL xs = []) (hx : IsL w I xs β vs) : IsL w I xs β' vs := IsL.mono (fun _ h => h) (fun _ _ => rfl) xs β β' vs (fun l p hl => by rw [h] at hl; cases hl) hx
theorem PureF.use {f : FuncId} {args args' : List PV} {r : PV} {S : List PBlk} {K : PV → List PBlk → Prop} (h : PureF G f args' r) (hle : leL leK args args') (hu : usesL args' = []) (hr : r.uses = []) (hK : K r S) : Spec G f args S [] K := by
  refine Spec.intro h.run.1 fun I β w vals hH hM hA => ?_
  have h0 : HeapOk I (fun _ => none) ([] : List PBlk) w := ⟨fun _ _ => rfl, fun l b hl => by simp at hl⟩
  refine (h.run.2 I (fun _ => none) w vals h0 hM (usesL_none hu (leL_ok (fun _ _ => leK_ok) hle hA))).mono fun e w' ⟨v, r', S', I', β', he, hr', hi, _, hM', hE, _, _⟩ => ?_
  subst hr'
  have hnw : ∀ g, ¬ Wr (fun _ => none) ([] : List PBlk) g := fun g ⟨l, b, p, o, h1, _⟩ => by simp at h1
  have hold : ∀ g, g < w.heap.size → w'.heap[g]? = w.heap[g]? := fun g hg => hE.block g hg (hnw g)
  have hI' : ∀ g, g < w.heap.size → I' g → I g := fun g hg h => (hE.new g hg h).elim id fun h => absurd h (hnw g)
  refine ⟨v, r', S, I', β, he, hK, uses_none hr hi, ⟨hH.far, fun l b hl hlive => ?_⟩, hM', ⟨hE.os, hE.tape, hE.output, hE.size, fun g hg _ => hold g hg, fun g _ h => h, hE.imm, fun g hg h => .inl (hI' g hg h)⟩, Nat.le_refl _, fun _ _ _ => rfl⟩
  have hb := hH.blk l b hl hlive
  refine hb.mono hE.imm (fun g hg => hold g (hM.imm g hg)) (fun _ _ h => h) fun p g o hp ha => ?_
  obtain ⟨arr, ty, fr, hh, ho⟩ := hb.place hp ha
  have hlt := lt_of_heap hh
  exact ⟨hold g hlt, fun hr => ⟨fun hI => (ho.1 hr).2.1 (hI' g hlt hI), (ho.1 hr).2.2⟩⟩
/-- the same at arguments that say more -/
theorem Spec.args {f : FuncId} {args args' : List PV} {S : List PBlk} {rl : List Nat} {K : PV → List PBlk → Prop} (h : Spec G f args' S rl K) (hle : leL leK args args') : Spec G f args S rl K :=
  Spec.intro h.run.1 fun I β w vals hH hM hA => h.run.2 I β w vals hH hM (leL_ok (fun _ _ => leK_ok) hle hA)

theorem retE {r r0 : PV} (h : leK r r0) : ∃ r', PLe r r' ∧ r' = r0 := ⟨r0, leK_ok h, rfl⟩
theorem inR_i64 {z : Int} (h : -9223372036854775808 ≤ z ∧ z ≤ 9223372036854775807) : InR .i64 z := by unfold InR Ev.kmin Ev.kmax; simp only [IntKind.signed, IntKind.bits]; simpa using h
theorem inR_u32 {z : Int} (h : 0 ≤ z ∧ z ≤ 4294967295) : InR .u32 z := by unfold InR Ev.kmin Ev.kmax; simp only [IntKind.signed, IntKind.bits]; simpa using h
theorem inR_u64 {z : Int} (h : 0 ≤ z ∧ z ≤ 18446744073709551615) : InR .u64 z := by unfold InR Ev.kmin Ev.kmax; simp only [IntKind.signed, IntKind.bits]; simpa using h
theorem inR_u8 {z : Int} (h : 0 ≤ z ∧ z ≤ 255) : InR .u8 z := by unfold InR Ev.kmin Ev.kmax; simp only [IntKind.signed, IntKind.bits]; simpa using h
end

end Go.Proofs.YtjcacjeoddnmhaaDoor.Pw

/- What the evaluator without a heap asks of the program. Written by a program (mkpw.py) off the given program. -/
namespace Go.Proofs.YtjcacjeoddnmhaaDoor.Pw
open Go

noncomputable def bt : List (Nat × Nat) := [(3, Tryd.t3.bytes), (24, Tryd.t24.bytes), (29, Tryd.t29.bytes), (26, Tryd.t26.bytes), (74, Tryd.t74.bytes), (72, Tryd.t72.bytes), (42, Tryd.t42.bytes), (63, Tryd.t63.bytes), (37, Tryd.t37.bytes), (44, Tryd.t44.bytes), (22, Tryd.t22.bytes), (41, Tryd.t41.bytes), (60, Tryd.t60.bytes), (31, Tryd.t31.bytes), (70, Tryd.t70.bytes), (45, Tryd.t45.bytes), (5, Tryd.t5.bytes), (68, Tryd.t68.bytes), (80, Tryd.t80.bytes), (4, Tryd.t4.bytes), (105, Tryd.t105.bytes), (90, Tryd.t90.bytes), (102, Tryd.t102.bytes), (9, Tryd.t9.bytes), (38, Tryd.t38.bytes), (58, Tryd.t58.bytes), (86, Tryd.t86.bytes), (101, Tryd.t101.bytes)]
theorem bt_ok : ∀ p ∈ bt, ∃ i, Tryd.prog.info? p.1 = some i ∧ i.bytes = p.2 :=
  Ev.all_cons ⟨Tryd.t3, by kernel_rfl, rfl⟩ <|
  Ev.all_cons ⟨Tryd.t24, by kernel_rfl, rfl⟩ <|
  Ev.all_cons ⟨Tryd.t29, by kernel_rfl, rfl⟩ <|
  Ev.all_cons ⟨Tryd.t26, by kernel_rfl, rfl⟩ <|
  Ev.all_cons ⟨Tryd.t74, by kernel_rfl, rfl⟩ <|
  Ev.all_cons ⟨Tryd.t72, by kernel_rfl, rfl⟩ <|
  Ev.all_cons ⟨Tryd.t42, by kernel_rfl, rfl⟩ <|
  Ev.all_cons ⟨Tryd.t63, by kernel_rfl, rfl⟩ <|
  Ev.all_cons ⟨Tryd.t37, by kernel_rfl, rfl⟩ <|
  Ev.all_cons ⟨Tryd.t44, by kernel_rfl, rfl⟩ <|
  Ev.all_cons ⟨Tryd.t22, by kernel_rfl, rfl⟩ <|
  Ev.all_cons ⟨Tryd.t41, by kernel_rfl, rfl⟩ <|
  Ev.all_cons ⟨Tryd.t60, by kernel_rfl, rfl⟩ <|
  Ev.all_cons ⟨Tryd.t31, by kernel_rfl, rfl⟩ <|
  Ev.all_cons ⟨Tryd.t70, by kernel_rfl, rfl⟩ <|
  Ev.all_cons ⟨Tryd.t45, by kernel_rfl, rfl⟩ <|
  Ev.all_cons ⟨Tryd.t5, by kernel_rfl, rfl⟩ <|
  Ev.all_cons ⟨Tryd.t68, by kernel_rfl, rfl⟩ <|
  Ev.all_cons ⟨Tryd.t80, by kernel_rfl, rfl⟩ <|
  Ev.all_cons ⟨Tryd.t4, by kernel_rfl, rfl⟩ <|
  Ev.all_cons ⟨Tryd.t105, by kernel_rfl, rfl⟩ <|
  Ev.all_cons ⟨Tryd.t90, by kernel_rfl, rfl⟩ <|
  Ev.all_cons ⟨Tryd.t102, by kernel_rfl, rfl⟩ <|
  Ev.all_cons ⟨Tryd.t9, by kernel_rfl, rfl⟩ <|
  Ev.all_cons ⟨Tryd.t38, by kernel_rfl, rfl⟩ <|
  Ev.all_cons ⟨Tryd.t58, by kernel_rfl, rfl⟩ <|
  Ev.all_cons ⟨Tryd.t86, by kernel_rfl, rfl⟩ <|
  Ev.all_cons ⟨Tryd.t101, by kernel_rfl, rfl⟩ <| Ev.all_nil
noncomputable def gxOf (tabs : List (Nat × List PV)) : Gx := { cx := Ev.cxOf [] [], tabs := tabs, bt := bt }
theorem gxOk (tabs : List (Nat × List PV)) : GOk (gxOf tabs) := ⟨Ev.cxOk [] [], bt_ok⟩
end Go.Proofs.YtjcacjeoddnmhaaDoor.Pw

/- What the code of this claim's laws may read: the package's tables, and what the model does itself. -/
namespace Go.Proofs.YtjcacjeoddnmhaaDoor.Pw
open Go Go.RowKit

def facP : List PV := [.lit .u32 1, .lit .u32 65537, .lit .u32 16777472, .lit .u32 16843009]
def shP : List PV := [0, 1, 1, 1, 2, 2, 3, 3, 4, 4, 4, 4, 5, 5, 5, 5, 5, 5, 5, 5, 5, 5, 5, 5, 5, 5, 5, 5, 6, 6, 6, 7, 8, 2, 2, 9, 9, 8, 8, 8, 10, 10, 11, 12, 13, 14, 15, 16, 17, 17, 18, 18, 18, 18, 18, 18, 18, 18, 18, 18, 19, 19, 20, 20, 20, 20, 21, 21, 21, 21, 21, 21, 21, 21, 21, 21, 22, 22, 23, 23, 23, 23, 24, 24, 25, 25, 26, 26, 27, 27, 27, 27, 28, 29, 30, 31, 31, 28, 32, 33, 34].map (.lit .i64)
noncomputable def gT : Gx := gxOf [(1, facP), (0, shP)]
theorem gTok : GOk gT := gxOk _

end Go.Proofs.YtjcacjeoddnmhaaDoor.Pw

/- Contracts over worlds as contracts over values, and back; arguments that come in, opened. -/
namespace Go.Proofs.YtjcacjeoddnmhaaDoor.Pw
open Go Go.RowKit

section
variable {w w' : World} {I I' : Nat → Prop} {β β' : Places} {G : Gx} {s : PSt} {a : Act} {st st' : List PBlk}

theorem HeapOk.none0 (hH : HeapOk I β [] w) (w' : World) (I' : Nat → Prop) : HeapOk I' β [] w' := ⟨hH.far, fun l b hl => by simp at hl⟩
theorem ImmOk.below (hM : ImmOk G I w) (hB : Below w.heap.size w w') : ImmOk G I w' :=
  ⟨fun g hg => Nat.lt_of_lt_of_le (hM.imm g hg) hB.size, fun g cs h => ⟨(hM.tab g cs h).1, IsAt.mono (fun _ h => h) (fun g hg => hB.block g (hM.imm g hg)) _ _ _ (hB.block g (hM.imm g (hM.tab g cs h).1)) (hM.tab g cs h).2⟩, fun g cs h => by
    obtain ⟨arr, ty, fr, h1, h2⟩ := hM.row g cs h
    exact ⟨arr, ty, fr, (hB.block g (hM.imm g (hM.tab g cs h).1)).trans h1, h2⟩⟩
/-- a contract over worlds as one over values -/
theorem PureF.of_calls {f : FuncId} {args : List PV} {r : PV} (he : Ev.Enters G.cx.P f) (vs : List Value) (v : Value) (ha : ∀ w I β vals, IsL w I args β vals → vals = vs) (hr : ∀ w I β, r.Is w I β v)
    (h : ∀ w, Calls G.cx.P f vs.toArray w fun e w' => e = .returned v ∧ Below w.heap.size w w') : PureF G f args r := by
  refine Spec.intro he fun I β w vals hH hM hA => ?_
  rw [ha _ _ _ _ hA]
  refine (h w).mono fun e w' ⟨he, hB⟩ => ⟨v, r, [], I, β, he, rfl, hr _ _ _, hH.none0 _ _, hM.below hB, ⟨hB.os, hB.tape, hB.output, hB.size, fun g hg _ => hB.block g hg, fun g _ h => h, fun _ h => h, fun _ _ h => .inl h⟩, Nat.le_refl _, fun _ _ _ => rfl⟩
theorem PureF.of_same {f : FuncId} {args : List PV} {r : PV} (he : Ev.Enters G.cx.P f) (vs : List Value) (v : Value) (ha : ∀ w I β vals, IsL w I args β vals → vals = vs) (hr : ∀ w I β, r.Is w I β v)
    (h : ∀ w, Calls G.cx.P f vs.toArray w fun e w' => e = .returned v ∧ w' = w) : PureF G f args r :=
  PureF.of_calls he vs v ha hr fun w => (h w).mono fun e w' ⟨h1, h2⟩ => ⟨h1, h2 ▸ Below.refl _ _⟩
/-- a contract over values as one over a world -/
theorem PureF.calls {f : FuncId} {args : List PV} {r : PV} {vals : List Value} (h : PureF G f args r) (hM : ImmOk G I w) (hA : IsL w I args (fun _ => none) vals) (v : Value) (hr : ∀ w' I' β' v', r.Is w' I' β' v' → v' = v) :
    Calls G.cx.P f vals.toArray w fun e w' => e = .returned v ∧ Below w.heap.size w w' := by
  have h0 : HeapOk I (fun _ => none) ([] : List PBlk) w := ⟨fun _ _ => rfl, fun l b hl => by simp at hl⟩
  refine (h.run.2 I (fun _ => none) w vals h0 hM hA).mono fun e w' ⟨v', r', S', I', β', he, hr', hi, _, hM', hE, _, _⟩ => ?_
  subst hr'
  rw [hr _ _ _ _ hi] at he
  exact ⟨he, hE.os, hE.tape, hE.output, hE.size, fun g hg => hE.block g hg fun ⟨l, b, p, o, h1, _⟩ => by simp at h1⟩
theorem tt_only (w' : World) (I' : Nat → Prop) (β' : Places) (v' : Value) (h : PV.tt.Is w' I' β' v') : v' = .bool true := by simpa [PV.Is] using h
end

/-- all that lies in a world -/
def In (w : World) (g : Nat) : Prop := g < w.heap.size
abbrev no : Places := fun _ => none

/-- what comes in as a t is a value that is S -/
def Op (P : Program) (t : TypeId) (S : PV → Prop) : Prop := ∀ {H : Type} (e : TypeId × Value → H) (w : World) (base : Nat) (held : Bool) (fuel : Nat) (cs : List Value) (x : DataW H × List MemPlace),
  DataW.trod e P w base (fun _ => true) held fuel t cs = some x → (∀ n ∈ x.1.weights P t, n ≤ reachBytes) → ∃ y, S y ∧ (∀ vs, y ≠ .tup vs) ∧ IsL w (In w) y.cells no cs ∧ cs.length = P.cellsOf t ∧ ∀ c ∈ cs, c.oneCell' = true
def SInt (k : IntKind) (x : PV) : Prop := ∃ z, InR k z ∧ x = .int k z
def SBool (x : PV) : Prop := ∃ b : Bool, x = .bool (b = true)
def SSl (n b : Nat) (S : PV → Prop) (x : PV) : Prop := ∃ es : List PV, (es.length ≤ maxLen ∧ es.length * b ≤ reachBytes) ∧ (∀ e ∈ es, S e) ∧ x = .sl n es
def All2S : List (PV → Prop) → List PV → Prop
  | [], [] => True
  | S :: Ss, x :: xs => S x ∧ All2S Ss xs
  | _, _ => False
def SAgg (Ss : List (PV → Prop)) (x : PV) : Prop := ∃ xs, All2S Ss xs ∧ x = .agg (xs.flatMap PV.cells)

theorem all2_cons {S : PV → Prop} {Ss : List (PV → Prop)} {xs : List PV} (h : All2S (S :: Ss) xs) : ∃ x r, xs = x :: r ∧ S x ∧ All2S Ss r := by
  cases xs with
  | nil => exact h.elim
  | cons x r => exact ⟨x, r, rfl, h⟩
theorem all2_nil {xs : List PV} (h : All2S [] xs) : xs = [] := by
  cases xs with
  | nil => rfl
  | cons x r => exact h.elim
section
variable {P : Program} {t e : TypeId}
theorem inR_wf {k : IntKind} {z : Int} (h : (Lit.int k z).wf = true) : InR k z := by
  unfold InR
  cases k <;> simp_all [Lit.wf, Ev.kmin, Ev.kmax, IntKind.min, IntKind.max, IntKind.signed, IntKind.bits] <;> omega
theorem opInt {k : IntKind} (ht : P.underlying t = some (.int k)) (hc : P.cellsOf t = 1) : Op P t (SInt k) := fun e w base held fuel cs x h hwt => by
  obtain ⟨n, rfl, _, hw⟩ := DataW.trod_int ht h
  exact ⟨.int k n, ⟨n, inR_wf hw, rfl⟩, nofun, IsL.one (by simp only [PV.Is]), by rw [hc]; rfl, fun c hc => by simp only [List.mem_singleton] at hc; subst hc; rfl⟩
theorem choose_list {α : Type _} {p : Nat → α → Prop} : ∀ n : Nat, (∀ i, i < n → ∃ y, p i y) → ∃ l : List α, l.length = n ∧ ∀ i y, l[i]? = some y → p i y
  | 0, _ => ⟨[], rfl, fun i y h => by simp at h⟩
  | n + 1, h => by
    obtain ⟨l, hl, hp⟩ := choose_list (p := p) n fun i hi => h i (by omega)
    obtain ⟨y, hy⟩ := h n (by omega)
    refine ⟨l ++ [y], by simp [hl], fun i z hz => ?_⟩
    rw [List.getElem?_append] at hz
    split at hz
    · exact hp i z hz
    · rename_i hge
      have h0 : i - l.length = 0 := by
        have := (List.getElem?_eq_some_iff.1 hz).1
        simp at this; omega
      rw [h0] at hz
      simp only [List.getElem?_cons_zero, Option.some.injEq] at hz
      subst hz
      have : i = n := by omega
      subst this; exact hy
theorem weights_all {H : Type} {n : Nat} : ∀ {l : List (DataW H)} {d : DataW H}, d ∈ l → n ∈ d.weights P e → n ∈ DataW.weightsAll P e l
  | [], _, h, _ => by cases h
  | a :: l, d, h, hn => by
    simp only [DataW.weightsAll, List.mem_append]
    rcases List.mem_cons.1 h with rfl | h
    · exact .inl hn
    · exact .inr (weights_all h hn)
theorem weights_each {H : Type} {n : Nat} : ∀ {ts : List TypeId} {l : List (DataW H)} {i : Nat} {t : TypeId} {d : DataW H}, ts[i]? = some t → l[i]? = some d → n ∈ d.weights P t → n ∈ DataW.weightsEach P ts l
  | [], _, _, _, _, h, _, _ => by simp at h
  | _ :: _, [], _, _, _, _, h, _ => by simp at h
  | u :: ts, a :: l, 0, t, d, h, h', hn => by
    simp only [List.getElem?_cons_zero, Option.some.injEq] at h h'
    subst h; subst h'
    simp only [DataW.weightsEach, List.mem_append]
    exact .inl hn
  | u :: ts, a :: l, i + 1, t, d, h, h', hn => by
    simp only [DataW.weightsEach, List.mem_append]
    exact .inr (weights_each (by simpa using h) (by simpa using h') hn)
theorem opSlice {S : PV → Prop} (he : Op P e S) (n b : Nat) (hbb : P.bytesOf e = b) (ht : P.underlying t = some (.slice e)) (hn : P.cellsOf e = n) (h0 : 0 < n) (hc : P.cellsOf t = 1) : Op P t (SSl n b S) := fun {H} ec w base held fuel cs x h hwt => by
  subst hn
  subst hbb
  rcases Deep.open_slice ht h with ⟨rfl, _⟩ | ⟨a, len, cap, m, k, D, Pl, rfl, hb, hl, hm, hmm, rfl, hx⟩
  · exact ⟨.sl _ [], ⟨[], ⟨by simp, by simp⟩, fun _ h => by simp at h, rfl⟩, nofun, IsL.one (by simp only [PV.Is]; exact ⟨none, 0, rfl, Nat.le_refl _, by simp, fun _ _ h => by simp at h, fun h => absurd rfl h⟩), by rw [hc]; rfl, fun c hc => by simp only [List.mem_singleton] at hc; subst hc; rfl⟩
  · simp only [if_true] at hmm
    subst hmm
    have hwl : len * P.bytesOf e ≤ reachBytes := by
      have := hwt ((len + (m - len)) * P.bytesOf e) (by simp only [DataW.weights, ht, List.length_map, List.length_range]; exact List.mem_cons_self)
      exact Nat.le_trans (Nat.mul_le_mul_right _ (Nat.le_add_right _ _)) this
    have hwe : ∀ i, i < len → ∀ n ∈ (D i).weights P e, n ≤ reachBytes := fun i hi n hn => hwt n (by
      simp only [DataW.weights, ht]
      exact List.mem_cons_of_mem _ (List.mem_append.2 (.inl (weights_all (List.mem_map.2 ⟨i, List.mem_range.2 hi, rfl⟩) hn))))
    have hs0 : 0 < len → a.spot = none := fun hp => by
      obtain ⟨cs', h1, h2⟩ := hx 0 (by omega)
      obtain ⟨y, _, _, hy, hlen, _⟩ := he ec w base held k cs' _ h2 (hwe 0 hp)
      obtain ⟨_, _, hcell⟩ := World.cells?_some h1
      have hc0 := hcell 0 h0
      rw [List.getElem?_eq_getElem (by omega), Nat.zero_mul] at hc0
      exact World.cell?_spot hc0
    have each : ∀ i, i < len → ∃ y, S y ∧ a.spot = none ∧ a.block < w.heap.size ∧ ElAt w (In w) (P.cellsOf e) y a.block (a.off + i * P.cellsOf e) := fun i hi => by
      obtain ⟨cs', h1, h2⟩ := hx i (by omega)
      obtain ⟨y, hS, _, hy, hlen, h1c⟩ := he ec w base held k cs' _ h2 (hwe i hi)
      obtain ⟨_, _, hcell⟩ := World.cells?_some h1
      have hc0 := hcell 0 h0
      rw [List.getElem?_eq_getElem (by omega)] at hc0
      have hs : a.spot = none := hs0 (by omega)
      obtain ⟨b, off, sp⟩ := a
      dsimp only at hs
      subst hs
      have ea : ∀ b off k, (⟨b, off, none⟩ : Addr).add k = ⟨b, off + k, none⟩ := fun b off k => by unfold Addr.add; split <;> simp_all
      refine ⟨y, hS, rfl, ?_, ?_, IsAt.of fun j c hj => ?_⟩
      · have := World.block_lt_of_cell? w _ hc0
        rw [ea, ea] at this; exact this
      · rw [hy.length, hlen]
      · obtain ⟨v, hv, hi'⟩ := hy.get hj
        have hj' : j < P.cellsOf e := by rw [← hlen]; exact (List.getElem?_eq_some_iff.1 hv).1
        have := hcell j hj'
        rw [ea, ea, hv] at this
        exact ⟨v, by simpa only [Nat.add_assoc] using this, hi', h1c v (List.mem_of_getElem? hv)⟩
    obtain ⟨es, hes, hp⟩ := choose_list len each
    refine ⟨.sl _ es, ⟨es, ⟨by omega, by rw [hes]; exact hwl⟩, fun y hy => ?_, rfl⟩, nofun, IsL.one ?_, by rw [hc]; rfl, fun c hc => by simp only [List.mem_singleton] at hc; subst hc; rfl⟩
    · obtain ⟨i, hi⟩ := List.getElem?_of_mem hy
      exact (hp i y hi).1
    · simp only [PV.Is]
      refine ⟨some a, m, by rw [hes], by omega, by omega, fun g o hgo => ?_, fun hne => ?_⟩
      · cases hgo
        exact IsEs.of fun i y hy => (hp i y hy).2.2.2
      · have h1 : 0 < es.length := by omega
        obtain ⟨_, h2, h3, _⟩ := hp 0 es[0] (List.getElem?_eq_getElem h1)
        obtain ⟨b, off, sp⟩ := a
        dsimp only at h2
        subst h2
        exact ⟨b, off, rfl, h3, h0⟩
/-- fields, one behind the other -/
def OpFs (P : Program) (total : Nat) : Nat → List Field → List (PV → Prop) → Prop
  | off, [], [] => off = total
  | off, f :: fs, S :: Ss => f.offset = off ∧ Op P f.type S ∧ OpFs P total (off + P.cellsOf f.type) fs Ss
  | _, _, _ => False
theorem opAgg {fs : Array Field} {Ss : List (PV → Prop)} (ht : P.underlying t = some (.struct fs)) (hf : OpFs P (P.cellsOf t) 0 fs.toList Ss) : Op P t (SAgg Ss) := fun {H} ec w base held fuel cs x h hwt => by
  obtain ⟨xs, n, _, rfl, hl, hxl, hx⟩ := DataW.trod_struct ht h
  have key : ∀ (l : List Field) (Ss : List (PV → Prop)) (off : Nat), OpFs P (P.cellsOf t) off l Ss → (∀ f ∈ l, ∃ y, DataW.trod ec P w base (fun _ => true) held n f.type ((cs.drop f.offset).take (P.cellsOf f.type)) = some y ∧ ∀ n ∈ y.1.weights P f.type, n ≤ reachBytes) → off ≤ cs.length →
      ∃ ys, All2S Ss ys ∧ IsL w (In w) (ys.flatMap PV.cells) no (cs.drop off) ∧ ∀ c ∈ cs.drop off, c.oneCell' = true := by
    intro l
    induction l with
    | nil =>
      intro Ss off h _ _
      cases Ss with
      | nil =>
        simp only [OpFs] at h
        refine ⟨[], trivial, ?_, ?_⟩
        · rw [List.drop_eq_nil_of_le (by omega)]; simp only [List.flatMap_nil, IsL]
        · rw [List.drop_eq_nil_of_le (by omega)]; intro c hc; cases hc
      | cons => exact h.elim
    | cons f l ih =>
      intro Ss off h ht hle
      cases Ss with
      | nil => exact h.elim
      | cons S Ss =>
        obtain ⟨h1, h2, h3⟩ := h
        subst h1
        obtain ⟨z, hz, hzw⟩ := ht f (List.mem_cons_self ..)
        obtain ⟨y, hS, _, hy, hyl, hy1⟩ := h2 ec w base held n _ z hz hzw
        have hle2 : f.offset + P.cellsOf f.type ≤ cs.length := by
          rw [List.length_take, List.length_drop] at hyl; omega
        obtain ⟨ys, hys, hyL, hyO⟩ := ih Ss _ h3 (fun g hg => ht g (List.mem_cons_of_mem _ hg)) hle2
        have hd : cs.drop f.offset = (cs.drop f.offset).take (P.cellsOf f.type) ++ cs.drop (f.offset + P.cellsOf f.type) := by
          rw [← List.drop_drop, List.take_append_drop]
        refine ⟨y :: ys, ⟨hS, hys⟩, ?_, ?_⟩
        · rw [hd, List.flatMap_cons]; exact hy.append hyL
        · intro c hc
          rw [hd, List.mem_append] at hc
          exact hc.elim (hy1 c) (hyO c)
  obtain ⟨ys, h1, h2, h3⟩ := key fs.toList Ss 0 hf (fun f hf => by
    obtain ⟨i, hi⟩ := List.getElem?_of_mem hf
    have hi' : i < fs.size := by simpa using (List.getElem?_eq_some_iff.1 hi).1
    have := hx i f (by simpa using hi)
    rw [this]
    have hlt : i < xs.length := by omega
    refine ⟨_, List.getElem?_eq_getElem hlt, fun n hn => hwt n ?_⟩
    simp only [DataW.weights, ht]
    exact weights_each (i := i) (by rw [List.getElem?_map, hi]; rfl) (by rw [List.getElem?_map, List.getElem?_eq_getElem hlt]; rfl) hn) (Nat.zero_le _)
  rw [List.drop_zero] at h2 h3
  exact ⟨.agg (ys.flatMap PV.cells), ⟨ys, h1, rfl⟩, nofun, h2, hl, h3⟩
theorem Op.weak {S S' : PV → Prop} (h : Op P t S) (hS : ∀ x, S x → S' x) : Op P t S' := fun e w base held fuel cs x hx hwt => by
  obtain ⟨y, h1, h2⟩ := h e w base held fuel cs x hx hwt
  exact ⟨y, hS y h1, h2⟩
theorem decode {α : Type} {S : PV → Prop} {enc : α → PV} {ok : α → Prop} (h : ∀ x, S x → ∃ z, ok z ∧ x = enc z) : ∀ (es : List PV), (∀ e ∈ es, S e) → ∃ l : List α, (∀ z ∈ l, ok z) ∧ es = l.map enc
  | [], _ => ⟨[], fun _ h => by simp at h, rfl⟩
  | e :: es, hS => by
    obtain ⟨z, hz, rfl⟩ := h e (hS e (List.mem_cons_self ..))
    obtain ⟨l, hl, rfl⟩ := decode h es fun e he => hS e (List.mem_cons_of_mem _ he)
    refine ⟨z :: l, fun y hy => ?_, rfl⟩
    rcases List.mem_cons.1 hy with rfl | hy
    · exact hz
    · exact hl y hy
/-- a list that comes in, by what its elements are -/
def SLs {α : Type} (n b : Nat) (enc : α → PV) (ok : α → Prop) (x : PV) : Prop := ∃ l : List α, (l.length ≤ maxLen ∧ l.length * b ≤ reachBytes) ∧ (∀ z ∈ l, ok z) ∧ x = .sl n (l.map enc)
theorem opList {α : Type} {S : PV → Prop} {n b : Nat} {enc : α → PV} {ok : α → Prop} (h : Op P t (SSl n b S)) (hd : ∀ x, S x → ∃ z, ok z ∧ x = enc z) : Op P t (SLs n b enc ok) := h.weak fun x ⟨es, h1, h2, h3⟩ => by
  obtain ⟨l, hl, rfl⟩ := decode hd es h2
  exact ⟨l, by simpa using h1, hl, h3⟩
theorem each_le {H : Type} {ts : List TypeId} {l : List (DataW H)} (h : (DataW.weightsEach P ts l).all (· ≤ reachBytes) = true) {i : Nat} {d : DataW H} (ht : ts[i]? = some t) (hd : l[i]? = some d) : ∀ n ∈ d.weights P t, n ≤ reachBytes := fun n hn => by
  have := List.all_eq_true.1 h n (weights_each ht hd hn)
  simpa using this
/-- an argument of one cell; a struct -/
theorem Op.arg1 {S : PV → Prop} (h : Op P t S) (h1 : ∀ y, S y → y.cells = [y]) {H : Type} {ec : TypeId × Value → H} {w : World} {base : Nat} {held : Bool} {v : Value} {d : DataW H} {p : List MemPlace} (hv : v.cells = #[v]) (ht : DataW.Trod ec P w base (fun _ => true) held t v d p) (hwt : ∀ n ∈ d.weights P t, n ≤ reachBytes) :
    ∃ y, S y ∧ y.Is w (In w) no v := by
  obtain ⟨fuel, ht⟩ := ht
  obtain ⟨y, hS, _, hy, _⟩ := h ec w base held fuel _ _ ht hwt
  refine ⟨y, hS, ?_⟩
  rw [h1 y hS, hv] at hy
  simp only [IsL, and_true] at hy
  exact hy
theorem Op.argA {Ss : List (PV → Prop)} (h : Op P t (SAgg Ss)) {H : Type} {ec : TypeId × Value → H} {w : World} {base : Nat} {held : Bool} {vs : Array Value} {d : DataW H} {p : List MemPlace} (ht : DataW.Trod ec P w base (fun _ => true) held t (.agg vs) d p) (hwt : ∀ n ∈ d.weights P t, n ≤ reachBytes) :
    ∃ y, SAgg Ss y ∧ y.Is w (In w) no (.agg vs) := by
  obtain ⟨fuel, ht⟩ := ht
  obtain ⟨y, hS, _, hy, _⟩ := h ec w base held fuel _ _ ht hwt
  refine ⟨y, hS, ?_⟩
  obtain ⟨xs, _, rfl⟩ := hS
  simp only [PV.Is]
  exact ⟨vs, rfl, hy⟩
theorem SSl.cell {n b : Nat} {S : PV → Prop} (y : PV) : SSl n b S y → y.cells = [y] := fun ⟨_, _, _, h⟩ => by subst h; rfl
theorem SLs.cell {α : Type} {n b : Nat} {enc : α → PV} {ok : α → Prop} (y : PV) : SLs n b enc ok y → y.cells = [y] := fun ⟨_, _, _, h⟩ => by subst h; rfl
theorem SInt.cell {k : IntKind} (y : PV) : SInt k y → y.cells = [y] := fun ⟨_, _, h⟩ => by subst h; rfl
theorem SBool.cell (y : PV) : SBool y → y.cells = [y] := fun ⟨_, h⟩ => by subst h; rfl
end

end Go.Proofs.YtjcacjeoddnmhaaDoor.Pw

/- Package tables that are laid, as values; contracts that end in new memory. -/
namespace Go.Proofs.YtjcacjeoddnmhaaDoor.Pw
open Go Go.RowKit

def tabPs (P : Program) (total : Nat) (r : TypeId → DataW Unit → Option (List PV)) : Nat → List (Nat × TypeId) → List (DataW Unit) → Option (List PV)
  | off, [], [] => if off = total then some [] else none
  | off, (o, t) :: ps, d :: ds => if o = off then (match r t d, tabPs P total r (off + P.cellsOf t) ps ds with
      | some xs, some ys => some (xs ++ ys)
      | _, _ => none) else none
  | _, _, _ => none
/-- a table's cells, off what is laid -/
def tabV (P : Program) : Nat → TypeId → DataW Unit → Option (List PV)
  | 0, _, _ => none
  | f + 1, t, d => match P.underlying t, d with
    | some (.int k), .lit (.int l n) => if k = l then some [.lit k n] else none
    | some .bool, .lit (.bool b) => some [if b then .tt else .ff]
    | some (.struct fs), .agg ds => tabPs P (P.cellsOf t) (tabV P f) 0 (fs.toList.map fun f => (f.offset, f.type)) ds
    | some (.array n e), .agg ds => tabPs P (P.cellsOf t) (tabV P f) 0 ((List.range n).map fun i => (i * P.cellsOf e, e)) ds
    | _, _ => none
section
variable {P : Program} {w : World} {I : Nat → Prop}
theorem tabV_ok {base : Nat} {sp : Nat → Bool} {held : Bool} {enc : TypeId × Value → Unit} : ∀ (f : Nat) (t : TypeId) (d : DataW Unit) (xs : List PV) (fuel : Nat) (cs : List Value) (p : List MemPlace), tabV P f t d = some xs → DataW.trod enc P w base sp held fuel t cs = some (d, p) → IsL w I xs no cs ∧ ∀ c ∈ cs, c.oneCell' = true
  | 0, _, _, _, _, _, _, h, _ => by simp [tabV] at h
  | f + 1, t, d, xs, fuel, cs, p, h, ht => by
    have key : ∀ (n : Nat) (ps : List (Nat × TypeId)) (ds : List (DataW Unit)) (off : Nat) (xs : List PV), tabPs P (P.cellsOf t) (tabV P f) off ps ds = some xs → cs.length = P.cellsOf t →
        (∀ (i : Nat) (o : Nat) (u : TypeId), ps[i]? = some (o, u) → ∃ d p, ds[i]? = some d ∧ DataW.trod enc P w base sp held n u ((cs.drop o).take (P.cellsOf u)) = some (d, p)) → IsL w I xs no (cs.drop off) ∧ ∀ c ∈ cs.drop off, c.oneCell' = true := by
      intro n ps
      induction ps with
      | nil =>
        intro ds off xs h hl _
        cases ds with
        | cons => simp [tabPs] at h
        | nil =>
          simp only [tabPs] at h
          split at h
          · cases h
            rw [List.drop_eq_nil_of_le (by omega)]
            exact ⟨by simp only [IsL], fun c hc => by cases hc⟩
          · cases h
      | cons q ps ih =>
        obtain ⟨o, u⟩ := q
        intro ds off xs h hl ha
        cases ds with
        | nil => simp [tabPs] at h
        | cons d ds =>
          simp only [tabPs] at h
          split at h
          · rename_i ho
            subst ho
            split at h
            · rename_i xs1 ys h1 h2
              cases h
              obtain ⟨d', p', hd, ht⟩ := ha 0 o u rfl
              simp only [List.getElem?_cons_zero, Option.some.injEq] at hd
              subst hd
              have i1 := tabV_ok f u _ _ n _ _ h1 ht
              have i2 := ih ds _ _ h2 hl fun i o' u' hi => by
                obtain ⟨d', p', hd, ht⟩ := ha (i + 1) o' u' (by simpa using hi)
                exact ⟨d', p', by simpa using hd, ht⟩
              have hd : cs.drop o = (cs.drop o).take (P.cellsOf u) ++ cs.drop (o + P.cellsOf u) := by
                rw [← List.drop_drop, List.take_append_drop]
              rw [hd]
              refine ⟨i1.1.append i2.1, fun c hc => ?_⟩
              rw [List.mem_append] at hc
              exact hc.elim (i1.2 c) (i2.2 c)
            · cases h
          · cases h
    unfold tabV at h
    split at h
    · rename_i hu
      obtain ⟨z, rfl, hz, _⟩ := DataW.trod_int hu ht
      simp only [Prod.mk.injEq, DataW.lit.injEq, Lit.int.injEq] at hz
      obtain ⟨⟨rfl, rfl⟩, _⟩ := hz
      simp only [if_true, Option.some.injEq] at h
      subst h
      exact ⟨IsL.one (by simp only [PV.Is]), fun c hc => by simp only [List.mem_singleton] at hc; subst hc; rfl⟩
    · rename_i hu
      obtain ⟨b, rfl, hz⟩ := DataW.trod_bool hu ht
      simp only [Prod.mk.injEq, DataW.lit.injEq, Lit.bool.injEq] at hz
      obtain ⟨rfl, _⟩ := hz
      simp only [Option.some.injEq] at h
      subst h
      refine ⟨IsL.one ?_, fun c hc => by simp only [List.mem_singleton] at hc; subst hc; rfl⟩
      split <;> simp only [PV.Is] <;> simp_all
    · rename_i hu
      obtain ⟨ys, n, _, hz, hl, hyl, hy⟩ := DataW.trod_struct hu ht
      simp only [Prod.mk.injEq, DataW.agg.injEq] at hz
      obtain ⟨rfl, _⟩ := hz
      have := key n _ _ 0 xs h hl fun i o u hi => by
        simp only [List.getElem?_map, Option.map_eq_some_iff, Prod.mk.injEq] at hi
        obtain ⟨f', hf, rfl, rfl⟩ := hi
        have hy := hy i f' (by simpa using hf)
        have hlt : i < ys.length := by rw [hyl]; simpa using (List.getElem?_eq_some_iff.1 hf).1
        exact ⟨ys[i].1, ys[i].2, by simp [hlt], by rw [hy]; simp [hlt]⟩
      simpa using this
    · rename_i hu
      obtain ⟨ys, n, _, hz, hl, hyl, hy⟩ := DataW.trod_array hu ht
      simp only [Prod.mk.injEq, DataW.agg.injEq] at hz
      obtain ⟨rfl, _⟩ := hz
      have := key n _ _ 0 xs h hl fun i o u hi => by
        simp only [List.getElem?_map, Option.map_eq_some_iff, Prod.mk.injEq] at hi
        obtain ⟨j, hj, rfl, rfl⟩ := hi
        obtain ⟨hj1, rfl⟩ := List.getElem?_eq_some_iff.1 hj
        simp only [List.length_range] at hj1
        rw [List.getElem_range]
        have hy := hy i hj1
        have hlt : i < ys.length := by omega
        exact ⟨ys[i].1, ys[i].2, by simp [hlt], by rw [hy]; simp [hlt]⟩
      simpa using this
    · cases h
theorem laid_at {laid : List (String × DataW Unit)} : ∀ {l : List (String × DataW Unit)} {ps : List MemPlace}, DataW.LaidVars P w l ps → ∀ {name : String} {d : DataW Unit}, (name, d) ∈ l → ∀ {g : Nat} {t : TypeId} {xs : List PV} (f : Nat), P.globalNamed name = some g → (P.globals[g]?).map (·.type) = some t → tabV P f t d = some xs → xs ≠ [] → (g < w.heap.size ∧ IsAt w I xs g 0) ∧ ∃ arr ty fr, w.heap[g]? = some (.cells arr ty fr) ∧ arr.size = xs.length
  | [], _, _, _, _, hm, _, _, _, _, _, _, _, _ => by cases hm
  | (n, d) :: r, ps, h, name, d', hm, g, t, xs, f, hg, ht, hx, hne => by
    obtain ⟨g', t', cs, fuel, p, q, hg', ht', hvar, hd, hr, _⟩ := h
    rcases List.mem_cons.1 hm with he | hm
    · cases he
      obtain rfl := Option.some.inj (hg.symm.trans hg')
      obtain rfl := Option.some.inj (ht.symm.trans ht')
      obtain ⟨h1, h2⟩ := tabV_ok (I := I) f t _ _ fuel _ _ hx hd
      have hat : IsAt w I xs g 0 := IsAt.of fun i c hc => by
        obtain ⟨v, hv, hi⟩ := h1.get hc
        exact ⟨v, by rw [Nat.zero_add, World.var?_cell hg hvar]; simpa using hv, hi, h2 v (List.mem_of_getElem? hv)⟩
      refine ⟨⟨?_, hat⟩, ?_⟩
      rotate_left 1
      · have hl := h1.length
        unfold World.var? at hvar
        rw [hg, Option.bind_some] at hvar
        split at hvar
        · rename_i arr ty fr hh
          cases hvar
          exact ⟨_, ty, fr, hh, by simpa using hl.symm⟩
        · cases hvar
      cases xs with
      | nil => exact absurd rfl hne
      | cons c xs =>
        obtain ⟨v, hv, _⟩ := hat.get (i := 0) rfl
        exact World.block_lt_of_cell? w _ hv
    · exact laid_at (laid := laid) hr hm f hg ht hx hne
/-- what is laid, as the tables of the evaluator's context -/
theorem immOk_laid {G : Gx} {laid : List (String × DataW Unit)} (hpl : (laid.all fun x => x.2.handleName?.isNone) = true) (h : laidMetH P laid w)
    (hall : ∀ x ∈ G.tabs, ∃ name d t, (name, d) ∈ laid ∧ P.globalNamed name = some x.1 ∧ (P.globals[x.1]?).map (·.type) = some t ∧ tabV P 8 t d = some x.2 ∧ x.2 ≠ []) : ImmOk G (In w) w := by
  rw [MakeChecks.laidMetH_plain _ _ _ hpl] at h
  obtain ⟨ps, h, _⟩ := h
  have key : ∀ (g : Nat) (cs : List PV), (g, cs) ∈ G.tabs → (g < w.heap.size ∧ IsAt w (In w) cs g 0) ∧ ∃ arr ty fr, w.heap[g]? = some (.cells arr ty fr) ∧ arr.size = cs.length := fun g cs hg => by
    obtain ⟨name, d, t, h1, h2, h3, h4, h5⟩ := hall _ hg
    exact laid_at (I := In w) (laid := laid) h h1 8 h2 h3 h4 h5
  exact ⟨fun g hg => hg, fun g cs hg => (key g cs hg).1, fun g cs hg => (key g cs hg).2⟩
end

section
variable {w w' : World} {I I' : Nat → Prop} {β β' : Places} {G : Gx} {s : PSt} {a : Act} {st st' : List PBlk}
/-- what was never changed, and all that is new -/
def NewI (I : Nat → Prop) (w w' : World) (g : Nat) : Prop := I g ∨ (w.heap.size ≤ g ∧ g < w'.heap.size)
theorem PureF.of_new {f : FuncId} {args : List PV} {r : PV} (he : Ev.Enters G.cx.P f)
    (h : ∀ I β w vals, ImmOk G I w → IsL w I args β vals → Calls G.cx.P f vals.toArray w fun e w' => ∃ v, e = .returned v ∧ Below w.heap.size w w' ∧ r.Is w' (NewI I w w') no v) (hu : r.uses = []) : PureF G f args r := by
  refine Spec.intro he fun I β w vals hH hM hA => ?_
  refine (h I β w vals hM hA).mono fun e w' ⟨v, he, hB, hr⟩ => ⟨v, r, [], NewI I w w', β, he, rfl, uses_none hu hr, hH.none0 _ _, ?_, ⟨hB.os, hB.tape, hB.output, hB.size, fun g hg _ => hB.block g hg, fun g _ ⟨l, b, p, o, h1, _⟩ => by simp at h1, fun _ h => .inl h, fun g hg h => ?_⟩, Nat.le_refl _, fun _ _ _ => rfl⟩
  · have hM' := hM.below hB
    exact ⟨fun g hg => hg.elim (fun h => hM'.imm g h) (fun h => h.2), fun g cs hg => ⟨.inl (hM'.tab g cs hg).1, IsAt.mono (fun _ h => .inl h) (fun _ _ => rfl) _ _ _ rfl (hM'.tab g cs hg).2⟩, hM'.row⟩
  · rcases h with h | h
    · exact .inl h
    · omega
end

end Go.Proofs.YtjcacjeoddnmhaaDoor.Pw

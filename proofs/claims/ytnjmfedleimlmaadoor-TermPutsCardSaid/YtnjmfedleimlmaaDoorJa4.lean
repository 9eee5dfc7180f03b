/- What the laws of this claim are proved with, joined (join.py) of 23 texts: no condition. -/
import Derived.Test.YtnjmfedleimlmaaDoorJa3
import Derived.Test.YtnjmfedleimlmaaDoorJa2
import Derived.Deep.Slices
import Derived.Below
import Derived.OpenShut
import Derived.LaidLaws
import Derived.ChangeArms
import Derived.MakeChecks
import Derived.Stop.Joined
import Derived.WalkKit
import Derived.ProofKit
import Derived.Deep.Grids
import Derived.Deep.OwnRows
import Derived.OwnWalk
import Derived.Laws.OwnMore
import Derived.Laws.Rows
import Derived.Deep.Draws
import Derived.Test.YtnjmfedleimlmaaDoorChecked
import Derived.RegionTactic
import Derived.Deep.RegionHeld3
import Derived.Deep.RegionLaw
import Derived.Deep.AppendLies
import Derived.Deep.DeepCutAuto
import Derived.Laws.BitsAllLaws
import Derived.Laws.MathBits
import Derived.Lib.BitFns
import Derived.Lib.Strings
import Derived.Lib.Slices
import Derived.Lib.Small
import Derived.Lib.Walk
import Derived.WalkSpells
import Derived.Lib.Hide
import Derived.RowKit
import Derived.Lib.ItoaNum
import Derived.IntWalk
import Derived.LoopTactic
import Derived.Deep.QuietTactic
import Derived.BigQuiet
set_option linter.unusedVariables false

/- A state that says no more than another one: sound; the states at a loop's head. -/
namespace Go.Proofs.YtnjmfedleimlmaaDoor.Pw
open Go Go.RowKit

section
variable {w w' : World} {I I' : Nat → Prop} {β β' : Places} {G : Gx} {s : PSt} {a : Act} {st st' : List PBlk}

theorem leL_cells {cs ds : List PV} {arr : Array Value} {o : Nat} (h : leL le1 cs ds) (hc : CellsAt w I β cs arr o) : CellsAt w I β ds arr o := by
  have key : ∀ (cs ds : List PV) (o : Nat), leL le1 cs ds → CellsAt w I β cs arr o → CellsAt w I β ds arr o := by
    intro cs
    induction cs with
    | nil => intro ds o h hc; cases ds with
      | nil => exact hc
      | cons _ _ => exact h.elim
    | cons c cs ih =>
      intro ds o h hc
      cases ds with
      | nil => exact h.elim
      | cons d ds =>
        intro i x hx
        cases i with
        | zero =>
          simp at hx; subst hx
          obtain ⟨v, hv, hi, h1⟩ := hc 0 c rfl
          exact ⟨v, hv, le1_ok h.1 w I β v hi, h1⟩
        | succ i =>
          have := ih ds (o + 1) h.2 (fun j y hy => by
            obtain ⟨v, hv, h1⟩ := hc (j + 1) y (by simpa using hy)
            exact ⟨v, by rw [show o + 1 + j = o + (j + 1) by omega]; exact hv, h1⟩) i x (by simpa using hx)
          obtain ⟨v, hv, h1⟩ := this
          exact ⟨v, by rw [show o + (i + 1) = o + 1 + i by omega]; exact hv, h1⟩
  exact key cs ds o h hc
theorem renL_cells {π : Ren} {cs ds : List PV} {arr : Array Value} {o : Nat} (h : renL π ds = some cs) (hc : CellsAt w I β cs arr o) : CellsAt w I (renB β π) ds arr o := by
  have key : ∀ (ds cs : List PV) (o : Nat), renL π ds = some cs → CellsAt w I β cs arr o → CellsAt w I (renB β π) ds arr o := by
    intro ds
    induction ds with
    | nil => intro cs o _ _ i c hc; simp at hc
    | cons d ds ih =>
      intro cs o h hc
      simp only [renL] at h
      split at h
      · rename_i y l h1 h2
        cases h
        intro i x hx
        cases i with
        | zero =>
          simp at hx; subst hx
          obtain ⟨v, hv, hi, h3⟩ := hc 0 y rfl
          exact ⟨v, hv, ren1_ok h1 hi, h3⟩
        | succ i =>
          have := ih l (o + 1) h2 (fun j y hy => by
            obtain ⟨v, hv, h1⟩ := hc (j + 1) y (by simpa using hy)
            exact ⟨v, by rw [show o + 1 + j = o + (j + 1) by omega]; exact hv, h1⟩) i x (by simpa using hx)
          obtain ⟨v, hv, h1⟩ := this
          exact ⟨v, by rw [show o + (i + 1) = o + 1 + i by omega]; exact hv, h1⟩
      · cases h
  exact key ds cs o h hc
theorem leL_len {r : PV → PV → Prop} : ∀ {cs ds : List PV}, leL r cs ds → cs.length = ds.length
  | [], [], _ => rfl
  | _ :: _, _ :: _, h => by simp [leL_len h.2]
  | [], _ :: _, h => h.elim
  | _ :: _, [], h => h.elim
theorem renL_len {π : Ren} : ∀ {ds cs : List PV}, renL π ds = some cs → ds.length = cs.length
  | [], cs, h => by simp only [renL, Option.some.injEq] at h; subst h; rfl
  | d :: ds, cs, h => by
    simp only [renL] at h
    split at h
    · rename_i y l h1 h2
      cases h; simp [renL_len h2]
    · cases h
theorem subK_ok (hO : Ev.CxOk G.cx) {π : Ren} {s s' : PSt} (h : subK G.cx π s s') : Sub G s s' := by
  obtain ⟨hn, hbase, hrl, hnd, hst, ht⟩ := h
  obtain ⟨hnd, _⟩ := bif_ok hnd
  simp only [Bool.and_eq_true] at hnd
  obtain ⟨hnd, hbk⟩ := hnd
  obtain ⟨hπl, hblk⟩ := stK_ok hst
  have hinj := nodupR_ok hnd
  have hbl := baseK_len hbk
  have hbk := baseK_ok hbk
  intro I β a w hR
  have hH : HeapOk I (renB β π) s'.st w := by
    refine ⟨fun l hl => by unfold renB; rw [List.getElem?_eq_none (by omega)], fun l b' hl hlive => ?_⟩
    rcases hblk l b' hl hlive with ⟨m, b, hπ, hb, hk⟩ | ⟨hπ, hk, hc, hsz⟩
    · obtain ⟨hc, hk⟩ := bif_ok hk
      simp only [Bool.and_eq_true] at hc
      obtain ⟨⟨⟨hty, hsz⟩, hm⟩, hlb⟩ := hc
      have hty := Nat.eq_of_beq_eq_true hty
      have hsz := Nat.eq_of_beq_eq_true hsz
      have hm := Md.beq_ok hm
      obtain ⟨p, hp, hB⟩ := hR.heap.blk m b hb hlb
      have own : ∀ {g : Nat} {fr : Nat × Nat}, Own I β s.st m g fr b → Own I (renB β π) s'.st l g fr b' := fun ho => by
        refine ⟨fun hr => ?_, fun hr => ho.2 (by rw [hm]; exact hr)⟩
        obtain ⟨h1, h2, h3⟩ := ho.1 (by rw [hm]; exact hr)
        refine ⟨h1, h2, fun l2 b2 hne hl2 hlive2 p2 g2 o2 hp2 ha2 => ?_⟩
        rcases hblk l2 b2 hl2 hlive2 with ⟨m2, b3, hπ2, hb3, hk3⟩ | ⟨hπ2, _⟩
        · rw [renB_some hπ2] at hp2
          obtain ⟨hc3, _⟩ := bif_ok hk3
          simp only [Bool.and_eq_true] at hc3
          exact h3 m2 b3 (fun e => hne (by subst e; exact hinj l2 l _ hπ2 hπ)) hb3 hc3.2 p2 g2 o2 hp2 ha2
        · rw [renB_none hπ2] at hp2
          cases hp2; cases ha2
      refine ⟨p, by rw [renB_some hπ]; exact hp, ?_⟩
      split at hk
      · rename_i hkb hkb'
        rw [hkb] at hB
        rw [hkb']
        obtain ⟨g, o, arr, ty, fr, h1, h2, h3, ho⟩ := hB
        obtain ⟨cs, hcs, hk⟩ := need_ok hk
        exact ⟨g, o, arr, ty, fr, h1, h2, renL_cells hcs (leL_cells hk h3), own ho⟩
      · rename_i hkb hkb'
        rw [hkb] at hB
        rw [hkb']
        obtain ⟨g, arr, fr, h1, h2, h3, ho, h4, h5, h6, h7, h8⟩ := hB
        obtain ⟨cs, hcs, hk⟩ := need_ok hk
        exact ⟨g, arr, fr, h1, by rw [← hty]; exact h2, renL_cells hcs (leL_cells hk h3), own ho, by rw [renL_len hcs, ← leL_len hk, ← hsz]; exact h4, h5, h6, by rw [← hsz]; exact h7, by rw [← hsz]; exact h8⟩
      · rename_i hkb hkb'
        rw [hkb] at hB
        rw [hkb']
        obtain ⟨⟨h1, h2, h3, h4⟩, hB⟩ := hB
        refine ⟨⟨by rw [← hsz]; exact h1, by rw [← hk]; exact h2, h3, h4⟩, ?_⟩
        rcases hB with h | ⟨g, arr, fr, h5, h6, h7, ho, h8⟩
        · exact .inl h
        · exact .inr ⟨g, arr, fr, h5, by rw [← hty]; exact h6, by rw [← hk, ← hsz]; exact h7, own ho, by rw [← hsz]; exact h8⟩
      · rename_i hkb hkb'
        rw [hkb] at hB
        rw [hkb']
        obtain ⟨g, arr, fr, h1, h2, h3, ho, h4, h5, h6, h7, h8⟩ := hB
        obtain ⟨ag, hag, hk⟩ := need_ok hk
        obtain ⟨hag2, hk⟩ := bif_ok hk
        rw [PBlk.szK_eq] at hk
        obtain ⟨es, hes, hk⟩ := need_ok hk
        simp only [Bool.or_eq_true] at hag2
        have hxl : (arr.toList.take (p.len * b.size)).length = p.len * b.size := by
          rw [List.length_take, Array.length_toList, h7]
          have := Nat.mul_le_mul_right b.size h5
          omega
        have hsrc : SrcIs w I β b.size (.stat b.cs) (arr.toList.take (p.len * b.size)) := by
          refine ⟨by rw [hxl, h4], fun j c hj => ?_⟩
          obtain ⟨u, hu, h9⟩ := h3 j c hj
          have hj' : j < p.len * b.size := by rw [← h4]; exact (List.getElem?_eq_some_iff.1 hj).1
          exact ⟨u, by rw [List.getElem?_take, if_pos hj']; simpa using hu, h9⟩
        obtain ⟨e1, e2⟩ := elemsOf_ok h8 (hag2.imp id Nat.eq_of_beq_eq_true) hes hsrc hxl
        refine ⟨⟨by rw [← hsz]; exact h8, by rw [← hk]; exact e1, h5, h6⟩, .inr ⟨g, arr, fr, h1, by rw [← hty]; exact h2, ?_, own ho, by rw [← hsz]; exact h7⟩⟩
        rw [← hk, ← hsz]
        refine e2.at (fun j v hj => ?_) (fun _ h => h) (fun _ _ => rfl)
        have := take_at h2 0 (p.len * b.size) j v (by simpa using hj)
        simpa using this
      · exact hk.elim
    · refine ⟨_, renB_none hπ, ?_⟩
      rw [hk]
      exact ⟨⟨hsz, by rw [hc]; rfl, Nat.le_refl _, Nat.zero_le _⟩, .inl ⟨rfl, rfl⟩⟩
  refine ⟨I, renB β π, ⟨by rw [hn]; exact hR.small, hR.defers, by rw [hn]; exact hR.size, ?_, fun t y hy => ?_, hH, hR.imm⟩, ⟨⟨rfl, rfl, rfl, Nat.le_refl _, fun _ _ _ => rfl, fun g hg ⟨l, b', p, o, h1, h2, h3, h4, h5⟩ => ?_, fun _ h => h, fun _ _ h => .inl h⟩, hbase, hrl, hn, fun l hl hnr => ?_⟩⟩
  · rw [hbase]
    rw [← hπl]; exact hbl
  · obtain ⟨x, z, hx, hz, hle⟩ := TM.leK_ok ht hy
    obtain ⟨v, hv, hi⟩ := hR.get t x hx
    exact ⟨v, hv, ren_ok hz (leK_ok hle w I β v hi)⟩
  · rcases hblk l b' h1 h2 with ⟨m, b, hπ, hb, hk⟩ | ⟨hπ, _⟩
    · obtain ⟨hc, _⟩ := bif_ok hk
      simp only [Bool.and_eq_true] at hc
      rw [renB_some hπ] at h4
      exact ⟨m, b, p, o, hb, hc.2, by rw [Md.beq_ok hc.1.2]; exact h3, h4, h5⟩
    · rw [renB_none hπ] at h4
      cases h4; cases h5
  · rcases hbk l hl with h | h
    · rw [Nat.zero_add] at h
      exact renB_some h
    · rw [Nat.zero_add] at h; exact absurd h hnr

/-! ### a state is laid bare -/
def frO (v : Option PV) (q : Option PV → Prop) : Prop := match v with
  | none => q none
  | some x => fc x fun x => q (some x)
def frT : TM → (TM → Prop) → Prop
  | .nil, q => q .nil
  | .node v l r, q => frO v fun v => frT l fun l => frT r fun r => q (.node v l r)
def frK (b : PBlk) (q : PBlk → Prop) : Prop := match b with
  | ⟨.loc, ty, n, m, live, cs⟩ => forceL cs fun cs => q ⟨.loc, ty, n, m, live, cs⟩
  | ⟨.arr, ty, n, m, live, cs⟩ => forceL cs fun cs => q ⟨.arr, ty, n, m, live, cs⟩
  | ⟨.dyn, ty, n, m, live, cs⟩ => q ⟨.dyn, ty, n, m, live, cs⟩
def frBB : List PBlk → (List PBlk → Prop) → Prop
  | [], q => q []
  | b :: st, q => frK b fun b => frBB st fun st => q (b :: st)
def frS (s : PSt) (q : PSt → Prop) : Prop := match s with
  | ⟨n, t, st, b, rl⟩ => frT t fun t => frBB st fun st => q ⟨n, t, st, b, rl⟩
theorem frT_ok : ∀ {t : TM} {q : TM → Prop}, frT t q → q t
  | .nil, _, h => h
  | .node v l r, q, h => by
    have h1 : frT l fun l => frT r fun r => q (.node v l r) := by
      cases v with
      | none => exact h
      | some x => exact fc_ok (x := x) (q := fun x => frT l fun l => frT r fun r => q (.node (some x) l r)) h
    have h2 := frT_ok h1
    exact frT_ok (q := fun r => q (.node v l r)) h2
theorem frK_ok {b : PBlk} {q : PBlk → Prop} (h : frK b q) : q b := by
  obtain ⟨k, ty, n, m, live, cs⟩ := b
  cases k
  · exact forceL_ok (q := fun cs => q ⟨.loc, ty, n, m, live, cs⟩) h
  · exact forceL_ok (q := fun cs => q ⟨.arr, ty, n, m, live, cs⟩) h
  · exact h
theorem frBB_ok : ∀ {st : List PBlk} {q : List PBlk → Prop}, frBB st q → q st
  | [], _, h => h
  | b :: st, q, h => frBB_ok (q := fun st => q (b :: st)) (frK_ok h)
theorem frS_ok {q : PSt → Prop} (h : frS s q) : q s := by
  obtain ⟨n, t, st, b, rl⟩ := s
  have h1 := frT_ok h
  exact frBB_ok (q := fun st => q ⟨n, t, st, b, rl⟩) h1

/-! ### a loop's head -/
def TM.setF (v : Option PV) : Nat → TM → Nat → TM
  | 0, t, _ => t
  | f + 1, .nil, n => bif Nat.beq n 0 then .node v .nil .nil else bif Nat.beq (n % 2) 1 then .node none (TM.setF v f .nil ((n - 1) / 2)) .nil else .node none .nil (TM.setF v f .nil ((n - 1) / 2))
  | f + 1, .node u l r, n => bif Nat.beq n 0 then .node v l r else bif Nat.beq (n % 2) 1 then .node u (TM.setF v f l ((n - 1) / 2)) r else .node u l (TM.setF v f r ((n - 1) / 2))
def dstsO : List Oper → List Nat
  | [] => []
  | o :: r => (match o.dst with
    | some d => [d]
    | none => []) ++ dstsO r
def dsts : Code → List Nat
  | .region _ ops _ => dstsO ops.toList
  | .seq a b => dsts a ++ dsts b
  | .cond _ a b => dsts a ++ dsts b
  | .block _ c => dsts c
  | .loop c => dsts c
  | .scope c => dsts c
  | _ => []
def clearF : List Nat → TM → TM
  | [], t => t
  | d :: ds, t => clearF ds (t.setF none 24 d)
def layF : List (Nat × PV) → TM → TM
  | [], t => t
  | (d, x) :: r, t => layF r (t.setF (some x) 24 d)
/-- the state at a loop's head: what the loop writes is let go, but for some slots; the store is another one -/
def PSt.head (s : PSt) (c : Code) (vs : List (Nat × PV)) (st : List PBlk) : PSt := match s with
  | ⟨n, t, _, b, rl⟩ => ⟨n, layF vs (clearF (dsts c) t), st, b, rl⟩
def idR : Nat → List PBlk → Ren
  | _, [] => []
  | n, _ :: r => some n :: idR (n + 1) r
/-- a loop: slots and store by x; π0, π: which blocks are which, at the start and behind a round -/
theorem SW.loop (hG : GOk G) (R : List (Nat × Plan)) {α : Type} {c : Code} {Q : X → PSt → Prop} (hc : planAll R c = true) (vs : α → List (Nat × PV)) (st : α → List PBlk) (μ : α → Nat) (x0 : α) (N : Nat) (π0 : Ren) (h0 : subK G.cx π0 s (s.head c (vs x0) (st x0)))
    (h : ∀ x, frS (s.head c (vs x) (st x)) (pw G R N c (backK (fun s' => ∃ y π, μ y < μ x ∧ subK G.cx π s' (s.head c (vs y) (st y))) Q))) : SW G (.loop c) Q s :=
  SW.inv hG (fun x => s.head c (vs x) (st x)) μ (N := N) hc x0 (subK_ok hG.ok h0) (fun x s' => ∃ y π, μ y < μ x ∧ subK G.cx π s' (s.head c (vs y) (st y))) (fun x s' ⟨y, π, hy, hs⟩ => ⟨y, hy, subK_ok hG.ok hs⟩) fun x => frS_ok (h x)

/-! ### calls from their arguments -/
def argT : List PV → Nat → TM → (TM → Prop) → Prop
  | [], _, t, k => k t
  | x :: xs, i, t, k => fc x fun x => t.setK (some x) 24 i fun t => argT xs (i + 1) t k
def resK1 (G : Gx) (s : PSt) (r : ResultVar) (q : PV → Prop) : Prop := match r with
  | .tmp t => need (s.t.get t) fun x => (match x with
    | .tup _ => False
    | x => q x)
  | .cell a t => need (s.t.get a) fun x => pload G s.st t x q
def resKL (G : Gx) (s : PSt) : List ResultVar → (List PV → Prop) → Prop
  | [], q => q []
  | r :: rs, q => resK1 G s r fun x => resKL G s rs fun xs => q (x :: xs)
def resK (G : Gx) (s : PSt) (rs : List ResultVar) (q : PV → Prop) : Prop := match rs with
  | [.tmp t] => need (s.t.get t) q
  | rs => resKL G s rs fun l => (match l with
    | [x] => q x
    | l => q (.tup l))
def notP : Md → Bool
  | .p => false
  | _ => true
def frzL (r : PV → (PV → Prop) → Prop) : List PV → (List PV → Prop) → Prop
  | [], q => q []
  | c :: cs, q => r c fun c => frzL r cs fun cs => q (c :: cs)
/-- what a function made is never changed any more -/
def frz (cx : Ev.Cx) (st : List PBlk) (base : Nat) : Nat → PV → (PV → Prop) → Prop
  | 0, _, _ => False
  | n + 1, x, q => match x with
    | .wref l => bif Nat.blt l base then q (.wref l) else need st[l]? fun b => bif b.live && notP b.m then (match b.k with
      | .arr => frzL (frz cx st base n) b.cs fun cs => need (Ev.isAggT cx b.ty) fun ag => bif ag || Nat.beq b.size 1 then b.szK fun n => need (elemsOf ag n (.stat cs)) fun es => q (.sl n es) else False
      | .dyn => q (.sl b.size b.cs)
      | .loc => False) else False
    | .agg cs => frzL (frz cx st base n) cs fun cs => q (.agg cs)
    | .tup cs => frzL (frz cx st base n) cs fun cs => q (.tup cs)
    | .clo f cs => frzL (frz cx st base n) cs fun cs => q (.clo f cs)
    | x => bif x.uses.all (fun l => Nat.blt l base) then q x else False
def lowB (base : Nat) (b : PBlk) : Bool := match b.k with
  | .dyn => true
  | _ => b.cs.all fun c => c.uses.all fun l => Nat.blt l base
def retK (G : Gx) (rs : List ResultVar) (base : Nat) (K : PV → List PBlk → Prop) (x : X) (s : PSt) : Prop := match x with
  | .exit _ => False
  | _ => resK G s rs fun r => frz G.cx s.st base 8 r fun r => bif (s.st.take base).all (lowB base) then frBB (s.st.take base) fun S => ∃ r', PLe r r' ∧ K r' S else False
/-- a call: its body, from its arguments -/
def enterK (G : Gx) (R : List (Nat × Plan)) (N : Nat) (fn : Func) (c : Code) (args : List PV) (S : List PBlk) (rl : List Nat) (K : PV → List PBlk → Prop) : Prop :=
  bif Nat.ble args.length fn.ntmps && Nat.ble fn.ntmps 16777215 && !(fn.name == "runtime.NumGoroutine") then
    lenK S 0 fun b => argT args 0 .nil fun t => pw G R N c (retK G fn.results.toList b K) ⟨fn.ntmps, t, S, b, rl⟩ else False

section
variable {w w' : World} {I I' : Nat → Prop} {β β' : Places} {G : Gx} {s : PSt} {a : Act} {st st' : List PBlk}
theorem argT_ok : ∀ {xs : List PV} {i : Nat} {t : TM} {k : TM → Prop}, argT xs i t k → ∃ t', k t' ∧ ∀ n x, t'.get n = some x → (∃ j, n = i + j ∧ xs[j]? = some x) ∨ t.get n = some x
  | [], i, t, k, h => ⟨t, h, fun n x hx => .inr hx⟩
  | x :: xs, i, t, k, h => by
    obtain ⟨t1, h1, ht1⟩ := TM.setK_ok (fc_ok h)
    obtain ⟨t', hk, ht'⟩ := argT_ok h1
    refine ⟨t', hk, fun n y hy => ?_⟩
    rcases ht' n y hy with ⟨j, hj, hx⟩ | hy
    · exact .inl ⟨j + 1, by omega, by simpa using hx⟩
    · rw [ht1] at hy
      split at hy
      · rename_i hn
        cases hy
        exact .inl ⟨0, by omega, rfl⟩
      · exact .inr hy
def resV (a : Act) (rv : ResultVar) : Sem Value := match rv with
  | .tmp t => pure (a.tmps.getD t Go.undef)
  | .cell b t => do loadVar t (← asAddr (a.tmps.getD b Go.undef))
theorem resK1_ok (hG : GOk G) (hR : Rel G I β s a w) {r : ResultVar} {q : PV → Prop} (h : resK1 G s r q) : ∃ x v, q x ∧ x.Is w I β v ∧ (resV a r).run G.cx.P w = .ok v w := by
  cases r with
  | tmp t =>
    obtain ⟨x, hx, h⟩ := need_ok h
    obtain ⟨v, hv, hi⟩ := hR.get t x hx
    have hq : q x := by
      split at h
      · exact h.elim
      · exact h
    exact ⟨x, v, hq, hi, by simp [resV, hv]⟩
  | cell b t =>
    obtain ⟨x, hx, h⟩ := need_ok h
    obtain ⟨v, hv, hi⟩ := hR.get b x hx
    obtain ⟨z, r, g, hz, hzi, _, hrun⟩ := pload_ok hG.ok hR.heap hR.imm h hi
    have hrun := hrun w rfl
    refine ⟨z, r, hz, hzi, ?_⟩
    have hptr : ∃ ad, v = .pointer (some ad) := by
      unfold pload at h
      split at h <;> try simp only [PV.Is] at hi
      · obtain ⟨_, _, _, _, _, rfl⟩ := hi; exact ⟨_, rfl⟩
      · obtain ⟨_, _, _, _, _, rfl⟩ := hi; exact ⟨_, rfl⟩
      · obtain ⟨_, _, _, _, _, rfl⟩ := hi; exact ⟨_, rfl⟩
      · obtain ⟨_, _, rfl, _⟩ := hi; exact ⟨_, rfl⟩
      · exact ⟨_, hi⟩
      · exact ⟨_, hi⟩
      · exact h.elim
    obtain ⟨ad, rfl⟩ := hptr
    simp only [Instr.loadAt, Instr.sureAddr, Sem.run_bind, Sem.run_pure, Result.andThen_ok] at hrun
    simp [resV, hv, asAddr, hrun]
theorem resKL_ok (hG : GOk G) (hR : Rel G I β s a w) : ∀ {rs : List ResultVar} {q : List PV → Prop}, resKL G s rs q → ∃ xs vs, q xs ∧ IsL w I xs β vs ∧ (rs.mapM (resV a)).run G.cx.P w = .ok vs w
  | [], q, h => ⟨[], [], h, by simp only [IsL], rfl⟩
  | r :: rs, q, h => by
    obtain ⟨x, v, h, hx, hr⟩ := resK1_ok hG hR h
    obtain ⟨xs, vs, h, hxs, hrs⟩ := resKL_ok hG hR h
    exact ⟨x :: xs, v :: vs, h, by simp only [IsL]; exact ⟨hx, hxs⟩, by simp [List.mapM_cons, hr, hrs]⟩
theorem resK_ok (hG : GOk G) (hR : Rel G I β s a w) {fn : Func} {q : PV → Prop} (h : resK G s fn.results.toList q) : ∃ x v, q x ∧ x.Is w I β v ∧ (results fn a.tmps).run G.cx.P w = .ok v w := by
  have key : ∀ {q' : List PV → Prop}, resKL G s fn.results.toList q' → (∀ l, q' l → match l with
      | [x] => q x
      | l => q (.tup l)) → ∃ x v, q x ∧ x.Is w I β v ∧ (results fn a.tmps).run G.cx.P w = .ok v w := by
    intro q' h hq
    obtain ⟨xs, vs, h, hxs, hrun⟩ := resKL_ok hG hR h
    have hres : (results fn a.tmps).run G.cx.P w = .ok (if h : vs.toArray.size = 1 then vs.toArray[0] else .tuple vs.toArray) w := by
      unfold results
      rw [Array.mapM_eq_mapM_toList]
      simp only [Sem.run_bind, Sem.run_map]
      erw [hrun]
      rfl
    have hq := hq xs h
    match xs, vs, hxs, hq, hres with
    | [], [], _, hq, hres => exact ⟨_, _, hq, by simp only [PV.Is]; exact ⟨#[], rfl, by simp only [IsL]⟩, hres⟩
    | [x], [v], hxs, hq, hres => exact ⟨x, v, hq, by simp only [IsL] at hxs; exact hxs.1, hres⟩
    | x :: x' :: xs, v :: v' :: vs, hxs, hq, hres => exact ⟨_, _, hq, by simp only [PV.Is]; exact ⟨_, rfl, by simpa using hxs⟩, by rw [hres, dif_neg (by simp)]⟩
    | [], _ :: _, hxs, _, _ => simp only [IsL] at hxs
    | _ :: _, [], hxs, _, _ => simp only [IsL] at hxs
    | [_], _ :: _ :: _, hxs, _, _ => simp [IsL] at hxs
    | _ :: _ :: _, [_], hxs, _, _ => simp [IsL] at hxs
  unfold resK at h
  split at h
  · rename_i t heq
    obtain ⟨x, hx, h⟩ := need_ok h
    obtain ⟨v, hv, hi⟩ := hR.get t x hx
    refine ⟨x, v, h, hi, ?_⟩
    have hfr : fn.results = #[.tmp t] := by rw [← Array.toList_inj]; simpa using heq
    simp [results, hfr, hv]
  · refine key h fun l hl => ?_
    split
    · exact hl
    · rename_i hne
      split at hl
      · rename_i x; exact absurd rfl (hne x)
      · exact hl
end
end

end Go.Proofs.YtnjmfedleimlmaaDoor.Pw

/- Calls from their arguments, as the evaluator says; how contracts are used. -/
namespace Go.Proofs.YtnjmfedleimlmaaDoor.Pw
open Go Go.RowKit

section
variable {w w' : World} {I I' : Nat → Prop} {β β' : Places} {G : Gx} {s : PSt} {a : Act} {st st' : List PBlk}

/-- what is never changed any more, when a function has ended -/
def EndI (I : Nat → Prop) (β : Places) (st : List PBlk) (base : Nat) (g : Nat) : Prop := I g ∨ ∃ l b p o, base ≤ l ∧ st[l]? = some b ∧ b.live = true ∧ b.m = .w ∧ β l = some p ∧ p.a = some (g, o)
def EndB (β : Places) (base : Nat) : Places := fun l => if l < base then β l else none
theorem uses_low {x : PV} {base : Nat} {v : Value} (h : x.uses.all (fun l => Nat.blt l base) = true) (hx : x.Is w I β v) (hI : ∀ g, I g → I' g) : x.Is w I' (EndB β base) v :=
  PV.Is.mono hI (fun _ _ => rfl) x β _ v (fun l p hl hp => by
    rw [List.all_eq_true] at h
    unfold EndB
    rw [if_pos (show l < base from Nat.le_of_ble_eq_true (h l hl))]; exact hp) hx
theorem frzL_ok {r : PV → (PV → Prop) → Prop} (hr : ∀ x q v, r x q → x.Is w I β v → ∃ y, q y ∧ y.Is w I' β' v) : ∀ {cs : List PV} {vs : List Value} {q : List PV → Prop}, frzL r cs q → IsL w I cs β vs → ∃ ds, q ds ∧ IsL w I' ds β' vs
  | [], [], q, h, _ => ⟨[], h, by simp only [IsL]⟩
  | c :: cs, v :: vs, q, h, hx => by
    simp only [IsL] at hx
    obtain ⟨y, h, hy⟩ := hr c _ v h hx.1
    obtain ⟨ds, h, hd⟩ := frzL_ok hr h hx.2
    exact ⟨y :: ds, h, by simp only [IsL]; exact ⟨hy, hd⟩⟩
  | [], _ :: _, _, _, hx => by simp only [IsL] at hx
  | _ :: _, [], _, _, hx => by simp only [IsL] at hx
theorem frz_ok {cx : Ev.Cx} (hh : HeapOk I β st w) {base : Nat} : ∀ (n : Nat) (x : PV) (q : PV → Prop) (v : Value), frz cx st base n x q → x.Is w I β v → ∃ y, q y ∧ y.Is w (EndI I β st base) (EndB β base) v
  | 0, _, _, _, h, _ => h.elim
  | n + 1, x, q, v, h, hx => by
    have ih := frz_ok (cx := cx) hh (base := base) n
    have hI : ∀ g, I g → EndI I β st base g := fun g h => .inl h
    unfold frz at h
    split at h
    · rename_i l
      cases hl : Nat.blt l base
      case true =>
        rw [hl] at h
        exact ⟨_, h, uses_low (by simp only [PV.uses, List.all_cons, List.all_nil, hl, Bool.and_true]) hx hI⟩
      case false =>
        rw [hl] at h
        have hlb : base ≤ l := by
          rcases Nat.lt_or_ge l base with h' | h'
          · have : Nat.blt l base = true := by unfold Nat.blt; exact Nat.ble_eq_true_of_le h'
            rw [this] at hl; cases hl
          · exact h'
        obtain ⟨b, hb, h⟩ := need_ok h
        obtain ⟨hc, h⟩ := bif_ok h
        simp only [Bool.and_eq_true] at hc
        simp only [PV.Is] at hx
        obtain ⟨p, hp, rfl⟩ := hx
        have hgI : ∀ {g o : Nat} {fr : Nat × Nat}, p.a = some (g, o) → Own I β st l g fr b → EndI I β st base g := fun {g o fr} ha ho => by
          cases hm : b.m with
          | w => exact .inr ⟨l, b, p, o, hlb, hb, hc.1, hm, hp, ha⟩
          | p => rw [hm] at hc; cases hc.2
          | r => exact .inl (ho.2 hm)
        split at h
        · rename_i hk
          obtain ⟨g, arr, fr, ha, hw, hhg, hca, hown, hlen, hle, hmx, has, hn0⟩ := whole_arr hh hb hc.1 hk hp
          have hsz : p.len * b.size ≤ arr.size := by rw [has]; exact Nat.mul_le_mul_right _ hle
          have hxl : (arr.toList.take (p.len * b.size)).length = p.len * b.size := by rw [List.length_take, Array.length_toList]; omega
          have hcells : IsL w I b.cs β (arr.toList.take (p.len * b.size)) := IsL.of (by rw [hxl, hlen]) fun i c hc => by
            obtain ⟨u, hu, hi, _⟩ := hca i c hc
            have hj' : i < p.len * b.size := by rw [← hlen]; exact (List.getElem?_eq_some_iff.1 hc).1
            exact ⟨u, by rw [List.getElem?_take, if_pos hj']; simpa using hu, hi⟩
          obtain ⟨ds, h, hds⟩ := frzL_ok (fun x q v => ih x q v) h hcells
          obtain ⟨ag, hag, h⟩ := need_ok h
          obtain ⟨hag2, h⟩ := bif_ok h
          rw [PBlk.szK_eq] at h
          obtain ⟨es, hes, h⟩ := need_ok h
          simp only [Bool.or_eq_true] at hag2
          have hsrc : SrcIs w (EndI I β st base) (EndB β base) b.size (.stat ds) (arr.toList.take (p.len * b.size)) := by
            refine ⟨by rw [hds.length], fun j c hj => ?_⟩
            obtain ⟨u, hu, hi⟩ := hds.get hj
            refine ⟨u, hu, hi, ?_⟩
            have hj' : j < b.cs.length := by rw [hcells.length, ← hds.length]; exact (List.getElem?_eq_some_iff.1 hj).1
            obtain ⟨u2, hu2, _, h1⟩ := hca j _ (List.getElem?_eq_getElem hj')
            rw [List.getElem?_take] at hu
            split at hu
            · have : arr[0 + j]? = some u := by simpa using hu
              rw [this] at hu2; cases hu2; exact h1
            · cases hu
          obtain ⟨e1, e2⟩ := elemsOf_ok hn0 (hag2.imp id Nat.eq_of_beq_eq_true) hes hsrc hxl
          have hEs : IsEs w (EndI I β st base) es b.size g 0 := e2.at (fun j v hj => by
            have := take_at hhg 0 (p.len * b.size) j v (by simpa using hj)
            simpa using this) (fun _ h => h) (fun _ _ => rfl)
          refine ⟨_, h, ?_⟩
          simp only [PV.Is]
          refine ⟨some ⟨g, 0, none⟩, p.cap, by rw [hw, e1], by omega, by omega, fun g' o' e => by cases e; exact hEs, fun _ => ⟨g, 0, rfl, hgI ha hown, hn0⟩⟩
        · rename_i hk
          obtain ⟨hn0, hlen, hle, hmx, hor⟩ := whole_dyn hh hb hc.1 hk hp
          refine ⟨_, h, ?_⟩
          simp only [PV.Is]
          rcases hor with ⟨ha, hc0, hw⟩ | ⟨g, arr, fr, ha, hw, hhg, hes, hown, has⟩
          · have : b.cs = [] := List.eq_nil_of_length_eq_zero (by omega)
            rw [this, hw]
            exact ⟨none, 0, rfl, Nat.le_refl _, Nat.zero_le _, (fun _ _ e => by cases e), fun hn => absurd rfl hn⟩
          · exact ⟨some ⟨g, 0, none⟩, p.cap, by rw [hw, hlen], by omega, by omega, (fun g' o' e => by cases e; exact IsEs.mono hI (fun _ _ => rfl) _ _ _ _ rfl hes), fun _ => ⟨g, 0, rfl, hgI ha hown, hn0⟩⟩
        · exact h.elim
    · simp only [PV.Is] at hx
      obtain ⟨vs, rfl, hx⟩ := hx
      obtain ⟨ds, h, hd⟩ := frzL_ok (fun x q v => ih x q v) h hx
      exact ⟨_, h, by simp only [PV.Is]; exact ⟨vs, rfl, hd⟩⟩
    · simp only [PV.Is] at hx
      obtain ⟨vs, rfl, hx⟩ := hx
      obtain ⟨ds, h, hd⟩ := frzL_ok (fun x q v => ih x q v) h hx
      exact ⟨_, h, by simp only [PV.Is]; exact ⟨vs, rfl, hd⟩⟩
    · simp only [PV.Is] at hx
      obtain ⟨vs, rfl, hx⟩ := hx
      obtain ⟨ds, h, hd⟩ := frzL_ok (fun x q v => ih x q v) h hx
      exact ⟨_, h, by simp only [PV.Is]; exact ⟨vs, rfl, hd⟩⟩
    · obtain ⟨hu, h⟩ := bif_ok h
      exact ⟨_, h, uses_low hu hx hI⟩

theorem Spec.intro {f : FuncId} {args : List PV} {S : List PBlk} {rl : List Nat} {K : PV → List PBlk → Prop} (he : Ev.Enters G.cx.P f) (h : ∀ I β w vals, HeapOk I β S w → ImmOk G I w → IsL w I args β vals →
    Calls G.cx.P f vals.toArray w fun e w' => ∃ v r S' I' β', e = .returned v ∧ K r S' ∧ r.Is w' I' β' v ∧ HeapOk I' β' S' w' ∧ ImmOk G I' w' ∧ Ext I β S w I' β' S' w' ∧ S.length ≤ S'.length ∧ ∀ l, l < S.length → l ∉ rl → β' l = β l) : Spec G f args S rl K := by
  unfold Spec; exact ⟨he, h⟩
theorem Spec.run {f : FuncId} {args : List PV} {S : List PBlk} {rl : List Nat} {K : PV → List PBlk → Prop} (h : Spec G f args S rl K) : Ev.Enters G.cx.P f ∧ ∀ I β w vals, HeapOk I β S w → ImmOk G I w → IsL w I args β vals →
    Calls G.cx.P f vals.toArray w fun e w' => ∃ v r S' I' β', e = .returned v ∧ K r S' ∧ r.Is w' I' β' v ∧ HeapOk I' β' S' w' ∧ ImmOk G I' w' ∧ Ext I β S w I' β' S' w' ∧ S.length ≤ S'.length ∧ ∀ l, l < S.length → l ∉ rl → β' l = β l := by
  unfold Spec at h; exact h
theorem Spec.mono {f : FuncId} {args : List PV} {S : List PBlk} {rl : List Nat} {K K' : PV → List PBlk → Prop} (h : Spec G f args S rl K) (hK : ∀ r S', K r S' → K' r S') : Spec G f args S rl K' :=
  Spec.intro h.run.1 fun I β w vals h1 h2 h3 => (h.run.2 I β w vals h1 h2 h3).mono fun e w' ⟨v, r, S', I', β', h1, h2, h3⟩ => ⟨v, r, S', I', β', h1, hK r S' h2, h3⟩

theorem Spec.enter (hG : GOk G) (R : List (Nat × Plan)) {f : FuncId} {fn : Func} {c : Code} {args : List PV} {S : List PBlk} {rl : List Nat} {K : PV → List PBlk → Prop} (N : Nat) (hf : G.cx.P.funcs[f]? = some fn) (hb : fn.body = some c) (hpl : planAll R c = true) (h : enterK G R N fn c args S rl K) : Spec G f args S rl K := by
  obtain ⟨hc, h⟩ := bif_ok h
  simp only [Bool.and_eq_true, Bool.not_eq_true'] at hc
  obtain ⟨⟨hle, hlim⟩, hname⟩ := hc
  have hle := Nat.le_of_ble_eq_true hle
  have hlim := Nat.le_of_ble_eq_true hlim
  replace h := lenK_ok h
  rw [Nat.zero_add] at h
  obtain ⟨t, h, ht⟩ := argT_ok h
  refine Spec.intro (Ev.enters_of hf hb hname) fun I β w vals hH hM hA => calls_of_wp hf hb ?_
  have hal := hA.length
  have hR : Rel G I β ⟨fn.ntmps, t, S, S.length, rl⟩ { tmps := vals.toArray ++ Array.replicate (fn.ntmps - vals.toArray.size) Go.undef, defers := [] } w := by
    refine ⟨hlim, rfl, by simp; omega, Nat.le_refl _, fun n x hx => ?_, hH, hM⟩
    rcases ht n x hx with ⟨j, hj, hx⟩ | hx
    · rw [Nat.zero_add] at hj
      subst hj
      obtain ⟨v, hv, hi⟩ := hA.get hx
      have hlt : n < vals.length := (List.getElem?_eq_some_iff.1 hv).1
      exact ⟨v, by rw [Array.getElem?_append_left (by simpa using hlt)]; simpa using hv, hi⟩
    · cases hx
  refine wp_mono ((pw_ok hG N c _ _ hpl h).run hR) fun e a' w' hp => ?_
  obtain ⟨x, s', I', β', rfl, hq, hR', hg⟩ := hp.goes
  have fin_ : retK G fn.results.toList S.length K .nml s' → a'.defers = [] ∧ ∃ v, (results fn a'.tmps).run G.cx.P w' = .ok v w' ∧ ∃ v', ∃ r S' I' β', Ending.returned v = .returned v' ∧ K r S' ∧ r.Is w' I' β' v' ∧ HeapOk I' β' S' w' ∧ ImmOk G I' w' ∧ Ext I β S w I' β' S' w' ∧ S.length ≤ S'.length ∧ ∀ l, l < S.length → l ∉ rl → β' l = β l := by
    intro hq
    obtain ⟨r, v, hq, hr, hrun⟩ := resK_ok hG hR' hq
    obtain ⟨y, hq, hy⟩ := frz_ok hR'.heap 8 r _ v hq hr
    obtain ⟨hlow, hq⟩ := bif_ok hq
    obtain ⟨r', hle', hK⟩ := frBB_ok hq
    rw [List.all_eq_true] at hlow
    have hbase : s'.base = S.length := hg.base
    have hlen : S.length ≤ s'.st.length := by have := hR'.base; rw [hbase] at this; exact this
    have hI : ∀ g, I' g → EndI I' β' s'.st S.length g := fun g h => .inl h
    have hget : ∀ (l : Nat) (b : PBlk), (s'.st.take S.length)[l]? = some b → l < S.length ∧ s'.st[l]? = some b := fun l b hb => by
      rw [List.getElem?_take] at hb
      split at hb
      · exact ⟨‹_›, hb⟩
      · cases hb
    have hHe : HeapOk (EndI I' β' s'.st S.length) (EndB β' S.length) (s'.st.take S.length) w' := by
      refine ⟨fun l hl => ?_, fun l b hb hlive => ?_⟩
      · unfold EndB
        rw [if_neg (by simp at hl; omega)]
      · obtain ⟨hl, hb'⟩ := hget l b hb
        have hlb := hlow b (List.mem_of_getElem? hb)
        obtain ⟨p, hp, hk⟩ := hR'.heap.blk l b hb' hlive
        have own : ∀ {g : Nat} {o : Nat} {fr : Nat × Nat}, p.a = some (g, o) → Own I' β' s'.st l g fr b → Own (EndI I' β' s'.st S.length) (EndB β' S.length) (s'.st.take S.length) l g fr b := fun {g o fr} ha ho => by
          refine ⟨fun hr => ?_, fun hr => hI g (ho.2 hr)⟩
          obtain ⟨h1, h2, h3⟩ := ho.1 hr
          refine ⟨h1, fun hE => ?_, fun l2 b2 hne hl2 hlive2 p2 g2 o2 hp2 ha2 => ?_⟩
          · rcases hE with hE | ⟨l2, b2, p2, o2, k1, k2, k3, _, k5, k6⟩
            · exact h2 hE
            · exact h3 l2 b2 (by omega) k2 k3 p2 g o2 k5 k6 rfl
          · obtain ⟨hl2', hb2⟩ := hget l2 b2 hl2
            unfold EndB at hp2
            rw [if_pos hl2'] at hp2
            exact h3 l2 b2 hne hb2 hlive2 p2 g2 o2 hp2 ha2
        have cells : b.k ≠ .dyn → ∀ {arr : Array Value} {o : Nat}, CellsAt w' I' β' b.cs arr o → CellsAt w' (EndI I' β' s'.st S.length) (EndB β' S.length) b.cs arr o := fun hk {arr o} hc i c hi => by
          obtain ⟨u, hu, hi', h1⟩ := hc i c hi
          refine ⟨u, hu, uses_low ?_ hi' hI, h1⟩
          unfold lowB at hlb
          cases hkk : b.k with
          | dyn => exact absurd hkk hk
          | loc => rw [hkk] at hlb; rw [List.all_eq_true] at hlb; exact hlb c (List.mem_of_getElem? hi)
          | arr => rw [hkk] at hlb; rw [List.all_eq_true] at hlb; exact hlb c (List.mem_of_getElem? hi)
        refine ⟨p, by unfold EndB; rw [if_pos hl]; exact hp, ?_⟩
        split at hk
        · rename_i hkk
          obtain ⟨g, o, arr, ty, fr, h1, h2, h3, ho⟩ := hk
          exact ⟨g, o, arr, ty, fr, h1, h2, cells (by rw [hkk]; decide) h3, own h1 ho⟩
        · rename_i hkk
          obtain ⟨g, arr, fr, h1, h2, h3, ho, h4⟩ := hk
          exact ⟨g, arr, fr, h1, h2, cells (by rw [hkk]; decide) h3, own h1 ho, h4⟩
        · obtain ⟨h1, hk⟩ := hk
          refine ⟨h1, ?_⟩
          rcases hk with h | ⟨g, arr, fr, h2, h3, h4, ho, h5⟩
          · exact .inl h
          · exact .inr ⟨g, arr, fr, h2, h3, IsEs.mono hI (fun _ _ => rfl) _ _ _ _ rfl h4, own h2 ho, h5⟩
    have hlt : ∀ g, EndI I' β' s'.st S.length g → g < w'.heap.size := fun g hg => by
      rcases hg with hg | ⟨l, b, p, o, _, k2, k3, _, k5, k6⟩
      · exact hR'.imm.imm g hg
      · exact hR'.heap.lives_lt ⟨l, b, p, o, k2, k3, k5, k6⟩
    have hMe : ImmOk G (EndI I' β' s'.st S.length) w' := ⟨hlt, fun g cs hgc => by
      obtain ⟨h1, h2⟩ := hR'.imm.tab g cs hgc
      exact ⟨hI g h1, IsAt.mono hI (fun _ _ => rfl) cs g 0 rfl h2⟩⟩
    have hE := hg.ext
    refine ⟨hR'.defers, v, hrun, v, r', _, _, _, rfl, hK, hle' _ _ _ _ hy, hHe, hMe, ⟨hE.os, hE.tape, hE.output, hE.size, hE.block, fun g hgl ⟨l, b, p, o, h1, h2, h3, h4, h5⟩ => ?_, fun g hg => hI g (hE.imm g hg), fun g hgl hgI => ?_⟩, by rw [List.length_take]; omega, fun l hl hr => ?_⟩
    · obtain ⟨hl, hb⟩ := hget l b h1
      unfold EndB at h4
      rw [if_pos hl] at h4
      exact hE.wr g hgl ⟨l, b, p, o, hb, h2, h3, h4, h5⟩
    · rcases hgI with hgI | ⟨l, b, p, o, _, k2, k3, k4, k5, k6⟩
      · exact hE.new g hgl hgI
      · exact .inr (hE.wr g hgl ⟨l, b, p, o, k2, k3, k4, k5, k6⟩)
    · unfold EndB
      rw [if_pos hl]
      exact hg.low l hl hr
  cases x with
  | nml => exact fin_ hq
  | ret => exact fin_ hq
  | exit id => exact hq.elim
end

end Go.Proofs.YtnjmfedleimlmaaDoor.Pw

/- How contracts are used. -/
namespace Go.Proofs.YtnjmfedleimlmaaDoor.Pw
open Go Go.RowKit

section
variable {w w' : World} {I I' : Nat → Prop} {β β' : Places} {G : Gx} {s : PSt} {a : Act} {st st' : List PBlk}

/-- a function of values alone: at args it yields r -/
def PureF (G : Gx) (f : FuncId) (args : List PV) (r : PV) : Prop := Spec G f args [] [] fun r' _ => r' = r
theorem uses_none {x : PV} {v : Value} (h : x.uses = []) (hx : x.Is w I β v) : x.Is w I β' v := PV.Is.mono (fun _ h => h) (fun _ _ => rfl) x β β' v (fun l p hl => by rw [h] at hl; cases hl) hx
theorem usesL_none {xs : List PV} {vs : List Value} (h : usesL xs = []) (hx : IsL w I xs β vs) : IsL w I xs β' vs := IsL.mono (fun _ h => h) (fun _ _ => rfl) xs β β' vs (fun l p hl => by rw [h] at hl; cases hl) hx
theorem PureF.use {f : FuncId} {args args' : List PV} {r : PV} {S : List PBlk} {K : PV → List PBlk → Prop} (h : PureF G f args' r) (hle : leL leK args args') (hu : usesL args' = []) (hr : r.uses = []) (hK : K r S) : Spec G f args S [] K := by
  refine Spec.intro h.run.1 fun I β w vals hH hM hA => ?_
  have h0 : HeapOk I (fun _ => none) ([] : List PBlk) w := ⟨fun _ _ => rfl, fun l b hl => by simp at hl⟩
  refine (h.run.2 I (fun _ => none) w vals h0 hM (usesL_none hu (leL_ok (fun _ _ => leK_ok) hle hA))).mono fun e w' ⟨v, r', S', I', β', he, hr', hi, _, hM', hE, _, _⟩ => ?_
  subst hr'
  have hnw : ∀ g, ¬ Wr (fun _ => none) ([] : List PBlk) g := fun g ⟨l, b, p, o, h1, _⟩ => by simp at h1
  have hold : ∀ g, g < w.heap.size → w'.heap[g]? = w.heap[g]? := fun g hg => hE.block g hg (hnw g)
  have hI' : ∀ g, g < w.heap.size → I' g → I g := fun g hg h => (hE.new g hg h).elim id fun h => absurd h (hnw g)
  refine ⟨v, r', S, I', β, he, hK, uses_none hr hi, ⟨hH.far, fun l b hl hlive => ?_⟩, hM', ⟨hE.os, hE.tape, hE.output, hE.size, fun g hg _ => hold g hg, fun g _ h => h, hE.imm, fun g hg h => .inl (hI' g hg h)⟩, Nat.le_refl _, fun _ _ _ => rfl⟩
  have hb := hH.blk l b hl hlive
  refine hb.mono hE.imm (fun g hg => hold g (hM.imm g hg)) (fun _ _ h => h) fun p g o hp ha => ?_
  obtain ⟨arr, ty, fr, hh, ho⟩ := hb.place hp ha
  have hlt := lt_of_heap hh
  exact ⟨hold g hlt, fun hr => ⟨fun hI => (ho.1 hr).2.1 (hI' g hlt hI), (ho.1 hr).2.2⟩⟩
/-- the same at arguments that say more -/
theorem Spec.args {f : FuncId} {args args' : List PV} {S : List PBlk} {rl : List Nat} {K : PV → List PBlk → Prop} (h : Spec G f args' S rl K) (hle : leL leK args args') : Spec G f args S rl K :=
  Spec.intro h.run.1 fun I β w vals hH hM hA => h.run.2 I β w vals hH hM (leL_ok (fun _ _ => leK_ok) hle hA)

theorem retE {r r0 : PV} (h : leK r r0) : ∃ r', PLe r r' ∧ r' = r0 := ⟨r0, leK_ok h, rfl⟩
theorem inR_i64 {z : Int} (h : -9223372036854775808 ≤ z ∧ z ≤ 9223372036854775807) : InR .i64 z := by unfold InR Ev.kmin Ev.kmax; simp only [IntKind.signed, IntKind.bits]; simpa using h
theorem inR_u32 {z : Int} (h : 0 ≤ z ∧ z ≤ 4294967295) : InR .u32 z := by unfold InR Ev.kmin Ev.kmax; simp only [IntKind.signed, IntKind.bits]; simpa using h
theorem inR_u64 {z : Int} (h : 0 ≤ z ∧ z ≤ 18446744073709551615) : InR .u64 z := by unfold InR Ev.kmin Ev.kmax; simp only [IntKind.signed, IntKind.bits]; simpa using h
theorem inR_u8 {z : Int} (h : 0 ≤ z ∧ z ≤ 255) : InR .u8 z := by unfold InR Ev.kmin Ev.kmax; simp only [IntKind.signed, IntKind.bits]; simpa using h
end

end Go.Proofs.YtnjmfedleimlmaaDoor.Pw

/- What the evaluator without a heap asks of the program. Written by a program (mkpw.py) off the given program. -/
namespace Go.Proofs.YtnjmfedleimlmaaDoor.Pw
open Go

noncomputable def bt : List (Nat × Nat) := [(28, Tryd.t28.bytes), (25, Tryd.t25.bytes), (3, Tryd.t3.bytes), (85, Tryd.t85.bytes), (26, Tryd.t26.bytes), (45, Tryd.t45.bytes), (39, Tryd.t39.bytes), (23, Tryd.t23.bytes), (36, Tryd.t36.bytes), (115, Tryd.t115.bytes), (4, Tryd.t4.bytes), (22, Tryd.t22.bytes), (123, Tryd.t123.bytes), (144, Tryd.t144.bytes)]
theorem bt_ok : ∀ p ∈ bt, ∃ i, Tryd.prog.info? p.1 = some i ∧ i.bytes = p.2 :=
  Ev.all_cons ⟨Tryd.t28, by kernel_rfl, rfl⟩ <|
  Ev.all_cons ⟨Tryd.t25, by kernel_rfl, rfl⟩ <|
  Ev.all_cons ⟨Tryd.t3, by kernel_rfl, rfl⟩ <|
  Ev.all_cons ⟨Tryd.t85, by kernel_rfl, rfl⟩ <|
  Ev.all_cons ⟨Tryd.t26, by kernel_rfl, rfl⟩ <|
  Ev.all_cons ⟨Tryd.t45, by kernel_rfl, rfl⟩ <|
  Ev.all_cons ⟨Tryd.t39, by kernel_rfl, rfl⟩ <|
  Ev.all_cons ⟨Tryd.t23, by kernel_rfl, rfl⟩ <|
  Ev.all_cons ⟨Tryd.t36, by kernel_rfl, rfl⟩ <|
  Ev.all_cons ⟨Tryd.t115, by kernel_rfl, rfl⟩ <|
  Ev.all_cons ⟨Tryd.t4, by kernel_rfl, rfl⟩ <|
  Ev.all_cons ⟨Tryd.t22, by kernel_rfl, rfl⟩ <|
  Ev.all_cons ⟨Tryd.t123, by kernel_rfl, rfl⟩ <|
  Ev.all_cons ⟨Tryd.t144, by kernel_rfl, rfl⟩ <| Ev.all_nil
noncomputable def gxOf (tabs : List (Nat × List PV)) : Gx := { cx := Ev.cxOf [] [], tabs := tabs, bt := bt }
theorem gxOk (tabs : List (Nat × List PV)) : GOk (gxOf tabs) := ⟨Ev.cxOk [] [], bt_ok⟩
noncomputable def gx : Gx := gxOf []
theorem gxok : GOk gx := gxOk []

end Go.Proofs.YtnjmfedleimlmaaDoor.Pw

/- Contracts over worlds as contracts over values, and back; arguments that come in, opened. -/
namespace Go.Proofs.YtnjmfedleimlmaaDoor.Pw
open Go Go.RowKit

section
variable {w w' : World} {I I' : Nat → Prop} {β β' : Places} {G : Gx} {s : PSt} {a : Act} {st st' : List PBlk}

theorem HeapOk.none0 (hH : HeapOk I β [] w) (w' : World) (I' : Nat → Prop) : HeapOk I' β [] w' := ⟨hH.far, fun l b hl => by simp at hl⟩
theorem ImmOk.below (hM : ImmOk G I w) (hB : Below w.heap.size w w') : ImmOk G I w' :=
  ⟨fun g hg => Nat.lt_of_lt_of_le (hM.imm g hg) hB.size, fun g cs h => ⟨(hM.tab g cs h).1, IsAt.mono (fun _ h => h) (fun g hg => hB.block g (hM.imm g hg)) _ _ _ (hB.block g (hM.imm g (hM.tab g cs h).1)) (hM.tab g cs h).2⟩⟩
/-- a contract over worlds as one over values -/
theorem PureF.of_calls {f : FuncId} {args : List PV} {r : PV} (he : Ev.Enters G.cx.P f) (vs : List Value) (v : Value) (ha : ∀ w I β vals, IsL w I args β vals → vals = vs) (hr : ∀ w I β, r.Is w I β v)
    (h : ∀ w, Calls G.cx.P f vs.toArray w fun e w' => e = .returned v ∧ Below w.heap.size w w') : PureF G f args r := by
  refine Spec.intro he fun I β w vals hH hM hA => ?_
  rw [ha _ _ _ _ hA]
  refine (h w).mono fun e w' ⟨he, hB⟩ => ⟨v, r, [], I, β, he, rfl, hr _ _ _, hH.none0 _ _, hM.below hB, ⟨hB.os, hB.tape, hB.output, hB.size, fun g hg _ => hB.block g hg, fun g _ h => h, fun _ h => h, fun _ _ h => .inl h⟩, Nat.le_refl _, fun _ _ _ => rfl⟩
theorem PureF.of_same {f : FuncId} {args : List PV} {r : PV} (he : Ev.Enters G.cx.P f) (vs : List Value) (v : Value) (ha : ∀ w I β vals, IsL w I args β vals → vals = vs) (hr : ∀ w I β, r.Is w I β v)
    (h : ∀ w, Calls G.cx.P f vs.toArray w fun e w' => e = .returned v ∧ w' = w) : PureF G f args r :=
  PureF.of_calls he vs v ha hr fun w => (h w).mono fun e w' ⟨h1, h2⟩ => ⟨h1, h2 ▸ Below.refl _ _⟩
/-- a contract over values as one over a world -/
theorem PureF.calls {f : FuncId} {args : List PV} {r : PV} {vals : List Value} (h : PureF G f args r) (hM : ImmOk G I w) (hA : IsL w I args (fun _ => none) vals) (v : Value) (hr : ∀ w' I' β' v', r.Is w' I' β' v' → v' = v) :
    Calls G.cx.P f vals.toArray w fun e w' => e = .returned v ∧ Below w.heap.size w w' := by
  have h0 : HeapOk I (fun _ => none) ([] : List PBlk) w := ⟨fun _ _ => rfl, fun l b hl => by simp at hl⟩
  refine (h.run.2 I (fun _ => none) w vals h0 hM hA).mono fun e w' ⟨v', r', S', I', β', he, hr', hi, _, hM', hE, _, _⟩ => ?_
  subst hr'
  rw [hr _ _ _ _ hi] at he
  exact ⟨he, hE.os, hE.tape, hE.output, hE.size, fun g hg => hE.block g hg fun ⟨l, b, p, o, h1, _⟩ => by simp at h1⟩
theorem tt_only (w' : World) (I' : Nat → Prop) (β' : Places) (v' : Value) (h : PV.tt.Is w' I' β' v') : v' = .bool true := by simpa [PV.Is] using h
end

/-- all that lies in a world -/
def In (w : World) (g : Nat) : Prop := g < w.heap.size
abbrev no : Places := fun _ => none

/-- what comes in as a t is a value that is S -/
def Op (P : Program) (t : TypeId) (S : PV → Prop) : Prop := ∀ {H : Type} (e : TypeId × Value → H) (w : World) (base : Nat) (held : Bool) (fuel : Nat) (cs : List Value) (x : DataW H × List MemPlace),
  DataW.trod e P w base (fun _ => true) held fuel t cs = some x → (∀ n ∈ x.1.weights P t, n ≤ reachBytes) → ∃ y, S y ∧ (∀ vs, y ≠ .tup vs) ∧ IsL w (In w) y.cells no cs ∧ cs.length = P.cellsOf t ∧ ∀ c ∈ cs, c.oneCell' = true
def SInt (k : IntKind) (x : PV) : Prop := ∃ z, InR k z ∧ x = .int k z
def SBool (x : PV) : Prop := ∃ b : Bool, x = .bool (b = true)
def SStr (x : PV) : Prop := ∃ s : ByteArray, s.size ≤ maxLen ∧ x = .val (.string s)
def SSl (n b : Nat) (S : PV → Prop) (x : PV) : Prop := ∃ es : List PV, (es.length ≤ maxLen ∧ es.length * b ≤ reachBytes) ∧ (∀ e ∈ es, S e) ∧ x = .sl n es
def All2S : List (PV → Prop) → List PV → Prop
  | [], [] => True
  | S :: Ss, x :: xs => S x ∧ All2S Ss xs
  | _, _ => False
def SAgg (Ss : List (PV → Prop)) (x : PV) : Prop := ∃ xs, All2S Ss xs ∧ x = .agg (xs.flatMap PV.cells)

theorem all2_cons {S : PV → Prop} {Ss : List (PV → Prop)} {xs : List PV} (h : All2S (S :: Ss) xs) : ∃ x r, xs = x :: r ∧ S x ∧ All2S Ss r := by
  cases xs with
  | nil => exact h.elim
  | cons x r => exact ⟨x, r, rfl, h⟩
theorem all2_nil {xs : List PV} (h : All2S [] xs) : xs = [] := by
  cases xs with
  | nil => rfl
  | cons x r => exact h.elim
section
variable {P : Program} {t e : TypeId}
theorem inR_wf {k : IntKind} {z : Int} (h : (Lit.int k z).wf = true) : InR k z := by
  unfold InR
  cases k <;> simp_all [Lit.wf, Ev.kmin, Ev.kmax, IntKind.min, IntKind.max, IntKind.signed, IntKind.bits] <;> omega
theorem opInt {k : IntKind} (ht : P.underlying t = some (.int k)) (hc : P.cellsOf t = 1) : Op P t (SInt k) := fun e w base held fuel cs x h hwt => by
  obtain ⟨n, rfl, _, hw⟩ := DataW.trod_int ht h
  exact ⟨.int k n, ⟨n, inR_wf hw, rfl⟩, nofun, IsL.one (by simp only [PV.Is]), by rw [hc]; rfl, fun c hc => by simp only [List.mem_singleton] at hc; subst hc; rfl⟩
theorem opBool (ht : P.underlying t = some .bool) (hc : P.cellsOf t = 1) : Op P t SBool := fun e w base held fuel cs x h hwt => by
  obtain ⟨b, rfl, _⟩ := DataW.trod_bool ht h
  exact ⟨.bool (b = true), ⟨b, rfl⟩, nofun, IsL.one (by simp only [PV.Is]; rw [pb_dec]; simp), by rw [hc]; rfl, fun c hc => by simp only [List.mem_singleton] at hc; subst hc; rfl⟩
theorem opStr (ht : P.underlying t = some .string) (hc : P.cellsOf t = 1) : Op P t SStr := fun e w base held fuel cs x h hwt => by
  obtain ⟨b, rfl, _, hl⟩ := DataW.trod_string ht h
  exact ⟨.val (.string b), ⟨b, hl, rfl⟩, nofun, IsL.one (by simp only [PV.Is]; exact ⟨trivial, rfl⟩), by rw [hc]; rfl, fun c hc => by simp only [List.mem_singleton] at hc; subst hc; rfl⟩
theorem choose_list {α : Type _} {p : Nat → α → Prop} : ∀ n : Nat, (∀ i, i < n → ∃ y, p i y) → ∃ l : List α, l.length = n ∧ ∀ i y, l[i]? = some y → p i y
  | 0, _ => ⟨[], rfl, fun i y h => by simp at h⟩
  | n + 1, h => by
    obtain ⟨l, hl, hp⟩ := choose_list (p := p) n fun i hi => h i (by omega)
    obtain ⟨y, hy⟩ := h n (by omega)
    refine ⟨l ++ [y], by simp [hl], fun i z hz => ?_⟩
    rw [List.getElem?_append] at hz
    split at hz
    · exact hp i z hz
    · rename_i hge
      have h0 : i - l.length = 0 := by
        have := (List.getElem?_eq_some_iff.1 hz).1
        simp at this; omega
      rw [h0] at hz
      simp only [List.getElem?_cons_zero, Option.some.injEq] at hz
      subst hz
      have : i = n := by omega
      subst this; exact hy
theorem weights_all {H : Type} {n : Nat} : ∀ {l : List (DataW H)} {d : DataW H}, d ∈ l → n ∈ d.weights P e → n ∈ DataW.weightsAll P e l
  | [], _, h, _ => by cases h
  | a :: l, d, h, hn => by
    simp only [DataW.weightsAll, List.mem_append]
    rcases List.mem_cons.1 h with rfl | h
    · exact .inl hn
    · exact .inr (weights_all h hn)
theorem weights_each {H : Type} {n : Nat} : ∀ {ts : List TypeId} {l : List (DataW H)} {i : Nat} {t : TypeId} {d : DataW H}, ts[i]? = some t → l[i]? = some d → n ∈ d.weights P t → n ∈ DataW.weightsEach P ts l
  | [], _, _, _, _, h, _, _ => by simp at h
  | _ :: _, [], _, _, _, _, h, _ => by simp at h
  | u :: ts, a :: l, 0, t, d, h, h', hn => by
    simp only [List.getElem?_cons_zero, Option.some.injEq] at h h'
    subst h; subst h'
    simp only [DataW.weightsEach, List.mem_append]
    exact .inl hn
  | u :: ts, a :: l, i + 1, t, d, h, h', hn => by
    simp only [DataW.weightsEach, List.mem_append]
    exact .inr (weights_each (by simpa using h) (by simpa using h') hn)
theorem opSlice {S : PV → Prop} (he : Op P e S) (n b : Nat) (hbb : P.bytesOf e = b) (ht : P.underlying t = some (.slice e)) (hn : P.cellsOf e = n) (h0 : 0 < n) (hc : P.cellsOf t = 1) : Op P t (SSl n b S) := fun {H} ec w base held fuel cs x h hwt => by
  subst hn
  subst hbb
  rcases Deep.open_slice ht h with ⟨rfl, _⟩ | ⟨a, len, cap, m, k, D, Pl, rfl, hb, hl, hm, hmm, rfl, hx⟩
  · exact ⟨.sl _ [], ⟨[], ⟨by simp, by simp⟩, fun _ h => by simp at h, rfl⟩, nofun, IsL.one (by simp only [PV.Is]; exact ⟨none, 0, rfl, Nat.le_refl _, by simp, fun _ _ h => by simp at h, fun h => absurd rfl h⟩), by rw [hc]; rfl, fun c hc => by simp only [List.mem_singleton] at hc; subst hc; rfl⟩
  · simp only [if_true] at hmm
    subst hmm
    have hwl : len * P.bytesOf e ≤ reachBytes := by
      have := hwt ((len + (m - len)) * P.bytesOf e) (by simp only [DataW.weights, ht, List.length_map, List.length_range]; exact List.mem_cons_self)
      exact Nat.le_trans (Nat.mul_le_mul_right _ (Nat.le_add_right _ _)) this
    have hwe : ∀ i, i < len → ∀ n ∈ (D i).weights P e, n ≤ reachBytes := fun i hi n hn => hwt n (by
      simp only [DataW.weights, ht]
      exact List.mem_cons_of_mem _ (List.mem_append.2 (.inl (weights_all (List.mem_map.2 ⟨i, List.mem_range.2 hi, rfl⟩) hn))))
    have hs0 : 0 < len → a.spot = none := fun hp => by
      obtain ⟨cs', h1, h2⟩ := hx 0 (by omega)
      obtain ⟨y, _, _, hy, hlen, _⟩ := he ec w base held k cs' _ h2 (hwe 0 hp)
      obtain ⟨_, _, hcell⟩ := World.cells?_some h1
      have hc0 := hcell 0 h0
      rw [List.getElem?_eq_getElem (by omega), Nat.zero_mul] at hc0
      exact World.cell?_spot hc0
    have each : ∀ i, i < len → ∃ y, S y ∧ a.spot = none ∧ a.block < w.heap.size ∧ ElAt w (In w) (P.cellsOf e) y a.block (a.off + i * P.cellsOf e) := fun i hi => by
      obtain ⟨cs', h1, h2⟩ := hx i (by omega)
      obtain ⟨y, hS, _, hy, hlen, h1c⟩ := he ec w base held k cs' _ h2 (hwe i hi)
      obtain ⟨_, _, hcell⟩ := World.cells?_some h1
      have hc0 := hcell 0 h0
      rw [List.getElem?_eq_getElem (by omega)] at hc0
      have hs : a.spot = none := hs0 (by omega)
      obtain ⟨b, off, sp⟩ := a
      dsimp only at hs
      subst hs
      have ea : ∀ b off k, (⟨b, off, none⟩ : Addr).add k = ⟨b, off + k, none⟩ := fun b off k => by unfold Addr.add; split <;> simp_all
      refine ⟨y, hS, rfl, ?_, ?_, IsAt.of fun j c hj => ?_⟩
      · have := World.block_lt_of_cell? w _ hc0
        rw [ea, ea] at this; exact this
      · rw [hy.length, hlen]
      · obtain ⟨v, hv, hi'⟩ := hy.get hj
        have hj' : j < P.cellsOf e := by rw [← hlen]; exact (List.getElem?_eq_some_iff.1 hv).1
        have := hcell j hj'
        rw [ea, ea, hv] at this
        exact ⟨v, by simpa only [Nat.add_assoc] using this, hi', h1c v (List.mem_of_getElem? hv)⟩
    obtain ⟨es, hes, hp⟩ := choose_list len each
    refine ⟨.sl _ es, ⟨es, ⟨by omega, by rw [hes]; exact hwl⟩, fun y hy => ?_, rfl⟩, nofun, IsL.one ?_, by rw [hc]; rfl, fun c hc => by simp only [List.mem_singleton] at hc; subst hc; rfl⟩
    · obtain ⟨i, hi⟩ := List.getElem?_of_mem hy
      exact (hp i y hi).1
    · simp only [PV.Is]
      refine ⟨some a, m, by rw [hes], by omega, by omega, fun g o hgo => ?_, fun hne => ?_⟩
      · cases hgo
        exact IsEs.of fun i y hy => (hp i y hy).2.2.2
      · have h1 : 0 < es.length := by omega
        obtain ⟨_, h2, h3, _⟩ := hp 0 es[0] (List.getElem?_eq_getElem h1)
        obtain ⟨b, off, sp⟩ := a
        dsimp only at h2
        subst h2
        exact ⟨b, off, rfl, h3, h0⟩
/-- fields, one behind the other -/
def OpFs (P : Program) (total : Nat) : Nat → List Field → List (PV → Prop) → Prop
  | off, [], [] => off = total
  | off, f :: fs, S :: Ss => f.offset = off ∧ Op P f.type S ∧ OpFs P total (off + P.cellsOf f.type) fs Ss
  | _, _, _ => False
theorem opAgg {fs : Array Field} {Ss : List (PV → Prop)} (ht : P.underlying t = some (.struct fs)) (hf : OpFs P (P.cellsOf t) 0 fs.toList Ss) : Op P t (SAgg Ss) := fun {H} ec w base held fuel cs x h hwt => by
  obtain ⟨xs, n, _, rfl, hl, hxl, hx⟩ := DataW.trod_struct ht h
  have key : ∀ (l : List Field) (Ss : List (PV → Prop)) (off : Nat), OpFs P (P.cellsOf t) off l Ss → (∀ f ∈ l, ∃ y, DataW.trod ec P w base (fun _ => true) held n f.type ((cs.drop f.offset).take (P.cellsOf f.type)) = some y ∧ ∀ n ∈ y.1.weights P f.type, n ≤ reachBytes) → off ≤ cs.length →
      ∃ ys, All2S Ss ys ∧ IsL w (In w) (ys.flatMap PV.cells) no (cs.drop off) ∧ ∀ c ∈ cs.drop off, c.oneCell' = true := by
    intro l
    induction l with
    | nil =>
      intro Ss off h _ _
      cases Ss with
      | nil =>
        simp only [OpFs] at h
        refine ⟨[], trivial, ?_, ?_⟩
        · rw [List.drop_eq_nil_of_le (by omega)]; simp only [List.flatMap_nil, IsL]
        · rw [List.drop_eq_nil_of_le (by omega)]; intro c hc; cases hc
      | cons => exact h.elim
    | cons f l ih =>
      intro Ss off h ht hle
      cases Ss with
      | nil => exact h.elim
      | cons S Ss =>
        obtain ⟨h1, h2, h3⟩ := h
        subst h1
        obtain ⟨z, hz, hzw⟩ := ht f (List.mem_cons_self ..)
        obtain ⟨y, hS, _, hy, hyl, hy1⟩ := h2 ec w base held n _ z hz hzw
        have hle2 : f.offset + P.cellsOf f.type ≤ cs.length := by
          rw [List.length_take, List.length_drop] at hyl; omega
        obtain ⟨ys, hys, hyL, hyO⟩ := ih Ss _ h3 (fun g hg => ht g (List.mem_cons_of_mem _ hg)) hle2
        have hd : cs.drop f.offset = (cs.drop f.offset).take (P.cellsOf f.type) ++ cs.drop (f.offset + P.cellsOf f.type) := by
          rw [← List.drop_drop, List.take_append_drop]
        refine ⟨y :: ys, ⟨hS, hys⟩, ?_, ?_⟩
        · rw [hd, List.flatMap_cons]; exact hy.append hyL
        · intro c hc
          rw [hd, List.mem_append] at hc
          exact hc.elim (hy1 c) (hyO c)
  obtain ⟨ys, h1, h2, h3⟩ := key fs.toList Ss 0 hf (fun f hf => by
    obtain ⟨i, hi⟩ := List.getElem?_of_mem hf
    have hi' : i < fs.size := by simpa using (List.getElem?_eq_some_iff.1 hi).1
    have := hx i f (by simpa using hi)
    rw [this]
    have hlt : i < xs.length := by omega
    refine ⟨_, List.getElem?_eq_getElem hlt, fun n hn => hwt n ?_⟩
    simp only [DataW.weights, ht]
    exact weights_each (i := i) (by rw [List.getElem?_map, hi]; rfl) (by rw [List.getElem?_map, List.getElem?_eq_getElem hlt]; rfl) hn) (Nat.zero_le _)
  rw [List.drop_zero] at h2 h3
  exact ⟨.agg (ys.flatMap PV.cells), ⟨ys, h1, rfl⟩, nofun, h2, hl, h3⟩
theorem Op.weak {S S' : PV → Prop} (h : Op P t S) (hS : ∀ x, S x → S' x) : Op P t S' := fun e w base held fuel cs x hx hwt => by
  obtain ⟨y, h1, h2⟩ := h e w base held fuel cs x hx hwt
  exact ⟨y, hS y h1, h2⟩
theorem decode {α : Type} {S : PV → Prop} {enc : α → PV} {ok : α → Prop} (h : ∀ x, S x → ∃ z, ok z ∧ x = enc z) : ∀ (es : List PV), (∀ e ∈ es, S e) → ∃ l : List α, (∀ z ∈ l, ok z) ∧ es = l.map enc
  | [], _ => ⟨[], fun _ h => by simp at h, rfl⟩
  | e :: es, hS => by
    obtain ⟨z, hz, rfl⟩ := h e (hS e (List.mem_cons_self ..))
    obtain ⟨l, hl, rfl⟩ := decode h es fun e he => hS e (List.mem_cons_of_mem _ he)
    refine ⟨z :: l, fun y hy => ?_, rfl⟩
    rcases List.mem_cons.1 hy with rfl | hy
    · exact hz
    · exact hl y hy
/-- a list that comes in, by what its elements are -/
def SLs {α : Type} (n b : Nat) (enc : α → PV) (ok : α → Prop) (x : PV) : Prop := ∃ l : List α, (l.length ≤ maxLen ∧ l.length * b ≤ reachBytes) ∧ (∀ z ∈ l, ok z) ∧ x = .sl n (l.map enc)
theorem opList {α : Type} {S : PV → Prop} {n b : Nat} {enc : α → PV} {ok : α → Prop} (h : Op P t (SSl n b S)) (hd : ∀ x, S x → ∃ z, ok z ∧ x = enc z) : Op P t (SLs n b enc ok) := h.weak fun x ⟨es, h1, h2, h3⟩ => by
  obtain ⟨l, hl, rfl⟩ := decode hd es h2
  exact ⟨l, by simpa using h1, hl, h3⟩
theorem each_le {H : Type} {ts : List TypeId} {l : List (DataW H)} (h : (DataW.weightsEach P ts l).all (· ≤ reachBytes) = true) {i : Nat} {d : DataW H} (ht : ts[i]? = some t) (hd : l[i]? = some d) : ∀ n ∈ d.weights P t, n ≤ reachBytes := fun n hn => by
  have := List.all_eq_true.1 h n (weights_each ht hd hn)
  simpa using this
/-- an argument of one cell; a struct -/
theorem Op.arg1 {S : PV → Prop} (h : Op P t S) (h1 : ∀ y, S y → y.cells = [y]) {H : Type} {ec : TypeId × Value → H} {w : World} {base : Nat} {held : Bool} {v : Value} {d : DataW H} {p : List MemPlace} (hv : v.cells = #[v]) (ht : DataW.Trod ec P w base (fun _ => true) held t v d p) (hwt : ∀ n ∈ d.weights P t, n ≤ reachBytes) :
    ∃ y, S y ∧ y.Is w (In w) no v := by
  obtain ⟨fuel, ht⟩ := ht
  obtain ⟨y, hS, _, hy, _⟩ := h ec w base held fuel _ _ ht hwt
  refine ⟨y, hS, ?_⟩
  rw [h1 y hS, hv] at hy
  simp only [IsL, and_true] at hy
  exact hy
theorem Op.argA {Ss : List (PV → Prop)} (h : Op P t (SAgg Ss)) {H : Type} {ec : TypeId × Value → H} {w : World} {base : Nat} {held : Bool} {vs : Array Value} {d : DataW H} {p : List MemPlace} (ht : DataW.Trod ec P w base (fun _ => true) held t (.agg vs) d p) (hwt : ∀ n ∈ d.weights P t, n ≤ reachBytes) :
    ∃ y, SAgg Ss y ∧ y.Is w (In w) no (.agg vs) := by
  obtain ⟨fuel, ht⟩ := ht
  obtain ⟨y, hS, _, hy, _⟩ := h ec w base held fuel _ _ ht hwt
  refine ⟨y, hS, ?_⟩
  obtain ⟨xs, _, rfl⟩ := hS
  simp only [PV.Is]
  exact ⟨vs, rfl, hy⟩
theorem SSl.cell {n b : Nat} {S : PV → Prop} (y : PV) : SSl n b S y → y.cells = [y] := fun ⟨_, _, _, h⟩ => by subst h; rfl
theorem SLs.cell {α : Type} {n b : Nat} {enc : α → PV} {ok : α → Prop} (y : PV) : SLs n b enc ok y → y.cells = [y] := fun ⟨_, _, _, h⟩ => by subst h; rfl
theorem SInt.cell {k : IntKind} (y : PV) : SInt k y → y.cells = [y] := fun ⟨_, _, h⟩ => by subst h; rfl
theorem SBool.cell (y : PV) : SBool y → y.cells = [y] := fun ⟨_, h⟩ => by subst h; rfl
end

end Go.Proofs.YtnjmfedleimlmaaDoor.Pw

/- Package tables that are laid, as values; contracts that end in new memory. -/
namespace Go.Proofs.YtnjmfedleimlmaaDoor.Pw
open Go Go.RowKit

def tabPs (P : Program) (total : Nat) (r : TypeId → DataW Unit → Option (List PV)) : Nat → List (Nat × TypeId) → List (DataW Unit) → Option (List PV)
  | off, [], [] => if off = total then some [] else none
  | off, (o, t) :: ps, d :: ds => if o = off then (match r t d, tabPs P total r (off + P.cellsOf t) ps ds with
      | some xs, some ys => some (xs ++ ys)
      | _, _ => none) else none
  | _, _, _ => none
/-- a table's cells, off what is laid -/
def tabV (P : Program) : Nat → TypeId → DataW Unit → Option (List PV)
  | 0, _, _ => none
  | f + 1, t, d => match P.underlying t, d with
    | some (.int k), .lit (.int l n) => if k = l then some [.lit k n] else none
    | some .bool, .lit (.bool b) => some [if b then .tt else .ff]
    | some (.struct fs), .agg ds => tabPs P (P.cellsOf t) (tabV P f) 0 (fs.toList.map fun f => (f.offset, f.type)) ds
    | some (.array n e), .agg ds => tabPs P (P.cellsOf t) (tabV P f) 0 ((List.range n).map fun i => (i * P.cellsOf e, e)) ds
    | _, _ => none
section
variable {P : Program} {w : World} {I : Nat → Prop}
theorem flat1_of {x : PV} {v : Value} (hx : x.cell1 = true) (h : x.Is w I no v) : v.oneCell' = true := flat_one (PV.Is.flat hx h)
theorem tabV_ok {base : Nat} {sp : Nat → Bool} {held : Bool} {enc : TypeId × Value → Unit} : ∀ (f : Nat) (t : TypeId) (d : DataW Unit) (xs : List PV) (fuel : Nat) (cs : List Value) (p : List MemPlace), tabV P f t d = some xs → DataW.trod enc P w base sp held fuel t cs = some (d, p) → IsL w I xs no cs ∧ ∀ c ∈ cs, c.oneCell' = true
  | 0, _, _, _, _, _, _, h, _ => by simp [tabV] at h
  | f + 1, t, d, xs, fuel, cs, p, h, ht => by
    have key : ∀ (n : Nat) (ps : List (Nat × TypeId)) (ds : List (DataW Unit)) (off : Nat) (xs : List PV), tabPs P (P.cellsOf t) (tabV P f) off ps ds = some xs → cs.length = P.cellsOf t →
        (∀ (i : Nat) (o : Nat) (u : TypeId), ps[i]? = some (o, u) → ∃ d p, ds[i]? = some d ∧ DataW.trod enc P w base sp held n u ((cs.drop o).take (P.cellsOf u)) = some (d, p)) → IsL w I xs no (cs.drop off) ∧ ∀ c ∈ cs.drop off, c.oneCell' = true := by
      intro n ps
      induction ps with
      | nil =>
        intro ds off xs h hl _
        cases ds with
        | cons => simp [tabPs] at h
        | nil =>
          simp only [tabPs] at h
          split at h
          · cases h
            rw [List.drop_eq_nil_of_le (by omega)]
            exact ⟨by simp only [IsL], fun c hc => by cases hc⟩
          · cases h
      | cons q ps ih =>
        obtain ⟨o, u⟩ := q
        intro ds off xs h hl ha
        cases ds with
        | nil => simp [tabPs] at h
        | cons d ds =>
          simp only [tabPs] at h
          split at h
          · rename_i ho
            subst ho
            split at h
            · rename_i xs1 ys h1 h2
              cases h
              obtain ⟨d', p', hd, ht⟩ := ha 0 o u rfl
              simp only [List.getElem?_cons_zero, Option.some.injEq] at hd
              subst hd
              have i1 := tabV_ok f u _ _ n _ _ h1 ht
              have i2 := ih ds _ _ h2 hl fun i o' u' hi => by
                obtain ⟨d', p', hd, ht⟩ := ha (i + 1) o' u' (by simpa using hi)
                exact ⟨d', p', by simpa using hd, ht⟩
              have hd : cs.drop o = (cs.drop o).take (P.cellsOf u) ++ cs.drop (o + P.cellsOf u) := by
                rw [← List.drop_drop, List.take_append_drop]
              rw [hd]
              refine ⟨i1.1.append i2.1, fun c hc => ?_⟩
              rw [List.mem_append] at hc
              exact hc.elim (i1.2 c) (i2.2 c)
            · cases h
          · cases h
    unfold tabV at h
    split at h
    · rename_i hu
      obtain ⟨z, rfl, hz, _⟩ := DataW.trod_int hu ht
      simp only [Prod.mk.injEq, DataW.lit.injEq, Lit.int.injEq] at hz
      obtain ⟨⟨rfl, rfl⟩, _⟩ := hz
      simp only [if_true, Option.some.injEq] at h
      subst h
      exact ⟨IsL.one (by simp only [PV.Is]), fun c hc => by simp only [List.mem_singleton] at hc; subst hc; rfl⟩
    · rename_i hu
      obtain ⟨b, rfl, hz⟩ := DataW.trod_bool hu ht
      simp only [Prod.mk.injEq, DataW.lit.injEq, Lit.bool.injEq] at hz
      obtain ⟨rfl, _⟩ := hz
      simp only [Option.some.injEq] at h
      subst h
      refine ⟨IsL.one ?_, fun c hc => by simp only [List.mem_singleton] at hc; subst hc; rfl⟩
      split <;> simp only [PV.Is] <;> simp_all
    · rename_i hu
      obtain ⟨ys, n, _, hz, hl, hyl, hy⟩ := DataW.trod_struct hu ht
      simp only [Prod.mk.injEq, DataW.agg.injEq] at hz
      obtain ⟨rfl, _⟩ := hz
      have := key n _ _ 0 xs h hl fun i o u hi => by
        simp only [List.getElem?_map, Option.map_eq_some_iff, Prod.mk.injEq] at hi
        obtain ⟨f', hf, rfl, rfl⟩ := hi
        have hy := hy i f' (by simpa using hf)
        have hlt : i < ys.length := by rw [hyl]; simpa using (List.getElem?_eq_some_iff.1 hf).1
        exact ⟨ys[i].1, ys[i].2, by simp [hlt], by rw [hy]; simp [hlt]⟩
      simpa using this
    · rename_i hu
      obtain ⟨ys, n, _, hz, hl, hyl, hy⟩ := DataW.trod_array hu ht
      simp only [Prod.mk.injEq, DataW.agg.injEq] at hz
      obtain ⟨rfl, _⟩ := hz
      have := key n _ _ 0 xs h hl fun i o u hi => by
        simp only [List.getElem?_map, Option.map_eq_some_iff, Prod.mk.injEq] at hi
        obtain ⟨j, hj, rfl, rfl⟩ := hi
        obtain ⟨hj1, rfl⟩ := List.getElem?_eq_some_iff.1 hj
        simp only [List.length_range] at hj1
        rw [List.getElem_range]
        have hy := hy i hj1
        have hlt : i < ys.length := by omega
        exact ⟨ys[i].1, ys[i].2, by simp [hlt], by rw [hy]; simp [hlt]⟩
      simpa using this
    · cases h
theorem laid_at {laid : List (String × DataW Unit)} : ∀ {l : List (String × DataW Unit)} {ps : List MemPlace}, DataW.LaidVars P w l ps → ∀ {name : String} {d : DataW Unit}, (name, d) ∈ l → ∀ {g : Nat} {t : TypeId} {xs : List PV} (f : Nat), P.globalNamed name = some g → (P.globals[g]?).map (·.type) = some t → tabV P f t d = some xs → xs ≠ [] → g < w.heap.size ∧ IsAt w I xs g 0
  | [], _, _, _, _, hm, _, _, _, _, _, _, _, _ => by cases hm
  | (n, d) :: r, ps, h, name, d', hm, g, t, xs, f, hg, ht, hx, hne => by
    obtain ⟨g', t', cs, fuel, p, q, hg', ht', hvar, hd, hr, _⟩ := h
    rcases List.mem_cons.1 hm with he | hm
    · cases he
      obtain rfl := Option.some.inj (hg.symm.trans hg')
      obtain rfl := Option.some.inj (ht.symm.trans ht')
      obtain ⟨h1, h2⟩ := tabV_ok (I := I) f t _ _ fuel _ _ hx hd
      have hat : IsAt w I xs g 0 := IsAt.of fun i c hc => by
        obtain ⟨v, hv, hi⟩ := h1.get hc
        exact ⟨v, by rw [Nat.zero_add, World.var?_cell hg hvar]; simpa using hv, hi, h2 v (List.mem_of_getElem? hv)⟩
      refine ⟨?_, hat⟩
      cases xs with
      | nil => exact absurd rfl hne
      | cons c xs =>
        obtain ⟨v, hv, _⟩ := hat.get (i := 0) rfl
        exact World.block_lt_of_cell? w _ hv
    · exact laid_at (laid := laid) hr hm f hg ht hx hne
/-- what is laid, as the tables of the evaluator's context -/
theorem immOk_laid {G : Gx} {laid : List (String × DataW Unit)} (hpl : (laid.all fun x => x.2.handleName?.isNone) = true) (h : laidMetH P laid w)
    (hall : ∀ x ∈ G.tabs, ∃ name d t, (name, d) ∈ laid ∧ P.globalNamed name = some x.1 ∧ (P.globals[x.1]?).map (·.type) = some t ∧ tabV P 8 t d = some x.2 ∧ x.2 ≠ []) : ImmOk G (In w) w := by
  rw [MakeChecks.laidMetH_plain _ _ _ hpl] at h
  obtain ⟨ps, h, _⟩ := h
  refine ⟨fun g hg => hg, fun g cs hg => ?_⟩
  obtain ⟨name, d, t, h1, h2, h3, h4, h5⟩ := hall _ hg
  exact laid_at (laid := laid) h h1 8 h2 h3 h4 h5
end

section
variable {w w' : World} {I I' : Nat → Prop} {β β' : Places} {G : Gx} {s : PSt} {a : Act} {st st' : List PBlk}
/-- what was never changed, and all that is new -/
def NewI (I : Nat → Prop) (w w' : World) (g : Nat) : Prop := I g ∨ (w.heap.size ≤ g ∧ g < w'.heap.size)
theorem PureF.of_new {f : FuncId} {args : List PV} {r : PV} (he : Ev.Enters G.cx.P f)
    (h : ∀ I β w vals, ImmOk G I w → IsL w I args β vals → Calls G.cx.P f vals.toArray w fun e w' => ∃ v, e = .returned v ∧ Below w.heap.size w w' ∧ r.Is w' (NewI I w w') no v) (hu : r.uses = []) : PureF G f args r := by
  refine Spec.intro he fun I β w vals hH hM hA => ?_
  refine (h I β w vals hM hA).mono fun e w' ⟨v, he, hB, hr⟩ => ⟨v, r, [], NewI I w w', β, he, rfl, uses_none hu hr, hH.none0 _ _, ?_, ⟨hB.os, hB.tape, hB.output, hB.size, fun g hg _ => hB.block g hg, fun g _ ⟨l, b, p, o, h1, _⟩ => by simp at h1, fun _ h => .inl h, fun g hg h => ?_⟩, Nat.le_refl _, fun _ _ _ => rfl⟩
  · have hM' := hM.below hB
    exact ⟨fun g hg => hg.elim (fun h => hM'.imm g h) (fun h => h.2), fun g cs hg => ⟨.inl (hM'.tab g cs hg).1, IsAt.mono (fun _ h => .inl h) (fun _ _ => rfl) _ _ _ rfl (hM'.tab g cs hg).2⟩⟩
  · rcases h with h | h
    · exact .inl h
    · omega
end

end Go.Proofs.YtnjmfedleimlmaaDoor.Pw

/- The orders of regions that draw. Written by a program (mkpl.py) off the given program; each is checked where it is used. -/
namespace Go.Proofs.YtnjmfedleimlmaaDoor.Pw
open Go

/-- remontoire/remontoirelaw11.TermRanges -/
def P3 : List (Nat × Plan) := []
/-- remontoire/remontoirelaw11.anchor -/
def P14 : List (Nat × Plan) := []
/-- remontoire/term.At -/
def P38 : List (Nat × Plan) := []
/-- remontoire/term.Of -/
def P39 : List (Nat × Plan) := []
/-- remontoire/term.Eval -/
def P17 : List (Nat × Plan) := [(5, .pure 0 <| .pure 2 <| .pure 4 <| .pure 7 <| .load 3 [9, 8, 6, 5] <| .eff 1 (.eff 5 (.pure 6 <| .pure 8 <| .pure 9 <| .done) (.nil)) (.nil))]
/-- remontoire/term.leaf -/
def P43 : List (Nat × Plan) := []
/-- remontoire/term.truth -/
def P44 : List (Nat × Plan) := []
/-- remontoire/term.one -/
def P45 : List (Nat × Plan) := []
/-- remontoire/term.two -/
def P46 : List (Nat × Plan) := []
/-- remontoire/term.logic -/
def P70 : List (Nat × Plan) := []
/-- math/bits.RotateLeft32 -/
def P97 : List (Nat × Plan) := []
/-- remontoire/term.Range -/
def P16 : List (Nat × Plan) := [(2, .pure 0 <| .pure 2 <| .load 1 [5, 4] <| .pure 4 <| .load 3 [5] <| .pure 5 <| .done)]
/-- remontoire/term.reach -/
def P42 : List (Nat × Plan) := [(5, .pure 0 <| .pure 1 <| .pure 4 <| .pure 5 <| .load 2 [9, 8, 7, 3] <| .load 6 [9, 8, 7] <| .eff 3 (.eff 7 (.pure 8 <| .eff 9 (.done) (.nil)) (.nil)) (.nil)), (9, .pure 0 <| .pure 2 <| .pure 6 <| .pure 7 <| .pure 9 <| .pure 13 <| .pure 14 <| .load 1 [17, 16] <| .load 3 [17, 16, 15, 8, 5, 4] <| .pure 4 <| .load 5 [17, 16, 15, 8] <| .load 10 [17, 16, 15, 12, 11] <| .pure 11 <| .load 12 [17, 16, 15] <| .eff 8 (.eff 15 (.eff 16 (.eff 17 (.done) (.nil)) (.nil)) (.nil)) (.nil))]
/-- remontoire/term.at -/
def P68 : List (Nat × Plan) := []
/-- remontoire/term.within -/
def P69 : List (Nat × Plan) := [(15, .pure 0 <| .pure 2 <| .pure 6 <| .pure 8 <| .load 1 [13, 12, 5] <| .load 3 [13, 12, 5, 4] <| .pure 4 <| .pure 5 <| .load 7 [13, 12, 11] <| .load 9 [13, 12, 11, 10] <| .pure 10 <| .pure 11 <| .pure 12 <| .eff 13 (.done) (.nil))]
/-- remontoire/term.sum -/
def P95 : List (Nat × Plan) := []
/-- math/bits.Add32 -/
def P114 : List (Nat × Plan) := []
/-- remontoire/term.product -/
def P96 : List (Nat × Plan) := []
/-- math/bits.Mul32 -/
def P115 : List (Nat × Plan) := []
/-- remontoire/remontoirelaw11.of -/
def P15 : List (Nat × Plan) := [(5, .load 0 [5, 4] <| .load 1 [5, 4, 3, 2] <| .eff 2 (.eff 3 (.eff 4 (.pure 5 <| .done) (.nil)) (.nil)) (.nil))]
/-- remontoire/remontoirelaw11.built -/
def P40 : List (Nat × Plan) := [(13, .pure 0 <| .pure 2 <| .pure 3 <| .pure 4 <| .pure 5 <| .load 1 [10, 9, 8] <| .eff 6 (.eff 7 (.eff 8 (.pure 9 <| .eff 10 (.done) (.nil)) (.nil)) (.nil)) (.nil))]
/-- remontoire/remontoirelaw11.flat -/
def P19 : List (Nat × Plan) := []
/-- remontoire/remontoireref11.Right -/
def P41 : List (Nat × Plan) := []
/-- remontoire/remontoireref11.needs -/
def P67 : List (Nat × Plan) := []
/-- remontoire/remontoirelaw11.TermSpans -/
def P4 : List (Nat × Plan) := []
/-- remontoire/remontoireref11.Span -/
def P18 : List (Nat × Plan) := [(4, .pure 0 <| .pure 3 <| .pure 6 <| .pure 7 <| .load 1 [10, 9, 8, 2] <| .pure 2 <| .pure 8 <| .load 4 [10, 9, 5] <| .pure 5 <| .pure 9 <| .pure 10 <| .done)]
/-- remontoire/remontoireref11.joined -/
def P47 : List (Nat × Plan) := [(19, .pure 0 <| .pure 1 <| .pure 2 <| .pure 3 <| .pure 4 <| .pure 5 <| .pure 6 <| .pure 7 <| .done)]
/-- remontoire/remontoireref11.least -/
def P71 : List (Nat × Plan) := []
/-- remontoire/remontoirelaw11.TermPuts -/
def P5 : List (Nat × Plan) := []
/-- remontoire/term.Put -/
def P20 : List (Nat × Plan) := [(7, .pure 0 <| .pure 3 <| .load 1 [8, 7, 6] <| .load 2 [8, 7, 6, 5, 4] <| .eff 4 (.eff 5 (.eff 6 (.pure 7 <| .eff 8 (.done) (.nil)) (.nil)) (.nil)) (.nil))]
/-- remontoire/remontoirelaw11.TermSame -/
def P6 : List (Nat × Plan) := [(7, .load 0 [5, 4, 3, 1] <| .load 2 [5, 4, 3] <| .eff 1 (.eff 3 (.pure 4 <| .pure 5 <| .done) (.nil)) (.nil)), (12, .pure 0 <| .pure 1 <| .pure 2 <| .pure 3 <| .pure 4 <| .pure 6 <| .pure 7 <| .pure 8 <| .load 5 [12, 11, 10] <| .load 9 [12, 11, 10] <| .pure 10 <| .pure 11 <| .pure 12 <| .done)]
/-- remontoire/term.Same -/
def P21 : List (Nat × Plan) := []
/-- slices.EqualFunc[[]remontoire/term.Term,[]remontoire/term.Term,remontoire/term.Term,remontoire/term.Term] -/
def P48 : List (Nat × Plan) := []
/-- remontoire/remontoirelaw11.TermFoldsTo -/
def P7 : List (Nat × Plan) := []
/-- remontoire/remontoireref11.Fold -/
def P22 : List (Nat × Plan) := [(7, .pure 0 <| .pure 2 <| .pure 3 <| .pure 4 <| .load 1 [11, 10, 9, 8, 7, 6] <| .load 5 [11, 10, 9, 8, 7, 6] <| .eff 6 (.pure 7 <| .pure 8 <| .pure 9 <| .pure 10 <| .pure 11 <| .done) (.nil)), (12, .pure 0 <| .pure 2 <| .pure 3 <| .pure 4 <| .pure 6 <| .pure 7 <| .pure 8 <| .load 1 [15, 14, 13, 12, 11, 10] <| .load 5 [15, 14, 13, 12, 11, 10] <| .load 9 [15, 14, 13, 12, 11, 10] <| .eff 10 (.pure 11 <| .pure 12 <| .pure 13 <| .pure 14 <| .pure 15 <| .done) (.nil))]
/-- remontoire/remontoireref11.apply -/
def P49 : List (Nat × Plan) := [(14, .pure 0 <| .pure 1 <| .pure 2 <| .pure 3 <| .pure 4 <| .pure 5 <| .pure 6 <| .pure 7 <| .pure 8 <| .pure 9 <| .pure 10 <| .pure 11 <| .pure 12 <| .pure 13 <| .pure 14 <| .pure 15 <| .pure 16 <| .pure 19 <| .pure 20 <| .pure 23 <| .pure 24 <| .pure 26 <| .pure 27 <| .pure 28 <| .pure 29 <| .pure 30 <| .pure 31 <| .pure 32 <| .pure 33 <| .pure 34 <| .eff 17 (.pure 18 <| .eff 21 (.pure 22 <| .eff 25 (.pure 35 <| .eff 36 (.eff 37 (.done) (.nil)) (.nil)) (.cons 36 (.eff 25 (.pure 35 <| .eff 37 (.done) (.nil)) (.nil)) (.nil))) (.cons 36 (.eff 21 (.pure 22 <| .eff 25 (.pure 35 <| .eff 37 (.done) (.nil)) (.nil)) (.nil)) (.nil))) (.cons 36 (.eff 17 (.pure 18 <| .eff 21 (.pure 22 <| .eff 25 (.pure 35 <| .eff 37 (.done) (.nil)) (.nil)) (.nil)) (.nil)) (.nil)))]
/-- remontoire/remontoireref11.power -/
def P72 : List (Nat × Plan) := []
/-- remontoire/remontoireref11.turned -/
def P73 : List (Nat × Plan) := []
/-- remontoire/term.Fold -/
def P24 : List (Nat × Plan) := []
/-- remontoire/remontoirelaw11.alike -/
def P23 : List (Nat × Plan) := [(6, .pure 0 <| .pure 1 <| .pure 2 <| .pure 4 <| .pure 5 <| .pure 6 <| .load 3 [8] <| .load 7 [8] <| .pure 8 <| .done)]
/-- remontoire/remontoirelaw11.TermEvals -/
def P8 : List (Nat × Plan) := [(8, .load 0 [25, 24, 23, 22, 21, 20, 19, 18, 17, 16, 15, 14, 13, 12, 11, 10, 9, 8, 7, 6, 5, 4, 3, 2, 1] <| .eff 1 (.pure 2 <| .pure 3 <| .pure 4 <| .pure 5 <| .pure 6 <| .pure 7 <| .pure 8 <| .pure 9 <| .pure 10 <| .pure 11 <| .pure 12 <| .load 13 [25, 24, 23, 22, 21, 20, 19, 18, 17, 16, 14] <| .load 15 [25, 24, 23, 22, 21, 20, 19, 18, 17, 16] <| .eff 14 (.eff 16 (.pure 17 <| .pure 18 <| .pure 19 <| .pure 20 <| .load 21 [25, 24, 23] <| .load 22 [25, 24, 23] <| .eff 23 (.pure 24 <| .pure 25 <| .done) (.nil)) (.nil)) (.nil)) (.nil))]
/-- (remontoire/term.Term).Right -/
def P25 : List (Nat × Plan) := []
/-- remontoire/term.Count -/
def P27 : List (Nat × Plan) := []
/-- remontoire/term.shaped -/
def P50 : List (Nat × Plan) := [(1, .pure 0 <| .load 1 [36, 35, 34, 33, 32, 31, 30, 29, 28, 27, 26, 25, 24, 23, 22, 21, 20, 19, 18, 17, 16, 15, 14, 13, 12, 11, 10, 9, 8, 7, 6, 5, 4, 3, 2] <| .pure 2 <| .pure 3 <| .pure 4 <| .load 5 [36, 35, 34, 33, 32, 31, 30, 29, 28, 27, 26, 25, 24, 23, 22, 21, 20, 19, 18, 17, 16, 15, 14, 13, 12, 11, 10, 9, 8, 7, 6] <| .pure 6 <| .pure 7 <| .pure 8 <| .pure 9 <| .pure 12 <| .load 10 [36, 35, 34, 33, 32, 31, 30, 29, 28, 27, 26, 25, 24, 23, 22, 21, 20, 19, 18, 17, 16, 15, 11] <| .pure 11 <| .load 13 [36, 35, 34, 33, 32, 31, 30, 29, 28, 27, 26, 25, 24, 23, 22, 21, 20, 19, 18, 17, 16, 15, 14] <| .eff 14 (.pure 15 <| .pure 16 <| .pure 17 <| .pure 18 <| .load 19 [36, 35, 34, 33, 32, 31, 30, 29, 28, 27, 26, 25, 24, 23, 22, 21, 20] <| .pure 20 <| .pure 21 <| .pure 22 <| .load 23 [36, 35, 34, 33, 32, 31, 30, 29, 28, 27, 26, 25, 24] <| .pure 24 <| .pure 25 <| .pure 26 <| .pure 27 <| .pure 28 <| .load 29 [36, 35, 34, 33, 32, 31, 30] <| .pure 30 <| .pure 31 <| .pure 32 <| .load 33 [36, 35, 34] <| .pure 34 <| .pure 35 <| .pure 36 <| .done) (.nil))]
/-- remontoire/term.needs -/
def P74 : List (Nat × Plan) := []
/-- slices.ContainsFunc[[]remontoire/term.Term,remontoire/term.Term] -/
def P75 : List (Nat × Plan) := []
/-- slices.IndexFunc[[]remontoire/term.Term,remontoire/term.Term] -/
def P98 : List (Nat × Plan) := []
/-- remontoire/term.shaped$1 -/
def P76 : List (Nat × Plan) := []
/-- remontoire/remontoireref11.Eval -/
def P26 : List (Nat × Plan) := []
/-- remontoire/remontoireref11.eval -/
def P51 : List (Nat × Plan) := []
/-- remontoire/remontoirelaw11.TermFolds -/
def P9 : List (Nat × Plan) := [(15, .pure 0 <| .pure 1 <| .pure 2 <| .pure 3 <| .pure 4 <| .pure 5 <| .pure 6 <| .pure 7 <| .pure 8 <| .load 9 [32, 31, 30, 29, 28, 27, 26, 25, 24, 23, 22, 21, 20, 19, 18, 17, 16, 15, 14, 13, 12, 10] <| .load 11 [32, 31, 30, 29, 28, 27, 26, 25, 24, 23, 22, 21, 20, 19, 18, 17, 16, 15, 14, 13, 12] <| .eff 10 (.eff 12 (.pure 13 <| .pure 14 <| .pure 15 <| .load 16 [32, 31, 30, 29, 28, 27, 26, 25, 24, 23, 22, 21, 20, 19, 18, 17] <| .eff 17 (.pure 18 <| .pure 19 <| .pure 20 <| .pure 21 <| .pure 22 <| .pure 23 <| .pure 24 <| .pure 25 <| .pure 26 <| .pure 27 <| .load 28 [32, 31, 30, 29] <| .pure 29 <| .pure 30 <| .pure 31 <| .pure 32 <| .done) (.nil)) (.nil)) (.nil))]

end Go.Proofs.YtnjmfedleimlmaaDoor.Pw

/- Slices that came in, as a walk wants them: where there is room, an address, and a value for each cell. No program in sight. -/
namespace Go.Proofs.YtnjmfedleimlmaaDoor
open Go.ChangeShapes Go.WideShapes Go.ChangeAt Go.RowKit

/-- 'len' elements of 'cap' cells, the values v 0, v 1, .. -/
def IsRow (v : Nat → Value) (w : World) (a : Option Addr) (len cap : Nat) : Prop :=
  len ≤ cap ∧ cap ≤ 9223372036854775807 ∧ (0 < cap → ∃ b off, a = some ⟨b, off, none⟩ ∧ b < w.heap.size ∧ ∀ i, i < cap → w.cell? ⟨b, off + i, none⟩ = some (v i))

theorem IsRow.nil (v : Nat → Value) (w : World) : IsRow v w none 0 0 := ⟨by omega, by omega, fun h => absurd h (by omega)⟩
theorem IsRow.mk_ {v : Nat → Value} {w : World} {a : Addr} {len cap : Nat} (hl : len ≤ cap) (hm : cap ≤ maxLen) (hc : ∀ i, i < cap → w.cell? (a.add i) = some (v i)) : IsRow v w (some a) len cap := by
  refine ⟨hl, hm, fun h => ?_⟩
  have h0 := hc 0 h
  obtain ⟨b, off, spot⟩ := a
  have hs : spot = none := by simpa [Addr.add] using World.cell?_spot h0
  subst hs
  have hcell : ∀ i, i < cap → w.cell? ⟨b, off + i, none⟩ = some (v i) := by
    intro i hi
    have h := hc i hi
    by_cases h0 : i = 0
    · subst h0; simpa [Addr.add] using h
    · simpa [Addr.add, h0] using h
  refine ⟨b, off, rfl, ?_, hcell⟩
  have hb := hcell 0 h
  rcases Nat.lt_or_ge b w.heap.size with hlt | hge
  · exact hlt
  · simp [World.cell?, Array.getElem?_eq_none hge] at hb
theorem IsRow.of_ints {k : IntKind} {zs : List Int} {w : World} {a : Addr} {len cap : Nat} (hl : len ≤ cap) (hm : cap ≤ maxLen) (hz : zs.length = cap) (hc : ∀ i, i < zs.length → w.cell? (a.add i) = some (.int k (zs.getD i 0))) :
    IsRow (fun i => .int k (zs.getD i 0)) w (some a) len cap := IsRow.mk_ hl hm (fun i hi => hc i (by omega))
/-- block g is just the cells cs of element type t, none frozen -/
def Blk (w : World) (g : Nat) (t : TypeId) (cs : Array Value) : Prop := w.heap[g]? = some (.cells cs t (0, 0))

section
variable {w w' : World} {g : Nat} {t : TypeId} {cs : Array Value}
theorem Blk.lt (h : Blk w g t cs) : g < w.heap.size := by
  rcases Nat.lt_or_ge g w.heap.size with hlt | hge
  · exact hlt
  · unfold Blk at h; rw [Array.getElem?_eq_none hge] at h; cases h
theorem Blk.cell (h : Blk w g t cs) (i : Nat) : w.cell? ⟨g, i, none⟩ = cs[i]? := cell_of_row w g i cs t (0, 0) h
theorem Blk.frozen (h : Blk w g t cs) (i : Nat) : w.frozen? ⟨g, i, none⟩ = false := by
  unfold Blk at h
  simp [World.frozen?, h]
theorem Blk.new (w : World) (t : TypeId) (cs : Array Value) : Blk (w.alloc (.cells cs t)) w.heap.size t cs := heap_alloc_new w _
theorem Blk.drew (h : Blk w g t cs) : Blk w.drew g t cs := h
theorem Blk.alloc (h : Blk w g t cs) (o : Obj) : Blk (w.alloc o) g t cs := (Below.heap_alloc w o g h.lt).trans h
theorem Blk.set_ (h : Blk w g t cs) (i : Nat) (u : Value) : Blk (w.setCell ⟨g, i, none⟩ u) g t (cs.setIfInBounds i u) := by
  unfold Blk at h ⊢
  simp [World.setCell, Array.getElem?_modify, h]
theorem Blk.far (h : Blk w g t cs) {p : Addr} (hp : g ≠ p.block) (u : Value) : Blk (w.setCell p u) g t cs := (Below.heap_setCell w p u g hp).trans h
theorem Blk.below {B : Nat} (h : Blk w g t cs) (hb : Below B w w') (hg : g < B) : Blk w' g t cs := (hb.block g hg).trans h
end

end Go.Proofs.YtnjmfedleimlmaaDoor

/- Terms in memory; lists of nodes; what keeps what lay. -/
namespace Go.Proofs.YtnjmfedleimlmaaDoor
open Go Go.RowKit

/-- a term -/
inductive T where
  | leaf (op n : Int) | one (op n : Int) (a : T) | two (op n : Int) (a b : T)
  deriving Inhabited
namespace T
def op : T → Int
  | .leaf o _ => o | .one o _ _ => o | .two o _ _ _ => o
def num : T → Int
  | .leaf _ n => n | .one _ n _ => n | .two _ n _ _ => n
def kids : T → Nat
  | .leaf .. => 0 | .one .. => 1 | .two .. => 2
def size : T → Nat
  | .leaf .. => 1 | .one _ _ a => 1 + a.size | .two _ _ a b => 1 + a.size + b.size
/-- a term by value, its list's slice being s -/
def val (t : T) (s : Value) : Value := .agg #[.int .i64 t.op, .int .u32 t.num, s]
/-- the slice s is a term's list, in the blocks bl -/
def IsS (w : World) : T → Value → List Nat → Prop
  | .leaf _ _, s, bl => s = .slice none 0 0 ∧ bl = []
  | .one _ _ a, s, bl => ∃ g cap cur fr sa bla, s = .slice (some ⟨g, 0, none⟩) 1 cap ∧ 1 ≤ cap ∧ w.heap[g]? = some (.cells cur 28 fr) ∧ cur[0]? = some (.int .i64 a.op) ∧ cur[1]? = some (.int .u32 a.num) ∧ cur[2]? = some sa ∧ a.IsS w sa bla ∧ bl = g :: bla
  | .two _ _ a b, s, bl => ∃ g cap cur fr sa bla sb blb, s = .slice (some ⟨g, 0, none⟩) 2 cap ∧ 2 ≤ cap ∧ w.heap[g]? = some (.cells cur 28 fr) ∧ cur[0]? = some (.int .i64 a.op) ∧ cur[1]? = some (.int .u32 a.num) ∧ cur[2]? = some sa ∧ cur[3]? = some (.int .i64 b.op) ∧ cur[4]? = some (.int .u32 b.num) ∧ cur[5]? = some sb ∧ a.IsS w sa bla ∧ b.IsS w sb blb ∧ bl = g :: (bla ++ blb)
theorem IsS.keep {w w' : World} : ∀ {t : T} {s : Value} {bl : List Nat}, t.IsS w s bl → (∀ b ∈ bl, w'.heap[b]? = w.heap[b]?) → t.IsS w' s bl
  | .leaf _ _, _, _, h, _ => h
  | .one _ _ a, s, bl, ⟨g, cap, cur, fr, sa, bla, h1, h2, h3, h4, h5, h6, h7, h8⟩, hk => by
    subst h8
    exact ⟨g, cap, cur, fr, sa, bla, h1, h2, (hk g (by simp)).trans h3, h4, h5, h6, h7.keep fun b hb => hk b (by simp [hb]), rfl⟩
  | .two _ _ a b, s, bl, ⟨g, cap, cur, fr, sa, bla, sb, blb, h1, h2, h3, h4, h5, h6, h7, h8, h9, h10, h11, h12⟩, hk => by
    subst h12
    exact ⟨g, cap, cur, fr, sa, bla, sb, blb, h1, h2, (hk g (by simp)).trans h3, h4, h5, h6, h7, h8, h9, h10.keep fun c hc => hk c (by simp [hc]), h11.keep fun c hc => hk c (by simp [hc]), rfl⟩
theorem IsS.one {w : World} {t : T} {s : Value} {bl : List Nat} (h : t.IsS w s bl) : s.oneCell' = true := by
  cases t with
  | leaf => obtain ⟨rfl, _⟩ := h; rfl
  | one => obtain ⟨g, cap, cur, fr, sa, bla, rfl, _⟩ := h; rfl
  | two => obtain ⟨g, cap, cur, fr, sa, bla, sb, blb, rfl, _⟩ := h; rfl
theorem IsS.form {w : World} {t : T} {s : Value} {bl : List Nat} (h : t.IsS w s bl) : ∃ p c, s = .slice p t.kids c := by
  cases t with
  | leaf => obtain ⟨rfl, _⟩ := h; exact ⟨_, _, rfl⟩
  | one => obtain ⟨g, cap, cur, fr, sa, bla, rfl, _⟩ := h; exact ⟨_, _, rfl⟩
  | two => obtain ⟨g, cap, cur, fr, sa, bla, sb, blb, rfl, _⟩ := h; exact ⟨_, _, rfl⟩
end T
theorem cells3_one {a b : Int} {s : Value} (h : s.oneCell' = true) : ∀ u ∈ [Value.int .i64 a, .int .u32 b, s], u.oneCell' = true := by
  intro u hu
  simp only [List.mem_cons, List.not_mem_nil, or_false] at hu
  rcases hu with rfl | rfl | rfl
  · rfl
  · rfl
  · exact h

/-- all that lay lies as it lay, but for block B -/
structure Kept (B : Nat) (w w' : World) : Prop where
  os : w'.os = w.os
  tape : w'.tape = w.tape
  output : w'.output = w.output
  size : w.heap.size ≤ w'.heap.size
  block : ∀ k, k < w.heap.size → k ≠ B → w'.heap[k]? = w.heap[k]?
section
variable {B : Nat} {w w' w'' : World}
theorem Kept.refl (B : Nat) (w : World) : Kept B w w := ⟨rfl, rfl, rfl, Nat.le_refl _, fun _ _ _ => rfl⟩
theorem Kept.trans (h : Kept B w w') (k : Kept B w' w'') : Kept B w w'' := ⟨k.os.trans h.os, k.tape.trans h.tape, k.output.trans h.output, Nat.le_trans h.size k.size, fun i hi hb => (k.block i (Nat.lt_of_lt_of_le hi h.size) hb).trans (h.block i hi hb)⟩
theorem Kept.of_below (h : Below w.heap.size w w') : Kept B w w' := ⟨h.os, h.tape, h.output, h.size, fun k hk _ => h.block k hk⟩
theorem Kept.alloc (w : World) (o : Obj) : Kept B w (w.alloc o) := .of_below ((Below.refl _ w).alloc (Nat.le_refl _) o)
theorem Kept.set_ (w : World) (p : Addr) (u : Value) (h : p.block = B ∨ w.heap.size ≤ p.block) : Kept B w (w.setCell p u) :=
  ⟨rfl, rfl, rfl, by simp [World.setCell], fun k hk hb => Below.heap_setCell w p u k (by rcases h with h | h <;> omega)⟩
theorem Kept.cell (h : Kept B w w') {k j : Nat} (hk : k < w.heap.size) (hb : k ≠ B) : w'.cell? ⟨k, j, none⟩ = w.cell? ⟨k, j, none⟩ := World.cell?_of_block (h.block k hk hb)
theorem Kept.frozen (h : Kept B w w') {k j : Nat} (hk : k < w.heap.size) (hb : k ≠ B) : w'.frozen? ⟨k, j, none⟩ = w.frozen? ⟨k, j, none⟩ := World.frozen?_of_block (h.block k hk hb)
theorem grown_cell {row : Option Nat} (h : w.grownBy w' row) {k j : Nat} (hk : k < w.heap.size) (hb : some k ≠ row) : w'.cell? ⟨k, j, none⟩ = w.cell? ⟨k, j, none⟩ := h.cell_far ⟨k, j, none⟩ hk hb
theorem grown_frozen {row : Option Nat} (h : w.grownBy w' row) {k j : Nat} (hk : k < w.heap.size) (hb : some k ≠ row) : w'.frozen? ⟨k, j, none⟩ = w.frozen? ⟨k, j, none⟩ := h.frozen_far ⟨k, j, none⟩ hk hb
theorem alloc_cell (w : World) (o : Obj) {k j : Nat} (hk : k < w.heap.size) : (w.alloc o).cell? ⟨k, j, none⟩ = w.cell? ⟨k, j, none⟩ := World.cell?_of_block (Below.heap_alloc w o k hk)
theorem alloc_frozen (w : World) (o : Obj) {k j : Nat} (hk : k < w.heap.size) : (w.alloc o).frozen? ⟨k, j, none⟩ = w.frozen? ⟨k, j, none⟩ := World.frozen?_of_block (Below.heap_alloc w o k hk)
theorem Kept.drew (w : World) : Kept B w w.drew := ⟨rfl, rfl, rfl, Nat.le_refl _, fun _ _ _ => rfl⟩
end

section
variable {B g : Nat} {w w' : World} {t : TypeId} {cs : Array Value}
theorem Blk.kept (h : Blk w g t cs) (hk : Kept B w w') (hb : g ≠ B) : Blk w' g t cs := (hk.block g h.lt hb).trans h
theorem Blk.grown {row : Option Nat} (h : Blk w g t cs) (hg : w.grownBy w' row) (hb : some g ≠ row) : Blk w' g t cs := (hg.block g h.lt hb).trans h
theorem Blk.c3 {a b c : Value} (h : Blk w g t #[a, b, c]) : w.cell? ⟨g, 0, none⟩ = some a ∧ w.cell? ⟨g, 1, none⟩ = some b ∧ w.cell? ⟨g, 2, none⟩ = some c := ⟨h.cell 0, h.cell 1, h.cell 2⟩
theorem Blk.f3 (h : Blk w g t cs) : w.frozen? ⟨g, 0, none⟩ = false ∧ w.frozen? ⟨g, 1, none⟩ = false ∧ w.frozen? ⟨g, 2, none⟩ = false := ⟨h.frozen 0, h.frozen 1, h.frozen 2⟩
end

section
variable {B : Nat} {w w' w'' : World}
theorem Kept.grown {row : Option Nat} (h : Kept B w w') (hg : w'.grownBy w'' row) (hr : ∀ r, row = some r → w.heap.size ≤ r) : Kept B w w'' :=
  ⟨hg.os.trans h.os, hg.tape.trans h.tape, hg.output.trans h.output, Nat.le_trans h.size hg.size, fun k hk hb => (hg.block k (Nat.lt_of_lt_of_le hk h.size) (fun e => by have := hr k e.symm; omega)).trans (h.block k hk hb)⟩
theorem Kept.grownBy (h : Kept B w w') : w.grownBy w' (some B) := ⟨h.os, h.tape, h.output, h.size, fun k hk hb => h.block k hk (fun e => hb (by rw [e]))⟩
theorem grown_set (w : World) (p : Addr) (u : Value) : w.grownBy (w.setCell p u) (some p.block) := ⟨rfl, rfl, rfl, by simp [World.setCell], fun k _ hb => Below.heap_setCell w p u k (fun e => hb (by rw [e]))⟩
theorem Kept.setNew (h : Kept B w w') {p : Addr} (u : Value) (hp : w.heap.size ≤ p.block) : Kept B w (w'.setCell p u) :=
  ⟨h.os, h.tape, h.output, by simpa [World.setCell] using h.size, fun k hk hb => (Below.heap_setCell w' p u k (by omega)).trans (h.block k hk hb)⟩
end

theorem T.IsS.mk_one {w1 wf : World} {base g cp : Nat} {o n : Int} {a : T} {sa : Value} {bla : List Nat} (hown : w1.ownsRow base 28 3 (.slice (some ⟨g, 0, none⟩) 1 cp) 1 [.int .i64 a.op, .int .u32 a.num, sa]) (hg : wf.heap[g]? = w1.heap[g]?) (ha : a.IsS wf sa bla) : (T.one o n a).IsS wf (.slice (some ⟨g, 0, none⟩) 1 cp) (g :: bla) := by
  obtain ⟨_, h⟩ := hown
  rcases h with ⟨h, _⟩ | ⟨g', cap, cur, hv, _, hh, hn, _, hs, ht⟩
  · cases h
  · cases hv
    have e : ∀ i, i < 3 → cur[i]? = [Value.int .i64 a.op, .int .u32 a.num, sa][i]? := fun i hi => by
      rw [← ht, List.getElem?_take, if_pos (by omega)]; simp
    exact ⟨g, cp, cur, (0, 0), sa, bla, rfl, hn, hg.trans hh, e 0 (by omega), e 1 (by omega), e 2 (by omega), ha, rfl⟩
theorem T.IsS.mk_two {w1 wf : World} {base g cp : Nat} {o n : Int} {a b : T} {sa sb : Value} {bla blb : List Nat} (hown : w1.ownsRow base 28 3 (.slice (some ⟨g, 0, none⟩) 2 cp) 2 [.int .i64 a.op, .int .u32 a.num, sa, .int .i64 b.op, .int .u32 b.num, sb]) (hg : wf.heap[g]? = w1.heap[g]?) (ha : a.IsS wf sa bla) (hb : b.IsS wf sb blb) : (T.two o n a b).IsS wf (.slice (some ⟨g, 0, none⟩) 2 cp) (g :: (bla ++ blb)) := by
  obtain ⟨_, h⟩ := hown
  rcases h with ⟨h, _⟩ | ⟨g', cap, cur, hv, _, hh, hn, _, hs, ht⟩
  · cases h
  · cases hv
    have e : ∀ i, i < 6 → cur[i]? = [Value.int .i64 a.op, .int .u32 a.num, sa, .int .i64 b.op, .int .u32 b.num, sb][i]? := fun i hi => by
      rw [← ht, List.getElem?_take, if_pos (by omega)]; simp
    exact ⟨g, cp, cur, (0, 0), sa, bla, sb, blb, rfl, hn, hg.trans hh, e 0 (by omega), e 1 (by omega), e 2 (by omega), e 3 (by omega), e 4 (by omega), e 5 (by omega), ha, hb, rfl⟩

/-- a term's list's cells -/
theorem T.IsS.cells1 {w : World} {o n : Int} {a : T} {s : Value} {bl : List Nat} (h : (T.one o n a).IsS w s bl) : ∃ g cap p c bla, s = .slice (some ⟨g, 0, none⟩) 1 cap ∧ 1 ≤ cap ∧ g < w.heap.size ∧ w.cell? ⟨g, 0, none⟩ = some (.int .i64 a.op) ∧ w.cell? ⟨g, 1, none⟩ = some (.int .u32 a.num) ∧ w.cell? ⟨g, 2, none⟩ = some (.slice p a.kids c) ∧
    a.IsS w (.slice p a.kids c) bla ∧ ∀ b ∈ bla, b ∈ bl := by
  obtain ⟨g, cap, cur, fr, sa, bla, rfl, hcap, hh, h0, h1, h2, ha, rfl⟩ := h
  obtain ⟨p, c, rfl⟩ := ha.form
  have c0 : w.cell? ⟨g, 0, none⟩ = some (.int .i64 a.op) := by rw [cell_of_row w g 0 cur _ fr hh, h0]
  exact ⟨g, cap, p, c, bla, rfl, hcap, World.block_lt_of_cell? w ⟨g, 0, none⟩ c0, c0, by rw [cell_of_row w g 1 cur _ fr hh, h1], by rw [cell_of_row w g 2 cur _ fr hh, h2], ha, fun b hb => by simp [hb]⟩
theorem T.IsS.cells2 {w : World} {o n : Int} {a b : T} {s : Value} {bl : List Nat} (h : (T.two o n a b).IsS w s bl) : ∃ g cap p c q d bla blb, s = .slice (some ⟨g, 0, none⟩) 2 cap ∧ 2 ≤ cap ∧ g < w.heap.size ∧ (w.cell? ⟨g, 0, none⟩ = some (.int .i64 a.op) ∧ w.cell? ⟨g, 1, none⟩ = some (.int .u32 a.num) ∧ w.cell? ⟨g, 2, none⟩ = some (.slice p a.kids c)) ∧
    (w.cell? ⟨g, 3, none⟩ = some (.int .i64 b.op) ∧ w.cell? ⟨g, 4, none⟩ = some (.int .u32 b.num) ∧ w.cell? ⟨g, 5, none⟩ = some (.slice q b.kids d)) ∧ a.IsS w (.slice p a.kids c) bla ∧ b.IsS w (.slice q b.kids d) blb ∧ (∀ b ∈ bla, b ∈ bl) ∧ ∀ b ∈ blb, b ∈ bl := by
  obtain ⟨g, cap, cur, fr, sa, bla, sb, blb, rfl, hcap, hh, h0, h1, h2, h3, h4, h5, ha, hb, rfl⟩ := h
  obtain ⟨p, c, rfl⟩ := ha.form
  obtain ⟨q, d, rfl⟩ := hb.form
  have c0 : w.cell? ⟨g, 0, none⟩ = some (.int .i64 a.op) := by rw [cell_of_row w g 0 cur _ fr hh, h0]
  exact ⟨g, cap, p, c, q, d, bla, blb, rfl, hcap, World.block_lt_of_cell? w ⟨g, 0, none⟩ c0, ⟨c0, by rw [cell_of_row w g 1 cur _ fr hh, h1], by rw [cell_of_row w g 2 cur _ fr hh, h2]⟩, ⟨by rw [cell_of_row w g 3 cur _ fr hh, h3], by rw [cell_of_row w g 4 cur _ fr hh, h4], by rw [cell_of_row w g 5 cur _ fr hh, h5]⟩, ha, hb, fun b hb => by simp [hb], fun b hb => by simp [hb]⟩

/-- a list of nodes that came in: pairs of an operator and a number -/
def NodesAt (w : World) (pl : Option Addr) (l : List (Int × Int)) (M : Nat) : Prop :=
  ∀ i x, l[i]? = some x → ∃ b off, pl = some ⟨b, off, none⟩ ∧ b < M ∧ b < w.heap.size ∧ w.cell? ⟨b, off + i * 2, none⟩ = some (.int .i64 x.1) ∧ w.cell? ⟨b, off + i * 2 + 1, none⟩ = some (.int .u32 x.2)
theorem NodesAt.kept {w w' : World} {pl : Option Addr} {l : List (Int × Int)} {M B : Nat} (h : NodesAt w pl l M) (hk : Kept B w w') (hB : M ≤ B) : NodesAt w' pl l M := fun i x hx => by
  obtain ⟨b, off, h1, h2, h3, h4, h5⟩ := h i x hx
  have e : w'.heap[b]? = w.heap[b]? := hk.block b h3 (by omega)
  exact ⟨b, off, h1, h2, Nat.lt_of_lt_of_le h3 hk.size, (World.cell?_of_block e).trans h4, (World.cell?_of_block e).trans h5⟩

theorem NodesAt.mono {w : World} {pl : Option Addr} {l : List (Int × Int)} {M M' : Nat} (h : NodesAt w pl l M) (hM : M ≤ M') : NodesAt w pl l M' := fun i x hx => by
  obtain ⟨b, off, h1, h2, h3⟩ := h i x hx
  exact ⟨b, off, h1, Nat.lt_of_lt_of_le h2 hM, h3⟩

/-- the term that a list of nodes begins with, and where the next one begins -/
def builtT : Nat → List (Int × Int) → Nat → T × Nat
  | 0, _, at_ => (.leaf 1 0, at_)
  | k + 1, l, at_ => match l[at_]? with
    | none => (.leaf 1 0, at_)
    | some x => if 5 ≤ x.1 ∧ x.1 ≤ 17 then (.two x.1 0 (builtT k l (at_ + 1)).1 (builtT k l (builtT k l (at_ + 1)).2).1, (builtT k l (builtT k l (at_ + 1)).2).2)
      else if 3 ≤ x.1 ∧ x.1 ≤ 4 then (.one x.1 0 (builtT k l (at_ + 1)).1, (builtT k l (at_ + 1)).2)
      else (.leaf x.1 x.2, at_ + 1)
theorem builtT_le : ∀ (k : Nat) (l : List (Int × Int)) (i : Nat), i ≤ l.length → i ≤ (builtT k l i).2 ∧ (builtT k l i).2 ≤ l.length ∧ (builtT k l i).1.size ≤ 2 * ((builtT k l i).2 - i) + 1
  | 0, l, i, h => by simp only [builtT, T.size]; omega
  | k + 1, l, i, h => by
    unfold builtT
    cases hx : l[i]? with
    | none => simp only [T.size]; omega
    | some x =>
      have hi : i < l.length := (List.getElem?_eq_some_iff.1 hx).1
      have h1 := builtT_le k l (i + 1) (by omega)
      have h2 := builtT_le k l (builtT k l (i + 1)).2 (by omega)
      dsimp only
      split
      · simp only [T.size]; omega
      · split
        · simp only [T.size]; omega
        · simp only [T.size]; omega

theorem termOf_any (n : Int) (w : World) : Calls Tryd.prog 39 #[.int .u32 n] w fun e w' => e = .returned (.agg #[.int .i64 1, .int .u32 n, .slice none 0 0]) ∧ w' = w.alloc (.cells #[.int .i64 1, .int .u32 n, .slice none 0 0] 28) := by
  go_enter Tryd.func39, Tryd.ntmps39
  go_wp2
  exact bodyPost_ret (v := .agg #[.int .i64 1, .int .u32 n, .slice none 0 0]) (by simp [results, Tryd.results39, go_sem]) rfl ⟨rfl, rfl⟩

end Go.Proofs.YtnjmfedleimlmaaDoor

/- Words of 32 bits as natural numbers: a shift by one bit, by many, single bits, sums with a carry. No program in sight. -/
namespace Go.Proofs.YtnjmfedleimlmaaDoor.Rm

/-- a word that is shifted by one bit: 0 up, 1 down, 2 down with the sign, else turned down -/
def oneW (k : Int) (x : Nat) : Nat :=
  if k = 0 then x * 2 % 4294967296 else if k = 1 then x / 2 else if k = 2 then x / 2 + x / 2147483648 * 2147483648 else x / 2 + x % 2 * 2147483648
/-- what goes out -/
def oneC (k : Int) (x : Nat) : Nat := if k = 0 then x / 2147483648 else x % 2
def itW (k : Int) : Nat → Nat → Nat
  | 0, x => x
  | n + 1, x => oneW k (itW k n x)
def itC (k : Int) : Nat → Nat → Nat → Nat
  | 0, _, c => c
  | n + 1, x, _ => oneC k (itW k n x)
/-- a bit of a word, 0 where there is none -/
def bitN (x : Nat) (n : Int) : Nat := if n < 0 ∨ 31 < n then 0 else x / 2 ^ n.toNat % 2
/-- which bit comes to a place -/
def srcN (k i n : Int) : Int := if k = 0 then i - n else if k = 3 then (i + n) % 32 else if 31 < i + n ∧ k = 2 then 31 else i + n

theorem oneW_lt (k : Int) (x : Nat) (h : x < 4294967296) : oneW k x < 4294967296 := by
  unfold oneW; repeat' split
  all_goals omega
theorem oneC_lt (k : Int) (x : Nat) (h : x < 4294967296) : oneC k x < 2 := by
  unfold oneC; split <;> omega
theorem itW_lt (k : Int) (n x : Nat) (h : x < 4294967296) : itW k n x < 4294967296 := by
  induction n with
  | zero => exact h
  | succ n ih => exact oneW_lt k _ ih
theorem itC_lt (k : Int) (n x c : Nat) (h : x < 4294967296) (hc : c < 2) : itC k n x c < 2 := by
  cases n with
  | zero => exact hc
  | succ n => exact oneC_lt k _ (itW_lt k n x h)
theorem bitN_lt (x : Nat) (n : Int) : bitN x n < 2 := by
  unfold bitN; split <;> omega

theorem places (i : Int) (h0 : 0 ≤ i) (h1 : i ≤ 31) : i = 0 ∨ i = 1 ∨ i = 2 ∨ i = 3 ∨ i = 4 ∨ i = 5 ∨ i = 6 ∨ i = 7 ∨ i = 8 ∨ i = 9 ∨ i = 10 ∨ i = 11 ∨ i = 12 ∨ i = 13 ∨ i = 14 ∨ i = 15 ∨ i = 16 ∨ i = 17 ∨ i = 18 ∨ i = 19 ∨ i = 20 ∨ i = 21 ∨ i = 22 ∨ i = 23 ∨ i = 24 ∨ i = 25 ∨ i = 26 ∨ i = 27 ∨ i = 28 ∨ i = 29 ∨ i = 30 ∨ i = 31 := by omega

theorem bit_up (x : Nat) (i : Int) (h0 : 0 ≤ i) (h1 : i ≤ 31) : bitN (x * 2 % 4294967296) i = bitN x (i - 1) := by
  rcases places i h0 h1 with h | h | h | h | h | h | h | h | h | h | h | h | h | h | h | h | h | h | h | h | h | h | h | h | h | h | h | h | h | h | h | h <;> subst h <;> simp [bitN] <;> omega
theorem bit_down (x : Nat) (hx : x < 4294967296) (i : Int) (h0 : 0 ≤ i) (h1 : i ≤ 31) : bitN (x / 2) i = bitN x (i + 1) := by
  rcases places i h0 h1 with h | h | h | h | h | h | h | h | h | h | h | h | h | h | h | h | h | h | h | h | h | h | h | h | h | h | h | h | h | h | h | h <;> subst h <;> simp [bitN] <;> omega
theorem bit_side (x : Nat) (hx : x < 4294967296) (i : Int) (h0 : 0 ≤ i) (h1 : i ≤ 31) : bitN (x / 2 + x / 2147483648 * 2147483648) i = bitN x (if 31 < i + 1 then 31 else i + 1) := by
  rcases places i h0 h1 with h | h | h | h | h | h | h | h | h | h | h | h | h | h | h | h | h | h | h | h | h | h | h | h | h | h | h | h | h | h | h | h <;> subst h <;> simp [bitN] <;> omega
theorem bit_turn (x : Nat) (hx : x < 4294967296) (i : Int) (h0 : 0 ≤ i) (h1 : i ≤ 31) : bitN (x / 2 + x % 2 * 2147483648) i = bitN x ((i + 1) % 32) := by
  have hp : x % 2 = 0 ∨ x % 2 = 1 := by omega
  rcases hp with hp | hp <;> rw [hp] <;>
  rcases places i h0 h1 with h | h | h | h | h | h | h | h | h | h | h | h | h | h | h | h | h | h | h | h | h | h | h | h | h | h | h | h | h | h | h | h <;> subst h <;> simp [bitN] <;> omega

theorem bit_one (k : Int) (hk : k = 0 ∨ k = 1 ∨ k = 2 ∨ k = 3) (x : Nat) (hx : x < 4294967296) (i : Int) (h0 : 0 ≤ i) (h1 : i ≤ 31) : bitN (oneW k x) i = bitN x (srcN k i 1) := by
  rcases hk with rfl | rfl | rfl | rfl
  · simpa [oneW, srcN] using bit_up x i h0 h1
  · simpa [oneW, srcN] using bit_down x hx i h0 h1
  · simpa [oneW, srcN] using bit_side x hx i h0 h1
  · simpa [oneW, srcN] using bit_turn x hx i h0 h1

theorem bitN_out (x : Nat) (i : Int) (h : i < 0 ∨ 31 < i) : bitN x i = 0 := by simp [bitN, h]

theorem bit_it (k : Int) (hk : k = 0 ∨ k = 1 ∨ k = 2 ∨ k = 3) (x : Nat) (hx : x < 4294967296) (n : Nat) : ∀ (i : Int), 0 ≤ i → i ≤ 31 → bitN (itW k n x) i = bitN x (srcN k i n) := by
  induction n with
  | zero =>
    intro i h0 h1
    have e : srcN k i (0 : Nat) = i := by rcases hk with rfl | rfl | rfl | rfl <;> simp [srcN] <;> omega
    rw [e]; rfl
  | succ n ih =>
    intro i h0 h1
    show bitN (oneW k (itW k n x)) i = _
    rw [bit_one k hk _ (itW_lt k n x hx) i h0 h1]
    by_cases hj : 0 ≤ srcN k i 1 ∧ srcN k i 1 ≤ 31
    · rw [ih _ hj.1 hj.2]
      congr 1
      rcases hk with rfl | rfl | rfl | rfl <;> simp only [srcN] at hj ⊢ <;> simp at hj ⊢ <;> repeat' split
      all_goals omega
    · rw [bitN_out _ _ (by omega), bitN_out]
      rcases hk with rfl | rfl | rfl | rfl <;> simp only [srcN] at hj ⊢ <;> simp at hj ⊢ <;> (repeat' split at hj) <;> (repeat' split)
      all_goals omega

theorem carry_it (k : Int) (hk : k = 0 ∨ k = 1 ∨ k = 2 ∨ k = 3) (x : Nat) (hx : x < 4294967296) (n c : Nat) :
    itC k (n + 1) x c = if k = 0 then bitN x (32 - (n + 1 : Nat)) else bitN x (srcN k 0 n) := by
  show oneC k (itW k n x) = _
  have hl := itW_lt k n x hx
  by_cases h : k = 0
  · have hb := bit_it k hk x hx n 31 (by omega) (by omega)
    have e : srcN k 31 n = 32 - (n + 1 : Nat) := by simp [srcN, h]; omega
    rw [e] at hb
    rw [if_pos h, ← hb]
    simp [oneC, h, bitN] at hl ⊢
    subst h
    omega
  · have hb := bit_it k hk x hx n 0 (by omega) (by omega)
    rw [if_neg h, ← hb]
    simp [oneC, h, bitN]

theorem bitN_test (x : Nat) (i : Nat) (h : i < 32) : bitN x i = (x.testBit i).toNat := by
  rw [Nat.testBit_eq_decide_div_mod_eq]
  simp only [bitN]
  rw [if_neg (by omega)]
  have : x / 2 ^ i % 2 = 0 ∨ x / 2 ^ i % 2 = 1 := by omega
  rcases this with h | h <;> simp [h]

theorem word_ext (x y : Nat) (hx : x < 4294967296) (hy : y < 4294967296) (h : ∀ i : Nat, i < 32 → bitN x i = bitN y i) : x = y := by
  apply Nat.eq_of_testBit_eq
  intro i
  by_cases hi : i < 32
  · have := h i hi
    rw [bitN_test x i hi, bitN_test y i hi] at this
    revert this
    cases x.testBit i <;> cases y.testBit i <;> simp
  · have hp : (4294967296 : Nat) ≤ 2 ^ i := by
      have : 2 ^ 32 ≤ 2 ^ i := Nat.pow_le_pow_right (by omega) (by omega)
      omega
    rw [Nat.testBit_lt_two_pow (by omega), Nat.testBit_lt_two_pow (by omega)]

/-- the document's way from the highest bit down -/
theorem down_step (y : Nat) (i : Nat) (h : i ≤ 31) : y / 2 ^ (i + 1) * 2 + bitN y i = y / 2 ^ i := by
  simp only [bitN]
  rw [if_neg (by omega)]
  have e : y / 2 ^ (i + 1) = y / 2 ^ i / 2 := by rw [Nat.pow_succ, Nat.div_div_eq_div_mul]
  rw [e]
  simp only [Int.toNat_natCast]
  omega

/-! sums -/
def sgn (x : Int) : Int := if x ≥ 2147483648 then x - 4294967296 else x
def one01 (c : Int) : Int := min c 1
def addS (x y c : Int) : Int := (x + y + one01 c) % 4294967296
def addC (x y c : Int) : Int := (x + y + one01 c) / 4294967296
def addV (x y c : Int) : Int := if sgn x + sgn y + one01 c = sgn (addS x y c) then 0 else 1

theorem top_xor (a b : Nat) (ha : a < 4294967296) (hb : b < 4294967296) : (a ^^^ b) / 2147483648 = (a / 2147483648 + b / 2147483648) % 2 := by
  have h1 : (a ^^^ b) / 2 ^ 31 = (a / 2 ^ 31) ^^^ (b / 2 ^ 31) := Nat.xor_div_two_pow
  have h2 : a / 2147483648 < 2 := by omega
  have h3 : b / 2147483648 < 2 := by omega
  have h1' : (a ^^^ b) / 2147483648 = (a / 2147483648) ^^^ (b / 2147483648) := h1
  rw [h1']
  generalize a / 2147483648 = p at *
  generalize b / 2147483648 = q at *
  have hp : p = 0 ∨ p = 1 := by omega
  have hq : q = 0 ∨ q = 1 := by omega
  rcases hp with rfl | rfl <;> rcases hq with rfl | rfl <;> rfl
theorem top_and (a b : Nat) (ha : a < 4294967296) (hb : b < 4294967296) : (a &&& b) / 2147483648 = (a / 2147483648) * (b / 2147483648) := by
  have h1 : (a &&& b) / 2 ^ 31 = (a / 2 ^ 31) &&& (b / 2 ^ 31) := Nat.and_div_two_pow
  have h2 : a / 2147483648 < 2 := by omega
  have h3 : b / 2147483648 < 2 := by omega
  have h1' : (a &&& b) / 2147483648 = (a / 2147483648) &&& (b / 2147483648) := h1
  rw [h1']
  generalize a / 2147483648 = p at *
  generalize b / 2147483648 = q at *
  have hp : p = 0 ∨ p = 1 := by omega
  have hq : q = 0 ∨ q = 1 := by omega
  rcases hp with rfl | rfl <;> rcases hq with rfl | rfl <;> rfl

theorem over_is (x y s : Int) (hx0 : 0 ≤ x) (hx : x ≤ 4294967295) (hy0 : 0 ≤ y) (hy : y ≤ 4294967295) (hs0 : 0 ≤ s) (hs : s ≤ 4294967295) :
    bits .and .u32 (bits .xor .u32 x s) (bits .xor .u32 y s) / 2147483648 = ((x / 2147483648 + s / 2147483648) % 2) * ((y / 2147483648 + s / 2147483648) % 2) := by
  rw [u32_xor x s hx0 (by omega) hs0 (by omega), u32_xor y s hy0 (by omega) hs0 (by omega)]
  have l1 : x.toNat ^^^ s.toNat < 4294967296 := Nat.xor_lt_two_pow (n := 32) (by omega) (by omega)
  have l2 : y.toNat ^^^ s.toNat < 4294967296 := Nat.xor_lt_two_pow (n := 32) (by omega) (by omega)
  rw [u32_and_nat _ _ l1 l2]
  have h := top_and _ _ l1 l2
  rw [top_xor _ _ (by omega) (by omega), top_xor _ _ (by omega) (by omega)] at h
  have e : (((x.toNat ^^^ s.toNat) &&& (y.toNat ^^^ s.toNat) : Nat) : Int) / 2147483648 = ((((x.toNat ^^^ s.toNat) &&& (y.toNat ^^^ s.toNat)) / 2147483648 : Nat) : Int) := by omega
  rw [e, h]
  have ex : ((x.toNat / 2147483648 : Nat) : Int) = x / 2147483648 := by omega
  have ey : ((y.toNat / 2147483648 : Nat) : Int) = y / 2147483648 := by omega
  have es : ((s.toNat / 2147483648 : Nat) : Int) = s / 2147483648 := by omega
  rw [Int.natCast_mul, Int.natCast_emod, Int.natCast_emod, Int.natCast_add, Int.natCast_add, ex, ey, es]
  rfl

theorem addV_is (x y c : Int) (hc0 : 0 ≤ c) (hx0 : 0 ≤ x) (hx : x ≤ 4294967295) (hy0 : 0 ≤ y) (hy : y ≤ 4294967295) :
    bits .and .u32 (bits .xor .u32 x (addS x y c)) (bits .xor .u32 y (addS x y c)) / 2147483648 = addV x y c := by
  rw [over_is x y _ hx0 hx hy0 hy (by unfold addS; omega) (by unfold addS; omega)]
  have hc : one01 c = 0 ∨ one01 c = 1 := by unfold one01; omega
  unfold addV addS
  generalize one01 c = o at *
  have hs : (x + y + o) % 4294967296 / 2147483648 = 0 ∨ (x + y + o) % 4294967296 / 2147483648 = 1 := by omega
  have hx' : x / 2147483648 = 0 ∨ x / 2147483648 = 1 := by omega
  have hy' : y / 2147483648 = 0 ∨ y / 2147483648 = 1 := by omega
  rcases hs with hs | hs <;> rcases hx' with h1 | h1 <;> rcases hy' with h2 | h2 <;> rw [hs, h1, h2] <;> simp [sgn] <;> (repeat' split) <;> omega

theorem one01_if (c : Int) (h0 : 0 ≤ c) : (if c = 0 then 0 else 1) = one01 c := by unfold one01; split <;> omega
theorem sgn_bd (x : Int) (hx0 : 0 ≤ x) (hx : x ≤ 4294967295) : -2147483648 ≤ sgn x ∧ sgn x ≤ 2147483647 := by unfold sgn; split <;> omega
theorem addS_bd (x y c : Int) : 0 ≤ addS x y c ∧ addS x y c ≤ 4294967295 := by unfold addS; omega
theorem addC_bd (x y c : Int) (hc0 : 0 ≤ c) (hx0 : 0 ≤ x) (hx : x ≤ 4294967295) (hy0 : 0 ≤ y) (hy : y ≤ 4294967295) : 0 ≤ addC x y c ∧ addC x y c ≤ 1 := by unfold addC one01; omega
theorem addV_bd (x y c : Int) : 0 ≤ addV x y c ∧ addV x y c ≤ 1 := by unfold addV; split <;> omega
theorem pair_or (hi lo : Int) (h0 : 0 ≤ lo) (h1 : lo ≤ 4294967295) (h2 : 0 ≤ hi) (h3 : hi ≤ 4294967295) : bits .or .u64 (hi * 4294967296) lo = hi * 4294967296 + lo := by
  rw [u64_or _ _ (by omega) (by omega) h0 (by omega)]
  have e : (hi * 4294967296).toNat = hi.toNat * 2 ^ 32 := by omega
  rw [e, nat_join 32 _ _ (by omega) (by omega)]
  omega
theorem bitN_in (x n : Int) (h0 : 0 ≤ n) (h1 : n ≤ 31) (hx : 0 ≤ x) : ((bitN x.toNat n : Nat) : Int) = x / 2 ^ n.toNat % 2 := by
  unfold bitN
  rw [if_neg (by omega)]
  have e : x = (x.toNat : Int) := by omega
  rw [Int.natCast_emod, Int.natCast_ediv, ← e, Int.natCast_pow]
  rfl
theorem and1 (x : Int) (h0 : 0 ≤ x) (h1 : x ≤ 4294967295) : bits .and .u32 x 1 = x % 2 := by
  rw [u32_and x 1 h0 (by omega) (by omega) (by omega)]
  have e : x.toNat &&& (1 : Int).toNat = x.toNat % 2 := nat_mask1 _
  rw [e]; omega
theorem shr_bd (x : Int) (n : Nat) (h0 : 0 ≤ x) (h1 : x ≤ 4294967295) : 0 ≤ x / 2 ^ n ∧ x / 2 ^ n ≤ 4294967295 := by
  have hp : (0 : Int) < 2 ^ n := Int.pow_pos (by omega)
  exact ⟨Int.ediv_nonneg h0 (by omega), Int.le_trans (Int.ediv_le_self _ h0) h1⟩
theorem or_top (a b : Int) (h0 : 0 ≤ a) (h1 : a ≤ 2147483647) (h2 : 0 ≤ b) (h3 : b ≤ 1) : bits .or .u32 a (b * 2147483648) = a + b * 2147483648 := by
  rw [u32_or _ _ h0 (by omega) (by omega) (by omega), Nat.or_comm]
  have e : (b * 2147483648).toNat = b.toNat * 2 ^ 31 := by omega
  rw [e, nat_join 31 _ _ (by omega) (by omega)]
  omega
theorem bitLen_le32 (x : Nat) (h : x ≤ 4294967295) : Lib.bitLen x ≤ 32 := Lib.bitLen_le x 32 (by omega) (by omega)
theorem bitLen_half (y : Nat) (h : 0 < y) (hy : y ≤ 4294967295) : Lib.bitLen y = Lib.bitLen (y / 2) + 1 := by
  rw [Lib.bitLen_half y (by omega) (by omega), Nat.add_comm]
theorem nat_not32 (y : Nat) (h : y < 4294967296) : 4294967295 ^^^ y = 4294967295 - y := by
  have e := congrArg BitVec.toNat (BitVec.allOnes_xor (x := BitVec.ofNat 32 y))
  rw [BitVec.toNat_xor, BitVec.toNat_not, BitVec.toNat_allOnes, BitVec.toNat_ofNat, Nat.mod_eq_of_lt (by omega)] at e
  exact e
theorem not32 (y : Int) (h0 : 0 ≤ y) (h1 : y ≤ 4294967295) : bits .xor .u32 IntKind.u32.max y = 4294967295 - y := by
  have e : IntKind.u32.max = 4294967295 := by decide
  rw [e, u32_xor _ _ (by omega) (by omega) h0 (by omega)]
  have e2 : (4294967295 : Int).toNat ^^^ y.toNat = 4294967295 - y.toNat := nat_not32 _ (by omega)
  rw [e2]; omega
end Go.Proofs.YtnjmfedleimlmaaDoor.Rm

/- The length of a word of 32 bits: the library's own text is walked (by the kit's template of that contract). -/
namespace Go.Proofs.YtnjmfedleimlmaaDoor

set_option maxHeartbeats 4000000 in
set_option maxRecDepth 100000 in
theorem len32_any (x : Int) (w : World) (h0 : 0 ≤ x) (h1 : x ≤ 4294967295) :
    Calls Tryd.prog 112 #[.int .u32 x] w fun e w' => e = .returned (.int .i64 (Lib.bitLen x.toNat)) ∧ w = w' := by
  go_enter Tryd.func112, Tryd.ntmps112
  go_wp2
  all_goals (go_ret; refine ⟨congrArg Ending.returned (congrArg (Value.int IntKind.i64) ?_), rfl⟩)
  all_goals first
    | (rw [Lib.len8_of (x / 65536 / 256 % 256) (by omega) (by omega)]
       have e : (x / 65536 / 256 % 256).toNat = x.toNat / 16777216 := by omega
       have l := Lib.bitLen_le8' (x / 65536 / 256 % 256) (by omega) (by omega)
       have s := Lib.bitLen_shift24 x.toNat (by omega) (by omega)
       rw [e] at l ⊢
       omega)
    | (rw [Lib.len8_of (x / 65536 % 256) (by omega) (by omega)]
       have e : (x / 65536 % 256).toNat = x.toNat / 65536 := by omega
       have l := Lib.bitLen_le8' (x / 65536 % 256) (by omega) (by omega)
       have s := Lib.bitLen_shift16 x.toNat (by omega) (by omega)
       rw [e] at l ⊢
       omega)
    | (rw [Lib.len8_of (x / 256 % 256) (by omega) (by omega)]
       have e : (x / 256 % 256).toNat = x.toNat / 256 := by omega
       have l := Lib.bitLen_le8' (x / 256 % 256) (by omega) (by omega)
       have s := Lib.bitLen_shift8 x.toNat (by omega) (by omega)
       rw [e] at l ⊢
       omega)
    | (rw [Lib.len8_of (x % 256) (by omega) (by omega)]
       have e : (x % 256).toNat = x.toNat := by omega
       have l := Lib.bitLen_le8' (x % 256) (by omega) (by omega)
       rw [e] at l ⊢
       omega)

end Go.Proofs.YtnjmfedleimlmaaDoor

/- Walks of the words' functions without a loop: a sum of 32 bits with a carry, its flags, the document's sum, a shift by one bit, a word's length, products, pairs. -/
namespace Go.Proofs.YtnjmfedleimlmaaDoor
open Go.RowKit

theorem ret_i {k : IntKind} {a b : Int} (h : a = b) : Ending.returned (.int k a) = .returned (.int k b) := by rw [h]
theorem ret_2 {k l : IntKind} {a b c d : Int} (h : a = b) (g : c = d) : Ending.returned (.tuple #[.int k a, .int l c]) = .returned (.tuple #[.int k b, .int l d]) := by rw [h, g]
theorem ret_3 {k l m : IntKind} {a b c d p q : Int} (h : a = b) (g : c = d) (f : p = q) : Ending.returned (.tuple #[.int k a, .int l c, .int m p]) = .returned (.tuple #[.int k b, .int l d, .int m q]) := by rw [h, g, f]
theorem ret_b {a b : Bool} (h : a = b) : Ending.returned (.bool a) = .returned (.bool b) := by rw [h]

theorem add32_any (x y c : Int) (w : World) (hx0 : 0 ≤ x) (hx1 : x ≤ 4294967295) (hy0 : 0 ≤ y) (hy1 : y ≤ 4294967295) (hc0 : 0 ≤ c) (hc1 : c ≤ 1) :
    Calls Tryd.prog 114 #[.int .u32 x, .int .u32 y, .int .u32 c] w fun e w' => e = .returned (.tuple #[.int .u32 ((x + y + c) % 4294967296), .int .u32 ((x + y + c) / 4294967296)]) ∧ w = w' := by
  go_enter Tryd.func114, Tryd.ntmps114
  go_wp2
  go_ret2
  exact ⟨ret_2 (by omega) (by omega), rfl⟩

theorem mul32_any (x y : Int) (w : World) (hx0 : 0 ≤ x) (hx1 : x ≤ 4294967295) (hy0 : 0 ≤ y) (hy1 : y ≤ 4294967295) :
    Calls Tryd.prog 115 #[.int .u32 x, .int .u32 y] w fun e w' => e = .returned (.tuple #[.int .u32 (x * y / 4294967296), .int .u32 (x * y % 4294967296)]) ∧ w = w' := by
  have hp := prod_bound x y hx0 hx1 hy0 hy1
  go_enter Tryd.func115, Tryd.ntmps115
  go_wp2
  go_ret2
  exact ⟨ret_2 (by omega) (by omega), rfl⟩

theorem len_any (x : Int) (w : World) (h0 : 0 ≤ x) (h1 : x ≤ 4294967295) :
    Calls Tryd.prog 117 #[.int .u32 x] w fun e w' => e = .returned (.int .i64 (Lib.bitLen x.toNat)) ∧ w = w' := by
  go_enter Tryd.func117, Tryd.ntmps117
  go_wp2_with (go_at_call 112; refine (len32_any _ _ h0 h1).mono ?_; rintro e w' ⟨rfl, rfl⟩)
  go_ret
  exact ⟨rfl, rfl⟩

end Go.Proofs.YtnjmfedleimlmaaDoor

/- Walks of the words' functions with a loop: a shift by many bits, a bit, the document's shift, the document's length. -/
namespace Go.Proofs.YtnjmfedleimlmaaDoor
open Go.RowKit

end Go.Proofs.YtnjmfedleimlmaaDoor

/- More of words as numbers: turned there and back, shifted out and back; halves of signed words. No program in sight. -/
namespace Go.Proofs.YtnjmfedleimlmaaDoor.Rm
open Go.RowKit

theorem turn_back (x n : Nat) (hx : x < 4294967296) (hn : n ≤ 32) : itW 3 (32 - n) (itW 3 n x) = x := by
  have h3 : (3 : Int) = 0 ∨ (3 : Int) = 1 ∨ (3 : Int) = 2 ∨ (3 : Int) = 3 := by omega
  have hy := itW_lt 3 n x hx
  refine word_ext _ _ (itW_lt 3 _ _ hy) hx ?_
  intro i hi
  rw [bit_it 3 h3 _ hy _ _ (by omega) (by omega), bit_it 3 h3 x hx n _ (by simp [srcN]; omega) (by simp [srcN]; omega)]
  congr 1
  simp [srcN]
  omega

theorem out_back (x n : Nat) (hx : x < 4294967296) (i : Int) (h0 : 0 ≤ i) (h1 : i ≤ 31) : bitN (itW 1 n (itW 0 n x)) i = if i < 32 - (n : Int) then bitN x i else 0 := by
  have hy := itW_lt 0 n x hx
  rw [bit_it 1 (by omega) _ hy n i h0 h1]
  have e : srcN 1 i n = i + n := by simp [srcN]
  rw [e]
  split
  · rw [bit_it 0 (by omega) x hx n _ (by omega) (by omega)]
    congr 1
    simp [srcN]
  · exact bitN_out _ _ (by omega)

theorem half_neg (c m : Int) (h : c = 2 * m) : c.tdiv 2 = m := by subst h; exact Int.mul_tdiv_cancel_left m (by omega)

theorem oneW2 (y : Nat) : oneW 2 y = y / 2 + y / 2147483648 * 2147483648 := by simp [oneW]
theorem sgn_mod (y : Nat) (hy : y < 4294967296) : sgn (y : Int) % 4294967296 = (y : Int) := by unfold sgn; split <;> omega
theorem sgn_wrap (x : Int) (h0 : 0 ≤ x) (h1 : x ≤ 4294967295) : wrap32 x = sgn x := by unfold sgn wrap32; split <;> omega
theorem side_step (y : Nat) (hy : y < 4294967296) : ∃ m : Int, sgn (y : Int) - (y : Int) % 2 = 2 * m ∧ -2147483648 ≤ sgn (y : Int) - (y : Int) % 2 ∧ sgn (y : Int) - (y : Int) % 2 ≤ 2147483647 ∧ -2147483648 ≤ m ∧ m ≤ 2147483647 ∧ m = sgn ((oneW 2 y : Nat) : Int) := by
  rw [oneW2]
  unfold sgn
  refine ⟨((if (y : Int) ≥ 2147483648 then (y : Int) - 4294967296 else (y : Int)) - (y : Int) % 2) / 2, ?_⟩
  by_cases h : (y : Int) ≥ 2147483648
  · have e : y / 2147483648 = 1 := by omega
    rw [if_pos h, e, if_pos (by omega)]
    omega
  · have e : y / 2147483648 = 0 := by omega
    rw [if_neg h, e, if_neg (by omega)]
    omega

end Go.Proofs.YtnjmfedleimlmaaDoor.Rm

/- Numbers of twelve bits that are words: the word of a number, the number of a word, and that the two agree. No program in sight. -/
namespace Go.Proofs.YtnjmfedleimlmaaDoor.Rm

def fac (i : Nat) : Nat := if i = 0 then 1 else if i = 1 then 65537 else if i = 2 then 16777472 else 16843009
/-- a number's word, if it has one (numbers below 4096) -/
def immW (n : Nat) : Option Nat :=
  if 1024 ≤ n then some (itW 3 (n / 128) (n % 128 + 128)) else if 256 ≤ n ∧ n % 256 = 0 then none else some (n % 256 * fac (n / 256))
/-- one try: is the word the byte, taken that often? -/
def tryB (x i b : Nat) : Bool := b * fac i % 4294967296 == x && (i == 0 || b != 0)
def rep (x : Nat) : Option Nat :=
  if tryB x 0 (x % 256) then some (x % 256) else if tryB x 0 (x / 256 % 256) then some (x / 256 % 256)
  else if tryB x 1 (x % 256) then some (256 + x % 256) else if tryB x 1 (x / 256 % 256) then some (256 + x / 256 % 256)
  else if tryB x 2 (x % 256) then some (512 + x % 256) else if tryB x 2 (x / 256 % 256) then some (512 + x / 256 % 256)
  else if tryB x 3 (x % 256) then some (768 + x % 256) else if tryB x 3 (x / 256 % 256) then some (768 + x / 256 % 256)
  else none
/-- turned up by s bits -/
def rotl (x s : Nat) : Nat := itW 3 (32 - s % 32) x
def turnedN (x : Nat) : Option Nat :=
  if 255 < rotl x (40 - Lib.bitLen x) ∨ 32 ≤ 40 - Lib.bitLen x then none else some ((40 - Lib.bitLen x) * 128 + rotl x (40 - Lib.bitLen x) % 128)
/-- a word's number, if it is some number's word -/
def dec (x : Nat) : Option Nat := match rep x with | some n => some n | none => turnedN x

theorem immW_lt (n x : Nat) (h : immW n = some x) : x < 4294967296 := by
  unfold immW at h
  split at h
  · cases h; exact itW_lt _ _ _ (by omega)
  · split at h
    · cases h
    · cases h
      have hf : fac (n / 256) ≤ 16843009 := by unfold fac; (repeat' split) <;> omega
      have hb : n % 256 ≤ 255 := by omega
      have := Nat.mul_le_mul hb hf
      omega

theorem round_all : (List.range 4096).all (fun n => match immW n with | none => true | some x => dec x == some n) = true := by decide +kernel
theorem dec_of (n x : Nat) (hn : n < 4096) (h : immW n = some x) : dec x = some n := by
  have h1 := List.all_eq_true.1 round_all n (List.mem_range.2 hn)
  rw [h] at h1
  simpa using h1
theorem immW_inj (a b x : Nat) (ha : a < 4096) (hb : b < 4096) (h : immW a = some x) (g : immW b = some x) : a = b := by
  have h1 := dec_of a x ha h
  have h2 := dec_of b x hb g
  rw [h1] at h2
  exact Option.some.inj h2

theorem immW_small (i b x : Nat) (hi : i < 4) (hb : b < 256) (h : i = 0 ∨ b ≠ 0) (hx : b * fac i % 4294967296 = x) : immW (i * 256 + b) = some x := by
  have hf : fac i ≤ 16843009 := by unfold fac; (repeat' split) <;> omega
  have hm := Nat.mul_le_mul (show b ≤ 255 by omega) hf
  unfold immW
  rw [if_neg (by omega), if_neg (by omega), show (i * 256 + b) % 256 = b by omega, show (i * 256 + b) / 256 = i by omega, ← hx, Nat.mod_eq_of_lt (by omega)]

theorem rep_ok (x n : Nat) (h : rep x = some n) : immW n = some x ∧ n < 4096 := by
  have key : ∀ i b, i < 4 → b < 256 → tryB x i b = true → immW (i * 256 + b) = some x ∧ i * 256 + b < 4096 := by
    intro i b hi hb ht
    simp only [tryB, Bool.and_eq_true, beq_iff_eq, Bool.or_eq_true, bne_iff_ne, ne_eq] at ht
    exact ⟨immW_small i b x hi hb ht.2 ht.1, by omega⟩
  have h1 : x % 256 < 256 := by omega
  have h2 : x / 256 % 256 < 256 := by omega
  unfold rep at h
  split at h
  · rename_i t; cases h; have := key 0 _ (by omega) h1 t; simpa using this
  split at h
  · rename_i t; cases h; have := key 0 _ (by omega) h2 t; simpa using this
  split at h
  · rename_i t; cases h; have := key 1 _ (by omega) h1 t; simpa using this
  split at h
  · rename_i t; cases h; have := key 1 _ (by omega) h2 t; simpa using this
  split at h
  · rename_i t; cases h; have := key 2 _ (by omega) h1 t; simpa using this
  split at h
  · rename_i t; cases h; have := key 2 _ (by omega) h2 t; simpa using this
  split at h
  · rename_i t; cases h; have := key 3 _ (by omega) h1 t; simpa using this
  split at h
  · rename_i t; cases h; have := key 3 _ (by omega) h2 t; simpa using this
  · cases h

theorem rotl_lt (x s : Nat) (hx : x < 4294967296) : rotl x s < 4294967296 := itW_lt _ _ _ hx
theorem rotl_back (x s : Nat) (hx : x < 4294967296) (hs : s < 32) : itW 3 s (rotl x s) = x := by
  have h := turn_back x (32 - s) hx (by omega)
  unfold rotl
  rw [show s % 32 = s by omega]
  rwa [show 32 - (32 - s) = s by omega] at h
theorem bit_rotl (x s : Nat) (hx : x < 4294967296) (i : Int) (h0 : 0 ≤ i) (h1 : i ≤ 31) : bitN (rotl x s) i = bitN x ((i + 32 - (s % 32 : Nat)) % 32) := by
  unfold rotl
  rw [bit_it 3 (by omega) x hx _ i h0 h1]
  congr 1
  simp [srcN]
  omega

theorem top_bit (x : Nat) (hx : x < 4294967296) (h0 : x ≠ 0) : bitN x ((Lib.bitLen x : Int) - 1) = 1 := by
  have hb := bitLen_le32 x (by omega)
  obtain ⟨h1, h2, h3⟩ := Lib.bitLenAux_bounds 64 x (by omega) h0
  have e : Lib.bitLenAux 64 x = Lib.bitLen x := rfl
  rw [e] at h1 h2 h3
  unfold bitN
  rw [if_neg (by omega), show ((Lib.bitLen x : Int) - 1).toNat = Lib.bitLen x - 1 by omega]
  have e2 : 2 ^ Lib.bitLen x = 2 * 2 ^ (Lib.bitLen x - 1) := by
    rw [← Nat.pow_succ', show (Lib.bitLen x - 1).succ = Lib.bitLen x by omega]
  rw [e2] at h3
  have hp : 0 < 2 ^ (Lib.bitLen x - 1) := Nat.two_pow_pos _
  have h4 : x / 2 ^ (Lib.bitLen x - 1) = 1 := by
    apply Nat.div_eq_of_lt_le
    · omega
    · omega
  rw [h4]

theorem turned_ok (x n : Nat) (hx : x < 4294967296) (h0 : x ≠ 0) (h : turnedN x = some n) : immW n = some x ∧ n < 4096 := by
  unfold turnedN at h
  split at h
  · cases h
  · rename_i hc
    cases h
    have hb := bitLen_le32 x (by omega)
    obtain ⟨s, hs⟩ : ∃ s, 40 - Lib.bitLen x = s := ⟨_, rfl⟩
    rw [hs] at hc ⊢
    have hs2 : s < 32 := by omega
    have hs8 : 8 ≤ s := by omega
    obtain ⟨y, hy⟩ : ∃ y, rotl x s = y := ⟨_, rfl⟩
    have hback := rotl_back x s hx hs2
    have hbit := bit_rotl x s hx 7 (by omega) (by omega)
    have ht := top_bit x hx h0
    rw [show ((7 : Int) + 32 - (s % 32 : Nat)) % 32 = (Lib.bitLen x : Int) - 1 by omega, ht] at hbit
    rw [hy] at hc hback hbit ⊢
    have hy255 : y ≤ 255 := by omega
    have hy128 : 128 ≤ y := by
      simp [bitN] at hbit
      omega
    have e1 : (s * 128 + y % 128) / 128 = s := by omega
    have e2 : (s * 128 + y % 128) % 128 + 128 = y := by omega
    refine ⟨?_, by omega⟩
    unfold immW
    rw [if_pos (by omega), e1, e2, hback]

theorem dec_ok (x n : Nat) (hx : x < 4294967296) (h : dec x = some n) : immW n = some x ∧ n < 4096 := by
  unfold dec at h
  split at h
  · rename_i m hm
    cases h
    exact rep_ok x n hm
  · rename_i hm
    refine turned_ok x n hx ?_ h
    rintro rfl
    revert hm
    decide

theorem dec_none (x : Nat) (h : dec x = none) (n : Nat) (hn : n < 4096) : immW n ≠ some x := by
  intro g
  rw [dec_of n x hn g] at h
  cases h

/-- the library's way to turn up -/
theorem rotl_is (x s : Nat) (hx : x < 4294967296) (hs : s < 32) : (x * 2 ^ s % 4294967296) ||| (x / 2 ^ (32 - s)) = rotl x s := by
  have hq : x / 2 ^ (32 - s) < 4294967296 := Nat.lt_of_le_of_lt (Nat.div_le_self _ _) hx
  refine word_ext _ _ (Nat.or_lt_two_pow (n := 32) (by omega) (by omega)) (rotl_lt x s hx) ?_
  intro i hi
  rw [bit_rotl x s hx i (by omega) (by omega), show s % 32 = s by omega, bitN_test _ i hi, Nat.testBit_or, show (4294967296 : Nat) = 2 ^ 32 from rfl, Nat.testBit_mod_two_pow, Nat.testBit_mul_two_pow, Nat.testBit_div_two_pow]
  by_cases h : s ≤ i
  · have e : (((i : Nat) : Int) + 32 - (s : Nat)) % 32 = ((i - s : Nat) : Int) := by omega
    have hp : 2 ^ 32 ≤ 2 ^ (i + (32 - s)) := Nat.pow_le_pow_right (by omega) (by omega)
    have z : x.testBit (i + (32 - s)) = false := Nat.testBit_lt_two_pow (Nat.lt_of_lt_of_le (show x < 2 ^ 32 from hx) hp)
    rw [e, bitN_test x _ (by omega), z]
    simp [h, hi]
  · have e : (((i : Nat) : Int) + 32 - (s : Nat)) % 32 = ((i + (32 - s) : Nat) : Int) := by omega
    rw [e, bitN_test x _ (by omega)]
    simp [h, hi]

end Go.Proofs.YtnjmfedleimlmaaDoor.Rm

/- What the tries for a repeated byte find, in the words of the walk; masks of 64 bits. No program in sight. -/
namespace Go.Proofs.YtnjmfedleimlmaaDoor.Rm

theorem try_iff (x b : Int) (i : Nat) (f : Int) (hi : (fac i : Int) = f) (hf : f ≤ 16843009) (hx0 : 0 ≤ x) (hx1 : x ≤ 4294967295) (hb0 : 0 ≤ b) (hb1 : b ≤ 255) : tryB x.toNat i b.toNat = true ↔ b * f = x ∧ (i = 0 ∨ b ≠ 0) := by
  simp only [tryB, Bool.and_eq_true, beq_iff_eq, Bool.or_eq_true, bne_iff_ne, ne_eq]
  have hm : b.toNat * fac i ≤ 255 * 16843009 := Nat.mul_le_mul (by omega) (by omega)
  rw [Nat.mod_eq_of_lt (by omega)]
  have e : b * f = ((b.toNat * fac i : Nat) : Int) := by rw [Int.natCast_mul, hi]; congr 1; omega
  rw [e]
  omega

/-- what the tries find, in the words of the walk -/
def repI (x : Int) : Option Int :=
  if x % 256 = x then some (x % 256) else if x / 256 % 256 = x then some (x / 256 % 256)
  else if x % 256 * 65537 = x then some (256 + x % 256) else if x / 256 % 256 * 65537 = x then some (256 + x / 256 % 256)
  else if x % 256 * 16777472 = x then some (512 + x % 256) else if x / 256 % 256 * 16777472 = x then some (512 + x / 256 % 256)
  else if x % 256 * 16843009 = x then some (768 + x % 256) else if x / 256 % 256 * 16843009 = x then some (768 + x / 256 % 256)
  else none
theorem rep_int (x : Int) (hx0 : 0 ≤ x) (hx1 : x ≤ 4294967295) : (rep x.toNat).map (fun n : Nat => (n : Int)) = repI x := by
  have l1 : x.toNat % 256 = (x % 256).toNat := by omega
  have l2 : x.toNat / 256 % 256 = (x / 256 % 256).toNat := by omega
  have b1 : 0 ≤ x % 256 ∧ x % 256 ≤ 255 := by omega
  have b2 : 0 ≤ x / 256 % 256 ∧ x / 256 % 256 ≤ 255 := by omega
  have c1 : (((x % 256).toNat : Nat) : Int) = x % 256 := by omega
  have c2 : (((x / 256 % 256).toNat : Nat) : Int) = x / 256 % 256 := by omega
  unfold rep repI
  rw [l1, l2]
  by_cases h0 : x % 256 = x
  · rw [if_pos ((try_iff x _ 0 1 rfl (by omega) hx0 hx1 b1.1 b1.2).2 ⟨by omega, .inl rfl⟩), if_pos h0]; simp [c1]
  rw [if_neg (fun h => h0 (by have := ((try_iff x _ 0 1 rfl (by omega) hx0 hx1 b1.1 b1.2).1 h).1; omega)), if_neg h0]
  have hx : x ≠ 0 := by rintro rfl; exact h0 rfl
  by_cases h1 : x / 256 % 256 = x
  · rw [if_pos ((try_iff x _ 0 1 rfl (by omega) hx0 hx1 b2.1 b2.2).2 ⟨by omega, .inl rfl⟩), if_pos h1]; simp [c2]
  rw [if_neg (fun h => h1 (by have := ((try_iff x _ 0 1 rfl (by omega) hx0 hx1 b2.1 b2.2).1 h).1; omega)), if_neg h1]
  clear h0 h1
  generalize x % 256 = p at *
  generalize x / 256 % 256 = q at *
  by_cases h : p * 65537 = x
  · rw [if_pos ((try_iff x _ 1 65537 rfl (by omega) hx0 hx1 b1.1 b1.2).2 ⟨h, by omega⟩), if_pos h]; simp [c1]
  rw [if_neg (fun g => h ((try_iff x _ 1 65537 rfl (by omega) hx0 hx1 b1.1 b1.2).1 g).1), if_neg h]
  clear h
  by_cases h : q * 65537 = x
  · rw [if_pos ((try_iff x _ 1 65537 rfl (by omega) hx0 hx1 b2.1 b2.2).2 ⟨h, by omega⟩), if_pos h]; simp [c2]
  rw [if_neg (fun g => h ((try_iff x _ 1 65537 rfl (by omega) hx0 hx1 b2.1 b2.2).1 g).1), if_neg h]
  clear h
  by_cases h : p * 16777472 = x
  · rw [if_pos ((try_iff x _ 2 16777472 rfl (by omega) hx0 hx1 b1.1 b1.2).2 ⟨h, by omega⟩), if_pos h]; simp [c1]
  rw [if_neg (fun g => h ((try_iff x _ 2 16777472 rfl (by omega) hx0 hx1 b1.1 b1.2).1 g).1), if_neg h]
  clear h
  by_cases h : q * 16777472 = x
  · rw [if_pos ((try_iff x _ 2 16777472 rfl (by omega) hx0 hx1 b2.1 b2.2).2 ⟨h, by omega⟩), if_pos h]; simp [c2]
  rw [if_neg (fun g => h ((try_iff x _ 2 16777472 rfl (by omega) hx0 hx1 b2.1 b2.2).1 g).1), if_neg h]
  clear h
  by_cases h : p * 16843009 = x
  · rw [if_pos ((try_iff x _ 3 16843009 rfl (by omega) hx0 hx1 b1.1 b1.2).2 ⟨h, by omega⟩), if_pos h]; simp [c1]
  rw [if_neg (fun g => h ((try_iff x _ 3 16843009 rfl (by omega) hx0 hx1 b1.1 b1.2).1 g).1), if_neg h]
  clear h
  by_cases h : q * 16843009 = x
  · rw [if_pos ((try_iff x _ 3 16843009 rfl (by omega) hx0 hx1 b2.1 b2.2).2 ⟨h, by omega⟩), if_pos h]; simp [c2]
  rw [if_neg (fun g => h ((try_iff x _ 3 16843009 rfl (by omega) hx0 hx1 b2.1 b2.2).1 g).1), if_neg h]
  rfl

def wordX (n : Int) : Int := if n < 0 ∨ 4095 < n then 0 else (((immW n.toNat).getD 0 : Nat) : Int)
def wordE (n : Int) : Int := if n < 0 ∨ 4095 < n then 11 else if (immW n.toNat).isSome then 0 else 20
def ofN (x : Int) : Int := (((dec x.toNat).getD 0 : Nat) : Int)
def ofE (x : Int) : Int := if (dec x.toNat).isSome then 0 else 20
/-- the document's number of a word: -1 if there is none -/
def ofM (x : Int) : Int := if (dec x.toNat).isSome then ofN x else -1

theorem i64_and_ (a b : Nat) (ha : a < 9223372036854775808) (hb : b < 9223372036854775808) : bits .and .i64 (a : Int) (b : Int) = ((a &&& b : Nat) : Int) := by
  have hx : a &&& b < 2 ^ 63 := Nat.and_lt_two_pow _ (by omega)
  have e : ∀ c : Nat, c < 9223372036854775808 → (BitVec.ofInt 64 (c : Int)).toNat = c := fun c hc => by
    rw [BitVec.ofInt_natCast, BitVec.toNat_ofNat]; exact Nat.mod_eq_of_lt (by omega)
  show IntKind.i64.wrap ((BitVec.ofInt 64 (a : Int) &&& BitVec.ofInt 64 (b : Int)).toNat : Int) = _
  rw [BitVec.toNat_and, e a ha, e b hb, IntKind.wrap_i64]
  omega
theorem i64_or_ (a b : Nat) (ha : a < 9223372036854775808) (hb : b < 9223372036854775808) : bits .or .i64 (a : Int) (b : Int) = ((a ||| b : Nat) : Int) := by
  have hx : a ||| b < 2 ^ 63 := Nat.or_lt_two_pow (by omega) (by omega)
  have e : ∀ c : Nat, c < 9223372036854775808 → (BitVec.ofInt 64 (c : Int)).toNat = c := fun c hc => by
    rw [BitVec.ofInt_natCast, BitVec.toNat_ofNat]; exact Nat.mod_eq_of_lt (by omega)
  show IntKind.i64.wrap ((BitVec.ofInt 64 (a : Int) ||| BitVec.ofInt 64 (b : Int)).toNat : Int) = _
  rw [BitVec.toNat_or, e a ha, e b hb, IntKind.wrap_i64]
  omega
theorem i64_mask (n : Int) (h0 : 0 ≤ n) (h1 : n ≤ 4294967295) (k m : Nat) (hk : k = m + 1) (hm : m < 4294967296) (h : ∀ x : Nat, x &&& m = x % k) : bits .and .i64 n (m : Int) = n % (k : Int) := by
  have e : n = (n.toNat : Int) := by omega
  rw [e, i64_and_ _ _ (by omega) (by omega), h, Int.natCast_emod]
theorem i64_join (a b : Int) (i : Nat) (ha0 : 0 ≤ a) (ha1 : a ≤ 4294967295) (hb0 : 0 ≤ b) (hb : b < 2 ^ i) (hd : a % 2 ^ i = 0) (hi : i ≤ 32) : bits .or .i64 a b = a + b := by
  have hp : (2 : Int) ^ i ≤ 4294967296 := by
    have : (2 : Nat) ^ i ≤ 2 ^ 32 := Nat.pow_le_pow_right (by omega) hi
    have h2 : ((2 ^ i : Nat) : Int) ≤ ((2 ^ 32 : Nat) : Int) := by exact_mod_cast this
    simpa using h2
  have ea : a = (a.toNat : Int) := by omega
  have eb : b = (b.toNat : Int) := by omega
  rw [ea, eb, i64_or_ _ _ (by omega) (by omega)]
  have h1 : a.toNat % 2 ^ i = 0 := by
    have : ((a.toNat % 2 ^ i : Nat) : Int) = 0 := by rw [Int.natCast_emod, ← ea]; simpa using hd
    omega
  have h2 : b.toNat < 2 ^ i := by
    have : ((b.toNat : Nat) : Int) < ((2 ^ i : Nat) : Int) := by rw [← eb]; simpa using hb
    omega
  rw [nat_join i _ _ h1 h2]
  rfl

theorem i64_top (n : Int) : bits .or .i64 (n % 128) 128 = n % 128 + 128 := by
  have e : n % 128 = ((n % 128).toNat : Int) := by omega
  rw [e]
  have h := i64_or_ (n % 128).toNat 128 (by omega) (by omega)
  rw [Nat.or_comm] at h
  have h2 : 128 ||| (n % 128).toNat = 128 + (n % 128).toNat := nat_join 7 128 (n % 128).toNat (by decide) (by omega)
  rw [h2] at h
  have h3 : ((128 : Nat) : Int) = 128 := rfl
  rw [h3] at h
  rw [h]
  omega

theorem immW_row (n : Int) (i : Nat) (f : Int) (h0 : 0 ≤ n) (hi : i < 4) (hq : n / 256 = (i : Int)) (hf : (fac i : Int) = f) (h : i = 0 ∨ n % 256 ≠ 0) : immW n.toNat = some (n % 256 * f).toNat := by
  unfold immW
  rw [if_neg (by omega), if_neg (by omega), show n.toNat / 256 = i by omega]
  congr 1
  have e : n % 256 * f = ((n.toNat % 256 * fac i : Nat) : Int) := by rw [Int.natCast_mul, hf]; congr 1; omega
  rw [e]; rfl
theorem immW_none (n : Int) (h0 : 256 ≤ n) (h1 : n < 1024) (h : n % 256 = 0) : immW n.toNat = none := by
  unfold immW
  rw [if_neg (by omega), if_pos (by omega)]
theorem wordX_some (n : Int) (x : Nat) (h0 : 0 ≤ n) (h1 : n ≤ 4095) (h : immW n.toNat = some x) : wordX n = (x : Int) := by unfold wordX; rw [if_neg (by omega), h]; rfl
theorem wordE_some (n : Int) (x : Nat) (h0 : 0 ≤ n) (h1 : n ≤ 4095) (h : immW n.toNat = some x) : wordE n = 0 := by unfold wordE; rw [if_neg (by omega), h]; rfl
theorem wordX_none (n : Int) (h0 : 0 ≤ n) (h1 : n ≤ 4095) (h : immW n.toNat = none) : wordX n = 0 := by unfold wordX; rw [if_neg (by omega), h]; rfl
theorem wordE_none (n : Int) (h0 : 0 ≤ n) (h1 : n ≤ 4095) (h : immW n.toNat = none) : wordE n = 20 := by unfold wordE; rw [if_neg (by omega), h]; rfl
theorem wordX_bd (n : Int) : 0 ≤ wordX n ∧ wordX n ≤ 4294967295 := by
  unfold wordX
  split
  · omega
  · cases h : immW n.toNat with
    | none => simp
    | some x => have := immW_lt _ _ h; simp; omega

def carryX (n c : Int) : Int := if wordE n = 0 then (if n < 1024 then min c 1 else wordX n / 2147483648) else 0
theorem wordE_zero (n : Int) (h : wordE n = 0) : 0 ≤ n ∧ n ≤ 4095 := by
  unfold wordE at h
  split at h
  · omega
  · omega

theorem u32_mask8 (x : Int) (h0 : 0 ≤ x) (h1 : x ≤ 4294967295) : bits .and .u32 x 255 = x % 256 := by
  rw [u32_and x 255 h0 (by omega) (by omega) (by omega)]
  have e : x.toNat &&& (255 : Int).toNat = x.toNat % 256 := nat_mask8 _
  rw [e]; omega
theorem u32_mask7 (x : Int) (h0 : 0 ≤ x) (h1 : x ≤ 4294967295) : bits .and .u32 x 127 = x % 128 := by
  rw [u32_and x 127 h0 (by omega) (by omega) (by omega)]
  have e : x.toNat &&& (127 : Int).toNat = x.toNat % 128 := nat_mask7 _
  rw [e]; omega

end Go.Proofs.YtnjmfedleimlmaaDoor.Rm

/- The walk of the library's RotateLeft32. -/
namespace Go.Proofs.YtnjmfedleimlmaaDoor
open Go.RowKit

theorem rotl_any (x k : Int) (w : World) (h0 : 0 ≤ x) (h1 : x ≤ 4294967295) (hk0 : 0 ≤ k) (hk1 : k ≤ 1000) :
    Calls Tryd.prog 97 #[.int .u32 x, .int .i64 k] w fun e w' => e = .returned (.int .u32 ((Rm.rotl x.toNat k.toNat : Nat) : Int)) ∧ w = w' := by
  have e1 : bits .and .u64 k 31 = k % 32 := by
    rw [u64_and k 31 hk0 (by omega) (by omega) (by omega)]
    have e : k.toNat &&& (31 : Int).toNat = k.toNat % 32 := nat_mask5 _
    rw [e]; omega
  obtain ⟨s, hs⟩ : ∃ s, k % 32 = s := ⟨_, rfl⟩
  have hs0 : 0 ≤ s ∧ s ≤ 31 := by omega
  rw [hs] at e1
  have hsk : k.toNat % 32 = s.toNat := by omega
  have hr : Rm.rotl x.toNat k.toNat = Rm.rotl x.toNat s.toNat := by unfold Rm.rotl; rw [hsk, Nat.mod_eq_of_lt (by omega)]
  have hi := Rm.rotl_is x.toNat s.toNat (by omega) (by omega)
  have hR := Lib.hid hr
  have hI := Lib.hid hi
  clear hs hr hi hsk
  go_enter Tryd.func97, Tryd.ntmps97
  go_wp2
  go_ret
  refine ⟨ret_i ?_, rfl⟩
  have hb := Rm.shr_bd x (32 - s).toNat h0 h1
  rw [u32_or _ _ (by omega) (by omega) hb.1 (by omega), hR.out, ← hI.out, show (32 - s).toNat = 32 - s.toNat by omega]
  have hx : x = (x.toNat : Int) := by omega
  have e5 : (x * 2 ^ s.toNat % 4294967296).toNat = x.toNat * 2 ^ s.toNat % 4294967296 := by
    have : x * 2 ^ s.toNat % 4294967296 = ((x.toNat * 2 ^ s.toNat % 4294967296 : Nat) : Int) := by rw [Int.natCast_emod, Int.natCast_mul, ← hx, Int.natCast_pow]; rfl
    rw [this]; rfl
  have e6 : (x / 2 ^ (32 - s.toNat)).toNat = x.toNat / 2 ^ (32 - s.toNat) := by
    have : x / 2 ^ (32 - s.toNat) = ((x.toNat / 2 ^ (32 - s.toNat) : Nat) : Int) := by rw [Int.natCast_ediv, ← hx, Int.natCast_pow]; rfl
    rw [this]; rfl
  rw [e5, e6]

end Go.Proofs.YtnjmfedleimlmaaDoor

/- What operators make of words: the walks of the program's functions. -/
namespace Go.Proofs.YtnjmfedleimlmaaDoor
open Go Go.RowKit

theorem ttruth_any (b : Bool) (w : World) : Calls Tryd.prog 44 #[.bool b] w fun e w' => e = .returned (.int .u32 (if b then 1 else 0)) ∧ w' = w := by
  go_enter Tryd.func44, Tryd.ntmps44
  cases b
  · go_wp2
    go_ret
    exact ⟨rfl, rfl⟩
  · go_wp2
    go_ret
    exact ⟨rfl, rfl⟩
def oneV (op x : Int) : Int := if op = 3 then 4294967295 - x else -x % 4294967296
theorem oneV_bd {op x : Int} (h0 : 0 ≤ x) (h1 : x ≤ 4294967295) : 0 ≤ oneV op x ∧ oneV op x ≤ 4294967295 := by unfold oneV; split <;> omega
theorem tone_any (op x : Int) (w : World) (h0 : 0 ≤ x) (h1 : x ≤ 4294967295) : Calls Tryd.prog 45 #[.int .i64 op, .int .u32 x] w fun e w' => e = .returned (.int .u32 (oneV op x)) ∧ w' = w := by
  go_enter Tryd.func45, Tryd.ntmps45
  by_cases h : op = 3
  · subst h
    go_wp2
    go_ret
    refine ⟨congrArg Ending.returned (congrArg (Value.int IntKind.u32) ?_), rfl⟩
    rw [Rm.not32 x h0 h1]; rfl
  · have hb : (op == 3) = false := by simpa using h
    go_wp2
    go_ret
    refine ⟨congrArg Ending.returned (congrArg (Value.int IntKind.u32) ?_), rfl⟩
    unfold oneV; rw [if_neg h]
/-- what an operator of bits makes of two words -/
def logicV (op x y : Int) : Int :=
  if op = 5 then bits .or .u32 x y else if op = 6 then bits .xor .u32 x y else if op = 7 then bits .and .u32 x y
  else if op = 10 then x * 2 ^ (y % 32).toNat % 4294967296 else if op = 11 then x / 2 ^ (y % 32).toNat else ((Rm.rotl x.toNat (y % 32).toNat : Nat) : Int)
theorem u32_mask5 (x : Int) (h0 : 0 ≤ x) (h1 : x ≤ 4294967295) : bits .and .u32 x 31 = x % 32 := by
  rw [u32_and x 31 h0 (by omega) (by omega) (by omega)]
  have e : x.toNat &&& (31 : Int).toNat = x.toNat % 32 := nat_mask5 _
  rw [e]; omega
theorem logic_any (op x y : Int) (w : World) (h0 : 0 ≤ x) (h1 : x ≤ 4294967295) (k0 : 0 ≤ y) (k1 : y ≤ 4294967295) : Calls Tryd.prog 70 #[.int .i64 op, .int .u32 x, .int .u32 y] w fun e w' => e = .returned (.int .u32 (logicV op x y)) ∧ w' = w := by
  have e1 : bits .and .u32 y 31 = y % 32 := u32_mask5 y k0 k1
  obtain ⟨k, hk⟩ : ∃ k, y % 32 = k := ⟨_, rfl⟩
  have hk0 : 0 ≤ k := by omega
  have hk1 : k ≤ 31 := by omega
  by_cases h5 : op = 5
  · subst h5
    go_enter Tryd.func70, Tryd.ntmps70
    clear e1 hk
    go_wp2
    go_ret
    exact ⟨rfl, rfl⟩
  by_cases h6 : op = 6
  · subst h6
    go_enter Tryd.func70, Tryd.ntmps70
    clear e1 hk
    go_wp2
    go_ret
    exact ⟨rfl, rfl⟩
  by_cases h7 : op = 7
  · subst h7
    go_enter Tryd.func70, Tryd.ntmps70
    clear e1 hk
    go_wp2
    go_ret
    exact ⟨rfl, rfl⟩
  rw [hk] at e1
  by_cases h10 : op = 10
  · subst h10
    have HL := Lib.hid (show logicV 10 x y = x * 2 ^ k.toNat % 4294967296 by unfold logicV; rw [hk]; rfl)
    clear hk
    go_enter Tryd.func70, Tryd.ntmps70
    go_wp2
    go_ret
    refine ⟨congrArg Ending.returned (congrArg (Value.int IntKind.u32) ?_), rfl⟩
    rw [HL.out]
  by_cases h11 : op = 11
  · subst h11
    have HL := Lib.hid (show logicV 11 x y = x / 2 ^ k.toNat by unfold logicV; rw [hk]; rfl)
    clear hk
    go_enter Tryd.func70, Tryd.ntmps70
    go_wp2
    go_ret
    refine ⟨congrArg Ending.returned (congrArg (Value.int IntKind.u32) ?_), rfl⟩
    rw [HL.out]
  · have HL := Lib.hid (show logicV op x y = ((Rm.rotl x.toNat k.toNat : Nat) : Int) by unfold logicV; rw [if_neg h5, if_neg h6, if_neg h7, if_neg h10, if_neg h11, hk])
    have b5 : (op == 5) = false := by simpa using h5
    have b6 : (op == 6) = false := by simpa using h6
    have b7 : (op == 7) = false := by simpa using h7
    have b10 : (op == 10) = false := by simpa using h10
    have b11 : (op == 11) = false := by simpa using h11
    clear hk
    go_enter Tryd.func70, Tryd.ntmps70
    go_wp2_with fail
    refine (rotl_any x k _ h0 h1 hk0 (by omega)).mono ?_
    rintro e w' ⟨rfl, rfl⟩
    go_wp2_with fail
    go_ret
    exact ⟨congrArg Ending.returned (congrArg (Value.int IntKind.u32) HL.out.symm), rfl⟩

/-- what an operator makes of two words; nothing: it traps -/
def twoV (op x y : Int) : Option Int :=
  if op = 8 then some (if x = y then 1 else 0) else if op = 9 then some (if x < y then 1 else 0) else if op = 13 then some ((x + y) % 4294967296) else if op = 14 then some ((x - y) % 4294967296)
  else if op = 15 then some (x * y % 4294967296) else if op = 16 then (if y = 0 then none else some (x / y)) else if op = 17 then (if y = 0 then none else some (x % y)) else some (logicV op x y)
def TwoPost (w : World) (o : Option Int) (e : Ending) (w' : World) : Prop := e = .returned (.tuple #[.int .u32 (o.getD 0), .bool o.isSome]) ∧ w' = w
theorem two_any (op x y : Int) (w : World) (h0 : 0 ≤ x) (h1 : x ≤ 4294967295) (k0 : 0 ≤ y) (k1 : y ≤ 4294967295) : Calls Tryd.prog 46 #[.int .i64 op, .int .u32 x, .int .u32 y] w (TwoPost w (twoV op x y)) := by
  by_cases h8 : op = 8
  · subst h8
    by_cases hxy : x = y
    all_goals
      have HL := Lib.hid (show twoV 8 x y = some (if x = y then 1 else 0) from rfl)
    · have hb : (x == y) = true := by simpa using hxy
      have HM := Lib.hid (show twoV 8 x y = some 1 by rw [HL.out, if_pos hxy])
      clear hxy
      go_enter Tryd.func46, Tryd.ntmps46
      go_wp2_with fail
      refine (ttruth_any true _).mono ?_
      rintro e w' ⟨rfl, rfl⟩
      go_wp2_with fail
      go_ret2
      exact ⟨by rw [HM.out]; rfl, rfl⟩
    · have hb : (x == y) = false := by simpa using hxy
      have HM := Lib.hid (show twoV 8 x y = some 0 by rw [HL.out, if_neg hxy])
      clear hxy
      go_enter Tryd.func46, Tryd.ntmps46
      go_wp2_with fail
      refine (ttruth_any false _).mono ?_
      rintro e w' ⟨rfl, rfl⟩
      go_wp2_with fail
      go_ret2
      exact ⟨by rw [HM.out]; rfl, rfl⟩
  by_cases h9 : op = 9
  · subst h9
    by_cases hxy : x < y
    all_goals
      have HL := Lib.hid (show twoV 9 x y = some (if x < y then 1 else 0) from rfl)
    · have hb : decide (x < y) = true := by simpa using hxy
      have HM := Lib.hid (show twoV 9 x y = some 1 by rw [HL.out, if_pos hxy])
      go_enter Tryd.func46, Tryd.ntmps46
      go_wp2_with fail
      refine (ttruth_any true _).mono ?_
      rintro e w' ⟨rfl, rfl⟩
      go_wp2_with fail
      go_ret2
      exact ⟨by rw [HM.out]; rfl, rfl⟩
    · have hb : decide (x < y) = false := by simpa using hxy
      have HM := Lib.hid (show twoV 9 x y = some 0 by rw [HL.out, if_neg hxy])
      go_enter Tryd.func46, Tryd.ntmps46
      go_wp2_with fail
      refine (ttruth_any false _).mono ?_
      rintro e w' ⟨rfl, rfl⟩
      go_wp2_with fail
      go_ret2
      exact ⟨by rw [HM.out]; rfl, rfl⟩
  by_cases h13 : op = 13
  · subst h13
    go_enter Tryd.func46, Tryd.ntmps46
    go_wp2
    go_ret2
    exact ⟨rfl, rfl⟩
  by_cases h14 : op = 14
  · subst h14
    go_enter Tryd.func46, Tryd.ntmps46
    go_wp2
    go_ret2
    exact ⟨rfl, rfl⟩
  by_cases h15 : op = 15
  · subst h15
    go_enter Tryd.func46, Tryd.ntmps46
    go_wp2
    go_ret2
    exact ⟨rfl, rfl⟩
  by_cases h16 : op = 16
  · subst h16
    by_cases hy : y = 0
    · subst hy
      go_enter Tryd.func46, Tryd.ntmps46
      go_wp2
      go_ret2
      exact ⟨rfl, rfl⟩
    · have hb : (y == 0) = false := by simpa using hy
      have HM := Lib.hid (show twoV 16 x y = some (x / y) by unfold twoV; simp [hy])
      go_enter Tryd.func46, Tryd.ntmps46
      go_wp2
      go_ret2
      exact ⟨by rw [HM.out]; rfl, rfl⟩
  by_cases h17 : op = 17
  · subst h17
    by_cases hy : y = 0
    · subst hy
      go_enter Tryd.func46, Tryd.ntmps46
      go_wp2
      go_ret2
      exact ⟨rfl, rfl⟩
    · have hb : (y == 0) = false := by simpa using hy
      have HM := Lib.hid (show twoV 17 x y = some (x % y) by unfold twoV; simp [hy])
      go_enter Tryd.func46, Tryd.ntmps46
      go_wp2
      go_ret2
      exact ⟨by rw [HM.out]; rfl, rfl⟩
  · have HM := Lib.hid (show twoV op x y = some (logicV op x y) by unfold twoV; rw [if_neg h8, if_neg h9, if_neg h13, if_neg h14, if_neg h15, if_neg h16, if_neg h17])
    have b8 : (op == 8) = false := by simpa using h8
    have b9 : (op == 9) = false := by simpa using h9
    have b13 : (op == 13) = false := by simpa using h13
    have b14 : (op == 14) = false := by simpa using h14
    have b15 : (op == 15) = false := by simpa using h15
    have b16 : (op == 16) = false := by simpa using h16
    have b17 : (op == 17) = false := by simpa using h17
    go_enter Tryd.func46, Tryd.ntmps46
    go_wp2_with fail
    refine (logic_any op x y _ h0 h1 k0 k1).mono ?_
    rintro e w' ⟨rfl, rfl⟩
    go_wp2_with fail
    go_ret2
    exact ⟨by rw [HM.out]; rfl, rfl⟩
theorem logicV_bd {op x y : Int} (hx : 0 ≤ x ∧ x ≤ 4294967295) (hy : 0 ≤ y ∧ y ≤ 4294967295) : 0 ≤ logicV op x y ∧ logicV op x y ≤ 4294967295 := by
  unfold logicV
  split
  · rw [u32_or x y hx.1 (by omega) hy.1 (by omega)]
    have := Nat.or_lt_two_pow (n := 32) (x := x.toNat) (y := y.toNat) (by omega) (by omega)
    omega
  split
  · rw [u32_xor x y hx.1 (by omega) hy.1 (by omega)]
    have := Nat.xor_lt_two_pow (n := 32) (x := x.toNat) (y := y.toNat) (by omega) (by omega)
    omega
  split
  · rw [u32_and x y hx.1 (by omega) hy.1 (by omega)]
    have := Nat.and_le_left (n := x.toNat) (m := y.toNat)
    omega
  split
  · omega
  split
  · have h1 : 0 ≤ x / 2 ^ (y % 32).toNat := Int.ediv_nonneg hx.1 (Int.pow_nonneg (by omega))
    have h2 : x / 2 ^ (y % 32).toNat ≤ x := Int.ediv_le_self _ hx.1
    omega
  · have := Rm.rotl_lt x.toNat (y % 32).toNat (by omega)
    omega
theorem twoV_bd {op x y v : Int} (hx : 0 ≤ x ∧ x ≤ 4294967295) (hy : 0 ≤ y ∧ y ≤ 4294967295) (h : twoV op x y = some v) : 0 ≤ v ∧ v ≤ 4294967295 := by
  unfold twoV at h
  split at h
  · cases h; split <;> omega
  split at h
  · cases h; split <;> omega
  split at h
  · cases h; omega
  split at h
  · cases h; omega
  split at h
  · cases h; omega
  split at h
  · split at h
    · cases h
    · cases h
      have h1 : 0 ≤ x / y := Int.ediv_nonneg hx.1 hy.1
      have h2 : x / y ≤ x := Int.ediv_le_self _ hx.1
      omega
  split at h
  · split at h
    · cases h
    · cases h
      have h1 := Int.emod_nonneg x (b := y) (by omega)
      have h2 := Int.emod_lt_of_pos x (b := y) (by omega)
      omega
  · cases h; exact logicV_bd hx hy

end Go.Proofs.YtnjmfedleimlmaaDoor

/- The term that a list of nodes begins with: the walk of built. -/
namespace Go.Proofs.YtnjmfedleimlmaaDoor
open Go Go.RowKit

/-- what built leaves -/
def BuiltPost (w : World) (B : Nat) (r : T × Nat) (e : Ending) (w' : World) : Prop :=
  ∃ s bl, e = .returned (.agg #[.int .i64 r.1.op, .int .u32 r.1.num, s]) ∧ r.1.IsS w' s bl ∧ (∀ b ∈ bl, w.heap.size ≤ b ∧ b < w'.heap.size) ∧ Kept B w w' ∧ Blk w' B 3 #[.int .i64 r.2]

section
variable (l : List (Int × Int)) (pl : Option Addr) (cap M B : Nat)
set_option maxHeartbeats 4000000 in
set_option maxRecDepth 100000 in
theorem built_end (hl : l.length ≤ 60) (i d : Nat) (w : World) (h : l.length ≤ i ∨ 41 ≤ d) (hd : d ≤ 41) (hi : i ≤ 60) (hB : Blk w B 3 #[.int .i64 i]) :
    Calls Tryd.prog 40 #[.slice pl l.length cap, .pointer (some ⟨B, 0, none⟩), .int .i64 d] w (BuiltPost w B (.leaf 1 0, i)) := by
  have hc : w.cell? ⟨B, 0, none⟩ = some (.int .i64 i) := hB.cell 0
  have hlt := hB.lt
  go_enter Tryd.func40, Tryd.ntmps40
  go_wp2_with (go_at_call 39; refine (termOf_any _ _).mono ?_; rintro e w1 ⟨rfl, rfl⟩)
  all_goals
    exact bodyPost_ret (v := .agg #[.int .i64 1, .int .u32 0, .slice none 0 0]) (by simp [results, Tryd.results40, go_sem]) rfl ⟨.slice none 0 0, [], rfl, ⟨rfl, rfl⟩, by simp, (Kept.alloc _ _).trans (Kept.alloc _ _), (hB.alloc _).alloc _⟩

set_option maxHeartbeats 4000000 in
set_option maxRecDepth 100000 in
theorem built_leaf (hl : l.length ≤ 60) (i d : Nat) (x : Int × Int) (w : World) (hx : l[i]? = some x) (hd : d ≤ 40) (hop : ¬ (3 ≤ x.1 ∧ x.1 ≤ 17)) (hB : Blk w B 3 #[.int .i64 i]) (hN : NodesAt w pl l M) (hM : M ≤ B) :
    Calls Tryd.prog 40 #[.slice pl l.length cap, .pointer (some ⟨B, 0, none⟩), .int .i64 d] w (BuiltPost w B (.leaf x.1 x.2, i + 1)) := by
  have hc : w.cell? ⟨B, 0, none⟩ = some (.int .i64 i) := hB.cell 0
  have hlt := hB.lt
  have hf := hB.frozen 0
  have hi : i < l.length := (List.getElem?_eq_some_iff.1 hx).1
  obtain ⟨b, off, rfl, hb1, hb2, hc1, hc2⟩ := hN i x hx
  obtain ⟨o, n⟩ := x
  dsimp only at hop hc1 hc2
  go_enter Tryd.func40, Tryd.ntmps40
  go_wp2
  all_goals
    refine wp_loop_rounds 1 ?_
    iterate 1 (rw [rounds_succ]; go_wp2)
  all_goals
    exact bodyPost_ret (v := .agg #[.int .i64 o, .int .u32 n, .slice none 0 0]) (by simp [results, Tryd.results40, go_sem]) rfl ⟨.slice none 0 0, [], rfl, ⟨rfl, rfl⟩, by simp, (((Kept.set_ w ⟨B, 0, none⟩ _ (.inl rfl)).trans (Kept.alloc _ _)).trans (Kept.alloc _ _)).trans (Kept.alloc _ _), (((hB.set_ 0 _).alloc _).alloc _).alloc _⟩

theorem built_close_one {w W0 wa w1 : World} {B gg cp : Nat} {o : Int} {A : T} {sa q : Value} {bla : List Nat} {o1 : Obj} {u0 u1 u2 u3 : Value} (hK0 : Kept B w W0) (hZ0 : W0.heap.size = w.heap.size + 1 + 1 + 1) (hlt : B < w.heap.size) (hKa : Kept B W0.drew wa) (hBa : Blk wa B 3 #[q])
    (hSa : A.IsS wa sa bla) (hLa : ∀ b ∈ bla, W0.drew.heap.size ≤ b ∧ b < wa.heap.size) (hgrow : (wa.alloc o1).grownBy w1 (Value.slice none 0 0).ownBlock) (hown : w1.ownsRow 0 28 3 (.slice (some ⟨gg, 0, none⟩) (0 + 1) cp) (0 + 1) ([] ++ [.int .i64 A.op, .int .u32 A.num, sa]))
    (hat : (Value.slice none 0 0).ownBlock = some gg ∨ gg = wa.heap.size + 1) (hg1 : gg < w1.heap.size) :
    let wf := (((w1.setCell ⟨w.heap.size + 1 + 1, 2, none⟩ u0).setCell ⟨w.heap.size, 0, none⟩ u1).setCell ⟨w.heap.size, 1, none⟩ u2).setCell ⟨w.heap.size, 2, none⟩ u3
    (T.one o 0 A).IsS wf (.slice (some ⟨gg, 0, none⟩) 1 cp) (gg :: bla) ∧ (∀ b ∈ gg :: bla, w.heap.size ≤ b ∧ b < wf.heap.size) ∧ Kept B w wf ∧ Blk wf B 3 #[q] := by
  intro wf
  have hgg : gg = wa.heap.size + 1 := by
    rcases hat with h | h
    · simp [Value.ownBlock] at h
    · exact h
  have z1 : W0.drew.heap.size = W0.heap.size := rfl
  have z2 := hKa.size
  have z3 : (wa.alloc o1).heap.size = wa.heap.size + 1 := by simp
  have z4 := hgrow.size
  have hK : Kept B w wf := (((((((hK0.trans (Kept.drew W0)).trans hKa).trans (Kept.alloc wa o1)).grown hgrow (fun r e => by simp [Value.ownBlock] at e)).setNew _ (by simp; omega)).setNew _ (by simp)).setNew _ (by simp)).setNew _ (by simp)
  have hf : ∀ k, k ≠ w.heap.size + 1 + 1 → k ≠ w.heap.size → wf.heap[k]? = w1.heap[k]? := fun k h1 h2 =>
    (Below.heap_setCell _ _ _ k h2).trans ((Below.heap_setCell _ _ _ k h2).trans ((Below.heap_setCell _ _ _ k h2).trans (Below.heap_setCell _ _ _ k h1)))
  have hw : ∀ k, k < wa.heap.size → w1.heap[k]? = wa.heap[k]? := fun k hk => (hgrow.block k (by omega) (by simp [Value.ownBlock])).trans (Below.heap_alloc wa o1 k hk)
  have hz : wf.heap.size = w1.heap.size := by simp [wf, World.setCell]
  refine ⟨T.IsS.mk_one hown (hf gg (by omega) (by omega)) (hSa.keep fun b hb => ?_), ?_, hK, ?_⟩
  · obtain ⟨h1, h2⟩ := hLa b hb
    exact (hf b (by omega) (by omega)).trans (hw b h2)
  · intro b hb
    rcases List.mem_cons.1 hb with rfl | hb
    · omega
    · obtain ⟨h1, h2⟩ := hLa b hb
      omega
  · exact ((hf B (by omega) (by omega)).trans (hw B hBa.lt)).trans hBa
theorem termInfo : (Tryd.prog.info? 28).map (fun i => (i.zero, i.size, i.bytes)) = some (some (.agg #[.int .i64 0, .int .u32 0, .slice none 0 0]), 3, 40) := by kernel_rfl
set_option maxHeartbeats 4000000 in
set_option maxRecDepth 100000 in
theorem built_one (hl : l.length ≤ 60) (i d k : Nat) (x : Int × Int) (w : World) (hx : l[i]? = some x) (hd : d ≤ 40) (hop : 3 ≤ x.1 ∧ x.1 ≤ 4) (hB : Blk w B 3 #[.int .i64 i]) (hN : NodesAt w pl l M) (hM : M ≤ B)
    (ih : ∀ (j : Nat) (w : World), j ≤ l.length → Blk w B 3 #[.int .i64 j] → NodesAt w pl l M → Calls Tryd.prog 40 #[.slice pl l.length cap, .pointer (some ⟨B, 0, none⟩), .int .i64 (d + 1)] w (BuiltPost w B (builtT k l j))) :
    Calls Tryd.prog 40 #[.slice pl l.length cap, .pointer (some ⟨B, 0, none⟩), .int .i64 d] w (BuiltPost w B (.one x.1 0 (builtT k l (i + 1)).1, (builtT k l (i + 1)).2)) := by
  have hc : w.cell? ⟨B, 0, none⟩ = some (.int .i64 i) := hB.cell 0
  have hlt := hB.lt
  have hf := hB.frozen 0
  have hi : i < l.length := (List.getElem?_eq_some_iff.1 hx).1
  obtain ⟨b, off, rfl, hb1, hb2, hc1, hc2⟩ := hN i x hx
  obtain ⟨i0, hi0, hz0, hz1, hz2⟩ := info_parts termInfo
  obtain ⟨o, n⟩ := x
  dsimp only at hop hc1 hc2
  go_enter Tryd.func40, Tryd.ntmps40
  go_wp2
  obtain ⟨W0, hW0⟩ : ∃ W0, (((w.setCell ⟨B, 0, none⟩ (.int .i64 (i + 1))).alloc (.cells #[.int .i64 0, .int .u32 0, .slice none 0 0] 28)).alloc (.cells #[.int .i64 o, .int .u32 n] 115)).alloc (.cells #[.int .i64 o, .int .u32 0, .slice none 0 0] 28) = W0 := ⟨_, rfl⟩
  have hK0 : Kept B w W0 := hW0 ▸ (((Kept.set_ w ⟨B, 0, none⟩ _ (.inl rfl)).trans (Kept.alloc _ _)).trans (Kept.alloc _ _)).trans (Kept.alloc _ _)
  have hB0 : Blk W0 B 3 #[.int .i64 ((i + 1 : Nat) : Int)] := hW0 ▸ (((hB.set_ 0 _).alloc _).alloc _).alloc _
  have hZ0 : W0.heap.size = w.heap.size + 1 + 1 + 1 := by rw [← hW0]; simp
  have hR0 : Blk W0 w.heap.size 28 #[.int .i64 0, .int .u32 0, .slice none 0 0] := by
    have := ((Blk.new (w.setCell ⟨B, 0, none⟩ (.int .i64 (i + 1))) 28 #[.int .i64 0, .int .u32 0, .slice none 0 0]).alloc (.cells #[.int .i64 o, .int .u32 n] 115)).alloc (.cells #[.int .i64 o, .int .u32 0, .slice none 0 0] 28)
    rw [hW0] at this; simpa using this
  have hT0 : Blk W0 (w.heap.size + 1 + 1) 28 #[.int .i64 o, .int .u32 0, .slice none 0 0] := by
    have := Blk.new (((w.setCell ⟨B, 0, none⟩ (.int .i64 (i + 1))).alloc (.cells #[.int .i64 0, .int .u32 0, .slice none 0 0] 28)).alloc (.cells #[.int .i64 o, .int .u32 n] 115)) 28 #[.int .i64 o, .int .u32 0, .slice none 0 0]
    rw [hW0] at this; simpa using this
  have hN0 := hN.kept hK0 hM
  rw [hW0]
  clear hc1 hc2 hc hf hW0
  refine wp_loop_rounds 2 ?_
  rw [rounds_succ]
  go_wp2
  have hw : IntKind.i64.wrap ((d : Int) + 1) = d + 1 := by simp only [IntKind.wrap, IntKind.signed, IntKind.bits] <;> simp <;> omega
  have hTd : Blk W0.drew (w.heap.size + 1 + 1) 28 #[.int .i64 o, .int .u32 0, .slice none 0 0] := hT0
  have hRd : Blk W0.drew w.heap.size 28 #[.int .i64 0, .int .u32 0, .slice none 0 0] := hR0
  obtain ⟨hc0, hc1, hc2⟩ := hT0.c3
  obtain ⟨hd0, hd1, hd2⟩ := hTd.c3
  go_region_law
    (first
      | (rw [if_pos (by rfl)]; go_simp; go_at_call 40; refine (ih (i + 1) W0.drew (by omega) hB0.drew (hN0.kept (Kept.drew W0) hM)).mono ?_; rintro e wa ⟨sa, bla, rfl, hSa, hLa, hKa, hBa⟩
         have hTa := hTd.kept hKa (by omega)
         have hRa := hRd.kept hKa (by omega)
         obtain ⟨hca0, hca1, hca2⟩ := hTa.c3
         obtain ⟨hcb0, hcb1, hcb2⟩ := (hTa.alloc (.cells #[.int .i64 (builtT k l (i + 1)).1.op, .int .u32 (builtT k l (i + 1)).1.num, sa] 28)).c3)
      | (refine step_append_lies _ (by rfl) _ _ _ (by rfl) 0 28 i0 _ 3 40 Tryd.underlying26 hi0 hz0 hz1 hz2 rfl (by omega) (.slice none 0 0) 0 [] (by rfl) (World.ownsRow_nil _ _ _ _)
          ⟨wa.heap.size, 0, none⟩ 1 1 [.int .i64 (builtT k l (i + 1)).1.op, .int .u32 (builtT k l (i + 1)).1.num, sa] (by rfl) (by rfl) (World.news_of_block (cs := #[.int .i64 (builtT k l (i + 1)).1.op, .int .u32 (builtT k l (i + 1)).1.num, sa]) (t := 28) (fr := (0, 0)) (heap_alloc_new wa _)) (cells3_one hSa.one)
          (by omega) (by decide) (by omega) (by simp) (wa.heap.size + 1) (by simp) ?_; intro gg cp w1 hown1 hgrow hat hlt1
         have hTg := (hTa.alloc _).grown hgrow (by simp [Value.ownBlock])
         have hRg := (hRa.alloc _).grown hgrow (by simp [Value.ownBlock])
         obtain ⟨hg0, hg1, hg2⟩ := hTg.c3
         obtain ⟨hr0, hr1, hr2⟩ := hRg.c3
         obtain ⟨hq0, hq1, hq2⟩ := hTg.f3
         obtain ⟨hs0, hs1, hs2⟩ := hRg.f3))
  all_goals go_wp2
  all_goals (rw [rounds_succ]; go_wp2)
  all_goals
    obtain ⟨hf1, hf2, hf3, hf4⟩ := built_close_one (o := o) (u0 := .slice (some ⟨gg, 0, none⟩) 1 cp) (u1 := .int .i64 o) (u2 := .int .u32 0) (u3 := .slice (some ⟨gg, 0, none⟩) 1 cp) hK0 hZ0 hlt hKa hBa hSa hLa hgrow hown1 hat hlt1
    exact bodyPost_ret (v := .agg #[.int .i64 o, .int .u32 0, .slice (some ⟨gg, 0, none⟩) 1 cp]) (by simp [results, Tryd.results40, go_sem, *]) rfl ⟨_, _, rfl, hf1, hf2, hf3, hf4⟩
end

end Go.Proofs.YtnjmfedleimlmaaDoor

/- The term that a list of nodes begins with: the walk of built where there are two terms; and all of it. -/
namespace Go.Proofs.YtnjmfedleimlmaaDoor
open Go Go.RowKit

/-- behind the first term -/
structure Mid (w V : World) (B gg : Nat) (o : Int) (A : T) (s sa q : Value) (bla : List Nat) : Prop where
  kept : Kept B w V
  size : w.heap.size + 3 ≤ gg ∧ gg < V.heap.size
  at_ : Blk V B 3 #[q]
  loc : Blk V (w.heap.size + 1 + 1) 28 #[.int .i64 o, .int .u32 0, s]
  res : Blk V w.heap.size 28 #[.int .i64 0, .int .u32 0, .slice none 0 0]
  own : V.ownsRow 0 28 3 s 1 [.int .i64 A.op, .int .u32 A.num, sa]
  sub : A.IsS V sa bla
  lie : ∀ b ∈ bla, w.heap.size + 3 ≤ b ∧ b < gg
theorem mid_mk {w W0 wa w1 : World} {B gg cp : Nat} {o : Int} {A : T} {sa q : Value} {bla : List Nat} {o1 : Obj} (hK0 : Kept B w W0) (hZ0 : W0.heap.size = w.heap.size + 1 + 1 + 1) (hlt : B < w.heap.size) (hKa : Kept B W0.drew wa) (hBa : Blk wa B 3 #[q])
    (hSa : A.IsS wa sa bla) (hLa : ∀ b ∈ bla, W0.drew.heap.size ≤ b ∧ b < wa.heap.size) (hgrow : (wa.alloc o1).grownBy w1 (Value.slice none 0 0).ownBlock) (hown : w1.ownsRow 0 28 3 (.slice (some ⟨gg, 0, none⟩) (0 + 1) cp) (0 + 1) ([] ++ [.int .i64 A.op, .int .u32 A.num, sa]))
    (hat : (Value.slice none 0 0).ownBlock = some gg ∨ gg = wa.heap.size + 1) (hg1 : gg < w1.heap.size)
    (hTg : Blk w1 (w.heap.size + 1 + 1) 28 #[.int .i64 o, .int .u32 0, .slice none 0 0]) (hRg : Blk w1 w.heap.size 28 #[.int .i64 0, .int .u32 0, .slice none 0 0]) :
    Mid w (w1.setCell ⟨w.heap.size + 1 + 1, 2, none⟩ (.slice (some ⟨gg, 0, none⟩) 1 cp)) B gg o A (.slice (some ⟨gg, 0, none⟩) 1 cp) sa q bla := by
  have hgg : gg = wa.heap.size + 1 := by
    rcases hat with h | h
    · simp [Value.ownBlock] at h
    · exact h
  have z1 : W0.drew.heap.size = W0.heap.size := rfl
  have z2 := hKa.size
  have z3 : (wa.alloc o1).heap.size = wa.heap.size + 1 := by simp
  have z4 := hgrow.size
  have hf : ∀ k, k ≠ w.heap.size + 1 + 1 → (w1.setCell ⟨w.heap.size + 1 + 1, 2, none⟩ (.slice (some ⟨gg, 0, none⟩) 1 cp)).heap[k]? = w1.heap[k]? := fun k h1 => Below.heap_setCell _ _ _ k h1
  have hw : ∀ k, k < wa.heap.size → w1.heap[k]? = wa.heap[k]? := fun k hk => (hgrow.block k (by omega) (by simp [Value.ownBlock])).trans (Below.heap_alloc wa o1 k hk)
  refine ⟨(((((hK0.trans (Kept.drew W0)).trans hKa).trans (Kept.alloc wa o1)).grown hgrow (fun r e => by simp [Value.ownBlock] at e)).setNew _ (by simp; omega)), ⟨by omega, by simpa [World.setCell] using hg1⟩, ((hf B (by omega)).trans (hw B hBa.lt)).trans hBa, hTg.set_ 2 _, hRg.far (by show w.heap.size ≠ w.heap.size + 1 + 1; omega) _, ?_, hSa.keep fun b hb => ?_, fun b hb => ?_⟩
  · exact World.ownsRow.kept hown (grown_set _ _ _) (.inr (by simp [Value.ownBlock]; omega))
  · obtain ⟨h1, h2⟩ := hLa b hb
    by_cases hb2 : b = w.heap.size + 1 + 1
    · omega
    · exact (hf b hb2).trans (hw b h2)
  · obtain ⟨h1, h2⟩ := hLa b hb
    omega
theorem built_close_two {w V wb w2 : World} {B gg cp g2 cp2 : Nat} {o : Int} {A C : T} {sa sb q q2 : Value} {bla blb : List Nat} {o1 : Obj} {u0 u1 u2 u3 : Value} (hM : Mid w V B gg o A (.slice (some ⟨gg, 0, none⟩) 1 cp) sa q bla) (hlt : B < w.heap.size) (hKb : Kept B V.drew wb) (hBb : Blk wb B 3 #[q2])
    (hSb : C.IsS wb sb blb) (hLb : ∀ b ∈ blb, V.drew.heap.size ≤ b ∧ b < wb.heap.size) (hgrow : (wb.alloc o1).grownBy w2 (Value.slice (some ⟨gg, 0, none⟩) 1 cp).ownBlock)
    (hown : w2.ownsRow 0 28 3 (.slice (some ⟨g2, 0, none⟩) (1 + 1) cp2) (1 + 1) ([.int .i64 A.op, .int .u32 A.num, sa] ++ [.int .i64 C.op, .int .u32 C.num, sb]))
    (hat : (Value.slice (some ⟨gg, 0, none⟩) 1 cp).ownBlock = some g2 ∨ g2 = wb.heap.size + 1) (hg1 : g2 < w2.heap.size) :
    let wf := (((w2.setCell ⟨w.heap.size + 1 + 1, 2, none⟩ u0).setCell ⟨w.heap.size, 0, none⟩ u1).setCell ⟨w.heap.size, 1, none⟩ u2).setCell ⟨w.heap.size, 2, none⟩ u3
    (T.two o 0 A C).IsS wf (.slice (some ⟨g2, 0, none⟩) 2 cp2) (g2 :: (bla ++ blb)) ∧ (∀ b ∈ g2 :: (bla ++ blb), w.heap.size ≤ b ∧ b < wf.heap.size) ∧ Kept B w wf ∧ Blk wf B 3 #[q2] := by
  intro wf
  have hgg : g2 = gg ∨ g2 = wb.heap.size + 1 := by
    rcases hat with h | h
    · simp [Value.ownBlock] at h; exact .inl h.symm
    · exact .inr h
  have z0 := hM.size
  have z1 : V.drew.heap.size = V.heap.size := rfl
  have z2 := hKb.size
  have z3 : (wb.alloc o1).heap.size = wb.heap.size + 1 := by simp
  have z4 := hgrow.size
  have hrow : ∀ r, (Value.slice (some ⟨gg, 0, none⟩) 1 cp).ownBlock = some r → w.heap.size ≤ r := fun r e => by simp [Value.ownBlock] at e; omega
  have hK : Kept B w wf := (((((((hM.kept.trans (Kept.drew V)).trans hKb).trans (Kept.alloc wb o1)).grown hgrow hrow).setNew _ (by simp; omega)).setNew _ (by simp)).setNew _ (by simp)).setNew _ (by simp)
  have hf : ∀ k, k ≠ w.heap.size + 1 + 1 → k ≠ w.heap.size → wf.heap[k]? = w2.heap[k]? := fun k h1 h2 =>
    (Below.heap_setCell _ _ _ k h2).trans ((Below.heap_setCell _ _ _ k h2).trans ((Below.heap_setCell _ _ _ k h2).trans (Below.heap_setCell _ _ _ k h1)))
  have hw : ∀ k, k < wb.heap.size → k ≠ gg → w2.heap[k]? = wb.heap[k]? := fun k hk hg => (hgrow.block k (by omega) (by simpa [Value.ownBlock] using hg)).trans (Below.heap_alloc wb o1 k hk)
  have hz : wf.heap.size = w2.heap.size := by simp [wf, World.setCell]
  refine ⟨T.IsS.mk_two hown (hf g2 (by omega) (by omega)) (hM.sub.keep fun b hb => ?_) (hSb.keep fun b hb => ?_), ?_, hK, ?_⟩
  · obtain ⟨h1, h2⟩ := hM.lie b hb
    exact ((hf b (by omega) (by omega)).trans (hw b (by omega) (by omega))).trans (hKb.block b (by omega) (by omega))
  · obtain ⟨h1, h2⟩ := hLb b hb
    exact (hf b (by omega) (by omega)).trans (hw b h2 (by omega))
  · intro b hb
    rcases List.mem_cons.1 hb with rfl | hb
    · omega
    · rcases List.mem_append.1 hb with hb | hb
      · obtain ⟨h1, h2⟩ := hM.lie b hb
        omega
      · obtain ⟨h1, h2⟩ := hLb b hb
        omega
  · exact ((hf B (by omega) (by omega)).trans (hw B hBb.lt (by omega))).trans hBb

section
variable (l : List (Int × Int)) (pl : Option Addr) (cap M B : Nat)
set_option maxHeartbeats 4000000 in
set_option maxRecDepth 100000 in
theorem built_two (hl : l.length ≤ 60) (i d k : Nat) (x : Int × Int) (w : World) (hx : l[i]? = some x) (hd : d ≤ 40) (hop : 5 ≤ x.1 ∧ x.1 ≤ 17) (hB : Blk w B 3 #[.int .i64 i]) (hN : NodesAt w pl l M) (hM : M ≤ B)
    (ih : ∀ (j : Nat) (w : World), j ≤ l.length → Blk w B 3 #[.int .i64 j] → NodesAt w pl l M → Calls Tryd.prog 40 #[.slice pl l.length cap, .pointer (some ⟨B, 0, none⟩), .int .i64 (d + 1)] w (BuiltPost w B (builtT k l j))) :
    Calls Tryd.prog 40 #[.slice pl l.length cap, .pointer (some ⟨B, 0, none⟩), .int .i64 d] w (BuiltPost w B (.two x.1 0 (builtT k l (i + 1)).1 (builtT k l (builtT k l (i + 1)).2).1, (builtT k l (builtT k l (i + 1)).2).2)) := by
  have hc : w.cell? ⟨B, 0, none⟩ = some (.int .i64 i) := hB.cell 0
  have hlt := hB.lt
  have hf := hB.frozen 0
  have hi : i < l.length := (List.getElem?_eq_some_iff.1 hx).1
  obtain ⟨b, off, rfl, hb1, hb2, hc1, hc2⟩ := hN i x hx
  obtain ⟨i0, hi0, hz0, hz1, hz2⟩ := info_parts termInfo
  obtain ⟨o, n⟩ := x
  dsimp only at hop hc1 hc2
  go_enter Tryd.func40, Tryd.ntmps40
  go_wp2
  obtain ⟨W0, hW0⟩ : ∃ W0, (((w.setCell ⟨B, 0, none⟩ (.int .i64 (i + 1))).alloc (.cells #[.int .i64 0, .int .u32 0, .slice none 0 0] 28)).alloc (.cells #[.int .i64 o, .int .u32 n] 115)).alloc (.cells #[.int .i64 o, .int .u32 0, .slice none 0 0] 28) = W0 := ⟨_, rfl⟩
  have hK0 : Kept B w W0 := hW0 ▸ (((Kept.set_ w ⟨B, 0, none⟩ _ (.inl rfl)).trans (Kept.alloc _ _)).trans (Kept.alloc _ _)).trans (Kept.alloc _ _)
  have hB0 : Blk W0 B 3 #[.int .i64 ((i + 1 : Nat) : Int)] := hW0 ▸ (((hB.set_ 0 _).alloc _).alloc _).alloc _
  have hZ0 : W0.heap.size = w.heap.size + 1 + 1 + 1 := by rw [← hW0]; simp
  have hR0 : Blk W0 w.heap.size 28 #[.int .i64 0, .int .u32 0, .slice none 0 0] := by
    have := ((Blk.new (w.setCell ⟨B, 0, none⟩ (.int .i64 (i + 1))) 28 #[.int .i64 0, .int .u32 0, .slice none 0 0]).alloc (.cells #[.int .i64 o, .int .u32 n] 115)).alloc (.cells #[.int .i64 o, .int .u32 0, .slice none 0 0] 28)
    rw [hW0] at this; simpa using this
  have hT0 : Blk W0 (w.heap.size + 1 + 1) 28 #[.int .i64 o, .int .u32 0, .slice none 0 0] := by
    have := Blk.new (((w.setCell ⟨B, 0, none⟩ (.int .i64 (i + 1))).alloc (.cells #[.int .i64 0, .int .u32 0, .slice none 0 0] 28)).alloc (.cells #[.int .i64 o, .int .u32 n] 115)) 28 #[.int .i64 o, .int .u32 0, .slice none 0 0]
    rw [hW0] at this; simpa using this
  have hN0 := hN.kept hK0 hM
  rw [hW0]
  clear hc1 hc2 hc hf hW0
  refine wp_loop_rounds 3 ?_
  rw [rounds_succ]
  go_wp2
  have hw : IntKind.i64.wrap ((d : Int) + 1) = d + 1 := by simp only [IntKind.wrap, IntKind.signed, IntKind.bits] <;> simp <;> omega
  have hTd : Blk W0.drew (w.heap.size + 1 + 1) 28 #[.int .i64 o, .int .u32 0, .slice none 0 0] := hT0
  have hRd : Blk W0.drew w.heap.size 28 #[.int .i64 0, .int .u32 0, .slice none 0 0] := hR0
  obtain ⟨hc0, hc1, hc2⟩ := hT0.c3
  obtain ⟨hd0, hd1, hd2⟩ := hTd.c3
  go_region_law
    (first
      | (rw [if_pos (by rfl)]; go_simp; go_at_call 40; refine (ih (i + 1) W0.drew (by omega) hB0.drew (hN0.kept (Kept.drew W0) hM)).mono ?_; rintro e wa ⟨sa, bla, rfl, hSa, hLa, hKa, hBa⟩
         have hTa := hTd.kept hKa (by omega)
         have hRa := hRd.kept hKa (by omega)
         obtain ⟨hca0, hca1, hca2⟩ := hTa.c3
         obtain ⟨hcb0, hcb1, hcb2⟩ := (hTa.alloc (.cells #[.int .i64 (builtT k l (i + 1)).1.op, .int .u32 (builtT k l (i + 1)).1.num, sa] 28)).c3)
      | (refine step_append_lies _ (by rfl) _ _ _ (by rfl) 0 28 i0 _ 3 40 Tryd.underlying26 hi0 hz0 hz1 hz2 rfl (by omega) (.slice none 0 0) 0 [] (by rfl) (World.ownsRow_nil _ _ _ _)
          ⟨wa.heap.size, 0, none⟩ 1 1 [.int .i64 (builtT k l (i + 1)).1.op, .int .u32 (builtT k l (i + 1)).1.num, sa] (by rfl) (by rfl) (World.news_of_block (cs := #[.int .i64 (builtT k l (i + 1)).1.op, .int .u32 (builtT k l (i + 1)).1.num, sa]) (t := 28) (fr := (0, 0)) (heap_alloc_new wa _)) (cells3_one hSa.one)
          (by omega) (by decide) (by omega) (by simp) (wa.heap.size + 1) (by simp) ?_; intro gg cp w1 hown1 hgrow hat hlt1
         have hTg := (hTa.alloc _).grown hgrow (by simp [Value.ownBlock])
         have hRg := (hRa.alloc _).grown hgrow (by simp [Value.ownBlock])
         obtain ⟨hg0, hg1, hg2⟩ := hTg.c3
         obtain ⟨hr0, hr1, hr2⟩ := hRg.c3
         obtain ⟨hq0, hq1, hq2⟩ := hTg.f3
         obtain ⟨hs0, hs1, hs2⟩ := hRg.f3))
  all_goals go_wp2
  all_goals
    have hMid := mid_mk hK0 hZ0 hlt hKa hBa hSa hLa hgrow hown1 hat hlt1 hTg hRg
    obtain ⟨V, hV⟩ : ∃ V, w1.setCell ⟨w.heap.size + 1 + 1, 2, none⟩ (.slice (some ⟨gg, 0, none⟩) 1 cp) = V := ⟨_, rfl⟩
    rw [hV] at hMid ⊢
    have hVT : Blk V.drew (w.heap.size + 1 + 1) 28 #[.int .i64 o, .int .u32 0, .slice (some ⟨gg, 0, none⟩) 1 cp] := hMid.loc
    have hVR : Blk V.drew w.heap.size 28 #[.int .i64 0, .int .u32 0, .slice none 0 0] := hMid.res
    have hVB : Blk V.drew B 3 #[.int .i64 (builtT k l (i + 1)).2] := hMid.at_
    have hVN := (hN.kept hMid.kept hM).kept (Kept.drew V) hM
    have hVo : V.drew.ownsRow 0 28 3 (.slice (some ⟨gg, 0, none⟩) 1 cp) 1 [.int .i64 (builtT k l (i + 1)).1.op, .int .u32 (builtT k l (i + 1)).1.num, sa] := hMid.own
    have hVs := hMid.size
    have hle := (builtT_le k l (i + 1) (by omega)).2.1
    clear hTa hRa hca0 hca1 hca2 hcb0 hcb1 hcb2 hTg hRg hg0 hg1 hg2 hr0 hr1 hr2 hq0 hq1 hq2 hs0 hs1 hs2 hc0 hc1 hc2 hd0 hd1 hd2 hTd hRd hT0 hR0 hown1 hV hgrow hat hlt1
    obtain ⟨hc0, hc1, hc2⟩ := hMid.loc.c3
    obtain ⟨hd0, hd1, hd2⟩ := hVT.c3
    rw [rounds_succ]
    go_wp2
    go_region_law
      (first
        | (rw [if_pos (by rfl)]; go_simp; go_at_call 40; refine (ih (builtT k l (i + 1)).2 V.drew hle hVB hVN).mono ?_; rintro e wb ⟨sb, blb, rfl, hSb, hLb, hKb, hBb⟩
           have hTa := hVT.kept hKb (by omega)
           have hRa := hVR.kept hKb (by omega)
           have hob := (hVo.kept hKb.grownBy (.inr (by simp [Value.ownBlock]; omega))).alloc (.cells #[.int .i64 (builtT k l (builtT k l (i + 1)).2).1.op, .int .u32 (builtT k l (builtT k l (i + 1)).2).1.num, sb] 28)
           obtain ⟨hca0, hca1, hca2⟩ := hTa.c3
           obtain ⟨hcb0, hcb1, hcb2⟩ := (hTa.alloc (.cells #[.int .i64 (builtT k l (builtT k l (i + 1)).2).1.op, .int .u32 (builtT k l (builtT k l (i + 1)).2).1.num, sb] 28)).c3)
        | (refine step_append_lies _ (by rfl) _ _ _ (by rfl) 0 28 i0 _ 3 40 Tryd.underlying26 hi0 hz0 hz1 hz2 rfl (by omega) (.slice (some ⟨gg, 0, none⟩) 1 cp) 1 [.int .i64 (builtT k l (i + 1)).1.op, .int .u32 (builtT k l (i + 1)).1.num, sa] (by rfl) hob
            ⟨wb.heap.size, 0, none⟩ 1 1 [.int .i64 (builtT k l (builtT k l (i + 1)).2).1.op, .int .u32 (builtT k l (builtT k l (i + 1)).2).1.num, sb] (by rfl) (by rfl) (World.news_of_block (cs := #[.int .i64 (builtT k l (builtT k l (i + 1)).2).1.op, .int .u32 (builtT k l (builtT k l (i + 1)).2).1.num, sb]) (t := 28) (fr := (0, 0)) (heap_alloc_new wb _)) (cells3_one hSb.one)
            (by omega) (by decide) (by omega) (by simp) (wb.heap.size + 1) (by simp) ?_; intro g2 cp2 w2 hown2 hgrow2 hat2 hlt2
           have hTg := (hTa.alloc _).grown hgrow2 (by simp [Value.ownBlock]; omega)
           have hRg := (hRa.alloc _).grown hgrow2 (by simp [Value.ownBlock]; omega)
           obtain ⟨hg0, hg1, hg2⟩ := hTg.c3
           obtain ⟨hr0, hr1, hr2⟩ := hRg.c3
           obtain ⟨hq0, hq1, hq2⟩ := hTg.f3
           obtain ⟨hs0, hs1, hs2⟩ := hRg.f3))
    all_goals go_wp2
    all_goals (rw [rounds_succ]; go_wp2)
    all_goals
      obtain ⟨hf1, hf2, hf3, hf4⟩ := built_close_two (u0 := .slice (some ⟨g2, 0, none⟩) 2 cp2) (u1 := .int .i64 o) (u2 := .int .u32 0) (u3 := .slice (some ⟨g2, 0, none⟩) 2 cp2) hMid hlt hKb hBb hSb hLb hgrow2 hown2 hat2 hlt2
      exact bodyPost_ret (v := .agg #[.int .i64 o, .int .u32 0, .slice (some ⟨g2, 0, none⟩) 2 cp2]) (by simp [results, Tryd.results40, go_sem, *]) rfl ⟨_, _, rfl, hf1, hf2, hf3, hf4⟩
/-- what built yields -/
theorem built_calls (hl : l.length ≤ 60) (hM : M ≤ B) : ∀ (k d i : Nat) (w : World), d + k = 41 → i ≤ l.length → Blk w B 3 #[.int .i64 i] → NodesAt w pl l M →
    Calls Tryd.prog 40 #[.slice pl l.length cap, .pointer (some ⟨B, 0, none⟩), .int .i64 d] w (BuiltPost w B (builtT k l i))
  | 0, d, i, w, hd, hi, hB, hN => built_end l pl cap B hl i d w (.inr (by omega)) (by omega) (by omega) hB
  | k + 1, d, i, w, hd, hi, hB, hN => by
    have ih : ∀ (j : Nat) (w : World), j ≤ l.length → Blk w B 3 #[.int .i64 j] → NodesAt w pl l M → Calls Tryd.prog 40 #[.slice pl l.length cap, .pointer (some ⟨B, 0, none⟩), .int .i64 ((d : Int) + 1)] w (BuiltPost w B (builtT k l j)) := fun j w hj hB hN =>
      built_calls hl hM k (d + 1) j w (by omega) hj hB hN
    cases hx : l[i]? with
    | none =>
      have e : builtT (k + 1) l i = (.leaf 1 0, i) := by unfold builtT; rw [hx]
      rw [e]
      exact built_end l pl cap B hl i d w (.inl (by simpa using hx)) (by omega) (by omega) hB
    | some x =>
      by_cases h2 : 5 ≤ x.1 ∧ x.1 ≤ 17
      · have e : builtT (k + 1) l i = (.two x.1 0 (builtT k l (i + 1)).1 (builtT k l (builtT k l (i + 1)).2).1, (builtT k l (builtT k l (i + 1)).2).2) := by
          conv => lhs; unfold builtT
          rw [hx]; dsimp only; rw [if_pos h2]
        rw [e]
        exact built_two l pl cap M B hl i d k x w hx (by omega) h2 hB hN hM ih
      by_cases h1 : 3 ≤ x.1 ∧ x.1 ≤ 4
      · have e : builtT (k + 1) l i = (.one x.1 0 (builtT k l (i + 1)).1, (builtT k l (i + 1)).2) := by
          conv => lhs; unfold builtT
          rw [hx]; dsimp only; rw [if_neg h2, if_pos h1]
        rw [e]
        exact built_one l pl cap M B hl i d k x w hx (by omega) h1 hB hN hM ih
      · have e : builtT (k + 1) l i = (.leaf x.1 x.2, i + 1) := by
          conv => lhs; unfold builtT
          rw [hx]; dsimp only; rw [if_neg h2, if_neg h1]
        rw [e]
        exact built_leaf l pl cap M B hl i d x w hx (by omega) (by omega) hB hN hM
end

end Go.Proofs.YtnjmfedleimlmaaDoor

/- A term's nodes as a list: the walk of flat. -/
namespace Go.Proofs.YtnjmfedleimlmaaDoor
open Go Go.RowKit

namespace T
/-- the nodes, each ahead of its terms': operator, number, how many terms -/
def nodes : T → List (Int × Int × Int)
  | .leaf o n => [(o, n, 0)] | .one o n a => (o, n, 1) :: a.nodes | .two o n a b => (o, n, 2) :: (a.nodes ++ b.nodes)
theorem nodes_length : ∀ t : T, t.nodes.length = t.size
  | .leaf .. => rfl
  | .one _ _ a => by simp [nodes, size, a.nodes_length]; omega
  | .two _ _ a b => by simp [nodes, size, a.nodes_length, b.nodes_length]; omega
theorem size_pos (t : T) : 1 ≤ t.size := by cases t <;> simp [size] <;> omega
end T
/-- a node's cells -/
def ncells (l : List (Int × Int × Int)) : List Value := l.flatMap fun x => [.int .i64 x.1, .int .u32 x.2.1, .int .i64 x.2.2]
theorem ncells_length (l : List (Int × Int × Int)) : (ncells l).length = l.length * 3 := by
  induction l with
  | nil => rfl
  | cons x l ih => simp only [ncells, List.flatMap_cons, List.length_append, List.length_cons, List.length_nil] at *; omega
theorem ncells_one (l : List (Int × Int × Int)) : ∀ u ∈ ncells l, u.oneCell' = true := by
  intro u hu
  obtain ⟨x, _, hx⟩ := List.mem_flatMap.1 hu
  simp only [List.mem_cons, List.not_mem_nil, or_false] at hx
  rcases hx with rfl | rfl | rfl <;> rfl
theorem ncells_append (l m : List (Int × Int × Int)) : ncells (l ++ m) = ncells l ++ ncells m := List.flatMap_append
theorem nodeInfo : (Tryd.prog.info? 45).map (fun i => (i.zero, i.size, i.bytes)) = some (some (.agg #[.int .i64 0, .int .u32 0, .int .i64 0]), 3, 24) := by kernel_rfl
theorem _root_.Go.RowKit.Below.grownBy {w w' : World} (h : Below w.heap.size w w') : w.grownBy w' none := ⟨h.os, h.tape, h.output, h.size, fun k hk _ => h.block k hk⟩
def FlatPost (w : World) (t : T) (e : Ending) (w' : World) : Prop :=
  ∃ g cap, e = .returned (.slice (some ⟨g, 0, none⟩) t.size cap) ∧ w'.ownsRow w.heap.size 45 3 (.slice (some ⟨g, 0, none⟩) t.size cap) t.size (ncells t.nodes) ∧ Below w.heap.size w w'

set_option maxHeartbeats 4000000 in
set_option maxRecDepth 100000 in
theorem flat_leaf (o n : Int) (w : World) : Calls Tryd.prog 19 #[.agg #[.int .i64 o, .int .u32 n, .slice none 0 0], .int .i64 3000] w (FlatPost w (.leaf o n)) := by
  go_enter Tryd.func19, Tryd.ntmps19
  go_wp2
  refine wp_loop_rounds 1 ?_
  iterate 1 (rw [rounds_succ]; go_wp2)
  go_ret
  refine ⟨_, _, rfl, ?_, ((Below.refl _ w).alloc (Nat.le_refl _) _).alloc (by simp) _⟩
  have := World.ownsRow_lit (base := w.heap.size) (e := 45) (size := 3) (w.alloc (.cells #[.int .i64 o, .int .u32 n, .slice none 0 0] 28)) #[.int .i64 o, .int .u32 n, .int .i64 0] 1 (by simp) (by decide) rfl
  simpa [T.size, T.nodes, ncells] using this

set_option maxHeartbeats 4000000 in
set_option maxRecDepth 100000 in
theorem flat_one (o n : Int) (a : T) (s : Value) (bl : List Nat) (w : World) (h : (T.one o n a).IsS w s bl) (hbl : ∀ b ∈ bl, b < w.heap.size) (hz : a.size ≤ 2999)
    (ih : ∀ (s : Value) (bl : List Nat) (w : World), a.IsS w s bl → (∀ b ∈ bl, b < w.heap.size) → Calls Tryd.prog 19 #[.agg #[.int .i64 a.op, .int .u32 a.num, s], .int .i64 3000] w (FlatPost w a)) :
    Calls Tryd.prog 19 #[.agg #[.int .i64 o, .int .u32 n, s], .int .i64 3000] w (FlatPost w (.one o n a)) := by
  obtain ⟨g, cap, cur, fr, sa, bla, rfl, hcap, hh, h0, h1, h2, ha, rfl⟩ := h
  have hc0 : w.cell? ⟨g, 0, none⟩ = some (.int .i64 a.op) := by rw [cell_of_row w g 0 cur _ fr hh, h0]
  have hc1 : w.cell? ⟨g, 1, none⟩ = some (.int .u32 a.num) := by rw [cell_of_row w g 1 cur _ fr hh, h1]
  have hc2 : w.cell? ⟨g, 2, none⟩ = some sa := by rw [cell_of_row w g 2 cur _ fr hh, h2]
  obtain ⟨pa, ca, rfl⟩ := ha.form
  obtain ⟨i0, hi0, hz0, hz1, hz2⟩ := info_parts nodeInfo
  have hlt := World.block_lt_of_cell? w _ hc0
  go_enter Tryd.func19, Tryd.ntmps19
  go_wp2
  refine wp_loop_rounds 2 ?_
  rw [rounds_succ]
  go_wp2_with fail
  obtain ⟨W1, hW1⟩ : ∃ W1, ((w.alloc (.cells #[.int .i64 o, .int .u32 n, .slice (some ⟨g, 0, none⟩) 1 cap] 28)).alloc (.cells #[.int .i64 o, .int .u32 n, .int .i64 1] 45)).alloc (.cells #[.int .i64 a.op, .int .u32 a.num, .slice pa a.kids ca] 28) = W1 := ⟨_, rfl⟩
  have hB1 : Below w.heap.size w W1 := hW1 ▸ (((Below.refl _ w).alloc (Nat.le_refl _) _).alloc (by simp) _).alloc (by simp; omega) _
  have hZ1 : W1.heap.size = w.heap.size + 1 + 1 + 1 := by rw [← hW1]; simp
  have hO1 : W1.ownsRow w.heap.size 45 3 (.slice (some ⟨w.heap.size + 1, 0, none⟩) 1 1) 1 [.int .i64 o, .int .u32 n, .int .i64 1] := by
    have := (World.ownsRow_lit (base := w.heap.size) (e := 45) (size := 3) (w.alloc (.cells #[.int .i64 o, .int .u32 n, .slice (some ⟨g, 0, none⟩) 1 cap] 28)) #[.int .i64 o, .int .u32 n, .int .i64 1] 1 (by simp) (by decide) rfl).alloc (.cells #[.int .i64 a.op, .int .u32 a.num, .slice pa a.kids ca] 28)
    rw [hW1] at this
    simpa using this
  rw [hW1]
  refine (ih _ bla W1 (ha.keep fun b hb => hB1.block b (hbl b (by simp [hb]))) (fun b hb => by have := hbl b (by simp [hb]); omega)).mono ?_
  rintro e w2 ⟨g2, cap2, rfl, hO2, hB2⟩
  have hO1' := hO1.kept hB2.grownBy (.inr (by simp [Value.ownBlock]))
  go_wp2_with (at_builtin; refine wpList_append_lies _ rfl _ _ _ rfl w.heap.size 45 i0 _ 3 24 Tryd.underlying39 hi0 hz0 hz1 hz2 rfl (by omega) _ 1 _ rfl hO1' ⟨g2, 0, none⟩ a.size cap2 (ncells a.nodes) rfl (by rw [ncells_length, a.nodes_length]) (hO2.cells rfl) (ncells_one _) a.size_pos (by show 1 + a.size ≤ 9223372036854775807; omega) (by omega) (by have := hB2.size; omega) _ rfl ?_; intro g3 cap3 w3 hO3 hgrow hat hlt3)
  rw [rounds_succ]
  go_wp2
  go_ret
  refine ⟨g3, cap3, rfl, hO3, (hB1.trans (hB2.mono hB1.size)).grown hgrow (by have := hB2.size; omega) fun r e => by obtain rfl : w.heap.size + 1 = r := Option.some.inj e; omega⟩

set_option maxHeartbeats 4000000 in
set_option maxRecDepth 100000 in
theorem flat_two (o n : Int) (a b : T) (s : Value) (bl : List Nat) (w : World) (h : (T.two o n a b).IsS w s bl) (hbl : ∀ b ∈ bl, b < w.heap.size) (hz : a.size + b.size ≤ 2999)
    (iha : ∀ (s : Value) (bl : List Nat) (w : World), a.IsS w s bl → (∀ b ∈ bl, b < w.heap.size) → Calls Tryd.prog 19 #[.agg #[.int .i64 a.op, .int .u32 a.num, s], .int .i64 3000] w (FlatPost w a))
    (ihb : ∀ (s : Value) (bl : List Nat) (w : World), b.IsS w s bl → (∀ b ∈ bl, b < w.heap.size) → Calls Tryd.prog 19 #[.agg #[.int .i64 b.op, .int .u32 b.num, s], .int .i64 3000] w (FlatPost w b)) :
    Calls Tryd.prog 19 #[.agg #[.int .i64 o, .int .u32 n, s], .int .i64 3000] w (FlatPost w (.two o n a b)) := by
  obtain ⟨g, cap, cur, fr, sa, bla, sb, blb, rfl, hcap, hh, h0, h1, h2, h3, h4, h5, ha, hb, rfl⟩ := h
  have hc0 : w.cell? ⟨g, 0, none⟩ = some (.int .i64 a.op) := by rw [cell_of_row w g 0 cur _ fr hh, h0]
  have hc1 : w.cell? ⟨g, 1, none⟩ = some (.int .u32 a.num) := by rw [cell_of_row w g 1 cur _ fr hh, h1]
  have hc2 : w.cell? ⟨g, 2, none⟩ = some sa := by rw [cell_of_row w g 2 cur _ fr hh, h2]
  have hc3 : w.cell? ⟨g, 3, none⟩ = some (.int .i64 b.op) := by rw [cell_of_row w g 3 cur _ fr hh, h3]
  have hc4 : w.cell? ⟨g, 4, none⟩ = some (.int .u32 b.num) := by rw [cell_of_row w g 4 cur _ fr hh, h4]
  have hc5 : w.cell? ⟨g, 5, none⟩ = some sb := by rw [cell_of_row w g 5 cur _ fr hh, h5]
  obtain ⟨pa, ca, rfl⟩ := ha.form
  obtain ⟨pb, cb, rfl⟩ := hb.form
  obtain ⟨i0, hi0, hz0, hz1, hz2⟩ := info_parts nodeInfo
  have hlt := World.block_lt_of_cell? w _ hc0
  have hlt' : g < w.heap.size := hlt
  go_enter Tryd.func19, Tryd.ntmps19
  go_wp2
  refine wp_loop_rounds 3 ?_
  rw [rounds_succ]
  go_wp2_with fail
  obtain ⟨W1, hW1⟩ : ∃ W1, ((w.alloc (.cells #[.int .i64 o, .int .u32 n, .slice (some ⟨g, 0, none⟩) 2 cap] 28)).alloc (.cells #[.int .i64 o, .int .u32 n, .int .i64 2] 45)).alloc (.cells #[.int .i64 a.op, .int .u32 a.num, .slice pa a.kids ca] 28) = W1 := ⟨_, rfl⟩
  have hB1 : Below w.heap.size w W1 := hW1 ▸ (((Below.refl _ w).alloc (Nat.le_refl _) _).alloc (by simp) _).alloc (by simp; omega) _
  have hZ1 : W1.heap.size = w.heap.size + 1 + 1 + 1 := by rw [← hW1]; simp
  have hO1 : W1.ownsRow w.heap.size 45 3 (.slice (some ⟨w.heap.size + 1, 0, none⟩) 1 1) 1 [.int .i64 o, .int .u32 n, .int .i64 2] := by
    have := (World.ownsRow_lit (base := w.heap.size) (e := 45) (size := 3) (w.alloc (.cells #[.int .i64 o, .int .u32 n, .slice (some ⟨g, 0, none⟩) 2 cap] 28)) #[.int .i64 o, .int .u32 n, .int .i64 2] 1 (by simp) (by decide) rfl).alloc (.cells #[.int .i64 a.op, .int .u32 a.num, .slice pa a.kids ca] 28)
    rw [hW1] at this
    simpa using this
  rw [hW1]
  refine (iha _ bla W1 (ha.keep fun b hb => hB1.block b (hbl b (by simp [hb]))) (fun b hb => by have := hbl b (by simp [hb]); omega)).mono ?_
  rintro e w2 ⟨g2, cap2, rfl, hO2, hB2⟩
  have hO1' := hO1.kept hB2.grownBy (.inr (by simp [Value.ownBlock]))
  go_wp2_with (at_builtin; refine wpList_append_lies _ rfl _ _ _ rfl w.heap.size 45 i0 _ 3 24 Tryd.underlying39 hi0 hz0 hz1 hz2 rfl (by omega) _ 1 _ rfl hO1' ⟨g2, 0, none⟩ a.size cap2 (ncells a.nodes) rfl (by rw [ncells_length, a.nodes_length]) (hO2.cells rfl) (ncells_one _) a.size_pos (by show 1 + a.size ≤ 9223372036854775807; omega) (by omega) (by have := hB2.size; omega) _ rfl ?_; intro g3 cap3 w3 hO3 hgrow hat hlt3)
  have hB3 : Below w.heap.size w w3 := (hB1.trans (hB2.mono hB1.size)).grown hgrow (by have := hB2.size; omega) fun r e => by obtain rfl : w.heap.size + 1 = r := Option.some.inj e; omega
  have hd3 : w3.cell? ⟨g, 3, none⟩ = some (.int .i64 b.op) := (hB3.cell (p := ⟨g, 3, none⟩) hlt').trans hc3
  have hd4 : w3.cell? ⟨g, 4, none⟩ = some (.int .u32 b.num) := (hB3.cell (p := ⟨g, 4, none⟩) hlt').trans hc4
  have hd5 : w3.cell? ⟨g, 5, none⟩ = some (.slice pb b.kids cb) := (hB3.cell (p := ⟨g, 5, none⟩) hlt').trans hc5
  have hZ3 := hB3.size
  clear hc0 hc1 hc2 hc3 hc4 hc5 hO1' hO1 hW1 hO2
  rw [rounds_succ]
  go_wp2_with fail
  obtain ⟨W4, hW4⟩ : ∃ W4, w3.alloc (.cells #[.int .i64 b.op, .int .u32 b.num, .slice pb b.kids cb] 28) = W4 := ⟨_, rfl⟩
  have hB4 : Below w.heap.size w W4 := hW4 ▸ hB3.alloc hZ3 _
  have hO4 := hO3.alloc (.cells #[.int .i64 b.op, .int .u32 b.num, .slice pb b.kids cb] 28)
  rw [hW4] at hO4 ⊢
  have hZ4 := hB4.size
  refine (ihb _ blb W4 (hb.keep fun c hc => hB4.block c (hbl c (by simp [hc]))) (fun c hc => by have := hbl c (by simp [hc]); omega)).mono ?_
  rintro e w5 ⟨g5, cap5, rfl, hO5, hB5⟩
  have hO4' := hO4.kept hB5.grownBy (.inr (by simp [Value.ownBlock]))
  go_wp2_with (at_builtin; refine wpList_append_lies _ rfl _ _ _ rfl w.heap.size 45 i0 _ 3 24 Tryd.underlying39 hi0 hz0 hz1 hz2 rfl (by omega) _ (1 + a.size) _ rfl hO4' ⟨g5, 0, none⟩ b.size cap5 (ncells b.nodes) rfl (by rw [ncells_length, b.nodes_length]) (hO5.cells rfl) (ncells_one _) b.size_pos (by show 1 + a.size + b.size ≤ 9223372036854775807; omega) (by omega) (by have := hB5.size; omega) _ rfl ?_; intro g6 cap6 w6 hO6 hgrow6 hat6 hlt6)
  have hr3 : w.heap.size ≤ g3 := (hO4.lt g3 rfl).1
  rw [rounds_succ]
  go_wp2
  go_ret
  refine ⟨g6, cap6, rfl, ?_, (hB4.trans (hB5.mono hB4.size)).grown hgrow6 (by have := hB5.size; omega) fun r e => by obtain rfl : g3 = r := Option.some.inj e; omega⟩
  have e : ncells (T.two o n a b).nodes = [.int .i64 o, .int .u32 n, .int .i64 2] ++ ncells a.nodes ++ ncells b.nodes := by
    show _ :: _ :: _ :: ncells (a.nodes ++ b.nodes) = _
    rw [ncells_append]; rfl
  rw [e]
  exact hO6
/-- what flat yields -/
theorem flat_calls : ∀ (t : T) (s : Value) (bl : List Nat) (w : World), t.IsS w s bl → (∀ b ∈ bl, b < w.heap.size) → t.size ≤ 3000 → Calls Tryd.prog 19 #[.agg #[.int .i64 t.op, .int .u32 t.num, s], .int .i64 3000] w (FlatPost w t)
  | .leaf o n, s, bl, w, h, _, _ => by obtain ⟨rfl, _⟩ := h; exact flat_leaf o n w
  | .one o n a, s, bl, w, h, hbl, hz => flat_one o n a s bl w h hbl (by simp only [T.size] at hz; omega) fun s bl w h hb => flat_calls a s bl w h hb (by simp only [T.size] at hz; omega)
  | .two o n a b, s, bl, w, h, hbl, hz => flat_two o n a b s bl w h hbl (by simp only [T.size] at hz; omega) (fun s bl w h hb => flat_calls a s bl w h hb (by simp only [T.size] at hz; omega)) (fun s bl w h hb => flat_calls b s bl w h hb (by simp only [T.size] at hz; omega))

end Go.Proofs.YtnjmfedleimlmaaDoor

/- The document's Right: the walk. -/
namespace Go.Proofs.YtnjmfedleimlmaaDoor
open Go Go.RowKit

def needsN (op : Int) : Int := if op < 1 ∨ 17 < op then -1 else if op < 3 then 0 else if op < 5 then 1 else 2
theorem needs_any (op : Int) (w : World) : Calls Tryd.prog 67 #[.int .i64 op] w fun e w' => e = .returned (.int .i64 (needsN op)) ∧ w' = w := by
  go_enter Tryd.func67, Tryd.ntmps67
  go_wp2
  all_goals (go_ret; exact ⟨congrArg Ending.returned (congrArg (Value.int IntKind.i64) (by unfold needsN; (repeat' split) <;> omega)), rfl⟩)
/-- a node that may be -/
def goodN (x : Int × Int × Int) : Bool := decide (1 ≤ x.1 ∧ x.1 ≤ 17 ∧ needsN x.1 = x.2.2 ∧ (2 < x.1 → x.2.1 = 0) ∧ (x.1 = 2 → x.2.1 ≤ 255))
/-- nodes in a block -/
def NAt (w : World) (g : Nat) (l : List (Int × Int × Int)) : Prop :=
  ∀ i x, l[i]? = some x → w.cell? ⟨g, i * 3, none⟩ = some (.int .i64 x.1) ∧ w.cell? ⟨g, i * 3 + 1, none⟩ = some (.int .u32 x.2.1) ∧ w.cell? ⟨g, i * 3 + 2, none⟩ = some (.int .i64 x.2.2)
theorem ncells_at : ∀ (l : List (Int × Int × Int)) (i : Nat) (x : Int × Int × Int), l[i]? = some x → (ncells l)[i * 3]? = some (.int .i64 x.1) ∧ (ncells l)[i * 3 + 1]? = some (.int .u32 x.2.1) ∧ (ncells l)[i * 3 + 2]? = some (.int .i64 x.2.2)
  | [], i, x, h => by simp at h
  | y :: l, 0, x, h => by simp at h; subst h; exact ⟨rfl, rfl, rfl⟩
  | y :: l, i + 1, x, h => by
    have := ncells_at l i x (by simpa using h)
    have e : ∀ j, (ncells (y :: l))[j + 3]? = (ncells l)[j]? := fun j => by
      show ([Value.int .i64 y.1, .int .u32 y.2.1, .int .i64 y.2.2] ++ ncells l)[j + 3]? = _
      rw [List.getElem?_append_right (by simp)]; simp
    rw [show (i + 1) * 3 = i * 3 + 3 by omega, show i * 3 + 3 + 1 = (i * 3 + 1) + 3 by omega, show i * 3 + 3 + 2 = (i * 3 + 2) + 3 by omega, e, e, e]
    exact this
theorem NAt.of_row {w : World} {base g cap n : Nat} {e : TypeId} {l : List (Int × Int × Int)} (h : w.ownsRow base e 3 (.slice (some ⟨g, 0, none⟩) n cap) n (ncells l)) (hn : l.length = n) : NAt w g l := fun i x hx => by
  have hi : i < n := by rw [← hn]; exact (List.getElem?_eq_some_iff.1 hx).1
  obtain ⟨h1, h2, h3⟩ := ncells_at l i x hx
  exact ⟨(h.cellAt _ (by omega)).trans h1, (h.cellAt _ (by omega)).trans h2, (h.cellAt _ (by omega)).trans h3⟩
theorem NAt.below {w w' : World} {g : Nat} {l : List (Int × Int × Int)} (h : NAt w g l) (hb : Below w.heap.size w w') (hg : g < w.heap.size) : NAt w' g l := fun i x hx => by
  obtain ⟨h1, h2, h3⟩ := h i x hx
  exact ⟨(hb.cell (p := ⟨g, _, none⟩) hg).trans h1, (hb.cell (p := ⟨g, _, none⟩) hg).trans h2, (hb.cell (p := ⟨g, _, none⟩) hg).trans h3⟩

theorem below_drewN (B : Nat) (w : World) (n : Nat) : Below B w (w.drewN n) := ⟨rfl, rfl, rfl, Nat.le_refl _, fun _ _ => rfl⟩
theorem all_bad {l : List (Int × Int × Int)} {k : Nat} {x : Int × Int × Int} (hx : l[k]? = some x) (h : goodN x = false) : l.all goodN = false := by
  rw [List.all_eq_false]
  exact ⟨x, List.mem_of_getElem? hx, by rw [h]; exact Bool.false_ne_true⟩
theorem all_take {l : List (Int × Int × Int)} {k : Nat} {x : Int × Int × Int} (hx : l[k]? = some x) (hk : (l.take k).all goodN = true) (h : goodN x = true) : (l.take (k + 1)).all goodN = true := by
  rw [List.take_add_one, hx, List.all_append, hk]
  simp [h]

set_option maxHeartbeats 4000000 in
set_option maxRecDepth 100000 in
theorem refright_any (l : List (Int × Int × Int)) (g cap : Nat) (w : World) (hl : l.length ≤ 3000) (hc : l.length ≤ cap) (hg : g < w.heap.size) (hN : NAt w g l) :
    Calls Tryd.prog 41 #[.slice (some ⟨g, 0, none⟩) l.length cap] w fun e w' => e = .returned (.bool (l.all goodN)) ∧ Below w.heap.size w w' := by
  go_enter Tryd.func41, Tryd.ntmps41
  go_wp2
  go_loopw [3] (fun i wr => ∃ k : Nat, i = .int .i64 k ∧ k ≤ l.length ∧ (l.take k).all goodN = true ∧ Hid (Below w.heap.size w wr)) (fun i _ => l.length - (intOf i).toNat)
  case atStart => exact ⟨0, rfl, by omega, rfl, Below.refl _ _⟩
  case round =>
    obtain ⟨k, rfl, hk, hall, hB⟩ := hrel
    have hNr := hN.below hB.out hg
    by_cases hlt : k < l.length
    · obtain ⟨x, hx⟩ : ∃ x, l[k]? = some x := ⟨l[k], List.getElem?_eq_getElem hlt⟩
      obtain ⟨hc1, hc2, hc3⟩ := hNr k x hx
      obtain ⟨o, n, q⟩ := x
      dsimp only at hc1 hc2 hc3
      have hnn : needsN o < 0 ↔ ¬ (1 ≤ o ∧ o ≤ 17) := by unfold needsN; (repeat' split) <;> omega
      by_cases h1 : 1 ≤ o ∧ o ≤ 17
      · have hd1 : decide (needsN o < 0) = false := decide_eq_false (by omega)
        by_cases h2 : needsN o = q
        · have hd2 : (needsN o != q) = false := by simpa using h2
          by_cases h3 : 2 < o
          · have hd3 : decide (2 < o) = true := decide_eq_true h3
            have hd5 : (o == 2) = false := by simpa using (show ¬ o = 2 by omega)
            by_cases h4 : n = 0
            · have hd4 : (n != 0) = false := by simpa using h4
              have HG := Lib.hid (show goodN (o, n, q) = true by unfold goodN; exact decide_eq_true (by dsimp only; omega))
              clear h2 h4
              have hall := Lib.hid hall
              go_wp2
              go_quiet ((go_at_call 67; exact Calls.quiet_of_same (needs_any _ _)))
              go_wp2
              go_roundw
              case rel => exact ⟨k + 1, by go_num, by omega, all_take hx hall HG.out, hB.out.trans (below_drewN _ _ _)⟩
              case measure => simp [intOf]; omega
            · have hd4 : (n != 0) = true := by simpa using h4
              have HB := Lib.hid (show goodN (o, n, q) = false by unfold goodN; exact decide_eq_false (by dsimp only; omega))
              clear h2 h4
              clear hall hNr
              go_wp2
              go_quiet ((go_at_call 67; exact Calls.quiet_of_same (needs_any _ _)))
              go_wp2
              go_ret
              exact ⟨congrArg Ending.returned (congrArg Value.bool (all_bad hx HB.out).symm), hB.out.trans (below_drewN _ _ _)⟩
          · have hd3 : decide (2 < o) = false := decide_eq_false h3
            by_cases h5 : o = 2
            · have hd5 : (o == 2) = true := by simpa using h5
              by_cases h6 : 255 < n
              · have hd6 : decide (255 < n) = true := decide_eq_true h6
                have HB := Lib.hid (show goodN (o, n, q) = false by unfold goodN; exact decide_eq_false (by dsimp only; omega))
                clear h2 h5 h6
                clear hall hNr
                go_wp2
                go_quiet ((go_at_call 67; exact Calls.quiet_of_same (needs_any _ _)))
                go_wp2
                go_ret
                exact ⟨congrArg Ending.returned (congrArg Value.bool (all_bad hx HB.out).symm), hB.out.trans (below_drewN _ _ _)⟩
              · have hd6 : decide (255 < n) = false := decide_eq_false h6
                have HG := Lib.hid (show goodN (o, n, q) = true by unfold goodN; exact decide_eq_true (by dsimp only; omega))
                clear h2 h5 h6
                have hall := Lib.hid hall
                go_wp2
                go_quiet ((go_at_call 67; exact Calls.quiet_of_same (needs_any _ _)))
                go_wp2
                go_roundw
                case rel => exact ⟨k + 1, by go_num, by omega, all_take hx hall HG.out, hB.out.trans (below_drewN _ _ _)⟩
                case measure => simp [intOf]; omega
            · have hd5 : (o == 2) = false := by simpa using h5
              have HG := Lib.hid (show goodN (o, n, q) = true by unfold goodN; exact decide_eq_true (by dsimp only; omega))
              clear h2 h5
              have hall := Lib.hid hall
              go_wp2
              go_quiet ((go_at_call 67; exact Calls.quiet_of_same (needs_any _ _)))
              go_wp2
              go_roundw
              case rel => exact ⟨k + 1, by go_num, by omega, all_take hx hall HG.out, hB.out.trans (below_drewN _ _ _)⟩
              case measure => simp [intOf]; omega
        · have hd2 : (needsN o != q) = true := by simpa using h2
          have HB := Lib.hid (show goodN (o, n, q) = false by unfold goodN; exact decide_eq_false (by dsimp only; omega))
          clear h2
          clear hall hNr
          go_wp2
          go_quiet ((go_at_call 67; exact Calls.quiet_of_same (needs_any _ _)))
          go_wp2
          go_ret
          exact ⟨congrArg Ending.returned (congrArg Value.bool (all_bad hx HB.out).symm), hB.out.trans (below_drewN _ _ _)⟩
      · have hd1 : decide (needsN o < 0) = true := decide_eq_true (by omega)
        have HB := Lib.hid (show goodN (o, n, q) = false by unfold goodN; exact decide_eq_false (by dsimp only; omega))
        clear hall hNr
        go_wp2
        go_quiet ((go_at_call 67; exact Calls.quiet_of_same (needs_any _ _)))
        go_wp2
        go_ret
        exact ⟨congrArg Ending.returned (congrArg Value.bool (all_bad hx HB.out).symm), hB.out.trans (below_drewN _ _ _)⟩
    · have hkl : k = l.length := by omega
      subst hkl
      have hall' : l.all goodN = true := by rwa [List.take_of_length_le (Nat.le_refl _)] at hall
      have HH := Lib.hid hall'
      clear hall hall' hNr
      go_wp2
      go_ret
      exact ⟨congrArg Ending.returned (congrArg Value.bool (by rw [HH.out]; simp; omega)), hB.out⟩

theorem refright_at (l : List (Int × Int × Int)) (n g cap : Nat) (w : World) (hn : l.length = n) (hl : n ≤ 3000) (hc : n ≤ cap) (hg : g < w.heap.size) (hN : NAt w g l) :
    Calls Tryd.prog 41 #[.slice (some ⟨g, 0, none⟩) n cap] w fun e w' => e = .returned (.bool (l.all goodN)) ∧ Below w.heap.size w w' := by
  subst hn
  exact refright_any l g cap w hl hc hg hN
theorem row_cap {w : World} {base g n cap size : Nat} {e : TypeId} {xs : List Value} (h : w.ownsRow base e size (.slice (some ⟨g, 0, none⟩) n cap) n xs) : n ≤ cap ∧ g < w.heap.size := by
  refine ⟨?_, (h.lt g rfl).2⟩
  rcases h.2 with ⟨h, _⟩ | ⟨g', cap', cur, hv, _, _, hn, _⟩
  · cases h
  · cases hv; exact hn

end Go.Proofs.YtnjmfedleimlmaaDoor

/- A term's value: the walk of Eval. -/
namespace Go.Proofs.YtnjmfedleimlmaaDoor
open Go Go.RowKit

/-- words that came in -/
def WordsAt (w : World) (pw : Option Addr) (ws : List Int) : Prop :=
  ∀ i v, ws[i]? = some v → ∃ b off, pw = some ⟨b, off, none⟩ ∧ b < w.heap.size ∧ w.cell? ⟨b, off + i, none⟩ = some (.int .u32 v)
theorem WordsAt.below {w w' : World} {pw : Option Addr} {ws : List Int} (h : WordsAt w pw ws) (hB : Below w.heap.size w w') : WordsAt w' pw ws := fun i v hv => by
  obtain ⟨b, off, h1, h2, h3⟩ := h i v hv
  exact ⟨b, off, h1, Nat.lt_of_lt_of_le h2 hB.size, (hB.cell (p := ⟨b, off + i, none⟩) h2).trans h3⟩
def WordsOk (ws : List Int) : Prop := ws.length ≤ 9223372036854775807 ∧ ∀ v ∈ ws, 0 ≤ v ∧ v ≤ 4294967295
def leafV (op n : Int) (ws : List Int) : Int := if op = 1 then n else (ws[n.toNat]?).getD 0
theorem leafV_bd {op n : Int} {ws : List Int} (hn : 0 ≤ n ∧ n ≤ 4294967295) (hw : WordsOk ws) : 0 ≤ leafV op n ws ∧ leafV op n ws ≤ 4294967295 := by
  unfold leafV
  split
  · exact hn
  · cases h : ws[n.toNat]? with
    | none => simp
    | some v => exact hw.2 v (List.mem_of_getElem? h)
namespace T
def evalT (ws : List Int) : T → Option Int
  | .leaf o n => some (leafV o n ws)
  | .one o _ a => (a.evalT ws).map (oneV o)
  | .two o _ a b => (a.evalT ws).bind fun x => (b.evalT ws).bind fun y => twoV o x y
/-- all numbers are words -/
def Wf : T → Prop
  | .leaf _ n => 0 ≤ n ∧ n ≤ 4294967295
  | .one _ n a => (0 ≤ n ∧ n ≤ 4294967295) ∧ a.Wf
  | .two _ n a b => (0 ≤ n ∧ n ≤ 4294967295) ∧ a.Wf ∧ b.Wf
theorem evalT_bd {ws : List Int} (hw : WordsOk ws) : ∀ {t : T} {v : Int}, t.Wf → t.evalT ws = some v → 0 ≤ v ∧ v ≤ 4294967295
  | .leaf o n, v, h, hv => by simp only [evalT, Option.some.injEq] at hv; subst hv; exact leafV_bd h hw
  | .one o n a, v, h, hv => by
    simp only [evalT, Option.map_eq_some_iff] at hv
    obtain ⟨x, hx, rfl⟩ := hv
    have := evalT_bd hw h.2 hx
    exact oneV_bd this.1 this.2
  | .two o n a b, v, h, hv => by
    simp only [evalT, Option.bind_eq_some_iff] at hv
    obtain ⟨x, hx, y, hy, hv⟩ := hv
    have h1 := evalT_bd hw h.2.1 hx
    have h2 := evalT_bd hw h.2.2 hy
    exact twoV_bd h1 h2 hv
end T
def optV (o : Option Int) : Value := .tuple #[.int .u32 (o.getD 0), .bool o.isSome]
def EvalPost (w : World) (o : Option Int) (e : Ending) (w' : World) : Prop := e = .returned (.tuple #[.int .u32 (o.getD 0), .bool o.isSome]) ∧ Below w.heap.size w w'

set_option maxRecDepth 100000 in
theorem leaf_calls (o n : Int) (s : Value) (hs : s = .slice none 0 0) (ws : List Int) (pw : Option Addr) (cw : Nat) (w : World) (hn : 0 ≤ n ∧ n ≤ 4294967295) (hw : WordsOk ws) (hW : WordsAt w pw ws) :
    Calls Tryd.prog 43 #[.agg #[.int .i64 o, .int .u32 n, s], .slice pw ws.length cw] w fun e w' => e = .returned (.int .u32 (leafV o n ws)) ∧ Below w.heap.size w w' := by
  subst hs
  have hl := hw.1
  by_cases h1 : o = 1
  · subst h1
    go_enter Tryd.func43, Tryd.ntmps43
    go_wp2
    go_ret
    exact ⟨rfl, (Below.refl _ w).alloc (Nat.le_refl _) _⟩
  · have hb : (o == 1) = false := by simpa using h1
    cases hx : ws[n.toNat]? with
    | none =>
      have hge : ws.length ≤ n.toNat := by simpa using hx
      have HE := Lib.hid (show leafV o n ws = 0 by unfold leafV; rw [if_neg h1, hx]; rfl)
      clear hx
      go_enter Tryd.func43, Tryd.ntmps43
      go_wp2
      go_ret
      exact ⟨congrArg Ending.returned (congrArg (Value.int IntKind.u32) HE.out.symm), (Below.refl _ w).alloc (Nat.le_refl _) _⟩
    | some v =>
      have hlt : n.toNat < ws.length := (List.getElem?_eq_some_iff.1 hx).1
      obtain ⟨b, off, rfl, hb1, hb2⟩ := hW _ v hx
      have HE := Lib.hid (show leafV o n ws = v by unfold leafV; rw [if_neg h1, hx]; rfl)
      obtain ⟨m, rfl⟩ : ∃ m : Nat, n = m := ⟨n.toNat, by omega⟩
      rw [Int.toNat_natCast] at hb2 hlt
      clear hx
      go_enter Tryd.func43, Tryd.ntmps43
      go_wp2
      go_ret
      exact ⟨congrArg Ending.returned (congrArg (Value.int IntKind.u32) HE.out.symm), (Below.refl _ w).alloc (Nat.le_refl _) _⟩

end Go.Proofs.YtnjmfedleimlmaaDoor

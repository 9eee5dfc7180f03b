/- What the laws of this claim are proved with, joined (join.py) of 10 texts: no condition. -/
import Derived.Test.YtjcacjeoddnmhaaDoorNb1
import Derived.Deep.AppendLies
import Derived.Test.YtjcacjeoddnmhaaDoorChecked
import Derived.Maps.Own
import Derived.ChangeKeysEq
import Derived.Maps.AppendAt
set_option linter.unusedVariables false
set_option linter.unusedSimpArgs false

/- Values without a heap; what they stand for in a world; what a state of such values says of an activation; the statements 'a function does' and 'a piece of code does' over them. No program in sight. -/
namespace Go.Proofs.YtjcacjeoddnmhaaDoor.Pw
open Go Go.RowKit

/-- a value: lit, tt, ff are known; int, bool are told by a term; sl is a slice whose elements never change; wref, ref are slices of a block of the store, ptr a cell's address in one; ep is the address of a cell of an element that never changes; gp of a table's -/
inductive PV where
  | lit (k : IntKind) (n : Int) | int (k : IntKind) (n : Int)
  | tt | ff | bool (p : Prop)
  | val (v : Value)
  | clo (f : FuncId) (cs : List PV)
  | nil | sl (n : Nat) (es : List PV)
  | wref (l : Nat) | ref (l off len : Nat)
  | mref (l : Nat)
  | ptr (l off : Nat) | pti (l off : Nat) (i : Int) (size : Nat) | dpt (l i size off : Nat)
  | ep (cs : List PV) (off : Nat) | gp (g off : Nat) | gpi (g off : Nat) (i : Int) (size : Nat)
  | agg (cs : List PV) | tup (vs : List PV)
  deriving Inhabited
def PV.cells : PV → List PV
  | .agg cs => cs
  | v => [v]

/-- a block's kind: a variable; a slice's array that is known; one whose elements are told by a list; a map of ints, by what was put into it -/
inductive BK where
  | loc | arr | dyn | mp
  deriving DecidableEq
/-- a block may be written; or it is not to be written now; or never more -/
inductive Md where
  | w | p | r
  deriving DecidableEq
/-- kinds whose cells are told -/
def BK.isC : BK → Bool
  | .loc | .arr => true
  | _ => false
/-- a block of the store: dyn: cs are its elements; mp: what was put into it; else its cells -/
structure PBlk where
  k : BK
  ty : TypeId
  size : Nat
  m : Md
  live : Bool
  cs : List PV
/-- where a block lies: none: nowhere (no element yet) -/
structure Plc where
  a : Option (Nat × Nat)
  len : Nat
  cap : Nat
def Plc.whole (p : Plc) : Value := match p.a with
  | none => .slice none 0 0
  | some (g, o) => .slice (some ⟨g, o, none⟩) p.len p.cap
abbrev Places := Nat → Option Plc

open Classical in
noncomputable def pb (p : Prop) : Bool := decide p
theorem pb_true {p : Prop} (h : p) : pb p = true := @decide_eq_true p (Classical.propDecidable p) h
theorem pb_false {p : Prop} (h : ¬ p) : pb p = false := @decide_eq_false p (Classical.propDecidable p) h
theorem pb_dec {p : Prop} [Decidable p] : pb p = decide p := by
  by_cases h : p
  · rw [pb_true h, decide_eq_true h]
  · rw [pb_false h, decide_eq_false h]

section
variable (w : World) (I : Nat → Prop)
mutual
def PV.Is : PV → Places → Value → Prop
  | .lit k n, _, v => v = .int k n
  | .int k n, _, v => v = .int k n
  | .tt, _, v => v = .bool true
  | .ff, _, v => v = .bool false
  | .bool p, _, v => v = .bool (pb p)
  | .val x, _, v => v = x ∧ Ev.flat x = true
  | .clo f cs, β, v => ∃ caps : Array Value, v = .func (.func f) #[] caps ∧ IsL cs β caps.toList
  | .nil, _, v => v = .slice none 0 0
  | .sl n es, _, v => ∃ a cap, v = .slice a es.length cap ∧ es.length ≤ cap ∧ es.length ≤ maxLen ∧ (∀ g o, a = some ⟨g, o, none⟩ → IsEs es n g o) ∧ (es.length ≠ 0 → ∃ g o, a = some ⟨g, o, none⟩ ∧ I g ∧ 0 < n)
  | .wref l, β, v => ∃ p, β l = some p ∧ v = p.whole
  | .ref l off len, β, v => ∃ p g o cap, β l = some p ∧ p.a = some (g, o) ∧ v = .slice (some ⟨g, o + off, none⟩) len cap ∧ len ≤ cap
  | .mref l, β, v => ∃ p g, β l = some p ∧ p.a = some (g, 0) ∧ v = .map (some g)
  | .ptr l off, β, v => ∃ p g o, β l = some p ∧ p.a = some (g, o) ∧ v = .pointer (some ⟨g, o + off, none⟩)
  | .pti l off i n, β, v => ∃ p g o, β l = some p ∧ p.a = some (g, o) ∧ v = .pointer (some ⟨g, o + (off + i.toNat * n), none⟩)
  | .dpt l i n off, β, v => ∃ p g o, β l = some p ∧ p.a = some (g, o) ∧ v = .pointer (some ⟨g, o + (i * n + off), none⟩)
  | .ep cs off, _, v => ∃ g o, v = .pointer (some ⟨g, o + off, none⟩) ∧ I g ∧ IsAt cs g o
  | .gp g off, _, v => v = .pointer (some ⟨g, off, none⟩)
  | .gpi g off i n, _, v => v = .pointer (some ⟨g, off + i.toNat * n, none⟩)
  | .agg cs, β, v => ∃ vs : Array Value, v = .agg vs ∧ IsL cs β vs.toList
  | .tup cs, β, v => ∃ vs : Array Value, v = .tuple vs ∧ IsL cs β vs.toList
def IsL : List PV → Places → List Value → Prop
  | [], _, [] => True
  | c :: cs, β, v :: vs => c.Is β v ∧ IsL cs β vs
  | _, _, _ => False
/-- cells, one behind the other, from a place on -/
def IsAt : List PV → Nat → Nat → Prop
  | [], _, _ => True
  | c :: cs, g, o => (∃ v, w.cell? ⟨g, o, none⟩ = some v ∧ c.Is (fun _ => none) v ∧ v.oneCell' = true) ∧ IsAt cs g (o + 1)
/-- elements of n cells each -/
def IsEs : List PV → Nat → Nat → Nat → Prop
  | [], _, _, _ => True
  | .agg cs :: es, n, g, o => (cs.length = n ∧ IsAt cs g o) ∧ IsEs es n g (o + n)
  | e :: es, n, g, o => (n = 1 ∧ ∃ v, w.cell? ⟨g, o, none⟩ = some v ∧ e.Is (fun _ => none) v ∧ v.oneCell' = true) ∧ IsEs es n g (o + n)
end
end

/-- numbers of slots to values, by the bits of the numbers -/
inductive TM where
  | nil | node (v : Option PV) (l r : TM)
  deriving Inhabited
def TM.get : TM → Nat → Option PV
  | .nil, _ => none
  | .node v l r, n => bif Nat.beq n 0 then v else bif Nat.beq (n % 2) 1 then l.get ((n - 1) / 2) else r.get ((n - 1) / 2)
def TM.setK (v : Option PV) : Nat → TM → Nat → (TM → Prop) → Prop
  | 0, _, _, _ => False
  | f + 1, .nil, n, k => bif Nat.beq n 0 then k (.node v .nil .nil) else bif Nat.beq (n % 2) 1 then TM.setK v f .nil ((n - 1) / 2) (fun t => k (.node none t .nil)) else TM.setK v f .nil ((n - 1) / 2) (fun t => k (.node none .nil t))
  | f + 1, .node u l r, n, k => bif Nat.beq n 0 then k (.node v l r) else bif Nat.beq (n % 2) 1 then TM.setK v f l ((n - 1) / 2) (fun t => k (.node u t r)) else TM.setK v f r ((n - 1) / 2) (fun t => k (.node u l t))

/-- a state: how many slots, the slots, the store; the blocks below base are the caller's; those of rl may lie elsewhere afterwards -/
structure PSt where
  n : Nat
  t : TM
  st : List PBlk
  base : Nat
  rl : List Nat

structure Gx where
  cx : Ev.Cx
  tabs : List (Nat × List PV)
  bt : List (Nat × Nat)
  ext : List Nat := []

def Own (I : Nat → Prop) (β : Places) (st : List PBlk) (l g : Nat) (fr : Nat × Nat) (b : PBlk) : Prop :=
  (b.m ≠ .r → fr = (0, 0) ∧ ¬ I g ∧ ∀ l' b', l' ≠ l → st[l']? = some b' → b'.live = true → ∀ p g' o', β l' = some p → p.a = some (g', o') → g' ≠ g) ∧ (b.m = .r → I g)
def CellsAt (w : World) (I : Nat → Prop) (β : Places) (cs : List PV) (arr : Array Value) (o : Nat) : Prop := ∀ i c, cs[i]? = some c → ∃ v, arr[o + i]? = some v ∧ c.Is w I β v ∧ v.oneCell' = true
/-- what was put into a map, as the kit's datum -/
def kvD : PV → Lit × DataW Unit
  | .agg [.int _ k, .int _ v] => (.int .i64 k, .lit (.int .i64 v))
  | _ => (.int .i64 0, .lit (.int .i64 0))
def mapD (cs : List PV) : DataW Unit := cs.foldl (fun D e => D.put (kvD e).1 (kvD e).2) (.map [])
def MapAt (w : World) (g : Nat) (cs : List PV) : Prop := w.ownsMap Tryd.prog 3 (plainElem Tryd.prog 3) g cs.length (mapD cs)
def BlkOk (I : Nat → Prop) (β : Places) (st : List PBlk) (w : World) (l : Nat) (b : PBlk) : Prop :=
  ∃ p, β l = some p ∧ match b.k with
  | .loc => ∃ g o arr ty fr, p.a = some (g, o) ∧ w.heap[g]? = some (.cells arr ty fr) ∧ CellsAt w I β b.cs arr o ∧ Own I β st l g fr b
  | .arr => ∃ g arr fr, p.a = some (g, 0) ∧ w.heap[g]? = some (.cells arr b.ty fr) ∧ CellsAt w I β b.cs arr 0 ∧ Own I β st l g fr b ∧ b.cs.length = p.len * b.size ∧ p.len ≤ p.cap ∧ p.cap ≤ maxLen ∧ arr.size = p.cap * b.size ∧ 0 < b.size
  | .dyn => (0 < b.size ∧ b.cs.length = p.len ∧ p.len ≤ p.cap ∧ p.cap ≤ maxLen) ∧ ((p.a = none ∧ p.cap = 0) ∨ ∃ g arr fr, p.a = some (g, 0) ∧ w.heap[g]? = some (.cells arr b.ty fr) ∧ IsEs w I b.cs b.size g 0 ∧ Own I β st l g fr b ∧ arr.size = p.cap * b.size)
  | .mp => ∃ g, p.a = some (g, 0) ∧ MapAt w g b.cs ∧ Own I β st l g (0, 0) b
structure HeapOk (I : Nat → Prop) (β : Places) (st : List PBlk) (w : World) : Prop where
  far : ∀ l, st.length ≤ l → β l = none
  blk : ∀ l b, st[l]? = some b → b.live = true → BlkOk I β st w l b
/-- what never changes lies in known memory; the tables -/
structure ImmOk (G : Gx) (I : Nat → Prop) (w : World) : Prop where
  imm : ∀ g, I g → g < w.heap.size
  tab : ∀ g cs, (g, cs) ∈ G.tabs → I g ∧ IsAt w I cs g 0
  row : ∀ g cs, (g, cs) ∈ G.tabs → ∃ arr ty fr, w.heap[g]? = some (.cells arr ty fr) ∧ arr.size = cs.length
structure Rel (G : Gx) (I : Nat → Prop) (β : Places) (s : PSt) (a : Act) (w : World) : Prop where
  small : s.n ≤ 16777215
  defers : a.defers = []
  size : a.tmps.size = s.n
  base : s.base ≤ s.st.length
  get : ∀ t x, s.t.get t = some x → ∃ v, a.tmps[t]? = some v ∧ x.Is w I β v
  heap : HeapOk I β s.st w
  imm : ImmOk G I w
/-- the blocks that may be written -/
def Wr (β : Places) (st : List PBlk) (g : Nat) : Prop := ∃ l b p o, st[l]? = some b ∧ b.live = true ∧ b.m = .w ∧ β l = some p ∧ p.a = some (g, o)
/-- from one state of memory to another: what was there and may not be written is as it was -/
structure Ext (I : Nat → Prop) (β : Places) (st : List PBlk) (w : World) (I' : Nat → Prop) (β' : Places) (st' : List PBlk) (w' : World) : Prop where
  os : w'.os = w.os
  tape : w'.tape = w.tape
  output : w'.output = w.output
  size : w.heap.size ≤ w'.heap.size
  block : ∀ g, g < w.heap.size → ¬ Wr β st g → w'.heap[g]? = w.heap[g]?
  wr : ∀ g, g < w.heap.size → Wr β' st' g → Wr β st g
  imm : ∀ g, I g → I' g
  new : ∀ g, g < w.heap.size → I' g → I g ∨ Wr β st g

inductive X where
  | nml | exit (id : Nat) | ret
def X.e : X → Exit
  | .nml => .normal
  | .exit id => .exit id
  | .ret => .ret

/-- a function, called at args and a store, yields a value and a store that meet K -/
@[irreducible] def Spec (G : Gx) (f : FuncId) (args : List PV) (S : List PBlk) (rl : List Nat) (K : PV → List PBlk → Prop) : Prop :=
  Ev.Enters G.cx.P f ∧ ∀ I β w vals, HeapOk I β S w → ImmOk G I w → IsL w I args β vals →
    Calls G.cx.P f vals.toArray w fun e w' => ∃ v r S' I' β', e = .returned v ∧ K r S' ∧ r.Is w' I' β' v ∧ HeapOk I' β' S' w' ∧ ImmOk G I' w' ∧ Ext I β S w I' β' S' w' ∧ S.length ≤ S'.length ∧ ∀ l, l < S.length → l ∉ rl → β' l = β l
/-- what a piece of code leaves -/
def Post (G : Gx) (s : PSt) (I : Nat → Prop) (β : Places) (w : World) (Q : X → PSt → Prop) (e : Exit) (a' : Act) (w' : World) : Prop :=
  ∃ x s' I' β', e = X.e x ∧ Q x s' ∧ Rel G I' β' s' a' w' ∧ Ext I β s.st w I' β' s'.st w' ∧ s'.base = s.base ∧ s'.rl = s.rl ∧ s'.n = s.n ∧ ∀ l, l < s.base → l ∉ s.rl → β' l = β l
@[irreducible] def SW (G : Gx) (c : Code) (Q : X → PSt → Prop) (s : PSt) : Prop :=
  ∀ I β a w, Rel G I β s a w → c.wp G.cx.P (Post G s I β w Q) a w
/-- what an operation leaves: the temporary's value, and the world -/
def OpPost (G : Gx) (s : PSt) (I : Nat → Prop) (β : Places) (w : World) (a : Act) (q : PV → PSt → Prop) (v : Value) (w' : World) : Prop :=
  ∃ x s' I' β', q x s' ∧ Rel G I' β' s' a w' ∧ x.Is w' I' β' v ∧ Ext I β s.st w I' β' s'.st w' ∧ s'.base = s.base ∧ s'.rl = s.rl ∧ s'.n = s.n ∧ (∀ l, l < s.base → l ∉ s.rl → β' l = β l) ∧ ∀ l b, s.st[l]? = some b → b.m = .p → β' l = β l
/-- an operation that is told by hand: what it leaves meets q -/
@[irreducible] def OpS (G : Gx) (s : PSt) (o : Oper) (q : PV → PSt → Prop) : Prop := ∀ I β a w, Rel G I β s a w → Ev.resE G.cx.P (OpPost G s I β w a q) ((execOp a.eval o).run G.cx.P w)

end Go.Proofs.YtjcacjeoddnmhaaDoor.Pw

/- Values and memory: what stays true as a world goes on. -/
namespace Go.Proofs.YtjcacjeoddnmhaaDoor.Pw
open Go Go.RowKit

mutual
/-- the blocks that a value leads to -/
def PV.uses : PV → List Nat
  | .wref l => [l] | .mref l => [l] | .ref l _ _ => [l] | .ptr l _ => [l] | .pti l _ _ _ => [l] | .dpt l _ _ _ => [l]
  | .clo _ cs => usesL cs | .agg cs => usesL cs | .tup cs => usesL cs
  | _ => []
def usesL : List PV → List Nat
  | [] => []
  | c :: cs => c.uses ++ usesL cs
end

section
variable {w w' : World} {I I' : Nat → Prop} {β β' : Places}
mutual
theorem PV.Is.mono (hI : ∀ g, I g → I' g) (hw : ∀ g, I g → w'.heap[g]? = w.heap[g]?) : ∀ (x : PV) (β β' : Places) (v : Value), (∀ l p, l ∈ x.uses → β l = some p → β' l = some p) → x.Is w I β v → x.Is w' I' β' v
  | .lit .., _, _, _, _, h => by simp only [PV.Is] at h ⊢; exact h
  | .int .., _, _, _, _, h => by simp only [PV.Is] at h ⊢; exact h
  | .tt, _, _, _, _, h => by simp only [PV.Is] at h ⊢; exact h
  | .ff, _, _, _, _, h => by simp only [PV.Is] at h ⊢; exact h
  | .bool _, _, _, _, _, h => by simp only [PV.Is] at h ⊢; exact h
  | .val _, _, _, _, _, h => by simp only [PV.Is] at h ⊢; exact h
  | .nil, _, _, _, _, h => by simp only [PV.Is] at h ⊢; exact h
  | .gp .., _, _, _, _, h => by simp only [PV.Is] at h ⊢; exact h
  | .gpi .., _, _, _, _, h => by simp only [PV.Is] at h ⊢; exact h
  | .clo f cs, β, β', v, hb, h => by
    simp only [PV.Is] at h ⊢
    obtain ⟨caps, rfl, h⟩ := h
    exact ⟨caps, rfl, IsL.mono hI hw cs β β' _ (fun l p hl => hb l p (by simpa only [PV.uses] using hl)) h⟩
  | .agg cs, β, β', v, hb, h => by
    simp only [PV.Is] at h ⊢
    obtain ⟨caps, rfl, h⟩ := h
    exact ⟨caps, rfl, IsL.mono hI hw cs β β' _ (fun l p hl => hb l p (by simpa only [PV.uses] using hl)) h⟩
  | .tup cs, β, β', v, hb, h => by
    simp only [PV.Is] at h ⊢
    obtain ⟨caps, rfl, h⟩ := h
    exact ⟨caps, rfl, IsL.mono hI hw cs β β' _ (fun l p hl => hb l p (by simpa only [PV.uses] using hl)) h⟩
  | .sl n es, _, _, v, _, h => by
    simp only [PV.Is] at h ⊢
    obtain ⟨a, cap, rfl, h1, h2, h3, h4⟩ := h
    refine ⟨a, cap, rfl, h1, h2, fun g o ha => ?_, fun hn => ?_⟩
    · by_cases hl : es.length = 0
      · have : es = [] := List.eq_nil_of_length_eq_zero hl
        subst this; simp only [IsEs]
      · obtain ⟨g', o', ha', hg, _⟩ := h4 hl
        rw [ha] at ha'
        cases ha'
        exact IsEs.mono hI hw es n g o (hw g hg) (h3 g o ha)
    · obtain ⟨g, o, ha, hg, hn⟩ := h4 hn
      exact ⟨g, o, ha, hI g hg, hn⟩
  | .wref l, β, β', v, hb, h => by
    simp only [PV.Is] at h ⊢
    obtain ⟨p, hp, h⟩ := h
    exact ⟨p, hb l p (by simp [PV.uses]) hp, h⟩
  | .mref l, β, β', v, hb, h => by
    simp only [PV.Is] at h ⊢
    obtain ⟨p, g, hp, h⟩ := h
    exact ⟨p, g, hb l p (by simp [PV.uses]) hp, h⟩
  | .ref l _ _, β, β', v, hb, h => by
    simp only [PV.Is] at h ⊢
    obtain ⟨p, g, o, c, hp, h⟩ := h
    exact ⟨p, g, o, c, hb l p (by simp [PV.uses]) hp, h⟩
  | .ptr l _, β, β', v, hb, h => by
    simp only [PV.Is] at h ⊢
    obtain ⟨p, g, o, hp, h⟩ := h
    exact ⟨p, g, o, hb l p (by simp [PV.uses]) hp, h⟩
  | .pti l _ _ _, β, β', v, hb, h => by
    simp only [PV.Is] at h ⊢
    obtain ⟨p, g, o, hp, h⟩ := h
    exact ⟨p, g, o, hb l p (by simp [PV.uses]) hp, h⟩
  | .dpt l _ _ _, β, β', v, hb, h => by
    simp only [PV.Is] at h ⊢
    obtain ⟨p, g, o, hp, h⟩ := h
    exact ⟨p, g, o, hb l p (by simp [PV.uses]) hp, h⟩
  | .ep cs _, _, _, v, _, h => by
    simp only [PV.Is] at h ⊢
    obtain ⟨g, o, rfl, hg, h⟩ := h
    exact ⟨g, o, rfl, hI g hg, IsAt.mono hI hw cs g o (hw g hg) h⟩
theorem IsL.mono (hI : ∀ g, I g → I' g) (hw : ∀ g, I g → w'.heap[g]? = w.heap[g]?) : ∀ (cs : List PV) (β β' : Places) (vs : List Value), (∀ l p, l ∈ usesL cs → β l = some p → β' l = some p) → IsL w I cs β vs → IsL w' I' cs β' vs
  | [], _, _, [], _, _ => by simp only [IsL]
  | c :: cs, β, β', v :: vs, hb, h => by
    simp only [IsL] at h ⊢
    exact ⟨PV.Is.mono hI hw c β β' v (fun l p hl => hb l p (by simp only [usesL, List.mem_append]; exact .inl hl)) h.1, IsL.mono hI hw cs β β' vs (fun l p hl => hb l p (by simp only [usesL, List.mem_append]; exact .inr hl)) h.2⟩
  | [], _, _, _ :: _, _, h => by simp only [IsL] at h
  | _ :: _, _, _, [], _, h => by simp only [IsL] at h
theorem IsAt.mono (hI : ∀ g, I g → I' g) (hw : ∀ g, I g → w'.heap[g]? = w.heap[g]?) : ∀ (cs : List PV) (g o : Nat), w'.heap[g]? = w.heap[g]? → IsAt w I cs g o → IsAt w' I' cs g o
  | [], _, _, _, _ => by simp only [IsAt]
  | c :: cs, g, o, hg, h => by
    simp only [IsAt] at h ⊢
    obtain ⟨⟨v, h1, h2, h3⟩, h4⟩ := h
    exact ⟨⟨v, (World.cell?_of_block (a := ⟨g, o, none⟩) hg).trans h1, PV.Is.mono hI hw c _ _ v (fun _ _ _ h => h) h2, h3⟩, IsAt.mono hI hw cs g (o + 1) hg h4⟩
theorem IsEs.mono (hI : ∀ g, I g → I' g) (hw : ∀ g, I g → w'.heap[g]? = w.heap[g]?) : ∀ (es : List PV) (n g o : Nat), w'.heap[g]? = w.heap[g]? → IsEs w I es n g o → IsEs w' I' es n g o
  | [], _, _, _, _, _ => by simp only [IsEs]
  | e :: es, n, g, o, hg, h => by
    have one : (n = 1 ∧ ∃ v, w.cell? ⟨g, o, none⟩ = some v ∧ e.Is w I (fun _ => none) v ∧ v.oneCell' = true) → (n = 1 ∧ ∃ v, w'.cell? ⟨g, o, none⟩ = some v ∧ e.Is w' I' (fun _ => none) v ∧ v.oneCell' = true) := by
      rintro ⟨h0, v, h1, h2, h3⟩
      exact ⟨h0, v, (World.cell?_of_block (a := ⟨g, o, none⟩) hg).trans h1, PV.Is.mono hI hw e _ _ v (fun _ _ _ h => h) h2, h3⟩
    cases e with
    | agg cs =>
      simp only [IsEs] at h ⊢
      exact ⟨⟨h.1.1, IsAt.mono hI hw cs g o hg h.1.2⟩, IsEs.mono hI hw es n g (o + n) hg h.2⟩
    | _ => simp only [IsEs] at h ⊢; exact ⟨one h.1, IsEs.mono hI hw es n g (o + n) hg h.2⟩
end
end

/-- an element at a place -/
def ElAt (w : World) (I : Nat → Prop) (n : Nat) (e : PV) (g o : Nat) : Prop := e.cells.length = n ∧ IsAt w I e.cells g o
section
variable {w w' : World} {I I' : Nat → Prop} {β β' : Places} {G : Gx}
theorem IsEs.cons {e : PV} {es : List PV} {n g o : Nat} : IsEs w I (e :: es) n g o ↔ ElAt w I n e g o ∧ IsEs w I es n g (o + n) := by
  cases e <;> simp only [IsEs, ElAt, PV.cells, IsAt, List.length_cons, List.length_nil, and_true, Nat.zero_add] <;> exact and_congr_left fun _ => and_congr_left fun _ => ⟨fun h => h.symm, fun h => h.symm⟩
theorem IsEs.get : ∀ {es : List PV} {n g o i : Nat} {e : PV}, IsEs w I es n g o → es[i]? = some e → ElAt w I n e g (o + i * n)
  | [], _, _, _, _, _, _, h => by simp at h
  | x :: es, n, g, o, 0, e, h, he => by
    simp at he; subst he
    simpa using (IsEs.cons.1 h).1
  | x :: es, n, g, o, i + 1, e, h, he => by
    have := IsEs.get (i := i) (IsEs.cons.1 h).2 (by simpa using he)
    rw [show o + (i + 1) * n = o + n + i * n by rw [Nat.succ_mul]; omega]
    exact this
theorem IsEs.of : ∀ {es : List PV} {n g o : Nat}, (∀ i e, es[i]? = some e → ElAt w I n e g (o + i * n)) → IsEs w I es n g o
  | [], _, _, _, _ => by simp only [IsEs]
  | x :: es, n, g, o, h => IsEs.cons.2 ⟨by simpa using h 0 x rfl, IsEs.of fun i e he => by
    have := h (i + 1) e (by simpa using he)
    rw [show o + (i + 1) * n = o + n + i * n by rw [Nat.succ_mul]; omega] at this
    exact this⟩
theorem IsEs.append {es fs : List PV} {n g o : Nat} (h : IsEs w I es n g o) (h' : IsEs w I fs n g (o + es.length * n)) : IsEs w I (es ++ fs) n g o := by
  refine IsEs.of fun i e he => ?_
  by_cases hi : i < es.length
  · rw [List.getElem?_append_left hi] at he; exact h.get he
  · rw [List.getElem?_append_right (by omega)] at he
    have := h'.get he
    rw [show o + es.length * n + (i - es.length) * n = o + i * n by rw [Nat.sub_mul]; have : es.length * n ≤ i * n := Nat.mul_le_mul_right _ (by omega); omega] at this
    exact this
theorem IsAt.get : ∀ {cs : List PV} {g o i : Nat} {c : PV}, IsAt w I cs g o → cs[i]? = some c → ∃ v, w.cell? ⟨g, o + i, none⟩ = some v ∧ c.Is w I (fun _ => none) v ∧ v.oneCell' = true
  | [], _, _, _, _, _, h => by simp at h
  | x :: es, g, o, 0, e, h, he => by
    simp at he; subst he
    simp only [IsAt] at h
    exact h.1
  | x :: es, g, o, i + 1, e, h, he => by
    simp only [IsAt] at h
    have := IsAt.get (i := i) h.2 (by simpa using he)
    rw [show o + (i + 1) = o + 1 + i by omega]
    exact this
theorem IsAt.of : ∀ {cs : List PV} {g o : Nat}, (∀ i c, cs[i]? = some c → ∃ v, w.cell? ⟨g, o + i, none⟩ = some v ∧ c.Is w I (fun _ => none) v ∧ v.oneCell' = true) → IsAt w I cs g o
  | [], _, _, _ => by simp only [IsAt]
  | x :: es, g, o, h => by
    simp only [IsAt]
    refine ⟨h 0 x rfl, IsAt.of fun i c hc => ?_⟩
    have := h (i + 1) c (by simpa using hc)
    rw [show o + (i + 1) = o + 1 + i by omega] at this
    exact this
theorem IsL.length : ∀ {cs : List PV} {β : Places} {vs : List Value}, IsL w I cs β vs → cs.length = vs.length
  | [], _, [], _ => rfl
  | _ :: cs, _, _ :: vs, h => by simp only [IsL] at h; simp only [List.length_cons, IsL.length h.2]
  | [], _, _ :: _, h => by simp only [IsL] at h
  | _ :: _, _, [], h => by simp only [IsL] at h
theorem IsL.get : ∀ {cs : List PV} {β : Places} {vs : List Value} {i : Nat} {c : PV}, IsL w I cs β vs → cs[i]? = some c → ∃ v, vs[i]? = some v ∧ c.Is w I β v
  | [], _, _, _, _, _, h => by simp at h
  | x :: cs, _, v :: vs, 0, c, h, hc => by simp at hc; subst hc; simp only [IsL] at h; exact ⟨v, rfl, h.1⟩
  | x :: cs, _, v :: vs, i + 1, c, h, hc => by simp only [IsL] at h; simpa using IsL.get (i := i) h.2 (by simpa using hc)
  | _ :: _, _, [], _, _, h, _ => by simp only [IsL] at h
theorem IsL.of : ∀ {cs : List PV} {β : Places} {vs : List Value}, cs.length = vs.length → (∀ (i : Nat) (c : PV), cs[i]? = some c → ∃ v, vs[i]? = some v ∧ c.Is w I β v) → IsL w I cs β vs
  | [], _, [], _, _ => by simp only [IsL]
  | x :: cs, _, v :: vs, hl, h => by
    simp only [IsL]
    refine ⟨?_, IsL.of (by simpa using hl) fun i c hc => by simpa using h (i + 1) c (by simpa using hc)⟩
    obtain ⟨u, hu, hi⟩ := h 0 x rfl
    simp at hu; subst hu; exact hi
  | [], _, _ :: _, h, _ => by simp at h
  | _ :: _, _, [], h, _ => by simp at h
theorem IsL.append {cs ds : List PV} {vs us : List Value} (h : IsL w I cs β vs) (h' : IsL w I ds β us) : IsL w I (cs ++ ds) β (vs ++ us) := by
  refine IsL.of (by simp [h.length, h'.length]) fun i c hc => ?_
  have hl := h.length
  by_cases hi : i < cs.length
  · rw [List.getElem?_append_left hi] at hc
    rw [List.getElem?_append_left (by omega)]; exact h.get hc
  · rw [List.getElem?_append_right (by omega)] at hc
    rw [List.getElem?_append_right (by omega), ← hl]; exact h'.get hc
theorem IsL.take {cs : List PV} {vs : List Value} (n : Nat) (h : IsL w I cs β vs) : IsL w I (cs.take n) β (vs.take n) := by
  refine IsL.of (by simp [h.length]) fun i c hc => ?_
  rw [List.getElem?_take] at hc ⊢
  split at hc
  · rename_i hi; rw [if_pos hi]; exact h.get hc
  · cases hc
theorem IsL.drop {cs : List PV} {vs : List Value} (n : Nat) (h : IsL w I cs β vs) : IsL w I (cs.drop n) β (vs.drop n) := by
  refine IsL.of (by simp [h.length]) fun i c hc => ?_
  rw [List.getElem?_drop] at hc ⊢
  exact h.get hc
theorem IsL.one {c : PV} {v : Value} (h : c.Is w I β v) : IsL w I [c] β [v] := by simp only [IsL, and_true]; exact h

/-- one cell's values -/
def PV.cell1 : PV → Bool
  | .agg _ | .tup _ => false
  | _ => true
theorem PV.Is.flat {x : PV} {v : Value} (hx : x.cell1 = true) (h : x.Is w I β v) : Ev.flat v = true := by
  cases x <;> simp only [PV.Is] at h
  case lit => subst h; rfl
  case int => subst h; rfl
  case tt => subst h; rfl
  case ff => subst h; rfl
  case bool => subst h; rfl
  case val => rw [h.1]; exact h.2
  case clo => obtain ⟨_, rfl, _⟩ := h; rfl
  case nil => subst h; rfl
  case sl => obtain ⟨_, _, rfl, _⟩ := h; rfl
  case wref => obtain ⟨p, _, rfl⟩ := h; unfold Plc.whole; split <;> rfl
  case mref => obtain ⟨_, _, _, _, rfl⟩ := h; rfl
  case ref => obtain ⟨_, _, _, _, _, _, rfl, _⟩ := h; rfl
  case ptr => obtain ⟨_, _, _, _, _, rfl⟩ := h; rfl
  case pti => obtain ⟨_, _, _, _, _, rfl⟩ := h; rfl
  case dpt => obtain ⟨_, _, _, _, _, rfl⟩ := h; rfl
  case ep => obtain ⟨_, _, rfl, _⟩ := h; rfl
  case gp => subst h; rfl
  case gpi => subst h; rfl
  case agg => cases hx
  case tup => cases hx
theorem flat_one {v : Value} (h : Ev.flat v = true) : v.oneCell' = true := by cases v <;> simp_all [Ev.flat, Value.oneCell']
theorem PV.Is.cellsL {x : PV} {v : Value} (hx : ∀ vs, x ≠ .tup vs) (h : x.Is w I β v) : IsL w I x.cells β v.cells.toList := by
  cases x with
  | agg cs => simp only [PV.Is] at h; obtain ⟨vs, rfl, h⟩ := h; exact h
  | tup vs => exact absurd rfl (hx vs)
  | _ => rw [Ev.cells_flat (h.flat rfl)]; simp only [PV.cells]; exact IsL.one h

/-! ### memory -/
theorem CellsAt.mono {cs : List PV} {arr : Array Value} {o : Nat} (hI : ∀ g, I g → I' g) (hw : ∀ g, I g → w'.heap[g]? = w.heap[g]?) (hb : ∀ l p, β l = some p → β' l = some p) (h : CellsAt w I β cs arr o) : CellsAt w' I' β' cs arr o :=
  fun i c hc => let ⟨v, h1, h2, h3⟩ := h i c hc; ⟨v, h1, PV.Is.mono hI hw c β β' v (fun l p _ => hb l p) h2, h3⟩
theorem lt_of_heap {o : Obj} {b : Nat} (h : w.heap[b]? = some o) : b < w.heap.size := (Array.getElem?_eq_some_iff.1 h).1
theorem Ext.refl {st : List PBlk} : Ext I β st w I β st w := ⟨rfl, rfl, rfl, Nat.le_refl _, fun _ _ _ => rfl, fun _ _ h => h, fun _ h => h, fun _ _ h => .inl h⟩
theorem Ext.trans {I'' : Nat → Prop} {β'' : Places} {st st' st'' : List PBlk} {w'' : World} (h : Ext I β st w I' β' st' w') (k : Ext I' β' st' w' I'' β'' st'' w'') : Ext I β st w I'' β'' st'' w'' where
  os := k.os.trans h.os
  tape := k.tape.trans h.tape
  output := k.output.trans h.output
  size := Nat.le_trans h.size k.size
  block := fun g hg hn => (k.block g (Nat.lt_of_lt_of_le hg h.size) fun hw => hn (h.wr g hg hw)).trans (h.block g hg hn)
  wr := fun g hg hw => h.wr g hg (k.wr g (Nat.lt_of_lt_of_le hg h.size) hw)
  imm := fun g hg => k.imm g (h.imm g hg)
  new := fun g hg hi => (k.new g (Nat.lt_of_lt_of_le hg h.size) hi).elim (fun h1 => h.new g hg h1) fun h1 => .inr (h.wr g hg h1)
theorem Own.mono {st st' : List PBlk} {l g : Nat} {fr : Nat × Nat} {b : PBlk} (hI : ∀ g, I g → I' g) (hn : ¬ I g → ¬ I' g)
    (hs : ∀ l' b', l' ≠ l → st'[l']? = some b' → b'.live = true → ∀ p g' o', β' l' = some p → p.a = some (g', o') → g' ≠ g ∨ ∃ b'', st[l']? = some b'' ∧ b''.live = true ∧ β l' = some p) (h : Own I β st l g fr b) : Own I' β' st' l g fr b :=
  ⟨fun hr => let ⟨h1, h2, h3⟩ := h.1 hr; ⟨h1, hn h2, fun l' b' hne hb hl p g' o' hp ha => (hs l' b' hne hb hl p g' o' hp ha).elim id fun ⟨b'', hb'', hl'', hp'⟩ => h3 l' b'' hne hb'' hl'' p g' o' hp' ha⟩, fun hr => hI g (h.2 hr)⟩
/-- a writable block is no immutable one -/
theorem HeapOk.wr_imm {st : List PBlk} (h : HeapOk I β st w) {g : Nat} (hg : Wr β st g) : ¬ I g := by
  obtain ⟨l, b, p, o, h1, h2, h3, h4, h5⟩ := hg
  obtain ⟨q, hq, hk⟩ := h.blk l b h1 h2
  rw [h4] at hq
  cases hq
  split at hk
  · obtain ⟨g', o', arr, ty, fr, ha, _, _, ho, _⟩ := hk
    rw [h5] at ha; cases ha; exact (ho (by rw [h3]; decide)).2.1
  · obtain ⟨g', arr, fr, ha, _, _, ho, _⟩ := hk
    rw [h5] at ha; cases ha; exact (ho.1 (by rw [h3]; decide)).2.1
  · obtain ⟨_, hk⟩ := hk
    rcases hk with ⟨ha, _⟩ | ⟨g', arr, fr, ha, _, _, ho, _⟩
    · rw [h5] at ha; cases ha
    · rw [h5] at ha; cases ha; exact (ho.1 (by rw [h3]; decide)).2.1
  · obtain ⟨g', ha, _, ho⟩ := hk
    rw [h5] at ha; cases ha; exact (ho.1 (by rw [h3]; decide)).2.1
theorem ImmOk.ext {st st' : List PBlk} (h : ImmOk G I w) (hk : HeapOk I β st w) (he : Ext I β st w I' β' st' w') (hlt : ∀ g, I' g → g < w'.heap.size) : ImmOk G I' w' where
  imm := hlt
  tab := fun g cs hg => by
    obtain ⟨h1, h2⟩ := h.tab g cs hg
    have hw : ∀ g, I g → w'.heap[g]? = w.heap[g]? := fun g hg => he.block g (h.imm g hg) fun hw => hk.wr_imm hw hg
    exact ⟨he.imm g h1, IsAt.mono he.imm hw cs g 0 (hw g h1) h2⟩
  row := fun g cs hg => by
    obtain ⟨arr, ty, fr, h1, h2⟩ := h.row g cs hg
    have hI := (h.tab g cs hg).1
    exact ⟨arr, ty, fr, (he.block g (h.imm g hI) fun hw => hk.wr_imm hw hI).trans h1, h2⟩
/-- immutable blocks are as they were -/
theorem Ext.keeps {st st' : List PBlk} (he : Ext I β st w I' β' st' w') (hk : HeapOk I β st w) (hm : ∀ g, I g → g < w.heap.size) : ∀ g, I g → w'.heap[g]? = w.heap[g]? := fun g hg => he.block g (hm g hg) fun hw => hk.wr_imm hw hg
end

end Go.Proofs.YtjcacjeoddnmhaaDoor.Pw

/- An evaluator of the model's code over values without a heap: it yields the condition under which the code does what is asked. No program in sight. -/
namespace Go.Proofs.YtjcacjeoddnmhaaDoor.Pw
open Go

def need {α : Type} (o : Option α) (k : α → Prop) : Prop := match o with
  | some x => k x
  | none => False

def lenK {α : Type} : List α → Nat → (Nat → Prop) → Prop
  | [], n, q => q n
  | _ :: l, n, q => lenK l (n + 1) q
def lenO {α β : Type} : List α → Nat → (Nat → Option β) → Option β
  | [], n, q => q n
  | _ :: l, n, q => lenO l (n + 1) q
theorem lenO_eq {α β : Type} : ∀ (l : List α) (n : Nat) (q : Nat → Option β), lenO l n q = q (n + l.length)
  | [], _, _ => rfl
  | _ :: l, n, q => by rw [lenO, lenO_eq l, List.length_cons, show n + 1 + l.length = n + (l.length + 1) by omega]
theorem lenK_eq {α : Type} : ∀ (l : List α) (n : Nat) (q : Nat → Prop), lenK l n q = q (n + l.length)
  | [], _, _ => rfl
  | _ :: l, n, q => by rw [lenK, lenK_eq l, List.length_cons, show n + 1 + l.length = n + (l.length + 1) by omega]

/-- a block's size, laid bare -/
def PBlk.szK {α : Sort _} (b : PBlk) (q : Nat → α) : α := match b with
  | ⟨_, _, n, _, _, _⟩ => q n
theorem PBlk.szK_eq {α : Sort _} (b : PBlk) (q : Nat → α) : b.szK q = q b.size := by cases b; rfl

/-! ### values are laid bare -/
def fc1 (x : PV) (q : PV → Prop) : Prop := match x with
  | .lit k n => q (.lit k n) | .int k n => q (.int k n) | .tt => q .tt | .ff => q .ff | .bool p => q (.bool p) | .val v => q (.val v)
  | .clo f cs => q (.clo f cs) | .nil => q .nil | .sl n es => q (.sl n es) | .wref l => q (.wref l) | .mref l => q (.mref l) | .ref l o n => q (.ref l o n)
  | .ptr l o => q (.ptr l o) | .pti l o i n => q (.pti l o i n) | .dpt l i n o => q (.dpt l i n o) | .ep cs o => q (.ep cs o)
  | .gp g o => q (.gp g o) | .gpi g o i n => q (.gpi g o i n) | .agg cs => q (.agg cs) | .tup vs => q (.tup vs)
def forceL : List PV → (List PV → Prop) → Prop
  | [], q => q []
  | c :: cs, q => fc1 c fun c => forceL cs fun cs => q (c :: cs)
def fcA (x : PV) (q : PV → Prop) : Prop := match x with
  | .agg cs => forceL cs fun cs => q (.agg cs)
  | .clo f cs => forceL cs fun cs => q (.clo f cs)
  | x => fc1 x q
def forceT : List PV → (List PV → Prop) → Prop
  | [], q => q []
  | c :: cs, q => fcA c fun c => forceT cs fun cs => q (c :: cs)
def fc (x : PV) (q : PV → Prop) : Prop := match x with
  | .tup cs => forceT cs fun cs => q (.tup cs)
  | x => fcA x q

def PSt.put (s : PSt) (dst : Option Tmp) (x : PV) (k : PSt → Prop) : Prop := match s with
  | ⟨n, t, st, b, rl⟩ => (match dst with
    | none => k ⟨n, t, st, b, rl⟩
    | some d => bif Nat.blt d n then fc x fun x => t.setK (some x) 24 d fun t => k ⟨n, t, st, b, rl⟩ else False)
def PSt.store (s : PSt) (st : List PBlk) : PSt := match s with
  | ⟨n, t, _, b, rl⟩ => ⟨n, t, st, b, rl⟩

def konstL (k : Value → (PV → Prop) → Prop) : List Value → (List PV → Prop) → Prop
  | [], q => q []
  | v :: vs, q => k v fun x => konstL k vs fun xs => q (x :: xs)
def konst1 (v : Value) (q : PV → Prop) : Prop := match v with
  | .int k n => q (.lit k n)
  | .bool true => q .tt
  | .bool false => q .ff
  | .slice none 0 0 => q .nil
  | .func (.func f) ⟨[]⟩ ⟨[]⟩ => q (.clo f [])
  | v => bif Ev.flat v then q (.val v) else False
def konst (v : Value) (q : PV → Prop) : Prop := match v with
  | .agg ⟨cs⟩ => konstL konst1 cs fun cs => q (.agg cs)
  | v => konst1 v q
def PSt.ev (s : PSt) (o : Operand) (q : PV → Prop) : Prop := match o with
  | .tmp t => need (s.t.get t) q
  | .const v => konst v q
  | .global g => q (.gp g 0)
  | .func f => q (.clo f [])

/-! ### numbers -/
def PV.num : PV → Option (Bool × IntKind × Int)
  | .lit k n => some (true, k, n)
  | .int k n => some (false, k, n)
  | _ => none
def PV.bl : PV → Option Prop
  | .tt => some True
  | .ff => some False
  | .bool p => some p
  | _ => none
def InR (k : IntKind) (z : Int) : Prop := Ev.kmin k ≤ z ∧ z ≤ Ev.kmax k
/-- a number that is within its kind's bounds; or it is wrapped -/
def outN (k : IntKind) (z : Int) (q : PV → Prop) : Prop := (InR k z ∧ q (.int k z)) ∨ q (.int k (k.wrap z))
def bopD (op : BinOp) (k : IntKind) (a b : Int) (q : PV → Prop) : Prop := match op with
  | .add => outN k (a + b) q
  | .sub => outN k (a - b) q
  | .mul => outN k (a * b) q
  | .quo => b ≠ 0 ∧ ((0 ≤ a ∧ a ≤ Ev.kmax k ∧ 0 < b ∧ q (.int k (a / b))) ∨ q (.int k (k.wrap (a.tdiv b))))
  | .rem => b ≠ 0 ∧ ((0 ≤ a ∧ 0 < b ∧ q (.int k (a % b))) ∨ q (.int k (a.tmod b)))
  | .and => q (.int k (bits .and k a b))
  | .or => q (.int k (bits .or k a b))
  | .xor => q (.int k (bits .xor k a b))
  | .andNot => q (.int k (bits .andNot k a b))
  | .eql => q (.bool (a = b))
  | .neq => q (.bool (¬ a = b))
  | .lss => q (.bool (a < b))
  | .leq => q (.bool (a ≤ b))
  | .gtr => q (.bool (b < a))
  | .geq => q (.bool (b ≤ a))
  | _ => False
def tf (b : Bool) (q : PV → Prop) : Prop := match b with
  | true => q .tt
  | false => q .ff
def bopS (op : BinOp) (k : IntKind) (a b : Int) (q : PV → Prop) : Prop := match op with
  | .add => q (.lit k (k.wrap (a + b)))
  | .sub => q (.lit k (k.wrap (a - b)))
  | .mul => q (.lit k (k.wrap (a * b)))
  | .quo => bif decide (b = 0) then False else q (.lit k (k.wrap (a.tdiv b)))
  | .rem => bif decide (b = 0) then False else q (.lit k (a.tmod b))
  | .and => q (.lit k (bits .and k a b))
  | .or => q (.lit k (bits .or k a b))
  | .xor => q (.lit k (bits .xor k a b))
  | .andNot => q (.lit k (bits .andNot k a b))
  | .eql => tf (decide (a = b)) q
  | .neq => tf (!decide (a = b)) q
  | .lss => tf (decide (a < b)) q
  | .leq => tf (decide (a ≤ b)) q
  | .gtr => tf (decide (b < a)) q
  | .geq => tf (decide (b ≤ a)) q
  | _ => False
def shift (op : BinOp) (st : Bool) (k : IntKind) (a b : Int) (q : PV → Prop) : Prop := match op, st with
  | .shl, true => bif decide (0 ≤ b) then q (.lit k (k.wrap (a * Ev.pow2 k b))) else False
  | .shr, true => bif decide (0 ≤ b) then q (.lit k (a / Ev.pow2 k b)) else False
  | .shl, false => 0 ≤ b ∧ outN k (a * Ev.pow2 k b) q
  | .shr, false => 0 ≤ b ∧ q (.int k (a / Ev.pow2 k b))
  | _, _ => False
def nump (op : BinOp) (sx sy : Bool) (k k' : IntKind) (a b : Int) (q : PV → Prop) : Prop := match op with
  | .shl => shift .shl (sx && sy) k a b q
  | .shr => shift .shr (sx && sy) k a b q
  | op => bif decide (k = k') then (match sx && sy with
      | true => bopS op k a b q
      | false => bopD op k a b q) else False
/-- a truth, or its contrary -/
def eqn (op : BinOp) (p : Prop) (q : PV → Prop) : Prop := match op with
  | .eql => q (.bool p)
  | .neq => q (.bool (¬ p))
  | _ => False
def eqb (op : BinOp) (b : Bool) (q : PV → Prop) : Prop := match op with
  | .eql => tf b q
  | .neq => tf (!b) q
  | _ => False

def partO (cx : Ev.Cx) (t : TypeId) (cs : List PV) (off : Nat) : Option PV :=
  match Ev.isAggT cx t, Ev.sizeT cx t with
  | some true, some n => if Nat.ble (off + n) cs.length then some (.agg ((cs.drop off).take n)) else none
  | some false, _ => cs[off]?
  | _, _ => none
def part (cx : Ev.Cx) (t : TypeId) (cs : List PV) (off : Nat) (q : PV → Prop) : Prop := need (partO cx t cs off) fun x => fcA x q

/-- '==' of structs, field by field -/
def eqFs (r : TypeId → PV → PV → Option Prop) (cx : Ev.Cx) (xs ys : List PV) : List Field → Option Prop
  | [] => some True
  | f :: fs => match partO cx f.type xs f.offset, partO cx f.type ys f.offset with
    | some a, some b => (match r f.type a b, eqFs r cx xs ys fs with
      | some e, some e' => some (e ∧ e')
      | _, _ => none)
    | _, _ => none
def eqElems (r : TypeId → PV → PV → Option Prop) (cx : Ev.Cx) (t : TypeId) (size : Nat) (xs ys : List PV) : Nat → Nat → Option Prop
  | 0, _ => some True
  | n + 1, off => match partO cx t xs off, partO cx t ys off with
    | some a, some b => (match r t a b, eqElems r cx t size xs ys n (off + size) with
      | some e, some e' => some (e ∧ e')
      | _, _ => none)
    | _, _ => none
def eqT (cx : Ev.Cx) : Nat → TypeId → PV → PV → Option Prop
  | 0, _, _, _ => none
  | n + 1, t, a, b => match cx.und t with
    | some (.int _) => (match a.num, b.num with
      | some (_, k, x), some (_, l, y) => if decide (k = l) then some (x = y) else none
      | _, _ => none)
    | some .bool => (match a.bl, b.bl with
      | some p, some q => some (p ↔ q)
      | _, _ => none)
    | some (.struct fs) => (match a, b with
      | .agg xs, .agg ys => if cx.eqs.any (Nat.beq t) then eqFs (eqT cx n) cx xs ys fs.toList else none
      | _, _ => none)
    | some (.array len elem) => (match a, b with
      | .agg xs, .agg ys => (match Ev.sizeT cx elem with
        | some c => eqElems (eqT cx n) cx elem c xs ys len 0
        | none => none)
      | _, _ => none)
    | _ => none

def eqNil (st : List PBlk) (op : BinOp) (x : PV) (q : PV → Prop) : Prop := match x with
  | .nil => eqb op true q
  | .ref _ _ _ => eqb op false q
  | .wref l => need st[l]? fun b => bif b.live then (match b.k with
    | .arr => eqb op false q
    | .dyn => b.cs.length ≠ 0 ∧ eqb op false q
    | _ => False) else False
  | .sl _ es => es.length ≠ 0 ∧ eqb op false q
  | _ => False
def pbin (cx : Ev.Cx) (st : List PBlk) (op : BinOp) (t : TypeId) (x y : PV) (q : PV → Prop) : Prop :=
  match x.num with
  | some (sx, k, a) => need y.num fun z => (match z with
    | (sy, k', b) => nump op sx sy k k' a b q)
  | none => need (cx.und t) fun d => match d with
    | .bool => need x.bl fun p => need y.bl fun p' => eqn op (p ↔ p') q
    | .string => (match x, y with
      | .val (.string a), .val (.string b) => eqb op (a.toList == b.toList) q
      | _, _ => False)
    | .slice _ => (match y with
      | .nil => eqNil st op x q
      | _ => False)
    | .pointer _ => (match x, y with
      | .val (.pointer none), .val (.pointer none) => eqb op true q
      | .ptr _ _, .val (.pointer none) => eqb op false q
      | _, _ => False)
    | .struct _ => (match x, y with
      | .agg xs, .agg ys => bif cx.eqs.any (Nat.beq t) then need (eqT cx 6 t (.agg xs) (.agg ys)) fun p => eqn op p q else False
      | _, _ => False)
    | .array _ _ => (match x, y with
      | .agg xs, .agg ys => bif cx.eqs.any (Nat.beq t) then need (eqT cx 6 t (.agg xs) (.agg ys)) fun p => eqn op p q else False
      | _, _ => False)
    | _ => False
def pun (op : UnOp) (x : PV) (q : PV → Prop) : Prop := match op, x with
  | .neg, .lit k a => q (.lit k (k.wrap (-a)))
  | .neg, .int k a => outN k (-a) q
  | .xor, .lit k a => q (.lit k (bits .xor k (if k.signed then -1 else k.max) a))
  | .xor, .int k a => q (.int k (bits .xor k (if k.signed then -1 else k.max) a))
  | .not, .tt => q .ff
  | .not, .ff => q .tt
  | .not, .bool p => q (.bool (¬ p))
  | _, _ => False
def pconv (cx : Ev.Cx) (src dst : TypeId) (x : PV) (q : PV → Prop) : Prop :=
  need (cx.und src) fun _ => need (cx.und dst) fun d => match d, x with
  | .int k, .lit _ n => q (.lit k (k.wrap n))
  | .int k, .int _ n => outN k n q
  | _, _ => False

/-! ### aggregates and addresses -/
def zerosO (cx : Ev.Cx) (t : TypeId) (q : List PV → Prop) : Prop := need ((Ev.lkT t cx.tt).bind Ev.TI.zero) fun v => konst v fun x => q x.cells
def fillP (place : Nat → Option (Nat × Nat)) : List PV → List (Nat × PV) → Option (List PV)
  | cells, [] => some cells
  | cells, (i, v) :: rest => match place i with
    | none => none
    | some (off, size) => if Nat.beq v.cells.length size && Nat.ble (off + size) cells.length then fillP place (cells.take off ++ v.cells ++ cells.drop (off + size)) rest else none
/-- the same, laid bare part by part -/
def fillF (place : Nat → Option (Nat × Nat)) : List PV → List (Nat × PV) → (List PV → Prop) → Prop
  | cells, [], q => q cells
  | cells, (i, v) :: rest, q => match place i with
    | none => False
    | some (off, size) => bif Nat.beq v.cells.length size && Nat.ble (off + size) cells.length then forceL (cells.take off ++ v.cells ++ cells.drop (off + size)) fun cells => fillF place cells rest q else False
def partsK (s : PSt) : List (Nat × Operand) → (List (Nat × PV) → Prop) → Prop
  | [], q => q []
  | (i, o) :: r, q => s.ev o fun x => (match x with
    | .tup _ => False
    | x => partsK s r fun l => q ((i, x) :: l))
def placeF (cx : Ev.Cx) (fs : List Field) : Option (List (Nat × Nat)) := Ev.placeF cx fs
def pbuild (cx : Ev.Cx) (s : PSt) (t : TypeId) (ps : List (Nat × Operand)) (q : PV → Prop) : Prop :=
  zerosO cx t fun z => partsK s ps fun l => need (cx.und t) fun d => match d with
  | .struct fs => need (placeF cx fs.toList) fun pl => fillF (pl[·]?) z l fun cs => forceL cs fun cs => q (.agg cs)
  | .array _ elem => need (Ev.sizeT cx elem) fun n => fillF (fun i => some (i * n, n)) z l fun cs => forceL cs fun cs => q (.agg cs)
  | _ => False
def pfieldAddr (cx : Ev.Cx) (t : TypeId) (x : PV) (f : Nat) (q : PV → Prop) : Prop :=
  need (cx.und t) fun d => match d with
  | .struct fs => need fs.toList[f]? fun fd => need (Ev.sizeT cx fd.type) fun n => bif Nat.beq n 0 then False else (match x with
    | .ptr l off => q (.ptr l (off + fd.offset))
    | .pti l off i n => q (.pti l (off + fd.offset) i n)
    | .dpt l i n off => q (.dpt l i n (off + fd.offset))
    | .ep cs off => q (.ep cs (off + fd.offset))
    | .gp g off => q (.gp g (off + fd.offset))
    | .gpi g off i n => q (.gpi g (off + fd.offset) i n)
    | _ => False)
  | _ => False
/-- an element of a list, by a view of the list -/
def elemK (es : List PV) (i : Int) (q : PV → Prop) : Prop :=
  ∃ (α : Type) (l : List α) (enc : α → PV), es = l.map enc ∧ 0 ≤ i ∧ i < l.length ∧ ∀ x, l[i.toNat]? = some x → q (enc x)
/-- an index within: a number, or a term -/
def within (st : Bool) (i : Int) (len : Nat) (f : Nat → Prop) (g : Prop) : Prop := match st with
  | true => bif decide (0 ≤ i) && decide (i < len) then f i.toNat else False
  | false => 0 ≤ i ∧ i < len ∧ g
def pindexAddr (cx : Ev.Cx) (st : List PBlk) (t : TypeId) (x i : PV) (q : PV → Prop) : Prop :=
  need i.num fun z => match z with
  | (sti, _, n0) => need (cx.und t) fun d => match d with
  | .array len elem => need (Ev.sizeT cx elem) fun n => (match x with
    | .ptr l off => within sti n0 len (fun j => q (.ptr l (off + j * n))) (q (.pti l off n0 n))
    | .gp g off => within sti n0 len (fun j => q (.gp g (off + j * n))) (q (.gpi g off n0 n))
    | .ep cs off => within sti n0 len (fun j => q (.ep cs (off + j * n))) False
    | _ => False)
  | .slice elem => need (Ev.sizeT cx elem) fun n => (match x with
    | .sl m es => bif Nat.beq m n then elemK es n0 fun e => forceL e.cells fun cs => q (.ep cs 0) else False
    | .ref l off len => within sti n0 len (fun j => q (.ptr l (off + j * n))) (q (.pti l off n0 n))
    | .wref l => need st[l]? fun b => bif b.live && Nat.beq b.size n && Nat.blt 0 n then (match b.k with
      | .arr => lenK b.cs 0 fun m => within sti n0 (m / n) (fun j => q (.ptr l (j * n))) (q (.pti l 0 n0 n))
      | .dyn => 0 ≤ n0 ∧ n0 < b.cs.length ∧ q (.dpt l n0.toNat n 0)
      | _ => False) else False
    | _ => False)
  | _ => False
def pindex (cx : Ev.Cx) (t : TypeId) (x i : PV) (q : PV → Prop) : Prop :=
  need i.num fun z => match z with
  | (sti, _, n0) => need (cx.und t) fun d => match d, x with
  | .array len elem, .agg cs => need (Ev.sizeT cx elem) fun n => within sti n0 len (fun j => part cx elem cs (j * n) q)
      (need (Ev.isAggT cx elem) fun ag => bif !ag && Nat.beq n 1 && Nat.beq cs.length len then ∀ c, cs[n0.toNat]? = some c → q c else False)
  | .string, .val (.string s) => 0 ≤ n0 ∧ n0 < s.size ∧ q (.int .u8 (((s.data.toList.map fun b => ((b.toNat : Nat) : Int))[n0.toNat]?).getD 0))
  | _, _ => False
/-- a bound of a slice: what is typed, or the other -/
def bnd (s : PSt) (o : Option Operand) (d : Bool × Int) (q : Bool × Int → Prop) : Prop := match o with
  | none => q d
  | some o => s.ev o fun x => need x.num fun z => (match z with
    | (sti, _, n) => q (sti, n))
def pslice (cx : Ev.Cx) (s : PSt) (t : TypeId) (x : PV) (lo hi mx : Option Operand) (q : PV → Prop) : Prop :=
  need (cx.und t) fun d => match mx, d with
  | none, .array n elem => need (Ev.sizeT cx elem) fun m => bif Nat.blt 0 m && Nat.blt 0 n then bnd s lo (true, 0) fun l => bnd s hi (true, n) fun h =>
    (match x with
    | .ptr b off => bif l.1 && h.1 && decide (0 ≤ l.2) && decide (l.2 < n) && decide (l.2 ≤ h.2) && decide (h.2 ≤ n) then q (.ref b (off + l.2.toNat * m) (h.2 - l.2).toNat) else False
    | _ => False) else False
  | none, .slice elem => need (Ev.sizeT cx elem) fun m => bnd s lo (true, 0) fun l =>
    (match x with
    | .nil => bnd s hi (true, 0) fun h => l.2 = 0 ∧ h.2 = 0 ∧ q .nil
    | .ref b off len => bnd s hi (true, len) fun h => bif l.1 && h.1 && decide (0 ≤ l.2) && decide (l.2 < len) && decide (l.2 ≤ h.2) && decide (h.2 ≤ len) then q (.ref b (off + l.2.toNat * m) (h.2 - l.2).toNat) else False
    | .sl n es => bnd s hi (false, es.length) fun h => bif Nat.beq n m && Nat.blt 0 m then 0 ≤ l.2 ∧ l.2 ≤ h.2 ∧ h.2 ≤ es.length ∧ q (.sl n ((es.drop l.2.toNat).take (h.2 - l.2).toNat)) else False
    | .wref b => need s.st[b]? fun k => (match k.k with
      | .arr => bif k.live && Nat.beq k.size m && Nat.blt 0 m then lenK k.cs 0 fun len => bnd s hi (true, (len / m : Nat)) fun h =>
          (bif l.1 && h.1 && decide (0 ≤ l.2) && decide (l.2 < (len / m : Nat)) && decide (l.2 ≤ h.2) && decide (h.2 ≤ (len / m : Nat)) then q (.ref b (l.2.toNat * m) (h.2 - l.2).toNat) else False) else False
      | .dyn => bif k.live && Nat.beq k.size m && Nat.blt 0 m then bnd s hi (false, k.cs.length) fun h => ∃ i j : Nat, l.2 = i ∧ h.2 = j ∧ i ≤ j ∧ j ≤ k.cs.length ∧ i < k.cs.length ∧ q (.ref b (i * m) (j - i)) else False
      | _ => False)
    | _ => False)
  | _, _ => False
def plen (st : List PBlk) (x : PV) (q : PV → Prop) : Prop := match x with
  | .nil => q (.lit .i64 0)
  | .sl _ es => es.length ≤ maxLen → q (.int .i64 es.length)
  | .ref _ _ len => q (.lit .i64 len)
  | .wref l => need st[l]? fun b => bif b.live then (match b.k with
    | .arr => lenK b.cs 0 fun m => b.szK fun n => q (.lit .i64 (m / n : Nat))
    | .dyn => b.cs.length ≤ maxLen → q (.int .i64 b.cs.length)
    | _ => False) else False
  | _ => False
def pminmax (f : Int → Int → Int) (x y : PV) (q : PV → Prop) : Prop := match x, y with
  | .lit k a, .lit _ b => q (.lit k (f a b))
  | .lit k a, .int _ b => q (.int k (f a b))
  | .int k a, .lit _ b => q (.int k (f a b))
  | .int k a, .int _ b => q (.int k (f a b))
  | _, _ => False

/-- of operations that look at no memory: the value -/
def ppure (cx : Ev.Cx) (s : PSt) (op : Op) (q : PV → Prop) : Prop := match op with
  | .move x | .assign x => s.ev x q
  | .pick c a b => s.ev c fun c => (match c with
    | .tt => s.ev a q
    | .ff => s.ev b q
    | .bool p => (p → s.ev a q) ∧ (¬ p → s.ev b q)
    | _ => False)
  | .binOp op t x y _ => s.ev x fun x => s.ev y fun y => pbin cx s.st op t x y q
  | .unOp op _ x => s.ev x fun x => pun op x q
  | .convert src dst x => s.ev x fun x => pconv cx src dst x q
  | .nilCheck x => s.ev x fun x => (match x with
    | .ptr .. | .pti .. | .dpt .. | .ep .. | .gp .. | .gpi .. => q x
    | _ => False)
  | .build t ps => pbuild cx s t ps.toList q
  | .fieldAddr t x f => s.ev x fun x => pfieldAddr cx t x f q
  | .field t x f => need (cx.und t) fun d => s.ev x fun x => (match d, x with
    | .struct fs, .agg cs => need fs.toList[f]? fun fd => part cx fd.type cs fd.offset q
    | _, _ => False)
  | .indexAddr t x i => s.ev x fun x => s.ev i fun i => pindexAddr cx s.st t x i q
  | .index t x i => s.ev x fun x => s.ev i fun i => pindex cx t x i q
  | .extract x i => s.ev x fun x => (match x with
    | .tup l => need l[i]? q
    | _ => False)
  | .slice t x lo hi mx => s.ev x fun x => pslice cx s t x lo hi mx q
  | .makeFunc (.func f) ⟨[]⟩ ⟨caps⟩ => konstOps s caps fun cs => q (.clo f cs)
  | .call { callee := .builtin .len, args := ⟨[x]⟩, argTypes := ⟨[t]⟩ } => need (cx.und t) fun d => s.ev x fun x => (match d with
    | .slice _ => plen s.st x q
    | .array n _ => q (.lit .i64 n)
    | .string => (match x with
      | .val (.string b) => q (.lit .i64 b.size)
      | _ => False)
    | _ => False)
  | .call { callee := .builtin .min, args := ⟨[x, y]⟩, argTypes := _ } => s.ev x fun x => s.ev y fun y => pminmax min x y q
  | .call { callee := .builtin .max, args := ⟨[x, y]⟩, argTypes := _ } => s.ev x fun x => s.ev y fun y => pminmax max x y q
  | _ => False
where konstOps (s : PSt) : List Operand → (List PV → Prop) → Prop
  | [], q => q []
  | o :: os, q => s.ev o fun x => (match x with
    | .tup _ | .agg _ => False
    | x => konstOps s os fun xs => q (x :: xs))

/-! ### memory -/
def setB : List PBlk → Nat → PBlk → (List PBlk → Prop) → Prop
  | [], _, _, _ => False
  | _ :: l, 0, b, q => q (b :: l)
  | a :: l, n + 1, b, q => setB l n b fun l => q (a :: l)
def addB : List PBlk → PBlk → (List PBlk → Prop) → Prop
  | [], b, q => q [b]
  | a :: l, b, q => addB l b fun l => q (a :: l)
def PBlk.mem (b : PBlk) : Bool := b.live && (match b.k with
  | .dyn => false
  | .mp => false
  | _ => true)
def ptab (tabs : List (Nat × List PV)) (g : Nat) : Option (List PV) := Ev.lkT g tabs
def pload (G : Gx) (st : List PBlk) (t : TypeId) (x : PV) (q : PV → Prop) : Prop := match x with
  | .ptr l off => need st[l]? fun b => bif b.mem then part G.cx t b.cs off q else False
  | .pti l off i n => need st[l]? fun b => bif b.mem then (∃ m : Nat, i = m ∧ part G.cx t b.cs (off + m * n) q) ∨ (Ev.isAggT G.cx t = some false ∧ 0 ≤ i ∧ off + i.toNat * n < b.cs.length ∧ ∀ c, b.cs[off + i.toNat * n]? = some c → q c) else False
  | .dpt l i n off => need st[l]? fun b => (match b.k with
    | .dyn => bif b.live && Nat.beq b.size n then ∃ (α : Type) (l : List α) (enc : α → PV), b.cs = l.map enc ∧ i < l.length ∧ ∀ x, l[i]? = some x → part G.cx t (enc x).cells off q else False
    | _ => False)
  | .ep cs off => part G.cx t cs off q
  | .gp g off => need (ptab G.tabs g) fun cs => part G.cx t cs off q
  | .gpi g off i n => need (ptab G.tabs g) fun cs => (∃ m : Nat, i = m ∧ part G.cx t cs (off + m * n) q) ∨ (Ev.isAggT G.cx t = some false ∧ 0 ≤ i ∧ off + i.toNat * n < cs.length ∧ ∀ c, cs[off + i.toNat * n]? = some c → q c)
  | _ => False
/-- the block that an address leads to -/
def PV.blk : PV → Option Nat
  | .ptr l _ => some l
  | .pti l _ _ _ => some l
  | .dpt l _ _ _ => some l
  | _ => none
def putC (cs new : List PV) (off : Nat) : Option (List PV) := if Nat.ble (off + new.length) cs.length then some (cs.take off ++ new ++ cs.drop (off + new.length)) else none
def PV.noRef : PV → Bool
  | .wref _ | .mref _ | .ref .. | .ptr .. | .pti .. | .dpt .. | .clo .. | .agg _ | .tup _ => false
  | _ => true
/-- an element that leads to no block of the store -/
def PV.elem : PV → Bool
  | .agg cs => cs.all PV.noRef
  | x => x.noRef
/-- a cell that is put where the index is m -/
def mix (p : Prop) [Decidable p] : PV → PV → Option PV
  | .int k a, .int l b => if decide (k = l) then some (.int k (if p then a else b)) else none
  | .int k a, .lit l b => if decide (k = l) then some (.int k (if p then a else b)) else none
  | .lit k a, .int l b => if decide (k = l) then some (.int k (if p then a else b)) else none
  | .lit k a, .lit l b => if decide (k = l) then some (.int k (if p then a else b)) else none
  | _, _ => none
def PBlk.withCs (b : PBlk) (cs : List PV) : PBlk := match b with
  | ⟨k, ty, n, m, live, _⟩ => ⟨k, ty, n, m, live, cs⟩
def PBlk.can (b : PBlk) : Bool := b.live && (match b.m with
  | .w => true
  | _ => false)
/-- a known number as a number -/
def PV.norm (x : PV) : PV := match x with
  | .lit k n => .int k n
  | x => x
def pstore (G : Gx) (st : List PBlk) (t : TypeId) (x v : PV) (q : List PBlk → Prop) : Prop :=
  need (Ev.sizeT G.cx t) fun n => bif Nat.beq v.cells.length n && Nat.blt 0 n && v.cells.all PV.cell1 then (match v with
  | .tup _ => False
  | v => (match x with
    | .ptr l off => need st[l]? fun b => bif b.mem && b.can then need (putC b.cs v.cells off) fun cs => forceL cs fun cs => setB st l (b.withCs cs) q else False
    | .dpt l i m off => need st[l]? fun b => (match b.k with
      | .dyn => bif b.can && Nat.beq b.size n && Nat.beq m n && Nat.beq off 0 && v.elem then i < b.cs.length ∧ setB st l (b.withCs (b.cs.set i v.norm)) q else False
      | _ => False)
    | _ => False)) else False
def pnew (s : PSt) (b : PBlk) (q : PV → PSt → Prop) : Prop := lenK s.st 0 fun l => addB s.st b fun st => q (.ptr l 0) (s.store st)
def pnewS (s : PSt) (b : PBlk) (q : PV → PSt → Prop) : Prop := lenK s.st 0 fun l => addB s.st b fun st => q (.wref l) (s.store st)

/-- cells as elements -/
def chunk (ag : Bool) (n : Nat) : Nat → List PV → List PV
  | 0, _ => []
  | k + 1, cs => (if ag then .agg (cs.take n) else (match cs with
    | c :: _ => c
    | [] => .nil)) :: chunk ag n k (cs.drop n)
/-- what is appended: known cells; or elements that are told -/
inductive Src where
  | stat (cs : List PV) | told (es : List PV)
def srcK (cx : Ev.Cx) (st : List PBlk) (n : Nat) (x : PV) (q : Src → Prop) : Prop := match x with
  | .nil => q (.told [])
  | .sl m es => bif Nat.beq m n then q (.told es) else False
  | .ref l off len => need st[l]? fun b => bif b.mem && Nat.ble (off + len * n) b.cs.length then forceL ((b.cs.drop off).take (len * n)) fun cs => q (.stat cs) else False
  | .wref l => need st[l]? fun b => bif b.live && Nat.beq b.size n then (match b.k with
    | .arr => q (.stat b.cs)
    | .dyn => q (.told b.cs)
    | _ => False) else False
  | _ => False
def elemsOf (ag : Bool) (n : Nat) : Src → Option (List PV)
  | .told es => some es
  | .stat cs => lenO cs 0 fun m => let l := chunk ag n (m / n) (cs.map PV.norm)
    if l.all PV.elem then some l else none
def killB (st : List PBlk) (l : Nat) (q : List PBlk → Prop) : Prop := need st[l]? fun b => match b with
  | ⟨k, ty, n, m, _, cs⟩ => setB st l ⟨k, ty, n, m, false, cs⟩ q
/-- a slice that may be appended to: what it holds, and the store without it -/
def destK (st : List PBlk) (elem : TypeId) (n : Nat) (x : PV) (q : Src → List PBlk → Prop) : Prop := match x with
  | .nil => q (.stat []) st
  | .wref l => need st[l]? fun b => bif b.can && Nat.beq b.size n && Nat.beq b.ty elem then (match b.k with
    | .arr => killB st l (q (.stat b.cs))
    | .dyn => killB st l (q (.told b.cs))
    | _ => False) else False
  | _ => False
def pappend (G : Gx) (s : PSt) (t : TypeId) (d x : PV) (q : PV → PSt → Prop) : Prop :=
  need (G.cx.und t) fun td => match td with
  | .slice elem => need (Ev.sizeT G.cx elem) fun n => need (Ev.isAggT G.cx elem) fun ag => need (Ev.lkT elem G.bt) fun by_ => zerosO G.cx elem fun z => bif Nat.blt 0 n && Nat.beq z.length n && (ag || Nat.beq n 1) then
    srcK G.cx s.st n x fun src => destK s.st elem n d fun dst st => (match dst, src with
    | .stat cs, .stat ds => lenK cs 0 fun lc => lenK ds 0 fun ld => bif Nat.blt 0 ld && Nat.beq (ld % n) 0 && Nat.ble ((lc + ld) * by_) 140737488355328 && Nat.ble (lc + ld) maxLen then forceL (cs ++ ds) fun cs => pnewS (s.store st) ⟨.arr, elem, n, .w, true, cs⟩ q else False
    | dst, src => need (elemsOf ag n dst) fun es => need (elemsOf ag n src) fun fs => es.length + fs.length ≤ maxLen ∧ (es.length + fs.length) * by_ ≤ 140737488355328 ∧ pnewS (s.store st) ⟨.dyn, elem, n, .w, true, es ++ fs⟩ q) else False
  | _ => False

def argsK (s : PSt) : List Operand → (List PV → Prop) → Prop
  | [], q => q []
  | o :: os, q => s.ev o fun x => argsK s os fun xs => q (x :: xs)
/-- a slot whose value leads to a block that may lie elsewhere now is let go -/
def PV.leads (rl : List Nat) (x : PV) : Bool := x.uses.any fun l => rl.any (Nat.beq l)
def TM.clear (rl : List Nat) : TM → TM
  | .nil => .nil
  | .node v l r => .node (match v with
    | some x => if x.leads rl then none else some x
    | none => none) (l.clear rl) (r.clear rl)
def clearK (rl : List Nat) (t : TM) (q : TM → Prop) : Prop := match rl with
  | [] => q t
  | rl => q (t.clear rl)
def pcall (G : Gx) (s : PSt) (f : FuncId) (args : List PV) (q : PV → PSt → Prop) : Prop :=
  match s with
  | ⟨n, t, st, b, rl0⟩ => ∃ rl : List Nat, (∀ l ∈ rl, (b ≤ l ∨ l ∈ rl0) ∧ ∀ b, st[l]? = some b → b.m ≠ .p) ∧ Spec G f args st rl fun r S => clearK rl t fun t => q r ⟨n, t, S, b, rl0⟩

/-- one operation: its value, and the state but for that -/
def pop (G : Gx) (s : PSt) (o : Oper) (q : PV → PSt → Prop) : Prop := match o.op with
  | .load t a => s.ev a fun a => pload G s.st t a fun v => q v s
  | .store t a x => s.ev a fun a => s.ev x fun x => pstore G s.st t a x fun st => q (.tup []) (s.store st)
  | .alloc t => zerosO G.cx t fun z => forceL z fun z => bif z.all PV.cell1 then pnew s ⟨.loc, t, 1, .w, true, z⟩ q else False
  | .box t x => s.ev x fun x => (match x with
    | .tup _ => False
    | x => bif x.cells.all PV.cell1 then forceL x.cells fun cs => pnew s ⟨.loc, t, 1, .w, true, cs⟩ q else False)
  | .buildSlice t len ps => need (G.cx.und t) fun d => (match d with
    | .slice elem => need (Ev.sizeT G.cx elem) fun n => zerosO G.cx elem fun z => partsK s ps.toList fun l =>
      bif Nat.beq z.length n && Nat.ble (len * n) 16777216 && Nat.blt 0 n then fillF (fun i => some (i * n, n)) ((List.replicate len z).flatten) l fun cs => forceL cs fun cs => bif cs.all PV.cell1 && Nat.beq cs.length (len * n) && Nat.ble len maxLen then pnewS s ⟨.arr, elem, n, .w, true, cs⟩ q else False else False
    | _ => False)
  | .call { callee := .value x, args := ⟨ars⟩, argTypes := _ } => s.ev x fun x => (match x with
    | .clo f caps => bif G.ext.any (Nat.beq f) then OpS G s o q else argsK s ars fun l => pcall G s f (l ++ caps) q
    | _ => False)
  | .call { callee := .builtin .append, args := ⟨[d, x]⟩, argTypes := ⟨[t, t']⟩ } => bif Nat.beq t t' then s.ev d fun d => s.ev x fun x => pappend G s t d x q else False
  | .makeSlice _ _ _ => OpS G s o q
  | .makeMap _ _ => OpS G s o q
  | .mapUpdate _ _ _ _ => OpS G s o q
  | .lookup _ _ _ _ => OpS G s o q
  | .call { callee := .builtin .copy, args := _, argTypes := _ } => OpS G s o q
  | .call { callee := .builtin .clear, args := _, argTypes := _ } => OpS G s o q
  | op => ppure G.cx s op fun v => q v s

/-- is an operation carried out, by its guard? -/
def pguard (ops : List Oper) (s : PSt) (o : Oper) (run skip : PSt → Prop) : Prop := match o.guard with
  | none => run s
  | some (j, want) => need ((ops[j]?).bind (·.dst)) fun t => need (s.t.get t) fun x => (match x with
    | .tt => bif want then run s else skip s
    | .ff => bif want then skip s else run s
    | .bool p => (p → s.put (some t) .tt (bif want then run else skip)) ∧ (¬ p → s.put (some t) .ff (bif want then skip else run))
    | .tup [] => skip s
    | _ => False)
def pops (G : Gx) (ops : List Oper) (Q : X → PSt → Prop) : List Oper → PSt → Prop
  | [], s => Q .nml s
  | o :: rest, s => pguard ops s o (fun s => pop G s o fun v s => s.put o.dst v (pops G ops Q rest)) (fun s => s.put o.dst (.tup []) (pops G ops Q rest))

end Go.Proofs.YtjcacjeoddnmhaaDoor.Pw

/- Operations that look at no memory are carried out as the evaluator says: numbers, truths, '=='. -/
namespace Go.Proofs.YtjcacjeoddnmhaaDoor.Pw
open Go Go.RowKit

theorem need_ok {α : Type} {o : Option α} {k : α → Prop} (h : need o k) : ∃ x, o = some x ∧ k x := by
  cases o with
  | none => exact h.elim
  | some x => exact ⟨x, rfl, h⟩
theorem bif_ok {b : Bool} {p : Prop} (h : bif b then p else False) : b = true ∧ p := by
  cases b with
  | true => exact ⟨rfl, h⟩
  | false => exact h.elim
theorem bif_not {b : Bool} {p : Prop} (h : bif b then False else p) : b = false ∧ p := by
  cases b with
  | true => exact h.elim
  | false => exact ⟨rfl, h⟩
theorem fc1_ok {x : PV} {q : PV → Prop} (h : fc1 x q) : q x := by cases x <;> exact h
theorem forceL_ok : ∀ {cs : List PV} {q : List PV → Prop}, forceL cs q → q cs
  | [], _, h => h
  | c :: cs, q, h => by
    have := forceL_ok (fc1_ok h)
    exact this
theorem fcA_ok {x : PV} {q : PV → Prop} (h : fcA x q) : q x := by
  cases x <;> first | exact h | exact forceL_ok h
theorem forceT_ok : ∀ {cs : List PV} {q : List PV → Prop}, forceT cs q → q cs
  | [], _, h => h
  | c :: cs, q, h => by
    have := forceT_ok (fcA_ok h)
    exact this
theorem fc_ok {x : PV} {q : PV → Prop} (h : fc x q) : q x := by
  cases x <;> first | exact h | exact forceL_ok h | exact forceT_ok h

section
variable {w : World} {I : Nat → Prop} {β : Places} {cx : Ev.Cx} {G : Gx} {P : Program}

theorem Is.int {k : IntKind} {n : Int} : (PV.int k n).Is w I β (.int k n) := by simp only [PV.Is]
theorem Is.lit {k : IntKind} {n : Int} : (PV.lit k n).Is w I β (.int k n) := by simp only [PV.Is]
theorem Is.tt : PV.tt.Is w I β (.bool true) := by simp only [PV.Is]
theorem Is.ff : PV.ff.Is w I β (.bool false) := by simp only [PV.Is]
theorem Is.bool {p : Prop} : (PV.bool p).Is w I β (.bool (pb p)) := by simp only [PV.Is]

theorem konst1_ok {v : Value} {q : PV → Prop} (h : konst1 v q) : ∃ x, q x ∧ x.Is w I β v ∧ x.cell1 = true := by
  unfold konst1 at h
  split at h
  · exact ⟨_, h, by simp only [PV.Is], rfl⟩
  · exact ⟨_, h, by simp only [PV.Is], rfl⟩
  · exact ⟨_, h, by simp only [PV.Is], rfl⟩
  · exact ⟨_, h, by simp only [PV.Is], rfl⟩
  · exact ⟨_, h, by simp only [PV.Is]; exact ⟨#[], rfl, by simp only [IsL]⟩, rfl⟩
  · obtain ⟨hf, h⟩ := bif_ok h
    exact ⟨_, h, by simp only [PV.Is]; exact ⟨trivial, hf⟩, rfl⟩
theorem konstL_ok : ∀ {vs : List Value} {q : List PV → Prop}, konstL konst1 vs q → ∃ xs, q xs ∧ IsL w I xs β vs
  | [], q, h => ⟨[], h, by simp only [IsL]⟩
  | v :: vs, q, h => by
    obtain ⟨x, h, hx, _⟩ := konst1_ok (w := w) (I := I) (β := β) h
    obtain ⟨xs, h, hxs⟩ := konstL_ok h
    exact ⟨x :: xs, h, by simp only [IsL]; exact ⟨hx, hxs⟩⟩
theorem konst_ok {v : Value} {q : PV → Prop} (h : konst v q) : ∃ x, q x ∧ x.Is w I β v ∧ ∀ vs, x ≠ .tup vs := by
  unfold konst at h
  split at h
  · rename_i cs
    obtain ⟨xs, h, hxs⟩ := konstL_ok (w := w) (I := I) (β := β) h
    exact ⟨_, h, by simp only [PV.Is]; exact ⟨⟨cs⟩, rfl, hxs⟩, fun _ e => by cases e⟩
  · obtain ⟨x, h, hx, h1⟩ := konst1_ok (w := w) (I := I) (β := β) h
    exact ⟨x, h, hx, fun vs e => by subst e; cases h1⟩

theorem PV.num_ok {x : PV} {b : Bool} {k : IntKind} {n : Int} {v : Value} (h : x.num = some (b, k, n)) (hx : x.Is w I β v) : v = .int k n := by
  cases x <;> simp only [PV.num] at h <;> cases h <;> simpa only [PV.Is] using hx
theorem PV.bl_ok {x : PV} {p : Prop} {v : Value} (h : x.bl = some p) (hx : x.Is w I β v) : v = .bool (pb p) := by
  cases x <;> simp only [PV.bl] at h <;> cases h <;> simp only [PV.Is] at hx
  · rw [hx, pb_true trivial]
  · rw [hx, pb_false id]
  · exact hx

theorem outN_ok {k : IntKind} {z : Int} {q : PV → Prop} (h : outN k z q) : ∃ x, q x ∧ x.Is w I β (.int k (k.wrap z)) := by
  rcases h with ⟨⟨h1, h2⟩, h⟩ | h
  · exact ⟨_, h, by rw [Ev.wrap_in k z h1 h2]; exact Is.int⟩
  · exact ⟨_, h, Is.int⟩
theorem tf_ok {b : Bool} {q : PV → Prop} (h : tf b q) : ∃ x, q x ∧ x.Is w I β (.bool b) := by
  cases b with
  | true => exact ⟨_, h, Is.tt⟩
  | false => exact ⟨_, h, Is.ff⟩
theorem boolD {p : Prop} [Decidable p] {q : PV → Prop} (h : q (.bool p)) : ∃ x, q x ∧ x.Is w I β (.bool (decide p)) := ⟨_, h, by rw [← pb_dec]; exact Is.bool⟩

theorem cmp_runs {op : BinOp} {t : TypeId} {k : IntKind} {a b : Int} (w : World) :
    (binOp .eql t (.int k a) (.int k b)).run P w = .ok (.bool (decide (a = b))) w ∧ (binOp .neq t (.int k a) (.int k b)).run P w = .ok (.bool (!decide (a = b))) w ∧ (binOp .lss t (.int k a) (.int k b)).run P w = .ok (.bool (decide (a < b))) w ∧
    (binOp .leq t (.int k a) (.int k b)).run P w = .ok (.bool (decide (a ≤ b))) w ∧ (binOp .gtr t (.int k a) (.int k b)).run P w = .ok (.bool (decide (b < a))) w ∧ (binOp .geq t (.int k a) (.int k b)).run P w = .ok (.bool (decide (b ≤ a))) w := by
  refine ⟨by simp only [binOp_eql]; rfl, ?_, by simp only [binOp_lss]; rfl, by simp only [binOp_leq]; rfl, by simp only [binOp_gtr]; rfl, by simp only [binOp_geq]; rfl⟩
  simp only [binOp_neq]
  show Result.ok (Value.bool (a != b)) w = _
  congr 2
theorem bopD_ok {op : BinOp} {t : TypeId} {k : IntKind} {a b : Int} {q : PV → Prop} (h : bopD op k a b q) : ∃ x v, q x ∧ x.Is w I β v ∧ ∀ w, (binOp op t (.int k a) (.int k b)).run P w = .ok v w := by
  have cmp := fun w => cmp_runs (P := P) (op := op) (t := t) (k := k) (a := a) (b := b) w
  have out : ∀ {z}, outN k z q → (∀ w, (binOp op t (.int k a) (.int k b)).run P w = .ok (.int k (k.wrap z)) w) → ∃ x v, q x ∧ x.Is w I β v ∧ ∀ w, (binOp op t (.int k a) (.int k b)).run P w = .ok v w := fun h hr => by
    obtain ⟨x, h, hx⟩ := outN_ok (w := w) (I := I) (β := β) h
    exact ⟨x, _, h, hx, hr⟩
  have bl : ∀ {p : Prop} [Decidable p], q (.bool p) → (∀ w, (binOp op t (.int k a) (.int k b)).run P w = .ok (.bool (decide p)) w) → ∃ x v, q x ∧ x.Is w I β v ∧ ∀ w, (binOp op t (.int k a) (.int k b)).run P w = .ok v w := fun h hr => by
    obtain ⟨x, h, hx⟩ := boolD (w := w) (I := I) (β := β) h
    exact ⟨x, _, h, hx, hr⟩
  cases op <;> simp only [bopD] at h
  case add => exact out h fun w => by rw [binOp_add]; rfl
  case sub => exact out h fun w => by rw [binOp_sub]; rfl
  case mul => exact out h fun w => by rw [binOp_mul]; rfl
  case quo =>
    obtain ⟨h0, h⟩ := h
    have hr : ∀ w, (binOp .quo t (.int k a) (.int k b)).run P w = .ok (.int k (k.wrap (a.tdiv b))) w := fun w => by rw [binOp_quo]; simp [Op.intDiv, h0]
    rcases h with ⟨ha, hk, hb, h⟩ | h
    · refine ⟨_, _, h, ?_, hr⟩
      have e : a.tdiv b = a / b := Int.tdiv_eq_ediv_of_nonneg ha
      have h1 : 0 ≤ a / b := Int.ediv_nonneg ha (by omega)
      have h2 : a / b ≤ a := Int.ediv_le_self b ha
      rw [e, Ev.wrap_in k _ (by have : Ev.kmin k ≤ 0 := by cases k <;> simp [Ev.kmin, IntKind.signed, IntKind.bits]
                                omega) (by omega)]
      exact Is.int
    · exact ⟨_, _, h, Is.int, hr⟩
  case rem =>
    obtain ⟨h0, h⟩ := h
    have hr : ∀ w, (binOp .rem t (.int k a) (.int k b)).run P w = .ok (.int k (a.tmod b)) w := fun w => by rw [binOp_rem]; simp [Op.intDiv, h0]
    rcases h with ⟨ha, hb, h⟩ | h
    · refine ⟨_, _, h, ?_, hr⟩
      rw [Int.tmod_eq_emod_of_nonneg ha]
      exact Is.int
    · exact ⟨_, _, h, Is.int, hr⟩
  case and => exact ⟨_, _, h, Is.int, fun w => by rw [binOp_and, intBits_and]; rfl⟩
  case or => exact ⟨_, _, h, Is.int, fun w => by rw [binOp_or, intBits_or]; rfl⟩
  case xor => exact ⟨_, _, h, Is.int, fun w => by rw [binOp_xor, intBits_xor]; rfl⟩
  case andNot => exact ⟨_, _, h, Is.int, fun w => by rw [binOp_andNot, intBits_andNot]; rfl⟩
  case eql => exact bl h fun w => (cmp w).1
  case neq => exact bl h fun w => by rw [(cmp w).2.1]; congr 2; by_cases hh : a = b <;> simp [hh]
  case lss => exact bl h fun w => (cmp w).2.2.1
  case leq => exact bl h fun w => (cmp w).2.2.2.1
  case gtr => exact bl h fun w => (cmp w).2.2.2.2.1
  case geq => exact bl h fun w => (cmp w).2.2.2.2.2
theorem bopS_ok {op : BinOp} {t : TypeId} {k : IntKind} {a b : Int} {q : PV → Prop} (h : bopS op k a b q) : ∃ x v, q x ∧ x.Is w I β v ∧ ∀ w, (binOp op t (.int k a) (.int k b)).run P w = .ok v w := by
  have cmp := fun w => cmp_runs (P := P) (op := op) (t := t) (k := k) (a := a) (b := b) w
  have bl : ∀ {b' : Bool}, tf b' q → (∀ w, (binOp op t (.int k a) (.int k b)).run P w = .ok (.bool b') w) → ∃ x v, q x ∧ x.Is w I β v ∧ ∀ w, (binOp op t (.int k a) (.int k b)).run P w = .ok v w := fun h hr => by
    obtain ⟨x, h, hx⟩ := tf_ok (w := w) (I := I) (β := β) h
    exact ⟨x, _, h, hx, hr⟩
  cases op <;> simp only [bopS] at h
  case add => exact ⟨_, _, h, Is.lit, fun w => by rw [binOp_add]; rfl⟩
  case sub => exact ⟨_, _, h, Is.lit, fun w => by rw [binOp_sub]; rfl⟩
  case mul => exact ⟨_, _, h, Is.lit, fun w => by rw [binOp_mul]; rfl⟩
  case quo =>
    cases h0 : decide (b = 0) <;> rw [h0] at h
    · exact ⟨_, _, h, Is.lit, fun w => by rw [binOp_quo]; simp [Op.intDiv, of_decide_eq_false h0]⟩
    · exact h.elim
  case rem =>
    cases h0 : decide (b = 0) <;> rw [h0] at h
    · exact ⟨_, _, h, Is.lit, fun w => by rw [binOp_rem]; simp [Op.intDiv, of_decide_eq_false h0]⟩
    · exact h.elim
  case and => exact ⟨_, _, h, Is.lit, fun w => by rw [binOp_and, intBits_and]; rfl⟩
  case or => exact ⟨_, _, h, Is.lit, fun w => by rw [binOp_or, intBits_or]; rfl⟩
  case xor => exact ⟨_, _, h, Is.lit, fun w => by rw [binOp_xor, intBits_xor]; rfl⟩
  case andNot => exact ⟨_, _, h, Is.lit, fun w => by rw [binOp_andNot, intBits_andNot]; rfl⟩
  case eql => exact bl h fun w => (cmp w).1
  case neq => exact bl h fun w => (cmp w).2.1
  case lss => exact bl h fun w => (cmp w).2.2.1
  case leq => exact bl h fun w => (cmp w).2.2.2.1
  case gtr => exact bl h fun w => (cmp w).2.2.2.2.1
  case geq => exact bl h fun w => (cmp w).2.2.2.2.2
theorem shift_ok {op : BinOp} {st : Bool} {t : TypeId} {k k' : IntKind} {a b : Int} {q : PV → Prop} (h : shift op st k a b q) : ∃ x v, q x ∧ x.Is w I β v ∧ ∀ w, (binOp op t (.int k a) (.int k' b)).run P w = .ok v w := by
  have hl : 0 ≤ b → ∀ w, (binOp .shl t (.int k a) (.int k' b)).run P w = .ok (.int k (k.wrap (a * Ev.pow2 k b))) w := fun h0 w => by
    rw [binOp_shl]
    simp only [Op.shift, if_neg (by omega : ¬ b < 0), Ev.pow2]
    simp
  have hr : 0 ≤ b → ∀ w, (binOp .shr t (.int k a) (.int k' b)).run P w = .ok (.int k (a / Ev.pow2 k b)) w := fun h0 w => by
    rw [binOp_shr]
    simp only [Op.shift, if_neg (by omega : ¬ b < 0), Ev.pow2, Ev.fdiv_pow]
    rfl
  unfold shift at h
  split at h
  · obtain ⟨h0, h⟩ := bif_ok h
    exact ⟨_, _, h, Is.lit, hl (of_decide_eq_true h0)⟩
  · obtain ⟨h0, h⟩ := bif_ok h
    exact ⟨_, _, h, Is.lit, hr (of_decide_eq_true h0)⟩
  · obtain ⟨h0, h⟩ := h
    obtain ⟨x, h, hx⟩ := outN_ok (w := w) (I := I) (β := β) h
    exact ⟨x, _, h, hx, hl h0⟩
  · obtain ⟨h0, h⟩ := h
    exact ⟨_, _, h, Is.int, hr h0⟩
  · exact h.elim
theorem nump_ok {op : BinOp} {sx sy : Bool} {t : TypeId} {k k' : IntKind} {a b : Int} {q : PV → Prop} (h : nump op sx sy k k' a b q) : ∃ x v, q x ∧ x.Is w I β v ∧ ∀ w, (binOp op t (.int k a) (.int k' b)).run P w = .ok v w := by
  unfold nump at h
  split at h
  · exact shift_ok h
  · exact shift_ok h
  · obtain ⟨hk, h'⟩ := bif_ok h
    have hkk := of_decide_eq_true hk
    subst hkk
    clear h hk
    cases sx <;> cases sy
    · exact bopD_ok h'
    · exact bopD_ok h'
    · exact bopD_ok h'
    · exact bopS_ok h'

theorem eqn_ok {op : BinOp} {t : TypeId} {p : Prop} {q : PV → Prop} {u v : Value} (h : eqn op p q) (he : op = .eql → ∀ w, (binOp .eql t u v).run P w = .ok (.bool (pb p)) w) (hn : op = .neq → ∀ w, (binOp .neq t u v).run P w = .ok (.bool (!pb p)) w) :
    ∃ x r, q x ∧ x.Is w I β r ∧ ∀ w, (binOp op t u v).run P w = .ok r w := by
  cases op <;> simp only [eqn] at h
  case eql => exact ⟨_, _, h, Is.bool, he rfl⟩
  case neq =>
    refine ⟨_, _, h, Is.bool, fun w => ?_⟩
    rw [hn rfl w]
    congr 2
    by_cases hp : p
    · rw [pb_true hp, pb_false (fun h => h hp)]; rfl
    · rw [pb_false hp, pb_true hp]; rfl
theorem eqb_ok {op : BinOp} {t : TypeId} {b : Bool} {q : PV → Prop} {u v : Value} (h : eqb op b q) (he : op = .eql → ∀ w, (binOp .eql t u v).run P w = .ok (.bool b) w) (hn : op = .neq → ∀ w, (binOp .neq t u v).run P w = .ok (.bool (!b)) w) :
    ∃ x r, q x ∧ x.Is w I β r ∧ ∀ w, (binOp op t u v).run P w = .ok r w := by
  cases op <;> simp only [eqb] at h
  case eql =>
    obtain ⟨x, h, hx⟩ := tf_ok (w := w) (I := I) (β := β) h
    exact ⟨x, _, h, hx, he rfl⟩
  case neq =>
    obtain ⟨x, h, hx⟩ := tf_ok (w := w) (I := I) (β := β) h
    exact ⟨x, _, h, hx, hn rfl⟩

theorem partO_ok (hO : Ev.CxOk cx) {t : TypeId} {cs : List PV} {off : Nat} {x : PV} {vs : Array Value} (h : partO cx t cs off = some x) (hc : IsL w I cs β vs.toList) :
    ∃ v, x.Is w I β v ∧ ∀ w', (Go.part t vs off).run cx.P w' = .ok v w' := by
  unfold partO at h
  split at h
  · rename_i n ha hn
    split at h
    · cases h
      refine ⟨.agg (vs.extract off (off + n)), ?_, fun w' => ?_⟩
      · simp only [PV.Is]
        refine ⟨_, rfl, ?_⟩
        have := (hc.drop off).take n
        rw [show (vs.extract off (off + n)).toList = (vs.toList.drop off).take n by simp]
        exact this
      · simp [Go.part, Ev.isAgg_run hO ha, Ev.size_run hO hn]
    · cases h
  · rename_i ha
    obtain ⟨v, hv, hi⟩ := hc.get h
    refine ⟨v, hi, fun w' => ?_⟩
    have hv' : vs[off]? = some v := by simpa using hv
    simp [Go.part, Ev.isAgg_run hO ha, hv']
  · cases h
end

end Go.Proofs.YtjcacjeoddnmhaaDoor.Pw

/- Operations that look at no memory are carried out as the evaluator says. -/
namespace Go.Proofs.YtjcacjeoddnmhaaDoor.Pw
open Go Go.RowKit

section
variable {w : World} {I : Nat → Prop} {β : Places} {cx : Ev.Cx} {G : Gx} {P : Program} {s : PSt} {a : Act}

theorem part_ok (hO : Ev.CxOk cx) {t : TypeId} {cs : List PV} {off : Nat} {q : PV → Prop} {vs : Array Value} (h : part cx t cs off q) (hc : IsL w I cs β vs.toList) :
    ∃ x v, q x ∧ x.Is w I β v ∧ ∀ w', (Go.part t vs off).run cx.P w' = .ok v w' := by
  replace h := need_ok h
  obtain ⟨x, hx, h⟩ := h
  obtain ⟨v, h1, h2⟩ := partO_ok hO hx hc
  exact ⟨x, v, fcA_ok h, h1, h2⟩

/-! ### '==' -/
theorem pb_and {p q : Prop} : pb (p ∧ q) = (pb p && pb q) := by
  by_cases hp : p <;> by_cases hq : q
  · rw [pb_true ⟨hp, hq⟩, pb_true hp, pb_true hq]; rfl
  · rw [pb_false fun h => hq h.2, pb_true hp, pb_false hq]; rfl
  · rw [pb_false fun h => hp h.1, pb_false hp]; rfl
  · rw [pb_false fun h => hp h.1, pb_false hp]; rfl
theorem pb_same {p q : Prop} : pb (p ↔ q) = (pb p == pb q) := by
  by_cases hp : p <;> by_cases hq : q
  · rw [pb_true ⟨fun _ => hq, fun _ => hp⟩, pb_true hp, pb_true hq]; rfl
  · rw [pb_false fun h => hq (h.1 hp), pb_true hp, pb_false hq]; rfl
  · rw [pb_false fun h => hp (h.2 hq), pb_false hp, pb_true hq]; rfl
  · rw [pb_true ⟨fun h => absurd h hp, fun h => absurd h hq⟩, pb_false hp, pb_false hq]; rfl
theorem eqFs_ok (hO : Ev.CxOk cx) {r : TypeId → PV → PV → Option Prop} {d : Nat} {xs ys : List PV} {us vs : Array Value} (hx : IsL w I xs β us.toList) (hy : IsL w I ys β vs.toList)
    (hr : ∀ t a b p u v, r t a b = some p → a.Is w I β u → b.Is w I β v → ∀ w', (Op.equalIn d t u v).run cx.P w' = .ok (pb p) w') :
    ∀ {fs : List Field} {p : Prop}, (fs.all fun f => decide (f.name ≠ "_")) = true → eqFs r cx xs ys fs = some p → ∀ w', (Op.eqFields d us vs fs).run cx.P w' = .ok (pb p) w'
  | [], p, _, h, w' => by
    simp only [eqFs, Option.some.injEq] at h
    subst h
    rw [pb_true trivial]; rfl
  | f :: fs, p, hn, h, w' => by
    rw [List.all_cons, Bool.and_eq_true] at hn
    unfold eqFs at h
    split at h
    · rename_i a b ha hb
      split at h
      · rename_i e1 e2 h1 h2
        cases h
        obtain ⟨u, hu, ru⟩ := partO_ok hO ha hx
        obtain ⟨v, hv, rv⟩ := partO_ok hO hb hy
        have rq1 := hr _ _ _ _ _ _ h1 hu hv
        have rq2 := eqFs_ok hO hx hy hr hn.2 h2
        have hne : f.name ≠ "_" := by simpa using hn.1
        simp only [Op.eqFields, if_pos hne, Sem.run_bind, ru, rv, rq1, Result.andThen_ok, Sem.run_ite, rq2, Sem.run_pure, pb_and]
        cases pb e1 <;> simp
      · cases h
    · cases h
theorem eqElems_ok (hO : Ev.CxOk cx) {r : TypeId → PV → PV → Option Prop} {d c : Nat} {e : TypeId} {xs ys : List PV} {us vs : Array Value} (hx : IsL w I xs β us.toList) (hy : IsL w I ys β vs.toList)
    (hr : ∀ t a b p u v, r t a b = some p → a.Is w I β u → b.Is w I β v → ∀ w', (Op.equalIn d t u v).run cx.P w' = .ok (pb p) w') :
    ∀ (k i : Nat) {p : Prop}, eqElems r cx e c xs ys k (i * c) = some p → ∀ w', (Op.eqItems d e c us vs (List.range' i k)).run cx.P w' = .ok (pb p) w'
  | 0, i, p, h, w' => by
    simp only [eqElems, Option.some.injEq] at h
    subst h
    rw [pb_true trivial]; rfl
  | k + 1, i, p, h, w' => by
    unfold eqElems at h
    split at h
    · rename_i a b ha hb
      split at h
      · rename_i e1 e2 h1 h2
        cases h
        obtain ⟨u, hu, ru⟩ := partO_ok hO ha hx
        obtain ⟨v, hv, rv⟩ := partO_ok hO hb hy
        have rq1 := hr _ _ _ _ _ _ h1 hu hv
        have rq2 := eqElems_ok hO hx hy hr k (i + 1) (by rw [Nat.succ_mul]; exact h2)
        simp only [List.range'_succ, Op.eqItems, Sem.run_bind, ru, rv, rq1, Result.andThen_ok, Sem.run_ite, rq2, Sem.run_pure, pb_and]
        cases pb e1 <;> simp
      · cases h
    · cases h
theorem eqT_ok (hO : Ev.CxOk cx) : ∀ (n d : Nat), n ≤ d → ∀ (t : TypeId) (a b : PV) (p : Prop) (u v : Value), eqT cx n t a b = some p → a.Is w I β u → b.Is w I β v →
    ∀ w', (Op.equalIn d t u v).run cx.P w' = .ok (pb p) w'
  | 0, _, _, _, _, _, _, _, _, h, _, _ => by simp [eqT] at h
  | n + 1, 0, hd, _, _, _, _, _, _, _, _, _ => by omega
  | n + 1, d + 1, hd, t, a, b, p, u, v, h, ha, hb => by
    intro w'
    unfold eqT at h
    split at h
    · rename_i k hu
      split at h
      · rename_i b1 k1 x b2 k2 y hax hby
        split at h
        · rename_i hk
          simp only [decide_eq_true_eq] at hk
          subst hk
          cases h
          rw [PV.num_ok hax ha, PV.num_ok hby hb, run_equalIn_int w' d t k1 k x y (hO.un hu), pb_dec]; rfl
        · cases h
      · cases h
    · rename_i hu
      split at h
      · rename_i p1 p2 hax hby
        cases h
        rw [PV.bl_ok hax ha, PV.bl_ok hby hb, run_equalIn_bool' w' d t _ _ (hO.un hu), pb_same]
      · cases h
    · rename_i fs hu
      split at h
      · rename_i xs ys
        split at h
        · rename_i hc
          simp only [PV.Is] at ha hb
          obtain ⟨us, rfl, hus⟩ := ha
          obtain ⟨vs, rfl, hvs⟩ := hb
          obtain ⟨t', ht', hbt⟩ := List.any_eq_true.1 hc
          have : t = t' := Nat.eq_of_beq_eq_true hbt
          subst this
          obtain ⟨_, hheld, hnames⟩ := hO.eq _ ht'
          have hfs : cx.P.fieldsOf t = fs := by unfold Program.fieldsOf; rw [hO.un hu]
          rw [run_equalIn_struct w' d t us vs (by rw [hfs]; exact hO.un hu) hheld, hfs]
          exact eqFs_ok (d := d) hO hus hvs (fun t a b e u v h ha hb => eqT_ok hO n d (by omega) t a b e u v h ha hb) (by rw [← hfs]; exact hnames) h w'
        · cases h
      · cases h
    · rename_i len elem hu
      split at h
      · rename_i xs ys
        split at h
        · rename_i c hc
          simp only [PV.Is] at ha hb
          obtain ⟨us, rfl, hus⟩ := ha
          obtain ⟨vs, rfl, hvs⟩ := hb
          obtain ⟨i, hi, hic⟩ := Ev.size_inf hO hc
          have hcell : cx.P.cellsOf elem = c := by unfold Program.cellsOf; rw [hi]; exact hic
          rw [run_equalIn_array w' d us vs (hO.un hu) hi, hcell, List.range_eq_range']
          exact eqElems_ok (d := d) hO hus hvs (fun t a b e u v h ha hb => eqT_ok hO n d (by omega) t a b e u v h ha hb) len 0 (by rw [Nat.zero_mul]; exact h) w'
        · cases h
      · cases h
    · cases h

/-- where a whole slice lies -/
theorem whole_arr {st : List PBlk} (hR : HeapOk I β st w) {l : Nat} {b : PBlk} {p : Plc} (hb : st[l]? = some b) (hl : b.live = true) (hk : b.k = .arr) (hp : β l = some p) : ∃ g arr fr, p.a = some (g, 0) ∧ p.whole = .slice (some ⟨g, 0, none⟩) p.len p.cap ∧ w.heap[g]? = some (.cells arr b.ty fr) ∧ CellsAt w I β b.cs arr 0 ∧ Own I β st l g fr b ∧ b.cs.length = p.len * b.size ∧ p.len ≤ p.cap ∧ p.cap ≤ maxLen ∧ arr.size = p.cap * b.size ∧ 0 < b.size := by
  obtain ⟨q, hq, h⟩ := hR.blk l b hb hl
  rw [hp] at hq
  cases hq
  rw [hk] at h
  obtain ⟨g, arr, fr, ha, h⟩ := h
  exact ⟨g, arr, fr, ha, by unfold Plc.whole; rw [ha], h⟩
theorem whole_dyn {st : List PBlk} (hR : HeapOk I β st w) {l : Nat} {b : PBlk} {p : Plc} (hb : st[l]? = some b) (hl : b.live = true) (hk : b.k = .dyn) (hp : β l = some p) : 0 < b.size ∧ b.cs.length = p.len ∧ p.len ≤ p.cap ∧ p.cap ≤ maxLen ∧ ((p.a = none ∧ p.cap = 0 ∧ p.whole = .slice none 0 0) ∨ ∃ g arr fr, p.a = some (g, 0) ∧ p.whole = .slice (some ⟨g, 0, none⟩) p.len p.cap ∧ w.heap[g]? = some (.cells arr b.ty fr) ∧ IsEs w I b.cs b.size g 0 ∧ Own I β st l g fr b ∧ arr.size = p.cap * b.size) := by
  obtain ⟨q, hq, h⟩ := hR.blk l b hb hl
  rw [hp] at hq
  cases hq
  rw [hk] at h
  obtain ⟨⟨h1, h2, h3, h4⟩, h⟩ := h
  refine ⟨h1, h2, h3, h4, ?_⟩
  rcases h with ⟨ha, hc⟩ | ⟨g, arr, fr, ha, h⟩
  · exact .inl ⟨ha, hc, by unfold Plc.whole; rw [ha]⟩
  · exact .inr ⟨g, arr, fr, ha, by unfold Plc.whole; rw [ha], h⟩

theorem eqNil_ok (hO : Ev.CxOk cx) (hR : HeapOk I β s.st w) {op : BinOp} {t e : TypeId} {x : PV} {u : Value} {q : PV → Prop} (hu : cx.und t = some (.slice e)) (h : eqNil s.st op x q) (hx : x.Is w I β u) :
    ∃ y v, q y ∧ y.Is w I β v ∧ (∀ f g : Operand, eqGuard op t f g u (.slice none 0 0) = pure ()) ∧ ∀ w', (binOp op t u (.slice none 0 0)).run cx.P w' = .ok v w' := by
  have gen : ∀ {ad : Option Addr} {n c : Nat}, u = .slice ad n c → eqb op ad.isNone q → ∃ y v, q y ∧ y.Is w I β v ∧ (∀ f g : Operand, eqGuard op t f g u (.slice none 0 0) = pure ()) ∧ ∀ w', (binOp op t u (.slice none 0 0)).run cx.P w' = .ok v w' := by
    intro ad n c hu' h
    subst hu'
    obtain ⟨y, v, h1, h2, h3⟩ := eqb_ok (P := cx.P) (t := t) (u := .slice ad n c) (v := .slice none 0 0) (w := w) (I := I) (β := β) h (fun _ w' => by simp only [binOp]; simp [Op.equal, Op.maxDepth, Lib.run_equalIn_slice_nil w' 9999 t e ad n c 0 0 (hO.un hu)]) (fun _ w' => run_neq_slice_nil_any w' t e _ _ _ _ _ (hO.un hu))
    exact ⟨y, v, h1, h2, fun f g => eqGuard_at_slice _ _ _ _ _ _ _ _, h3⟩
  unfold eqNil at h
  split at h
  · simp only [PV.Is] at hx
    exact gen hx h
  · simp only [PV.Is] at hx
    obtain ⟨p, g, o, cap, _, _, rfl, _⟩ := hx
    exact gen rfl h
  · rename_i l
    replace h := need_ok h
    obtain ⟨b, hb, h⟩ := h
    replace h := bif_ok h
    obtain ⟨hl, h⟩ := h
    simp only [PV.Is] at hx
    obtain ⟨p, hp, rfl⟩ := hx
    split at h
    · rename_i hk
      obtain ⟨g, arr, fr, _, hw, _⟩ := whole_arr hR hb hl hk hp
      exact gen hw h
    · rename_i hk
      obtain ⟨hne, h⟩ := h
      obtain ⟨_, h1, h2, _, h3⟩ := whole_dyn hR hb hl hk hp
      rcases h3 with ⟨_, hc, _⟩ | ⟨g, arr, fr, _, hw, _⟩
      · omega
      · exact gen hw h
    · exact h.elim
  · rename_i es
    obtain ⟨hne, h⟩ := h
    simp only [PV.Is] at hx
    obtain ⟨ad, cap, rfl, _, _, _, h4⟩ := hx
    obtain ⟨g, o, rfl, _⟩ := h4 hne
    exact gen rfl h
  · exact h.elim

theorem pbin_ok (hO : Ev.CxOk cx) (hR : HeapOk I β s.st w) {op : BinOp} {t : TypeId} {x y : PV} {u v : Value} {q : PV → Prop} (h : pbin cx s.st op t x y q) (hx : x.Is w I β u) (hy : y.Is w I β v) :
    ∃ z r, q z ∧ z.Is w I β r ∧ (∀ (f g : Operand) (w' : World), (eqGuard op t f g u v).run cx.P w' = .ok () w') ∧ ∀ w', (binOp op t u v).run cx.P w' = .ok r w' := by
  have pure_ : ∀ {u v : Value}, (∀ f g : Operand, eqGuard op t f g u v = pure ()) → ∀ (f g : Operand) (w' : World), (eqGuard op t f g u v).run cx.P w' = .ok () w' := fun h f g w' => by rw [h]; rfl
  unfold pbin at h
  split at h
  · rename_i sx k a hxa
    replace h := need_ok h
    obtain ⟨⟨sy, k', b⟩, hyb, h⟩ := h
    rw [PV.num_ok hxa hx, PV.num_ok hyb hy]
    obtain ⟨z, r, h1, h2, h3⟩ := nump_ok (P := cx.P) (t := t) (w := w) (I := I) (β := β) h
    exact ⟨z, r, h1, h2, pure_ fun f g => eqGuard_at_int _ _ _ _ _ _ _, h3⟩
  · replace h := need_ok h
    obtain ⟨d, hu, h⟩ := h
    split at h
    · replace h := need_ok h
      obtain ⟨p, hp, h⟩ := h
      replace h := need_ok h
      obtain ⟨p', hp', h⟩ := h
      rw [PV.bl_ok hp hx, PV.bl_ok hp' hy]
      obtain ⟨z, r, h1, h2, h3⟩ := eqn_ok (P := cx.P) (t := t) (u := .bool (pb p)) (v := .bool (pb p')) (w := w) (I := I) (β := β) h
        (fun _ w' => by rw [Ev.run_eql rfl (run_equal_bool w' t _ _ (hO.un hu)), pb_same]) (fun _ w' => by rw [Ev.run_neq rfl (run_equal_bool w' t _ _ (hO.un hu)), pb_same])
      exact ⟨z, r, h1, h2, pure_ fun f g => eqGuard_at_bool _ _ _ _ _ _, h3⟩
    · split at h
      · simp only [PV.Is] at hx hy
        obtain ⟨rfl, _⟩ := hx
        obtain ⟨rfl, _⟩ := hy
        obtain ⟨z, r, h1, h2, h3⟩ := eqb_ok (P := cx.P) (t := t) (u := .string _) (v := .string _) (w := w) (I := I) (β := β) h (fun _ w' => rfl) (fun _ w' => rfl)
        exact ⟨z, r, h1, h2, pure_ fun f g => eqGuard_at_string _ _ _ _ _ _, h3⟩
      · exact h.elim
    · split at h
      · simp only [PV.Is] at hy
        subst hy
        obtain ⟨z, r, h1, h2, h3, h4⟩ := eqNil_ok hO hR hu h hx
        exact ⟨z, r, h1, h2, pure_ h3, h4⟩
      · exact h.elim
    · rename_i e
      have hpt : cx.P.underlying t = some (.pointer (cx.P.pointee t)) := by have := hO.un hu; rw [this]; simp [Program.pointee, this]
      split at h
      · simp only [PV.Is] at hx hy
        obtain ⟨rfl, _⟩ := hx
        obtain ⟨rfl, _⟩ := hy
        obtain ⟨z, r, h1, h2, h3⟩ := eqb_ok (P := cx.P) (t := t) (u := .pointer none) (v := .pointer none) (w := w) (I := I) (β := β) h (fun _ w' => by rw [run_eql_pointer_nil w' t _ hpt]; rfl) (fun _ w' => by rw [run_neq_pointer_nil w' t _ hpt]; rfl)
        exact ⟨z, r, h1, h2, pure_ fun f g => eqGuard_at_pointer _ _ _ _ _ _, h3⟩
      · simp only [PV.Is] at hx hy
        obtain ⟨rfl, _⟩ := hy
        obtain ⟨p, g, o, _, _, rfl⟩ := hx
        obtain ⟨z, r, h1, h2, h3⟩ := eqb_ok (P := cx.P) (t := t) (u := .pointer (some ⟨g, o + _, none⟩)) (v := .pointer none) (w := w) (I := I) (β := β) h (fun _ w' => by rw [run_eql_pointer_nil w' t _ hpt]; rfl) (fun _ w' => by rw [run_neq_pointer_nil w' t _ hpt]; rfl)
        exact ⟨z, r, h1, h2, pure_ fun f g => eqGuard_at_pointer _ _ _ _ _ _, h3⟩
      · exact h.elim
    · split at h
      · rename_i xs ys
        replace h := bif_ok h
        obtain ⟨hc, h⟩ := h
        replace h := need_ok h
        obtain ⟨p, hp, h⟩ := h
        obtain ⟨t', ht', hbt⟩ := List.any_eq_true.1 hc
        have : t = t' := Nat.eq_of_beq_eq_true hbt
        subst this
        obtain ⟨hguard, _, _⟩ := hO.eq _ ht'
        have he := eqT_ok hO 6 10000 (by decide) t _ _ _ u v hp hx hy
        simp only [PV.Is] at hx hy
        obtain ⟨us, rfl, _⟩ := hx
        obtain ⟨vs, rfl, _⟩ := hy
        obtain ⟨z, r, h1, h2, h3⟩ := eqn_ok (P := cx.P) (t := t) (u := .agg us) (v := .agg vs) (w := w) (I := I) (β := β) h (fun _ w' => by rw [run_eql_struct, he]; rfl) (fun _ w' => by rw [run_neq_struct, he]; rfl)
        exact ⟨z, r, h1, h2, fun f g w' => run_eqGuard_agg w' op t f g us vs hguard, h3⟩
      · exact h.elim
    · split at h
      · rename_i xs ys
        replace h := bif_ok h
        obtain ⟨hc, h⟩ := h
        replace h := need_ok h
        obtain ⟨p, hp, h⟩ := h
        obtain ⟨t', ht', hbt⟩ := List.any_eq_true.1 hc
        have : t = t' := Nat.eq_of_beq_eq_true hbt
        subst this
        obtain ⟨hguard, _, _⟩ := hO.eq _ ht'
        have he := eqT_ok hO 6 10000 (by decide) t _ _ _ u v hp hx hy
        simp only [PV.Is] at hx hy
        obtain ⟨us, rfl, _⟩ := hx
        obtain ⟨vs, rfl, _⟩ := hy
        obtain ⟨z, r, h1, h2, h3⟩ := eqn_ok (P := cx.P) (t := t) (u := .agg us) (v := .agg vs) (w := w) (I := I) (β := β) h (fun _ w' => by rw [run_eql_struct, he]; rfl) (fun _ w' => by rw [run_neq_struct, he]; rfl)
        exact ⟨z, r, h1, h2, fun f g w' => run_eqGuard_agg w' op t f g us vs hguard, h3⟩
      · exact h.elim
    · exact h.elim

theorem pun_ok {op : UnOp} {x : PV} {u : Value} {q : PV → Prop} (h : pun op x q) (hx : x.Is w I β u) : ∃ z r, q z ∧ z.Is w I β r ∧ ∀ w', (Op.unary op u).run P w' = .ok r w' := by
  unfold pun at h
  split at h <;> try simp only [PV.Is] at hx
  · subst hx
    refine ⟨_, _, h, Is.lit, fun w' => ?_⟩
    rename_i k a
    rw [show -a = 0 - a by omega]; rfl
  · subst hx
    obtain ⟨z, h, hz⟩ := outN_ok (w := w) (I := I) (β := β) h
    refine ⟨z, _, h, hz, fun w' => ?_⟩
    rename_i k a _
    rw [show -a = 0 - a by omega]; rfl
  · subst hx; exact ⟨_, _, h, Is.lit, fun w' => rfl⟩
  · subst hx; exact ⟨_, _, h, Is.int, fun w' => rfl⟩
  · subst hx; exact ⟨_, _, h, Is.ff, fun w' => rfl⟩
  · subst hx; exact ⟨_, _, h, Is.tt, fun w' => rfl⟩
  · subst hx
    rename_i p
    refine ⟨_, _, h, Is.bool, fun w' => ?_⟩
    by_cases hp : p
    · rw [pb_true hp, pb_false fun h => h hp]; rfl
    · rw [pb_false hp, pb_true hp]; rfl
  · exact h.elim

theorem pconv_ok (hO : Ev.CxOk cx) {src dst : TypeId} {x : PV} {u : Value} {q : PV → Prop} (h : pconv cx src dst x q) (hx : x.Is w I β u) : ∃ z r, q z ∧ z.Is w I β r ∧ ∀ w', (convert src dst u).run cx.P w' = .ok r w' := by
  replace h := need_ok h
  obtain ⟨d1, hs, h⟩ := h
  replace h := need_ok h
  obtain ⟨d2, hd, h⟩ := h
  split at h <;> try simp only [PV.Is] at hx
  · subst hx
    exact ⟨_, _, h, Is.lit, fun w' => by simp [convert, run_underlying (hO.un hs), run_underlying (hO.un hd), Conv.intToInt]⟩
  · subst hx
    obtain ⟨z, h, hz⟩ := outN_ok (w := w) (I := I) (β := β) h
    exact ⟨z, _, h, hz, fun w' => by simp [convert, run_underlying (hO.un hs), run_underlying (hO.un hd), Conv.intToInt]⟩
  · exact h.elim

theorem zerosO_ok (hO : Ev.CxOk cx) {t : TypeId} {q : List PV → Prop} (h : zerosO cx t q) : ∃ z i v, q z ∧ cx.P.info? t = some i ∧ i.zero = some v ∧ IsL w I z β v.cells.toList := by
  replace h := need_ok h
  obtain ⟨v, hv, h⟩ := h
  replace h := konst_ok (w := w) (I := I) (β := β) h
  obtain ⟨x, h, hx, hn⟩ := h
  rw [Option.bind_eq_some_iff] at hv
  obtain ⟨ti, hti, hz⟩ := hv
  obtain ⟨i, hi, _, h2⟩ := hO.inf _ (Ev.lkT_mem hti)
  exact ⟨_, i, v, h, hi, h2.trans hz, hx.cellsL hn⟩

theorem PSt.ev_ok (hR : Rel G I β s a w) {o : Operand} {q : PV → Prop} (h : s.ev o q) : ∃ x, q x ∧ x.Is w I β (a.eval o) := by
  cases o with
  | tmp t =>
    replace h := need_ok h
    obtain ⟨x, hx, h⟩ := h
    obtain ⟨v, hv, hi⟩ := hR.get t x hx
    exact ⟨x, h, by simp only [Act.eval, Array.getD_eq_getD_getElem?, hv, Option.getD_some]; exact hi⟩
  | const v =>
    replace h := konst_ok (w := w) (I := I) (β := β) h
    obtain ⟨x, h, hx, _⟩ := h
    exact ⟨x, h, hx⟩
  | global g => exact ⟨_, h, by simp only [PV.Is, Act.eval]⟩
  | func f => exact ⟨_, h, by simp only [PV.Is, Act.eval]; exact ⟨#[], rfl, by simp only [IsL]⟩⟩

/-- parts that are put into an aggregate -/
def PartsIs (w : World) (I : Nat → Prop) (β : Places) : List (Nat × PV) → List (Nat × Value) → Prop
  | [], [] => True
  | p :: ps, v :: vs => (p.1 = v.1 ∧ p.2.Is w I β v.2 ∧ ∀ ts, p.2 ≠ .tup ts) ∧ PartsIs w I β ps vs
  | _, _ => False
theorem partsK_ok (hR : Rel G I β s a w) : ∀ {ps : List (Nat × Operand)} {q : List (Nat × PV) → Prop}, partsK s ps q → ∃ l, q l ∧ PartsIs w I β l (ps.map fun p => (p.1, a.eval p.2))
  | [], q, h => ⟨[], h, trivial⟩
  | (i, o) :: ps, q, h => by
    replace h := PSt.ev_ok hR h
    obtain ⟨x, h, hx⟩ := h
    have key : (∀ ts, x ≠ .tup ts) ∧ partsK s ps fun l => q ((i, x) :: l) := by
      cases x <;> first | exact h.elim | exact ⟨(fun _ e => by cases e), h⟩
    obtain ⟨l, h, hl⟩ := partsK_ok hR key.2
    exact ⟨_, h, ⟨rfl, hx, key.1⟩, hl⟩
theorem fillF_ok {place : Nat → Option (Nat × Nat)} {q : List PV → Prop} : ∀ {ps : List (Nat × PV)} {cells : List PV}, fillF place cells ps q → ∃ cs, fillP place cells ps = some cs ∧ q cs
  | [], cells, h => ⟨cells, rfl, h⟩
  | (i, v) :: rest, cells, h => by
    unfold fillF at h
    unfold fillP
    split at h
    · exact h.elim
    · rename_i off size hp
      obtain ⟨hc, h⟩ := bif_ok h
      obtain ⟨cs, h1, h2⟩ := fillF_ok (forceL_ok h)
      refine ⟨cs, ?_, h2⟩
      simp only [hc, if_true]
      exact h1
theorem fillP_ok {place : Nat → Option (Nat × Nat)} : ∀ {ps : List (Nat × PV)} {vs : List (Nat × Value)} {cells r : List PV} {A : Array Value}, fillP place cells ps = some r → IsL w I cells β A.toList → PartsIs w I β ps vs →
    ∃ B, Instr.fill place A vs = some B ∧ IsL w I r β B.toList
  | [], [], cells, r, A, h, hc, _ => by simp only [fillP, Option.some.injEq] at h; subst h; exact ⟨A, rfl, hc⟩
  | (i, x) :: ps, (j, v) :: vs, cells, r, A, h, hc, hps => by
    obtain ⟨⟨hij, hx, hnt⟩, hrest⟩ := hps
    simp only at hij hx hnt
    subst hij
    unfold fillP at h
    cases hpl : place i with
    | none => rw [hpl] at h; cases h
    | some os =>
      obtain ⟨off, size⟩ := os
      rw [hpl] at h
      simp only at h
      split at h
      · rename_i hcond
        simp only [Bool.and_eq_true] at hcond
        have h1 : x.cells.length = size := Nat.eq_of_beq_eq_true hcond.1
        have h2 : off + size ≤ cells.length := Nat.le_of_ble_eq_true hcond.2
        have hxc := hx.cellsL hnt
        have hl := hxc.length
        have hcl := hc.length
        simp only [Array.length_toList] at hl hcl
        unfold Instr.fill
        rw [hpl]
        simp only
        rw [if_neg (by simp; omega)]
        have key := Ev.fill_fold off v.cells.toList 0 A (by simp; omega)
        have harr : (v.cells.zipIdx.foldl (fun (cs : Array Value) (x : Value × Nat) => cs.setIfInBounds (off + x.2) x.1) A).toList = A.toList.take off ++ v.cells.toList ++ A.toList.drop (off + size) := by
          rw [← Array.foldl_toList, Array.toList_zipIdx]
          rw [key]; simp; congr 2; omega
        refine fillP_ok h ?_ hrest
        rw [harr]
        exact ((hc.take off).append hxc).append (hc.drop (off + size))
      · cases h
  | [], _ :: _, _, _, _, _, _, h => h.elim
  | _ :: _, [], _, _, _, _, _, h => h.elim
theorem pbuild_ok (hO : Ev.CxOk cx) (hR : Rel G I β s a w) {t : TypeId} {parts : Array (Nat × Operand)} {q : PV → Prop} (h : pbuild cx s t parts.toList q) :
    ∃ x r, q x ∧ x.Is w I β r ∧ ∀ w', (Instr.build t (parts.map fun (i, y) => (i, a.eval y))).run cx.P w' = .ok r w' := by
  replace h := zerosO_ok (w := w) (I := I) (β := β) hO h
  obtain ⟨z, i, v, h, hi, hzv, hzz⟩ := h
  replace h := partsK_ok hR h
  obtain ⟨ps, h, hps⟩ := h
  replace h := need_ok h
  obtain ⟨d, hu, h⟩ := h
  split at h
  · rename_i fs
    replace h := need_ok h
    obtain ⟨pl, hpl, h⟩ := h
    replace h := fillF_ok h
    obtain ⟨l, hl, h⟩ := h
    obtain ⟨B, hB, hBB⟩ := fillP_ok hl hzz hps
    refine ⟨_, .agg B, forceL_ok h, by simp only [PV.Is]; exact ⟨B, rfl, hBB⟩, fun w' => run_build w' t _ B ?_⟩
    unfold Program.built
    simp only [hi, hO.un hu, hzv, Ev.placeF_ok hO hpl]
    rw [← hB]; simp
  · rename_i n elem
    replace h := need_ok h
    obtain ⟨sz, hsz, h⟩ := h
    replace h := fillF_ok h
    obtain ⟨l, hl, h⟩ := h
    obtain ⟨B, hB, hBB⟩ := fillP_ok hl hzz hps
    obtain ⟨ie, hie, hie2⟩ := Ev.size_inf hO hsz
    refine ⟨_, .agg B, forceL_ok h, by simp only [PV.Is]; exact ⟨B, rfl, hBB⟩, fun w' => run_build w' t _ B ?_⟩
    unfold Program.built
    simp only [hi, hO.un hu, hzv, hie, hie2]
    rw [← hB]; simp
  · exact h.elim

theorem pfieldAddr_ok (hO : Ev.CxOk cx) {t : TypeId} {x : PV} {f : Nat} {u : Value} {q : PV → Prop} (h : pfieldAddr cx t x f q) (hx : x.Is w I β u) : ∃ z r, q z ∧ z.Is w I β r ∧ ∀ w', (Instr.fieldAt t u f).run cx.P w' = .ok r w' := by
  replace h := need_ok h
  obtain ⟨d, hu, h⟩ := h
  split at h
  · rename_i fs
    replace h := need_ok h
    obtain ⟨fd, hfd, h⟩ := h
    replace h := need_ok h
    obtain ⟨n, hn, h⟩ := h
    replace h := bif_not h
    obtain ⟨hn0, h⟩ := h
    · have hn0' : n ≠ 0 := fun e => by subst e; cases hn0
      have hfd' : fs[f]? = some fd := by simpa using hfd
      have hrun : ∀ (b o : Nat) w', (Instr.fieldAt t (.pointer (some ⟨b, o, none⟩)) f).run cx.P w' = .ok (.pointer (some ⟨b, o + fd.offset, none⟩)) w' := fun b o w' => by
        simp [Instr.fieldAt, run_underlying (hO.un hu), hfd', Instr.sureAddr, fieldPlace, Ev.size_run hO hn, hn0', Ev.addr_add]
      split at h <;> try simp only [PV.Is] at hx
      · obtain ⟨p, g, o, hp, ha, rfl⟩ := hx
        exact ⟨_, _, h, by simp only [PV.Is]; exact ⟨p, g, o, hp, ha, rfl⟩, fun w' => by rw [hrun]; simp only [Nat.add_assoc]⟩
      · obtain ⟨p, g, o, hp, ha, rfl⟩ := hx
        exact ⟨_, _, h, by simp only [PV.Is]; exact ⟨p, g, o, hp, ha, rfl⟩, fun w' => by rw [hrun]; congr 4; omega⟩
      · obtain ⟨p, g, o, hp, ha, rfl⟩ := hx
        exact ⟨_, _, h, by simp only [PV.Is]; exact ⟨p, g, o, hp, ha, rfl⟩, fun w' => by rw [hrun]; congr 4; omega⟩
      · obtain ⟨g, o, rfl, hg, hc⟩ := hx
        exact ⟨_, _, h, by simp only [PV.Is]; exact ⟨g, o, rfl, hg, hc⟩, fun w' => by rw [hrun]; simp only [Nat.add_assoc]⟩
      · subst hx
        exact ⟨_, _, h, by simp only [PV.Is]; exact rfl, fun w' => by rw [hrun]⟩
      · subst hx
        exact ⟨_, _, h, by simp only [PV.Is]; exact rfl, fun w' => by rw [hrun]; congr 4; omega⟩
      · exact h.elim
  · exact h.elim

theorem within_ok {st : Bool} {i : Int} {len : Nat} {f : Nat → Prop} {g : Prop} (h : within st i len f g) : 0 ≤ i ∧ i < len ∧ (f i.toNat ∨ g) := by
  cases st with
  | true =>
    replace h := bif_ok h
    obtain ⟨hb, h⟩ := h
    simp only [Bool.and_eq_true, decide_eq_true_eq] at hb
    exact ⟨hb.1, hb.2, .inl h⟩
  | false => exact ⟨h.1, h.2.1, .inr h.2.2⟩
theorem elemK_ok {es : List PV} {i : Int} {q : PV → Prop} (h : elemK es i q) : ∃ e, 0 ≤ i ∧ i < es.length ∧ es[i.toNat]? = some e ∧ q e := by
  obtain ⟨α, l, enc, rfl, h0, h1, h⟩ := h
  have hlt : i.toNat < l.length := by omega
  exact ⟨_, h0, by simpa using h1, by rw [List.getElem?_map, List.getElem?_eq_getElem hlt]; rfl, h _ (List.getElem?_eq_getElem hlt)⟩

theorem pindexAddr_ok (hO : Ev.CxOk cx) (hR : HeapOk I β s.st w) {t : TypeId} {x i : PV} {u v : Value} {q : PV → Prop} (h : pindexAddr cx s.st t x i q) (hx : x.Is w I β u) (hi : i.Is w I β v) :
    ∃ z r, q z ∧ z.Is w I β r ∧ ∀ w', (Instr.indexAt t u v).run cx.P w' = .ok r w' := by
  replace h := need_ok h
  obtain ⟨⟨st, k, n⟩, hn, h⟩ := h
  obtain rfl := PV.num_ok hn hi
  replace h := need_ok h
  obtain ⟨d, hu, h⟩ := h
  try simp only at h
  split at h
  · rename_i len elem
    replace h := need_ok h
    obtain ⟨size, hs, h⟩ := h
    have hrun : ∀ (b o : Nat), 0 ≤ n → n < len → ∀ w', (Instr.indexAt t (.pointer (some ⟨b, o, none⟩)) (.int k n)).run cx.P w' = .ok (.pointer (some ⟨b, o + n.toNat * size, none⟩)) w' := fun b o h0 h1 w' => by
      simp [Instr.indexAt, Instr.sureAddr, asIntOf, run_underlying (hO.un hu), h0, h1, Ev.size_run hO hs, Ev.addr_add]
    split at h <;> try simp only [PV.Is] at hx
    · obtain ⟨p, g, o, hp, ha, rfl⟩ := hx
      replace h := within_ok h
      obtain ⟨h0, h1, h | h⟩ := h
      · exact ⟨_, _, h, by simp only [PV.Is]; exact ⟨p, g, o, hp, ha, rfl⟩, fun w' => by rw [hrun _ _ h0 h1]; simp only [Nat.add_assoc]⟩
      · exact ⟨_, _, h, by simp only [PV.Is]; exact ⟨p, g, o, hp, ha, rfl⟩, fun w' => by rw [hrun _ _ h0 h1]; simp only [Nat.add_assoc]⟩
    · subst hx
      replace h := within_ok h
      obtain ⟨h0, h1, h | h⟩ := h
      · exact ⟨_, _, h, by simp only [PV.Is]; exact rfl, fun w' => by rw [hrun _ _ h0 h1]⟩
      · exact ⟨_, _, h, by simp only [PV.Is]; exact rfl, fun w' => by rw [hrun _ _ h0 h1]⟩
    · obtain ⟨g, o, rfl, hg, hc⟩ := hx
      replace h := within_ok h
      obtain ⟨h0, h1, h | h⟩ := h
      · exact ⟨_, _, h, by simp only [PV.Is]; exact ⟨g, o, rfl, hg, hc⟩, fun w' => by rw [hrun _ _ h0 h1]; simp only [Nat.add_assoc]⟩
      · exact h.elim
    · exact h.elim
  · rename_i elem
    replace h := need_ok h
    obtain ⟨size, hs, h⟩ := h
    have hrun : ∀ (b o len cap : Nat), 0 ≤ n → n < len → ∀ w', (Instr.indexAt t (.slice (some ⟨b, o, none⟩) len cap) (.int k n)).run cx.P w' = .ok (.pointer (some ⟨b, o + n.toNat * size, none⟩)) w' := fun b o len cap h0 h1 w' => by
      simp [Instr.indexAt, asIntOf, run_underlying (hO.un hu), h0, h1, Ev.size_run hO hs, Ev.addr_add]
    split at h <;> try simp only [PV.Is] at hx
    · rename_i m es
      replace h := bif_ok h
      obtain ⟨hm, h⟩ := h
      have hms : m = size := Nat.eq_of_beq_eq_true hm
      replace h := elemK_ok h
      obtain ⟨e, h0, h1, he, h⟩ := h
      obtain ⟨ad, cap, rfl, _, _, h2, h3⟩ := hx
      obtain ⟨g, o, rfl, hg, _⟩ := h3 (by omega)
      have hel := (h2 g o rfl).get he
      exact ⟨_, _, forceL_ok h, by simp only [PV.Is]; exact ⟨g, o + n.toNat * m, rfl, hg, hel.2⟩, fun w' => by rw [hrun _ _ _ _ h0 h1, hms]; rfl⟩
    · obtain ⟨p, g, o, cap, hp, ha, rfl, _⟩ := hx
      replace h := within_ok h
      obtain ⟨h0, h1, h | h⟩ := h
      · exact ⟨_, _, h, by simp only [PV.Is]; exact ⟨p, g, o, hp, ha, rfl⟩, fun w' => by rw [hrun _ _ _ _ h0 h1]; simp only [Nat.add_assoc]⟩
      · exact ⟨_, _, h, by simp only [PV.Is]; exact ⟨p, g, o, hp, ha, rfl⟩, fun w' => by rw [hrun _ _ _ _ h0 h1]; simp only [Nat.add_assoc]⟩
    · rename_i l
      replace h := need_ok h
      obtain ⟨b, hb, h⟩ := h
      replace h := bif_ok h
      obtain ⟨hc, h⟩ := h
      simp only [Bool.and_eq_true] at hc
      have hsz : b.size = size := Nat.eq_of_beq_eq_true hc.1.2
      obtain ⟨p, hp, rfl⟩ := hx
      split at h
      · rename_i hk
        obtain ⟨g, arr, fr, ha, hw, _, _, _, hlen, _, _, _, hpos⟩ := whole_arr hR hb hc.1.1 hk hp
        rw [hw]
        rw [lenK_eq, Nat.zero_add] at h
        have hq : b.cs.length / size = p.len := by rw [hlen, hsz]; exact Nat.mul_div_cancel _ (by omega)
        rw [hq] at h
        replace h := within_ok h
        obtain ⟨h0, h1, h | h⟩ := h
        · exact ⟨_, _, h, by simp only [PV.Is]; exact ⟨p, g, 0, hp, ha, rfl⟩, fun w' => by rw [hrun _ _ _ _ h0 h1]⟩
        · exact ⟨_, _, h, by simp only [PV.Is]; exact ⟨p, g, 0, hp, ha, rfl⟩, fun w' => by rw [hrun _ _ _ _ h0 h1]; congr 4; omega⟩
      · rename_i hk
        obtain ⟨h0, h1, h⟩ := h
        obtain ⟨_, hlen, hle, _, hor⟩ := whole_dyn hR hb hc.1.1 hk hp
        rcases hor with ⟨_, hc0, _⟩ | ⟨g, arr, fr, ha, hw, _⟩
        · omega
        · rw [hw]
          exact ⟨_, _, h, by simp only [PV.Is]; exact ⟨p, g, 0, hp, ha, rfl⟩, fun w' => by rw [hrun _ _ _ _ h0 (by omega)]; congr 4⟩
      · exact h.elim
    · exact h.elim
  · exact h.elim

theorem pindex_ok (hO : Ev.CxOk cx) {t : TypeId} {x i : PV} {u v : Value} {q : PV → Prop} (h : pindex cx t x i q) (hx : x.Is w I β u) (hi : i.Is w I β v) :
    ∃ z r, q z ∧ z.Is w I β r ∧ ∀ w', (Instr.index t u v).run cx.P w' = .ok r w' := by
  replace h := need_ok h
  obtain ⟨⟨st, k, n⟩, hn, h⟩ := h
  obtain rfl := PV.num_ok hn hi
  replace h := need_ok h
  obtain ⟨d, hu, h⟩ := h
  try simp only at h
  split at h <;> try simp only [PV.Is] at hx
  · rename_i len elem cs
    obtain ⟨vs, rfl, hc⟩ := hx
    replace h := need_ok h
    obtain ⟨size, hs, h⟩ := h
    replace h := within_ok h
    obtain ⟨h0, h1, h⟩ := h
    have hrun : ∀ w', (Instr.index t (.agg vs) (.int k n)).run cx.P w' = (Go.part elem vs (n.toNat * size)).run cx.P w' := fun w' => by
      simp [Instr.index, asIntOf, run_underlying (hO.un hu), h0, h1, Ev.size_run hO hs]
    rcases h with h | h
    · obtain ⟨z, r, h2, h3, h4⟩ := part_ok hO h hc
      exact ⟨z, r, h2, h3, fun w' => by rw [hrun, h4]⟩
    · replace h := need_ok h
      obtain ⟨ag, hag, h⟩ := h
      replace h := bif_ok h
      obtain ⟨hb, h⟩ := h
      simp only [Bool.and_eq_true, Bool.not_eq_true'] at hb
      obtain ⟨⟨hag', hs1⟩, hcl⟩ := hb
      subst hag'
      have hs1' := Nat.eq_of_beq_eq_true hs1
      have hcl' := Nat.eq_of_beq_eq_true hcl
      subst hs1'
      have hlt : n.toNat < cs.length := by omega
      obtain ⟨r, hr, hri⟩ := hc.get (List.getElem?_eq_getElem hlt)
      have hr' : vs[n.toNat]? = some r := by simpa using hr
      exact ⟨_, r, h _ (List.getElem?_eq_getElem hlt), hri, fun w' => by rw [hrun]; simp [Go.part, Ev.isAgg_run hO hag, hr']⟩
  · rename_i sb
    obtain ⟨rfl, _⟩ := hx
    obtain ⟨h0, h1, h⟩ := h
    have hlt : n.toNat < sb.size := by omega
    refine ⟨_, _, h, Is.int, fun w' => ?_⟩
    rw [run_index_string w' t sb k _ (hO.un hu), dif_pos ⟨h0, h1⟩]
    have : sb.data.toList[n.toNat]? = some (sb[n.toNat]'hlt) := by
      rw [Array.getElem?_toList, Array.getElem?_eq_getElem hlt]; rfl
    rw [List.getElem?_map, this]; rfl
  · exact h.elim
end

end Go.Proofs.YtjcacjeoddnmhaaDoor.Pw

/- Slices, lengths; memory: loads, stores, new blocks, append, as the evaluator says. -/
namespace Go.Proofs.YtjcacjeoddnmhaaDoor.Pw
open Go Go.RowKit

section
variable {w w' : World} {I I' : Nat → Prop} {β β' : Places} {cx : Ev.Cx} {G : Gx} {P : Program} {s : PSt} {a : Act}

/-! ### slices -/
theorem bnd_ok (hR : Rel G I β s a w) {o : Option Operand} {d : Bool × Int} {q : Bool × Int → Prop} (h : bnd s o d q) : ∃ z, q z ∧ ((o.map a.eval = none ∧ z = d) ∨ ∃ k, o.map a.eval = some (.int k z.2)) := by
  cases o with
  | none => exact ⟨d, h, .inl ⟨rfl, rfl⟩⟩
  | some o =>
    replace h := PSt.ev_ok hR h
    obtain ⟨x, h, hx⟩ := h
    replace h := need_ok h
    obtain ⟨⟨st, k, n⟩, hn, h⟩ := h
    exact ⟨(st, n), h, .inr ⟨k, by simp only [Option.map_some, PV.num_ok hn hx]⟩⟩
theorem bounds_run {b : Bool} {len cap H L : Nat} {uh ul : Option Value} (hh : (uh = none ∧ H = len) ∨ ∃ k i, uh = some (.int k i) ∧ 0 ≤ i ∧ i ≤ cap ∧ H = i.toNat) (hl : (ul = none ∧ L = 0) ∨ ∃ k i, ul = some (.int k i) ∧ 0 ≤ i ∧ i ≤ H ∧ L = i.toNat) (w : World) :
    (Instr.sliceBounds b len cap ul uh none).run P w = .ok (L, H, cap) w := by
  rcases hh with ⟨rfl, rfl⟩ | ⟨k, i, rfl, h0, h1, rfl⟩ <;> rcases hl with ⟨rfl, rfl⟩ | ⟨k', i', rfl, g0, g1, rfl⟩
  · simp [Instr.sliceBounds]
  · simp [Instr.sliceBounds, Ev.sliceBound_run g0 g1]
  · simp [Instr.sliceBounds, Ev.sliceBound_run h0 h1]
  · simp [Instr.sliceBounds, Ev.sliceBound_run h0 h1, Ev.sliceBound_run g0 g1]
/-- bounds that were looked at -/
theorem bnds_of {b : Bool} {len cap : Nat} {uh ul : Option Value} {l h : Bool × Int} (hh : (uh = none ∧ h.2 = (len : Int)) ∨ ∃ k, uh = some (.int k h.2)) (hl : (ul = none ∧ l.2 = 0) ∨ ∃ k, ul = some (.int k l.2)) (h0 : 0 ≤ l.2) (h1 : l.2 ≤ h.2) (h2 : h.2 ≤ cap) (w : World) :
    (Instr.sliceBounds b len cap ul uh none).run P w = .ok (l.2.toNat, h.2.toNat, cap) w := by
  refine bounds_run ?_ ?_ w
  · rcases hh with ⟨e, e'⟩ | ⟨k, e⟩
    · exact .inl ⟨e, by omega⟩
    · exact .inr ⟨k, h.2, e, by omega, by omega, rfl⟩
  · rcases hl with ⟨e, e'⟩ | ⟨k, e⟩
    · exact .inl ⟨e, by omega⟩
    · exact .inr ⟨k, l.2, e, by omega, by omega, rfl⟩
theorem IsEs.drop {es : List PV} {n g o : Nat} (k : Nat) (h : IsEs w I es n g o) : IsEs w I (es.drop k) n g (o + k * n) := IsEs.of fun i e he => by
  rw [List.getElem?_drop] at he
  have := h.get he
  rw [show o + k * n + i * n = o + (k + i) * n by rw [Nat.add_mul]; omega]
  exact this
theorem IsEs.take {es : List PV} {n g o : Nat} (k : Nat) (h : IsEs w I es n g o) : IsEs w I (es.take k) n g o := IsEs.of fun i e he => by
  rw [List.getElem?_take] at he
  split at he
  · exact h.get he
  · cases he
theorem pslice_ok (hO : Ev.CxOk G.cx) (hR : Rel G I β s a w) {t : TypeId} {x : PV} {u : Value} {lo hi mx : Option Operand} {q : PV → Prop} (h : pslice G.cx s t x lo hi mx q) (hx : x.Is w I β u) :
    ∃ z r, q z ∧ z.Is w I β r ∧ ∀ w', (Instr.sliceAt t u (lo.map a.eval) (hi.map a.eval) (mx.map a.eval)).run G.cx.P w' = .ok r w' := by
  replace h := need_ok h
  obtain ⟨d, hu, h⟩ := h
  split at h
  · rename_i n elem
    replace h := need_ok h
    obtain ⟨m, hm, h⟩ := h
    replace h := bif_ok h
    obtain ⟨hpos, h⟩ := h
    simp only [Bool.and_eq_true] at hpos
    replace h := bnd_ok hR h
    obtain ⟨l, h, hl⟩ := h
    replace h := bnd_ok hR h
    obtain ⟨hh, h, hhh⟩ := h
    split at h <;> try simp only [PV.Is] at hx
    · obtain ⟨p, g, o, hp, ha, rfl⟩ := hx
      replace h := bif_ok h
      obtain ⟨hc, h⟩ := h
      simp only [Bool.and_eq_true, decide_eq_true_eq] at hc
      obtain ⟨⟨⟨⟨⟨_, _⟩, h0⟩, h1⟩, h2⟩, h3⟩ := hc
      refine ⟨_, .slice (some ⟨g, o + _, none⟩) _ (n - l.2.toNat), h, by simp only [PV.Is]; exact ⟨p, g, o, n - l.2.toNat, hp, ha, rfl, by omega⟩, fun w' => ?_⟩
      have hb := fun b => bnds_of (P := G.cx.P) (b := b) (len := n) (cap := n) (hhh.imp (fun ⟨e, e'⟩ => ⟨e, by rw [e']⟩) id) (hl.imp (fun ⟨e, e'⟩ => ⟨e, by rw [e']⟩) id) h0 h2 h3 w'
      have hne : ¬ n = l.2.toNat := by omega
      have e1 : hh.2.toNat - l.2.toNat = (hh.2 - l.2).toNat := by omega
      simp only [Instr.sliceAt, Sem.run_bind, run_underlying (hO.un hu), Result.andThen_ok, Instr.sureAddr, Sem.run_pure, Option.map_none, hb, Ev.size_run hO hm]
      simp [hne, Ev.addr_add, Nat.add_assoc, e1]
    · exact h.elim
  · rename_i elem
    replace h := need_ok h
    obtain ⟨m, hm, h⟩ := h
    replace h := bnd_ok hR h
    obtain ⟨l, h, hl⟩ := h
    have run : ∀ (ad : Option Addr) (len cap : Nat) (hh : Bool × Int), ((hi.map a.eval = none ∧ hh.2 = (len : Int)) ∨ ∃ k, hi.map a.eval = some (.int k hh.2)) → 0 ≤ l.2 → l.2 ≤ hh.2 → hh.2 ≤ cap → ∃ ad', (∀ w', (Instr.sliceAt t (.slice ad len cap) (lo.map a.eval) (hi.map a.eval) none).run G.cx.P w' = .ok (.slice ad' (hh.2 - l.2).toNat (cap - l.2.toNat)) w') ∧ (ad = none → ad' = none) ∧ (∀ g o, ad = some ⟨g, o, none⟩ → l.2 < cap → ad' = some ⟨g, o + l.2.toNat * m, none⟩) := by
      intro ad len cap hh hhh h0 h1 h2
      have hb := fun b w' => bnds_of (P := G.cx.P) (b := b) (len := len) (cap := cap) hhh (hl.imp (fun ⟨e, e'⟩ => ⟨e, by rw [e']⟩) id) h0 h1 h2 w'
      have e1 : hh.2.toNat - l.2.toNat = (hh.2 - l.2).toNat := by omega
      cases ad with
      | none =>
        refine ⟨none, fun w' => ?_, fun _ => rfl, fun _ _ e => by cases e⟩
        simp only [Instr.sliceAt, Instr.slice, Sem.run_bind, run_underlying (hO.un hu), Result.andThen_ok, Sem.run_pure, Option.map_none, hb, Ev.size_run hO hm]
        simp [e1]
      | some ad =>
        by_cases hcl : cap = l.2.toNat
        · refine ⟨some ad, fun w' => ?_, (fun e => by cases e), fun g o e hlt => by omega⟩
          simp only [Instr.sliceAt, Instr.slice, Sem.run_bind, run_underlying (hO.un hu), Result.andThen_ok, Sem.run_pure, Option.map_none, hb, Ev.size_run hO hm]
          simp [e1, hcl]
        · refine ⟨some (ad.add (l.2.toNat * m)), fun w' => ?_, (fun e => by cases e), fun g o e hlt => by cases e; rw [Ev.addr_add]⟩
          simp only [Instr.sliceAt, Instr.slice, Sem.run_bind, run_underlying (hO.un hu), Result.andThen_ok, Sem.run_pure, Option.map_none, hb, Ev.size_run hO hm]
          simp [e1, hcl]
    split at h <;> try simp only [PV.Is] at hx
    · subst hx
      replace h := bnd_ok hR h
      obtain ⟨hh, ⟨h0, h1, h⟩, hhh⟩ := h
      refine ⟨_, .slice none 0 0, h, by simp only [PV.Is], fun w' => ?_⟩
      obtain ⟨ad', hr, hn, _⟩ := run none 0 0 hh (hhh.imp (fun ⟨e, e'⟩ => ⟨e, by rw [e']; rfl⟩) id) (by omega) (by omega) (by omega)
      rw [hn rfl] at hr
      rw [Option.map_none, hr, h0, h1]; rfl
    · rename_i b off len
      obtain ⟨p, g, o, cap, hp, ha, rfl, hle⟩ := hx
      replace h := bnd_ok hR h
      obtain ⟨hh, h, hhh⟩ := h
      replace h := bif_ok h
      obtain ⟨hc, h⟩ := h
      simp only [Bool.and_eq_true, decide_eq_true_eq] at hc
      obtain ⟨⟨⟨⟨⟨_, _⟩, h0⟩, h1⟩, h2⟩, h3⟩ := hc
      refine ⟨_, .slice (some ⟨g, o + (off + l.2.toNat * m), none⟩) (hh.2 - l.2).toNat (cap - l.2.toNat), h, by simp only [PV.Is]; exact ⟨p, g, o, cap - l.2.toNat, hp, ha, rfl, by omega⟩, fun w' => ?_⟩
      obtain ⟨ad', hr, _, hs⟩ := run (some ⟨g, o + off, none⟩) len cap hh (hhh.imp (fun ⟨e, e'⟩ => ⟨e, by rw [e']⟩) id) h0 h2 (by omega)
      rw [Option.map_none, hr, hs g (o + off) rfl (by omega)]
      simp only [Nat.add_assoc]
    · rename_i n es
      obtain ⟨ad, cap, rfl, hle, hmx, h4, h5⟩ := hx
      replace h := bnd_ok hR h
      obtain ⟨hh, h, hhh⟩ := h
      replace h := bif_ok h
      obtain ⟨hc, h0, h1, h2, h⟩ := h
      simp only [Bool.and_eq_true] at hc
      have hnm : n = m := Nat.eq_of_beq_eq_true hc.1
      have hm0 : 0 < m := Nat.le_of_ble_eq_true hc.2
      have hlen : ((es.drop l.2.toNat).take (hh.2 - l.2).toNat).length = (hh.2 - l.2).toNat := by rw [List.length_take, List.length_drop]; omega
      obtain ⟨ad', hr', hn, hs⟩ := run ad es.length cap hh (hhh.imp (fun ⟨e, e'⟩ => ⟨e, by rw [e']⟩) id) h0 h1 (by omega)
      refine ⟨_, _, h, ?_, fun w' => by rw [Option.map_none, hr']⟩
      simp only [PV.Is, hlen]
      refine ⟨ad', cap - l.2.toNat, rfl, by omega, by omega, fun g o e => ?_, fun hne => ?_⟩
      · by_cases hz : (hh.2 - l.2).toNat = 0
        · rw [hz, List.take_zero]; simp only [IsEs]
        · obtain ⟨g', o', had, hg, _⟩ := h5 (by omega)
          have := hs g' o' had (by omega)
          rw [this] at e
          cases e
          rw [← hnm]
          exact ((h4 _ _ had).drop _).take _
      · obtain ⟨g', o', had, hg, hn0⟩ := h5 (by omega)
        exact ⟨g', _, hs g' o' had (by omega), hg, hn0⟩
    · rename_i b
      obtain ⟨p, hp, rfl⟩ := hx
      replace h := need_ok h
      obtain ⟨k, hb, h⟩ := h
      split at h
      · rename_i hk
        replace h := bif_ok h
        obtain ⟨hc, h⟩ := h
        simp only [Bool.and_eq_true] at hc
        have hsz : k.size = m := Nat.eq_of_beq_eq_true hc.1.2
        obtain ⟨g, arr, fr, ha, hw, _, _, _, hlen, hle, _, _, hpos⟩ := whole_arr hR.heap hb hc.1.1 hk hp
        rw [lenK_eq, Nat.zero_add] at h
        have hq : k.cs.length / m = p.len := by rw [hlen, hsz]; exact Nat.mul_div_cancel _ (by omega)
        rw [hq] at h
        replace h := bnd_ok hR h
        obtain ⟨hh, h, hhh⟩ := h
        replace h := bif_ok h
        obtain ⟨hc2, h⟩ := h
        simp only [Bool.and_eq_true, decide_eq_true_eq] at hc2
        obtain ⟨⟨⟨⟨⟨_, _⟩, h0⟩, h1⟩, h2⟩, h3⟩ := hc2
        refine ⟨_, .slice (some ⟨g, 0 + l.2.toNat * m, none⟩) (hh.2 - l.2).toNat (p.cap - l.2.toNat), h, by simp only [PV.Is]; exact ⟨p, g, 0, p.cap - l.2.toNat, hp, ha, rfl, by omega⟩, fun w' => ?_⟩
        obtain ⟨ad', hr, _, hs⟩ := run (some ⟨g, 0, none⟩) p.len p.cap hh (hhh.imp (fun ⟨e, e'⟩ => ⟨e, by rw [e']⟩) id) h0 h2 (by omega)
        rw [hw, Option.map_none, hr, hs g 0 rfl (by omega)]
      · rename_i hk
        replace h := bif_ok h
        obtain ⟨hc, h⟩ := h
        simp only [Bool.and_eq_true] at hc
        have hsz : k.size = m := Nat.eq_of_beq_eq_true hc.1.2
        obtain ⟨hsp, hlen, hle, hmx, hor⟩ := whole_dyn hR.heap hb hc.1.1 hk hp
        replace h := bnd_ok hR h
        obtain ⟨hh, ⟨i, j, hi, hj, hij, hjl, hil, h⟩, hhh⟩ := h
        rcases hor with ⟨_, hc0, _⟩ | ⟨g, arr, fr, ha, hw, hhg, hes, hown, has⟩
        · exact absurd hil (by omega)
        · refine ⟨_, .slice (some ⟨g, 0 + i * m, none⟩) (j - i) (p.cap - i), h, by simp only [PV.Is]; exact ⟨p, g, 0, p.cap - i, hp, ha, rfl, by omega⟩, fun w' => ?_⟩
          obtain ⟨ad', hr, _, hs⟩ := run (some ⟨g, 0, none⟩) p.len p.cap hh (hhh.imp (fun ⟨e, e'⟩ => ⟨e, by rw [e', hlen]⟩) id) (by omega) (by omega) (by omega)
          rw [hw, Option.map_none, hr, hs g 0 rfl (by omega), show l.2.toNat = i by omega, show (hh.2 - l.2).toNat = j - i by omega]
      · exact h.elim
    · exact h.elim
  · exact h.elim

theorem plen_ok (hR : HeapOk I β s.st w) {x : PV} {u : Value} {q : PV → Prop} (h : plen s.st x q) (hx : x.Is w I β u) : ∃ z, q z ∧ ∃ (ad : Option Addr) (n c : Nat), u = .slice ad n c ∧ z.Is w I β (.int .i64 n) := by
  unfold plen at h
  simp only [lenK_eq, Nat.zero_add, PBlk.szK_eq] at h
  split at h <;> try simp only [PV.Is] at hx
  · exact ⟨_, h, _, _, _, hx, Is.lit⟩
  · obtain ⟨ad, cap, rfl, _, hm, _⟩ := hx
    exact ⟨_, h hm, _, _, _, rfl, Is.int⟩
  · obtain ⟨p, g, o, cap, _, _, rfl, _⟩ := hx
    exact ⟨_, h, _, _, _, rfl, Is.lit⟩
  · obtain ⟨p, hp, rfl⟩ := hx
    replace h := need_ok h
    obtain ⟨b, hb, h⟩ := h
    replace h := bif_ok h
    obtain ⟨hl, h⟩ := h
    split at h
    · rename_i hk
      obtain ⟨g, arr, fr, _, hw, _, _, _, hlen, _, _, _, hpos⟩ := whole_arr hR hb hl hk hp
      refine ⟨_, h, _, _, _, hw, ?_⟩
      rw [hlen, Nat.mul_div_cancel _ hpos]
      exact Is.lit
    · rename_i hk
      obtain ⟨_, hlen, hle, hm, hor⟩ := whole_dyn hR hb hl hk hp
      have h := h (by omega)
      rcases hor with ⟨_, hc, hw⟩ | ⟨g, arr, fr, _, hw, _⟩
      · exact ⟨_, h, _, _, _, hw, by rw [show b.cs.length = 0 by omega]; exact Is.int⟩
      · exact ⟨_, h, _, _, _, hw, by rw [hlen]; exact Is.int⟩
    · exact h.elim
  · exact h.elim

theorem konstOps_ok (hR : Rel G I β s a w) : ∀ {os : List Operand} {q : List PV → Prop}, ppure.konstOps s os q → ∃ l, q l ∧ IsL w I l β (os.map a.eval)
  | [], q, h => ⟨[], h, by simp only [List.map_nil, IsL]⟩
  | o :: os, q, h => by
    replace h := PSt.ev_ok hR h
    obtain ⟨x, h, hx⟩ := h
    have key : ppure.konstOps s os fun xs => q (x :: xs) := by cases x <;> first | exact h.elim | exact h
    obtain ⟨l, h, hl⟩ := konstOps_ok hR key
    exact ⟨_, h, by simp only [List.map_cons, IsL]; exact ⟨hx, hl⟩⟩

set_option maxHeartbeats 1000000 in
theorem ppure_ok (hO : Ev.CxOk G.cx) (hR : Rel G I β s a w) {o : Oper} {q : PV → Prop} (h : ppure G.cx s o.op q) :
    ∃ x r, q x ∧ x.Is w I β r ∧ ∀ w', (execOp a.eval o).run G.cx.P w' = .ok (.value r) w' := by
  obtain ⟨dst, op, ty, pos, after, guard⟩ := o
  simp only at h
  unfold ppure at h
  split at h
  · -- move
    replace h := PSt.ev_ok hR h
    obtain ⟨x, h, hx⟩ := h
    exact ⟨x, _, h, hx, fun w' => rfl⟩
  · -- assign
    replace h := PSt.ev_ok hR h
    obtain ⟨x, h, hx⟩ := h
    exact ⟨x, _, h, hx, fun w' => rfl⟩
  · -- pick
    rename_i c x y
    have hrun : ∀ b, a.eval c = .bool b → ∀ w', (execOp a.eval ⟨dst, .pick c x y, ty, pos, after, guard⟩).run G.cx.P w' = .ok (.value (if b then a.eval x else a.eval y)) w' := fun b hb w' => by
      cases b <;> simp [execOp, hb, asBool]
    replace h := PSt.ev_ok hR h
    obtain ⟨xc, h, hc⟩ := h
    split at h <;> try simp only [PV.Is] at hc
    · replace h := PSt.ev_ok hR h
      obtain ⟨z, h, hz⟩ := h
      exact ⟨z, _, h, hz, fun w' => by rw [hrun _ hc]; rfl⟩
    · replace h := PSt.ev_ok hR h
      obtain ⟨z, h, hz⟩ := h
      exact ⟨z, _, h, hz, fun w' => by rw [hrun _ hc]; rfl⟩
    · rename_i p
      by_cases hp : p
      · obtain ⟨z, h, hz⟩ := PSt.ev_ok hR (h.1 hp)
        exact ⟨z, _, h, hz, fun w' => by rw [hrun _ hc, pb_true hp]; rfl⟩
      · obtain ⟨z, h, hz⟩ := PSt.ev_ok hR (h.2 hp)
        exact ⟨z, _, h, hz, fun w' => by rw [hrun _ hc, pb_false hp]; rfl⟩
    · exact h.elim
  · -- binOp
    replace h := PSt.ev_ok hR h
    obtain ⟨x, h, hx⟩ := h
    replace h := PSt.ev_ok hR h
    obtain ⟨y, h, hy⟩ := h
    obtain ⟨z, r, h, hz, hg, hr⟩ := pbin_ok hO hR.heap h hx hy
    exact ⟨z, r, h, hz, fun w' => by simp [execOp, hg, hr]⟩
  · -- unOp
    replace h := PSt.ev_ok hR h
    obtain ⟨x, h, hx⟩ := h
    obtain ⟨z, r, h, hz, hr⟩ := pun_ok (P := G.cx.P) h hx
    exact ⟨z, r, h, hz, fun w' => by simp [execOp, hr]⟩
  · -- convert
    replace h := PSt.ev_ok hR h
    obtain ⟨x, h, hx⟩ := h
    obtain ⟨z, r, h, hz, hr⟩ := pconv_ok hO h hx
    exact ⟨z, r, h, hz, fun w' => by simp [execOp, hr]⟩
  · -- nilCheck
    rename_i o
    replace h := PSt.ev_ok hR h
    obtain ⟨x, h, hx⟩ := h
    have key : ∀ {ad : Addr}, a.eval o = .pointer (some ad) → ∀ w', (execOp a.eval ⟨dst, .nilCheck o, ty, pos, after, guard⟩).run G.cx.P w' = .ok (.value (a.eval o)) w' := fun he w' => by simp [execOp, he]
    split at h <;> first | exact h.elim | (have hx' := hx; simp only [PV.Is] at hx')
    · obtain ⟨p, g, o', _, _, he⟩ := hx'; exact ⟨_, _, h, hx, key he⟩
    · obtain ⟨p, g, o', _, _, he⟩ := hx'; exact ⟨_, _, h, hx, key he⟩
    · obtain ⟨p, g, o', _, _, he⟩ := hx'; exact ⟨_, _, h, hx, key he⟩
    · obtain ⟨g, o', he, _⟩ := hx'; exact ⟨_, _, h, hx, key he⟩
    · exact ⟨_, _, h, hx, key hx'⟩
    · exact ⟨_, _, h, hx, key hx'⟩
  · -- build
    obtain ⟨x, r, h, hx, hr⟩ := pbuild_ok hO hR h
    exact ⟨x, r, h, hx, fun w' => by simp [execOp, hr]⟩
  · -- fieldAddr
    replace h := PSt.ev_ok hR h
    obtain ⟨x, h, hx⟩ := h
    obtain ⟨z, r, h, hz, hr⟩ := pfieldAddr_ok hO h hx
    exact ⟨z, r, h, hz, fun w' => by simp [execOp, hr]⟩
  · -- field
    rename_i f
    replace h := need_ok h
    obtain ⟨d, hu, h⟩ := h
    replace h := PSt.ev_ok hR h
    obtain ⟨x, h, hx⟩ := h
    split at h
    · rename_i fs cs
      replace h := need_ok h
      obtain ⟨fd, hfd, h⟩ := h
      simp only [PV.Is] at hx
      obtain ⟨vs, he, hc⟩ := hx
      obtain ⟨z, r, h, hz, hr⟩ := part_ok hO h hc
      have hfd' : fs[f]? = some fd := by simpa using hfd
      exact ⟨z, r, h, hz, fun w' => by simp [execOp, Instr.field, run_underlying (hO.un hu), hfd', he, asAgg, hr]⟩
    · exact h.elim
  · -- indexAddr
    replace h := PSt.ev_ok hR h
    obtain ⟨x, h, hx⟩ := h
    replace h := PSt.ev_ok hR h
    obtain ⟨y, h, hy⟩ := h
    obtain ⟨z, r, h, hz, hr⟩ := pindexAddr_ok hO hR.heap h hx hy
    exact ⟨z, r, h, hz, fun w' => by simp [execOp, hr]⟩
  · -- index
    replace h := PSt.ev_ok hR h
    obtain ⟨x, h, hx⟩ := h
    replace h := PSt.ev_ok hR h
    obtain ⟨y, h, hy⟩ := h
    obtain ⟨z, r, h, hz, hr⟩ := pindex_ok hO h hx hy
    exact ⟨z, r, h, hz, fun w' => by simp [execOp, hr]⟩
  · -- extract
    rename_i i
    replace h := PSt.ev_ok hR h
    obtain ⟨x, h, hx⟩ := h
    split at h
    · replace h := need_ok h
      obtain ⟨z, hz, h⟩ := h
      simp only [PV.Is] at hx
      obtain ⟨vs, he, hc⟩ := hx
      obtain ⟨r, hr, hri⟩ := hc.get hz
      have hr' : vs[i]? = some r := by simpa using hr
      exact ⟨z, r, h, hri, fun w' => by simp [execOp, Instr.extract, he, hr']⟩
    · exact h.elim
  · -- slice
    replace h := PSt.ev_ok hR h
    obtain ⟨x, h, hx⟩ := h
    obtain ⟨z, r, h, hz, hr⟩ := pslice_ok hO hR h hx
    exact ⟨z, r, h, hz, fun w' => by simp [execOp, hr]⟩
  · -- makeFunc
    rename_i f caps
    replace h := konstOps_ok hR h
    obtain ⟨l, h, hl⟩ := h
    refine ⟨_, .func (.func f) #[] ⟨caps.map a.eval⟩, h, by simp only [PV.Is]; exact ⟨_, rfl, hl⟩, fun w' => ?_⟩
    simp [execOp, Instr.makeFunc]
  · -- len
    rename_i o t
    replace h := need_ok h
    obtain ⟨d, hu, h⟩ := h
    replace h := PSt.ev_ok hR h
    obtain ⟨x, h, hx⟩ := h
    have hrun : ∀ {r : Value}, (∀ w', (Builtin.len_ #[t] ty #[a.eval o]).run G.cx.P w' = .ok r w') → ∀ w', (execOp a.eval ⟨dst, .call { callee := .builtin .len, args := #[o], argTypes := #[t] }, ty, pos, after, guard⟩).run G.cx.P w' = .ok (.value r) w' := fun hr w' => by
      simp [execOp, resolve, invoke, builtin, hr]
    split at h
    · obtain ⟨z, h, ad, n, c, he, hz⟩ := plen_ok hR.heap h hx
      exact ⟨z, _, h, hz, hrun fun w' => by simp [Builtin.len_, run_underlying (hO.un hu), he, goInt]⟩
    · exact ⟨_, _, h, Is.lit, hrun fun w' => by simp [Builtin.len_, run_underlying (hO.un hu), goInt]⟩
    · split at h
      · simp only [PV.Is] at hx
        obtain ⟨he, _⟩ := hx
        exact ⟨_, _, h, Is.lit, hrun fun w' => by simp [Builtin.len_, run_underlying (hO.un hu), he, goInt]⟩
      · exact h.elim
    · exact h.elim
  · -- min
    rename_i ox oy ts
    replace h := PSt.ev_ok hR h
    obtain ⟨x, h, hx⟩ := h
    replace h := PSt.ev_ok hR h
    obtain ⟨y, h, hy⟩ := h
    have key : ∀ {k k' : IntKind} {m n : Int}, a.eval ox = .int k m → a.eval oy = .int k' n → ∀ w', (execOp a.eval ⟨dst, .call { callee := .builtin .min, args := ⟨[ox, oy]⟩, argTypes := ts }, ty, pos, after, guard⟩).run G.cx.P w' = .ok (.value (.int k (min m n))) w' := fun h1 h2 w' => by
      rename_i m n
      simp [execOp, resolve, invoke, builtin, Builtin.min_, h1, h2, Builtin.min2]
      by_cases hlt : n < m <;> simp [hlt] <;> omega
    unfold pminmax at h
    split at h <;> first | exact h.elim | (simp only [PV.Is] at hx hy)
    · exact ⟨_, _, h, Is.lit, key hx hy⟩
    · exact ⟨_, _, h, Is.int, key hx hy⟩
    · exact ⟨_, _, h, Is.int, key hx hy⟩
    · exact ⟨_, _, h, Is.int, key hx hy⟩
  · -- max
    rename_i ox oy ts
    replace h := PSt.ev_ok hR h
    obtain ⟨x, h, hx⟩ := h
    replace h := PSt.ev_ok hR h
    obtain ⟨y, h, hy⟩ := h
    have key : ∀ {k k' : IntKind} {m n : Int}, a.eval ox = .int k m → a.eval oy = .int k' n → ∀ w', (execOp a.eval ⟨dst, .call { callee := .builtin .max, args := ⟨[ox, oy]⟩, argTypes := ts }, ty, pos, after, guard⟩).run G.cx.P w' = .ok (.value (.int k (max m n))) w' := fun h1 h2 w' => by
      rename_i m n
      simp [execOp, resolve, invoke, builtin, Builtin.max_, h1, h2, Builtin.max2]
      by_cases hlt : m < n <;> simp [hlt] <;> omega
    unfold pminmax at h
    split at h <;> first | exact h.elim | (simp only [PV.Is] at hx hy)
    · exact ⟨_, _, h, Is.lit, key hx hy⟩
    · exact ⟨_, _, h, Is.int, key hx hy⟩
    · exact ⟨_, _, h, Is.int, key hx hy⟩
    · exact ⟨_, _, h, Is.int, key hx hy⟩
  · exact h.elim
end

end Go.Proofs.YtjcacjeoddnmhaaDoor.Pw

/- Memory: loads, stores, new blocks, append, as the evaluator says. -/
namespace Go.Proofs.YtjcacjeoddnmhaaDoor.Pw
open Go Go.RowKit

def Places.set (β : Places) (l : Nat) (p : Plc) : Places := fun l' => if l' = l then some p else β l'
section
variable {w w' : World} {I I' : Nat → Prop} {β β' : Places} {cx : Ev.Cx} {G : Gx} {P : Program} {s : PSt} {a : Act} {st st' : List PBlk}

theorem setB_ok : ∀ {st : List PBlk} {l : Nat} {b : PBlk} {q : List PBlk → Prop}, setB st l b q → l < st.length ∧ q (st.set l b)
  | [], _, _, _, h => h.elim
  | _ :: st, 0, b, q, h => ⟨by simp, h⟩
  | a :: st, n + 1, b, q, h => by
    obtain ⟨h1, h2⟩ := setB_ok (st := st) (q := fun l => q (a :: l)) h
    exact ⟨by simpa using h1, h2⟩
theorem addB_ok : ∀ {st : List PBlk} {b : PBlk} {q : List PBlk → Prop}, addB st b q → q (st ++ [b])
  | [], _, _, h => h
  | a :: st, b, q, h => addB_ok (st := st) (q := fun l => q (a :: l)) h
theorem lenK_ok {α : Type} : ∀ {l : List α} {n : Nat} {q : Nat → Prop}, lenK l n q → q (n + l.length)
  | [], n, q, h => h
  | _ :: l, n, q, h => by
    have := lenK_ok (l := l) h
    rwa [List.length_cons, show n + (l.length + 1) = n + 1 + l.length by omega]

/-! ### blocks -/
theorem BlkOk.place {l : Nat} {b : PBlk} (h : BlkOk I β st w l b) {p : Plc} {g o : Nat} (hp : β l = some p) (ha : p.a = some (g, o)) : ∃ (ob : Obj) (_ : Unit) (fr : Nat × Nat), w.heap[g]? = some ob ∧ Own I β st l g fr b := by
  obtain ⟨q, hq, hk⟩ := h
  rw [hp] at hq
  cases hq
  split at hk
  · obtain ⟨g', o', arr, ty, fr, ha', hh, _, ho⟩ := hk
    rw [ha] at ha'; cases ha'; exact ⟨_, (), fr, hh, ho⟩
  · obtain ⟨g', arr, fr, ha', hh, _, ho, _⟩ := hk
    rw [ha] at ha'; cases ha'; exact ⟨_, (), fr, hh, ho⟩
  · obtain ⟨_, hk⟩ := hk
    rcases hk with ⟨ha', _⟩ | ⟨g', arr, fr, ha', hh, _, ho, _⟩
    · rw [ha] at ha'; cases ha'
    · rw [ha] at ha'; cases ha'; exact ⟨_, (), fr, hh, ho⟩
  · obtain ⟨g', ha', ⟨es, clock, hh, _⟩, ho⟩ := hk
    rw [ha] at ha'; cases ha'; exact ⟨_, (), (0, 0), hh, ho⟩
theorem MapAt.keep {g : Nat} {cs : List PV} (h : MapAt w g cs) (hw : w'.heap[g]? = w.heap[g]?) : MapAt w' g cs := by
  obtain ⟨es, clock, hb, F, hs, hD⟩ := h
  exact ⟨es, clock, hw.trans hb, F, hs, hD⟩
theorem BlkOk.mono {l : Nat} {b : PBlk} (hI : ∀ g, I g → I' g) (hw : ∀ g, I g → w'.heap[g]? = w.heap[g]?) (hβ : ∀ l p, β l = some p → β' l = some p)
    (hg : ∀ p g o, β l = some p → p.a = some (g, o) → w'.heap[g]? = w.heap[g]? ∧ (b.m ≠ .r → ¬ I' g ∧ ∀ l' b', l' ≠ l → st'[l']? = some b' → b'.live = true → ∀ p g' o', β' l' = some p → p.a = some (g', o') → g' ≠ g)) (hb : BlkOk I β st w l b) : BlkOk I' β' st' w' l b := by
  obtain ⟨p, hp, hk⟩ := hb
  refine ⟨p, hβ l p hp, ?_⟩
  have own : ∀ {g o : Nat} {fr : Nat × Nat}, p.a = some (g, o) → Own I β st l g fr b → Own I' β' st' l g fr b := fun ha ho => ⟨fun hr => ⟨(ho.1 hr).1, (hg p _ _ hp ha).2 hr⟩, fun hr => hI _ (ho.2 hr)⟩
  split at hk
  · obtain ⟨g, o, arr, ty, fr, ha, hh, hc, ho⟩ := hk
    exact ⟨g, o, arr, ty, fr, ha, (hg p g o hp ha).1.trans hh, hc.mono hI hw hβ, own ha ho⟩
  · obtain ⟨g, arr, fr, ha, hh, hc, ho, h1⟩ := hk
    exact ⟨g, arr, fr, ha, (hg p g 0 hp ha).1.trans hh, hc.mono hI hw hβ, own ha ho, h1⟩
  · obtain ⟨h1, hk⟩ := hk
    refine ⟨h1, ?_⟩
    rcases hk with h | ⟨g, arr, fr, ha, hh, hc, ho, h2⟩
    · exact .inl h
    · exact .inr ⟨g, arr, fr, ha, (hg p g 0 hp ha).1.trans hh, IsEs.mono hI hw _ _ _ _ (hg p g 0 hp ha).1 hc, own ha ho, h2⟩
  · obtain ⟨g, ha, hm, ho⟩ := hk
    exact ⟨g, ha, hm.keep (hg p g 0 hp ha).1, own ha ho⟩
theorem HeapOk.lt (h : HeapOk I β st w) {l : Nat} {p : Plc} (hp : β l = some p) : l < st.length := by
  rcases Nat.lt_or_ge l st.length with h' | h'
  · exact h'
  · rw [h.far l h'] at hp; cases hp
/-- a live block's place -/
def Lives (β : Places) (st : List PBlk) (g : Nat) : Prop := ∃ l b p o, st[l]? = some b ∧ b.live = true ∧ β l = some p ∧ p.a = some (g, o)
theorem Places.set_mono (h : HeapOk I β st w) (p : Plc) : ∀ l q, β l = some q → (β.set st.length p) l = some q := fun l q hq => by
  have := h.lt hq
  unfold Places.set
  rw [if_neg (by omega)]; exact hq
theorem Places.set_self (β : Places) (l : Nat) (p : Plc) : (β.set l p) l = some p := if_pos rfl
theorem HeapOk.add (h : HeapOk I β st w) (hw : ∀ g, Lives β st g ∨ I g → w'.heap[g]? = w.heap[g]?) {b : PBlk} {p : Plc} (hp : ∀ g o, p.a = some (g, o) → ¬ I g ∧ ¬ Lives β st g)
    (hb : BlkOk I (β.set st.length p) (st ++ [b]) w' st.length b) : HeapOk I (β.set st.length p) (st ++ [b]) w' := by
  refine ⟨fun l hl => ?_, fun l b' hl hlive => ?_⟩
  · simp only [List.length_append, List.length_singleton] at hl
    unfold Places.set
    rw [if_neg (by omega), h.far l (by omega)]
  · by_cases hlt : l < st.length
    · rw [List.getElem?_append_left hlt] at hl
      have hb' := h.blk l b' hl hlive
      refine hb'.mono (fun _ h => h) (fun g hg => hw g (.inr hg)) (Places.set_mono h p) fun q g o hq ha => ?_
      obtain ⟨arr, ty, fr, hh, ho⟩ := hb'.place hq ha
      have hL : Lives β st g := ⟨l, b', q, o, hl, hlive, hq, ha⟩
      refine ⟨hw g (.inl hL), fun hr => ⟨(ho.1 hr).2.1, fun l' b'' hne hl' hlive' p' g' o' hp' ha' => ?_⟩⟩
      unfold Places.set at hp'
      split at hp'
      · cases hp'
        intro e
        subst e
        exact (hp _ _ ha').2 hL
      · have := h.lt hp'
        rw [List.getElem?_append_left this] at hl'
        exact (ho.1 hr).2.2 l' b'' hne hl' hlive' p' g' o' hp' ha'
    · have hle : l = st.length := by
        have := (List.getElem?_eq_some_iff.1 hl).1
        simp at this; omega
      subst hle
      rw [List.getElem?_append_right (Nat.le_refl _)] at hl
      simp only [Nat.sub_self, List.getElem?_cons_zero, Option.some.injEq] at hl
      subst hl
      exact hb
theorem HeapOk.lives_lt (h : HeapOk I β st w) {g : Nat} (hg : Lives β st g) : g < w.heap.size := by
  obtain ⟨l, b, p, o, h1, h2, h3, h4⟩ := hg
  obtain ⟨arr, ty, fr, hh, _⟩ := (h.blk l b h1 h2).place h3 h4
  exact lt_of_heap hh
theorem Ext.add (h : HeapOk I β st w) (hos : w'.os = w.os) (htape : w'.tape = w.tape) (hout : w'.output = w.output) (hsz : w.heap.size ≤ w'.heap.size) {b : PBlk} {p : Plc} (hw : ∀ g, g < w.heap.size → ¬ Wr β st g → w'.heap[g]? = w.heap[g]?)
    (hp : ∀ g o, p.a = some (g, o) → g < w.heap.size → Wr β st g) : Ext I β st w I (β.set st.length p) (st ++ [b]) w' :=
  ⟨hos, htape, hout, hsz, hw, fun g hg ⟨l, b', q, o, h1, h2, h3, h4, h5⟩ => by
    unfold Places.set at h4
    split at h4
    · cases h4
      exact hp g o h5 hg
    · have := h.lt h4
      rw [List.getElem?_append_left this] at h1
      exact ⟨l, b', q, o, h1, h2, h3, h4, h5⟩, fun _ h => h, fun _ _ h => .inl h⟩
/-- a block that is let go -/
theorem HeapOk.kill (h : HeapOk I β st w) (l : Nat) {b : PBlk} (hb : b.live = false) : HeapOk I β (st.set l b) w := by
  refine ⟨fun l' hl' => h.far l' (by simpa using hl'), fun l' b' hl' hlive => ?_⟩
  have hne : l' ≠ l := fun e => by
    subst e
    rw [List.getElem?_set_self (by simpa using (List.getElem?_eq_some_iff.1 hl').1)] at hl'
    cases hl'; rw [hb] at hlive; cases hlive
  rw [List.getElem?_set_ne (fun e => hne e.symm)] at hl'
  have hb' := h.blk l' b' hl' hlive
  refine hb'.mono (fun _ h => h) (fun _ _ => rfl) (fun _ _ h => h) fun q g o hq ha => ⟨rfl, fun hr => ?_⟩
  obtain ⟨arr, ty, fr, hh, ho⟩ := hb'.place hq ha
  refine ⟨(ho.1 hr).2.1, fun l2 b2 hne2 hl2 hlive2 => ?_⟩
  have hne' : l2 ≠ l := fun e => by
    subst e
    rw [List.getElem?_set_self (by simpa using (List.getElem?_eq_some_iff.1 hl2).1)] at hl2
    cases hl2; rw [hb] at hlive2; cases hlive2
  rw [List.getElem?_set_ne (fun e => hne' e.symm)] at hl2
  exact (ho.1 hr).2.2 l2 b2 hne2 hl2 hlive2
theorem wr_set {l g : Nat} {b : PBlk} (hb : b.live = false ∨ ∃ b0, st[l]? = some b0 ∧ b0.live = b.live ∧ b0.m = b.m) (h : Wr β (st.set l b) g) : Wr β st g := by
  obtain ⟨l', b', p, o, h1, h2, h3, h4, h5⟩ := h
  by_cases hne : l' = l
  · subst hne
    rw [List.getElem?_set_self (by simpa using (List.getElem?_eq_some_iff.1 h1).1)] at h1
    cases h1
    rcases hb with hb | ⟨b0, e1, e2, e3⟩
    · rw [hb] at h2; cases h2
    · exact ⟨l', b0, p, o, e1, by rw [e2]; exact h2, by rw [e3]; exact h3, h4, h5⟩
  · rw [List.getElem?_set_ne (fun e => hne e.symm)] at h1
    exact ⟨l', b', p, o, h1, h2, h3, h4, h5⟩
theorem Ext.kill {l : Nat} {b : PBlk} (hb : b.live = false) : Ext I β st w I β (st.set l b) w := ⟨rfl, rfl, rfl, Nat.le_refl _, fun _ _ _ => rfl, fun _ _ h => wr_set (.inl hb) h, fun _ h => h, fun _ _ h => .inl h⟩
/-- a block that is written -/
theorem HeapOk.write (h : HeapOk I β st w) {l : Nat} {b b' : PBlk} {p : Plc} {g o : Nat} {arr arr' : Array Value} {ty : TypeId} (hb : st[l]? = some b) (hlive : b.live = true) (hm : b.m = .w) (hp : β l = some p) (ha : p.a = some (g, o)) (hh : w.heap[g]? = some (.cells arr ty (0, 0)))
    (hl' : b'.live = true) (hm' : b'.m = .w) (hblk : ∀ (hI : ∀ x, I x → (w.setRow g arr').heap[x]? = w.heap[x]?), Own I β (st.set l b') l g (0, 0) b' → BlkOk I β (st.set l b') (w.setRow g arr') l b') :
    HeapOk I β (st.set l b') (w.setRow g arr') ∧ Ext I β st w I β (st.set l b') (w.setRow g arr') := by
  have hb0 := h.blk l b hb hlive
  obtain ⟨arr0, ty0, fr0, hh0, ho0⟩ := hb0.place hp ha
  obtain ⟨_, hIg, huniq⟩ := ho0.1 (by rw [hm]; decide)
  have hII : ∀ x, I x → (w.setRow g arr').heap[x]? = w.heap[x]? := fun x hx => setRow_other w g x _ fun e => hIg (e ▸ hx)
  have hll : l < st.length := (List.getElem?_eq_some_iff.1 hb).1
  have huniq' : ∀ l' b'', l' ≠ l → (st.set l b')[l']? = some b'' → b''.live = true → ∀ p g' o', β l' = some p → p.a = some (g', o') → g' ≠ g := fun l' b'' hne hl'' hlive'' p g' o' hp' ha' => by
    rw [List.getElem?_set_ne (fun e => hne e.symm)] at hl''
    exact huniq l' b'' hne hl'' hlive'' p g' o' hp' ha'
  refine ⟨⟨fun l2 hl2 => h.far l2 (by simpa using hl2), fun l2 b2 hl2 hlive2 => ?_⟩, ⟨rfl, rfl, rfl, by simp, fun x hx hn => setRow_other w g x _ fun e => hn (e ▸ ⟨l, b, p, o, hb, hlive, hm, hp, ha⟩), fun x hx hw => wr_set (.inr ⟨b, hb, by rw [hlive, hl'], by rw [hm, hm']⟩) hw, fun _ h => h, fun _ _ h => .inl h⟩⟩
  by_cases hne : l2 = l
  · subst hne
    rw [List.getElem?_set_self hll] at hl2
    cases hl2
    exact hblk hII ⟨fun _ => ⟨rfl, hIg, huniq'⟩, fun hr => by rw [hm'] at hr; cases hr⟩
  · rw [List.getElem?_set_ne (fun e => hne e.symm)] at hl2
    have hb2 := h.blk l2 b2 hl2 hlive2
    refine hb2.mono (fun _ h => h) hII (fun _ _ h => h) fun q g2 o2 hq ha2 => ?_
    obtain ⟨arr2, ty2, fr2, hh2, ho2⟩ := hb2.place hq ha2
    refine ⟨setRow_other w g g2 _ (huniq l2 b2 hne hl2 hlive2 q g2 o2 hq ha2), fun hr => ⟨(ho2.1 hr).2.1, fun l3 b3 hne3 hl3 hlive3 p3 g3 o3 hp3 ha3 => ?_⟩⟩
    by_cases h3 : l3 = l
    · subst h3
      rw [hp] at hp3
      cases hp3
      rw [ha] at ha3
      cases ha3
      exact fun e => huniq l2 b2 hne hl2 hlive2 q g2 o2 hq ha2 e.symm
    · rw [List.getElem?_set_ne (fun e => h3 e.symm)] at hl3
      exact (ho2.1 hr).2.2 l3 b3 hne3 hl3 hlive3 p3 g3 o3 hp3 ha3

/-! ### loads -/
theorem loadCells_ok {g o n : Nat} {cs : List PV} (hl : cs.length = n) (hc : ∀ j c, cs[j]? = some c → ∃ v, w.cell? ⟨g, o + j, none⟩ = some v ∧ c.Is w I β v) :
    ∃ vs : Array Value, IsL w I cs β vs.toList ∧ ∀ w2 : World, w2.heap[g]? = w.heap[g]? → (loadCells ⟨g, o, none⟩ n).run P w2 = .ok vs w2 := by
  have key : ∀ (cs : List PV) (o : Nat), (∀ j c, cs[j]? = some c → ∃ v, w.cell? ⟨g, o + j, none⟩ = some v ∧ c.Is w I β v) → ∃ l : List Value, IsL w I cs β l ∧ ∀ j v, l[j]? = some v → w.cell? ⟨g, o + j, none⟩ = some v := by
    intro cs
    induction cs with
    | nil => intro o _; exact ⟨[], by simp only [IsL], fun j v h => by simp at h⟩
    | cons a cs ih =>
      intro o hc
      obtain ⟨v, hv, hi⟩ := hc 0 a rfl
      obtain ⟨l, h1, h2⟩ := ih (o + 1) fun j x hx => by
        obtain ⟨u, hu, hui⟩ := hc (j + 1) x (by simpa using hx)
        exact ⟨u, by rw [show o + 1 + j = o + (j + 1) by omega]; exact hu, hui⟩
      refine ⟨v :: l, by simp only [IsL]; exact ⟨hi, h1⟩, fun j u hu => ?_⟩
      cases j with
      | zero => simp at hu; subst hu; exact hv
      | succ j => rw [show o + (j + 1) = o + 1 + j by omega]; exact h2 j u (by simpa using hu)
  obtain ⟨l, h1, h2⟩ := key cs o hc
  refine ⟨l.toArray, by simpa using h1, fun w2 hw2 => ?_⟩
  have hll := h1.length
  rw [show n = l.length by omega]
  exact run_loadCells_list w2 _ l fun j v hv => by rw [Ev.addr_add]; exact (World.cell?_of_block (a := ⟨g, o + j, none⟩) hw2).trans (h2 j v hv)
/-- a part of cells that lie at a place is loaded -/
theorem part_load (hO : Ev.CxOk cx) {t : TypeId} {cs : List PV} {off g o : Nat} {q : PV → Prop} (h : part cx t cs off q) (hc : ∀ j c, cs[j]? = some c → ∃ v, w.cell? ⟨g, o + j, none⟩ = some v ∧ c.Is w I β v) :
    ∃ x v, q x ∧ x.Is w I β v ∧ ∀ w2 : World, w2.heap[g]? = w.heap[g]? → (Instr.loadAt t (.pointer (some ⟨g, o + off, none⟩))).run cx.P w2 = .ok v w2 := by
  replace h := need_ok h
  obtain ⟨x, hx, h⟩ := h
  replace h := fcA_ok h
  unfold partO at hx
  split at hx
  · rename_i n ha hn
    split at hx
    · rename_i hle
      have hle' : off + n ≤ cs.length := Nat.le_of_ble_eq_true hle
      cases hx
      obtain ⟨vs, g1, g2⟩ := loadCells_ok (P := cx.P) (w := w) (I := I) (β := β) (g := g) (o := o + off) (cs := (cs.drop off).take n) (n := n) (by simp; omega) (fun j x hx => by
        rw [List.getElem?_take] at hx
        split at hx
        · rw [List.getElem?_drop] at hx
          obtain ⟨v, hv, hi⟩ := hc _ _ hx
          exact ⟨v, by rw [Nat.add_assoc]; exact hv, hi⟩
        · cases hx)
      exact ⟨_, .agg vs, h, by simp only [PV.Is]; exact ⟨vs, rfl, g1⟩, fun w2 hw2 => by simp [Instr.loadAt, Instr.sureAddr, loadVar, Ev.isAgg_run hO ha, Ev.size_run hO hn, g2 w2 hw2]⟩
    · cases hx
  · rename_i ha
    obtain ⟨v, hv, hi⟩ := hc _ _ hx
    refine ⟨x, v, h, hi, fun w2 hw2 => ?_⟩
    have hv2 := (World.cell?_of_block (a := ⟨g, o + off, none⟩) hw2).trans hv
    simp [Instr.loadAt, Instr.sureAddr, loadVar, Ev.isAgg_run hO ha, hv2]
  · cases hx
end

end Go.Proofs.YtjcacjeoddnmhaaDoor.Pw

/- Loads, stores, new blocks, as the evaluator says. -/
namespace Go.Proofs.YtjcacjeoddnmhaaDoor.Pw
open Go Go.RowKit

section
variable {w w' : World} {I I' : Nat → Prop} {β β' : Places} {cx : Ev.Cx} {G : Gx} {P : Program} {s : PSt} {a : Act} {st st' : List PBlk}

theorem Is.anywhere {x : PV} {v : Value} (h : x.Is w I (fun _ => none) v) : x.Is w I β v := PV.Is.mono (fun _ h => h) (fun _ _ => rfl) x _ β v (fun _ _ _ h => by cases h) h
/-- the cells of a block that is known cell by cell -/
theorem mem_cells (h : HeapOk I β st w) {l : Nat} {b : PBlk} {p : Plc} {g o : Nat} (hb : st[l]? = some b) (hm : b.mem = true) (hp : β l = some p) (ha : p.a = some (g, o)) :
    ∃ arr ty fr, w.heap[g]? = some (.cells arr ty fr) ∧ CellsAt w I β b.cs arr o ∧ Own I β st l g fr b := by
  unfold PBlk.mem at hm
  simp only [Bool.and_eq_true] at hm
  obtain ⟨q, hq, hk⟩ := h.blk l b hb hm.1
  rw [hp] at hq
  cases hq
  have hm2 := hm.2
  split at hk
  · obtain ⟨g', o', arr, ty, fr, ha', hh, hc, ho⟩ := hk
    rw [ha] at ha'; cases ha'; exact ⟨arr, ty, fr, hh, hc, ho⟩
  · obtain ⟨g', arr, fr, ha', hh, hc, ho, _⟩ := hk
    rw [ha] at ha'; cases ha'; exact ⟨arr, _, fr, hh, hc, ho⟩
  · rename_i hk'; rw [hk'] at hm2; cases hm2
  · rename_i hk'; rw [hk'] at hm2; cases hm2
theorem CellsAt.load {cs : List PV} {arr : Array Value} {g o : Nat} {ty : TypeId} {fr : Nat × Nat} (h : CellsAt w I β cs arr o) (hh : w.heap[g]? = some (.cells arr ty fr)) : ∀ j c, cs[j]? = some c → ∃ v, w.cell? ⟨g, o + j, none⟩ = some v ∧ c.Is w I β v := fun j c hc => by
  obtain ⟨v, hv, hi, _⟩ := h j c hc
  exact ⟨v, by rw [Ev.cells_of hh]; exact hv, hi⟩
theorem IsAt.load {cs : List PV} {g o : Nat} (h : IsAt w I cs g o) : ∀ j c, cs[j]? = some c → ∃ v, w.cell? ⟨g, o + j, none⟩ = some v ∧ c.Is w I β v := fun j c hc => by
  obtain ⟨v, hv, hi, _⟩ := h.get hc
  exact ⟨v, hv, Is.anywhere hi⟩
theorem load_one (hO : Ev.CxOk cx) {t : TypeId} {g o : Nat} {v : Value} (ha : Ev.isAggT cx t = some false) (hc : w.cell? ⟨g, o, none⟩ = some v) : (Instr.loadAt t (.pointer (some ⟨g, o, none⟩))).run cx.P w = .ok v w := by
  simp [Instr.loadAt, Instr.sureAddr, loadVar, Ev.isAgg_run hO ha, hc]
theorem pload_ok (hO : Ev.CxOk G.cx) (hh : HeapOk I β st w) (hM : ImmOk G I w) {t : TypeId} {x : PV} {u : Value} {q : PV → Prop} (h : pload G st t x q) (hx : x.Is w I β u) :
    ∃ z v g, q z ∧ z.Is w I β v ∧ (I g ∨ ∃ l b p o, x.blk = some l ∧ st[l]? = some b ∧ b.live = true ∧ β l = some p ∧ p.a = some (g, o)) ∧ ∀ w2 : World, w2.heap[g]? = w.heap[g]? → (Instr.loadAt t u).run G.cx.P w2 = .ok v w2 := by
  have idx : ∀ {cs : List PV} {g o off n : Nat} {i : Int}, (∀ j c, cs[j]? = some c → ∃ v, w.cell? ⟨g, o + j, none⟩ = some v ∧ c.Is w I β v) →
      ((∃ m : Nat, i = m ∧ part G.cx t cs (off + m * n) q) ∨ (Ev.isAggT G.cx t = some false ∧ 0 ≤ i ∧ off + i.toNat * n < cs.length ∧ ∀ c, cs[off + i.toNat * n]? = some c → q c)) → ∃ z v, q z ∧ z.Is w I β v ∧ ∀ w2 : World, w2.heap[g]? = w.heap[g]? → (Instr.loadAt t (.pointer (some ⟨g, o + (off + i.toNat * n), none⟩))).run G.cx.P w2 = .ok v w2 := by
    intro cs g o off n i hc h
    rcases h with ⟨m, rfl, h⟩ | ⟨ha, h0, hlt, h⟩
    · exact part_load hO h hc
    · obtain ⟨v, hv, hi⟩ := hc _ _ (List.getElem?_eq_getElem hlt)
      exact ⟨_, v, h _ (List.getElem?_eq_getElem hlt), hi, fun w2 hw2 => load_one hO ha ((World.cell?_of_block (a := ⟨g, o + (off + i.toNat * n), none⟩) hw2).trans hv)⟩
  unfold pload at h
  split at h <;> try simp only [PV.Is] at hx
  · replace h := need_ok h
    obtain ⟨b, hb, h⟩ := h
    replace h := bif_ok h
    obtain ⟨hm, h⟩ := h
    obtain ⟨p, g, o, hp, ha, rfl⟩ := hx
    obtain ⟨arr, ty, fr, hhg, hc, _⟩ := mem_cells hh hb hm hp ha
    obtain ⟨z, v, h1, h2, h3⟩ := part_load hO h (hc.load hhg)
    exact ⟨z, v, g, h1, h2, .inr ⟨_, b, p, o, rfl, hb, by unfold PBlk.mem at hm; simp only [Bool.and_eq_true] at hm; exact hm.1, hp, ha⟩, h3⟩
  · replace h := need_ok h
    obtain ⟨b, hb, h⟩ := h
    replace h := bif_ok h
    obtain ⟨hm, h⟩ := h
    obtain ⟨p, g, o, hp, ha, rfl⟩ := hx
    obtain ⟨arr, ty, fr, hhg, hc, _⟩ := mem_cells hh hb hm hp ha
    obtain ⟨z, v, h1, h2, h3⟩ := idx (hc.load hhg) h
    exact ⟨z, v, g, h1, h2, .inr ⟨_, b, p, o, rfl, hb, by unfold PBlk.mem at hm; simp only [Bool.and_eq_true] at hm; exact hm.1, hp, ha⟩, h3⟩
  · rename_i l i n off
    replace h := need_ok h
    obtain ⟨b, hb, h⟩ := h
    split at h
    · rename_i hk
      replace h := bif_ok h
      obtain ⟨hc, α, l', enc, hcs, hi, h⟩ := h
      simp only [Bool.and_eq_true] at hc
      have hn : b.size = n := Nat.eq_of_beq_eq_true hc.2
      obtain ⟨p, g, o, hp, ha, rfl⟩ := hx
      obtain ⟨_, hlen, hle, _, hor⟩ := whole_dyn hh hb hc.1 hk hp
      rcases hor with ⟨ha', _⟩ | ⟨g', arr, fr, ha', _, hhg, hes, _⟩
      · rw [ha] at ha'; cases ha'
      · rw [ha] at ha'
        cases ha'
        have he : b.cs[i]? = some (enc l'[i]) := by rw [hcs, List.getElem?_map, List.getElem?_eq_getElem hi]; rfl
        have hel := hes.get he
        obtain ⟨z, v, h1, h2, h3⟩ := part_load (β := β) hO (h _ (List.getElem?_eq_getElem hi)) (IsAt.load hel.2)
        rw [hn, Nat.add_assoc] at h3
        exact ⟨z, v, g, h1, h2, .inr ⟨_, b, p, 0, rfl, hb, hc.1, hp, ha⟩, h3⟩
    · exact h.elim
  · obtain ⟨g, o, rfl, hg, hc⟩ := hx
    obtain ⟨z, v, h1, h2, h3⟩ := part_load (β := β) hO h hc.load
    exact ⟨z, v, g, h1, h2, .inl hg, h3⟩
  · subst hx
    replace h := need_ok h
    obtain ⟨cs, hcs, h⟩ := h
    obtain ⟨hg, hc⟩ := hM.tab _ _ (Ev.lkT_mem hcs)
    obtain ⟨z, v, h1, h2, h3⟩ := part_load (β := β) hO h (IsAt.load hc)
    rw [Nat.zero_add] at h3
    exact ⟨z, v, _, h1, h2, .inl hg, h3⟩
  · subst hx
    replace h := need_ok h
    obtain ⟨cs, hcs, h⟩ := h
    obtain ⟨hg, hc⟩ := hM.tab _ _ (Ev.lkT_mem hcs)
    obtain ⟨z, v, h1, h2, h3⟩ := idx (IsAt.load hc) h
    rw [Nat.zero_add] at h3
    exact ⟨z, v, _, h1, h2, .inl hg, h3⟩
  · exact h.elim

/-! ### stores -/
theorem putC_ok {cs new r : List PV} {arr : Array Value} {o off : Nat} {vs : List Value} (h : putC cs new off = some r) (hc : CellsAt w I β cs arr o) (hn : IsL w I new β vs) (h1 : ∀ v ∈ vs, v.oneCell' = true) (hsz : o + off + vs.length ≤ arr.size) :
    CellsAt w I β r (arr.toList.take (o + off) ++ vs ++ arr.toList.drop (o + off + vs.length)).toArray o := by
  unfold putC at h
  split at h
  · rename_i hle
    have hle := Nat.le_of_ble_eq_true hle
    cases h
    intro j x hx
    have hl := hn.length
    simp only [List.getElem?_toArray]
    have h1' : (arr.toList.take (o + off)).length = o + off := by simp; omega
    by_cases hj : j < off
    · rw [List.append_assoc, List.getElem?_append_left (by simp; omega), List.getElem?_take, if_pos hj] at hx
      obtain ⟨v, hv, hi, ho⟩ := hc j x hx
      refine ⟨v, ?_, hi, ho⟩
      rw [List.append_assoc, List.getElem?_append_left (by rw [h1']; omega), List.getElem?_take, if_pos (by omega)]
      simpa using hv
    · by_cases hj2 : j < off + new.length
      · rw [List.getElem?_append_left (by simp; omega), List.getElem?_append_right (by simp; omega)] at hx
        have ht : (cs.take off).length = off := by simp; omega
        rw [ht] at hx
        obtain ⟨v, hv, hi⟩ := hn.get hx
        refine ⟨v, ?_, hi, h1 v (List.mem_of_getElem? hv)⟩
        rw [List.getElem?_append_left (by simp; omega), List.getElem?_append_right (by rw [h1']; omega), h1', show o + j - (o + off) = j - off by omega]
        exact hv
      · rw [List.getElem?_append_right (by simp; omega), List.getElem?_drop] at hx
        have ht : (cs.take off ++ new).length = off + new.length := by simp; omega
        rw [ht, show off + new.length + (j - (off + new.length)) = j by omega] at hx
        obtain ⟨v, hv, hi, ho⟩ := hc j x hx
        refine ⟨v, ?_, hi, ho⟩
        have h2 : (arr.toList.take (o + off) ++ vs).length = o + off + vs.length := by simp; omega
        rw [List.getElem?_append_right (by rw [h2]; omega), h2, List.getElem?_drop, show o + off + vs.length + (o + j - (o + off + vs.length)) = o + j by omega]
        simpa using hv
  · cases h
theorem withCs_k (b : PBlk) (cs : List PV) : (b.withCs cs).k = b.k ∧ (b.withCs cs).ty = b.ty ∧ (b.withCs cs).size = b.size ∧ (b.withCs cs).m = b.m ∧ (b.withCs cs).live = b.live ∧ (b.withCs cs).cs = cs := by
  cases b; exact ⟨rfl, rfl, rfl, rfl, rfl, rfl⟩
theorem can_ok {b : PBlk} (h : b.can = true) : b.live = true ∧ b.m = .w := by
  unfold PBlk.can at h
  simp only [Bool.and_eq_true] at h
  refine ⟨h.1, ?_⟩
  have := h.2
  cases hm : b.m <;> rw [hm] at this <;> first | rfl | cases this
theorem elem_ok {v : PV} {u : Value} (he : v.elem = true) (h : v.Is w I β u) : (∀ ts, v ≠ .tup ts) ∧ ∀ (j : Nat) (c : PV), v.cells[j]? = some c → ∃ y, u.cells.toList[j]? = some y ∧ c.Is w I (fun _ => none) y ∧ y.oneCell' = true := by
  have nr : ∀ {c : PV} {y : Value}, c.noRef = true → c.Is w I β y → c.Is w I (fun _ => none) y ∧ y.oneCell' = true := fun hc hi => by
    refine ⟨?_, flat_one (hi.flat (by rename_i c _; cases c <;> first | rfl | cases hc))⟩
    refine PV.Is.mono (fun _ h => h) (fun _ _ => rfl) _ β _ _ (fun l p hl => ?_) hi
    rename_i c _
    cases c <;> simp_all [PV.uses, PV.noRef]
  have hnt : ∀ ts, v ≠ .tup ts := fun ts e => by subst e; cases he
  refine ⟨hnt, fun j c hc => ?_⟩
  obtain ⟨y, hy, hi⟩ := (h.cellsL hnt).get hc
  refine ⟨y, hy, nr ?_ hi⟩
  cases v with
  | agg cs =>
    simp only [PV.elem, List.all_eq_true] at he
    exact he c (List.mem_of_getElem? hc)
  | _ =>
    simp only [PV.cells] at hc
    cases j with
    | zero => simp at hc; subst hc; exact he
    | succ j => simp at hc

theorem ones_of {x : PV} {y : Value} (hnt : ∀ ts, x ≠ .tup ts) (h : x.Is w I β y) (h1 : ∀ c ∈ x.cells, c.cell1 = true) : ∀ z ∈ y.cells.toList, z.oneCell' = true := by
  intro z hz
  obtain ⟨k, hk, hkz⟩ := List.getElem_of_mem hz
  have hl := (h.cellsL hnt).length
  have hk' : k < x.cells.length := by omega
  obtain ⟨z', hz', hzi⟩ := (h.cellsL hnt).get (List.getElem?_eq_getElem hk')
  rw [List.getElem?_eq_getElem hk, hkz] at hz'
  cases hz'
  exact flat_one (hzi.flat (h1 _ (List.getElem_mem hk')))
end

end Go.Proofs.YtjcacjeoddnmhaaDoor.Pw

/- Stores, new blocks, append, as the evaluator says. -/
namespace Go.Proofs.YtjcacjeoddnmhaaDoor.Pw
open Go Go.RowKit

structure GOk (G : Gx) : Prop where
  ok : Ev.CxOk G.cx
  by_ : ∀ p ∈ G.bt, ∃ i, G.cx.P.info? p.1 = some i ∧ i.bytes = p.2
section
variable {w w' : World} {I I' : Nat → Prop} {β β' : Places} {cx : Ev.Cx} {G : Gx} {P : Program} {s : PSt} {a : Act} {st st' : List PBlk}

theorem PSt.store_eq (s : PSt) (st : List PBlk) : (s.store st).n = s.n ∧ (s.store st).t = s.t ∧ (s.store st).st = st ∧ (s.store st).base = s.base ∧ (s.store st).rl = s.rl := by
  cases s; exact ⟨rfl, rfl, rfl, rfl, rfl⟩
theorem Rel.grow (hR : Rel G I β s a w) (hh : HeapOk I' β' st' w') (he : Ext I β s.st w I' β' st' w') (hβ : ∀ l p, β l = some p → β' l = some p) (hl : s.st.length ≤ st'.length) (hI : ∀ g, I' g → g < w'.heap.size) : Rel G I' β' (s.store st') a w' := by
  obtain ⟨e1, e2, e3, e4, e5⟩ := PSt.store_eq s st'
  exact ⟨by rw [e1]; exact hR.small, hR.defers, by rw [e1]; exact hR.size, by rw [e4, e3]; exact Nat.le_trans hR.base hl, fun t x ht => by
    rw [e2] at ht
    obtain ⟨v, hv, hi⟩ := hR.get t x ht
    exact ⟨v, hv, PV.Is.mono he.imm (he.keeps hR.heap hR.imm.imm) x β β' v (fun l p _ => hβ l p) hi⟩, by rw [e3]; exact hh, hR.imm.ext hR.heap he hI⟩
theorem OpPost.mk' (hR : Rel G I β s a w) {q : PV → PSt → Prop} {x : PV} {v : Value} (h : q x (s.store st')) (hh : HeapOk I β' st' w') (he : Ext I β s.st w I β' st' w') (hβ : ∀ l p, β l = some p → β' l = some p) (hl : s.st.length ≤ st'.length) (hlow : ∀ l, l < s.st.length → β' l = β l)
    (hx : x.Is w' I β' v) : OpPost G s I β w a q v w' := by
  obtain ⟨e1, e2, e3, e4, e5⟩ := PSt.store_eq s st'
  exact ⟨x, _, I, β', h, hR.grow hh he hβ hl (fun g hg => Nat.lt_of_lt_of_le (hR.imm.imm g hg) he.size), hx, by rw [e3]; exact he, e4, e5, e1, fun l hl' _ => hlow l (Nat.lt_of_lt_of_le hl' hR.base), fun l b hb _ => hlow l (List.getElem?_eq_some_iff.1 hb).1⟩
theorem OpPost.same (hR : Rel G I β s a w) {q : PV → PSt → Prop} {x : PV} {v : Value} (h : q x s) (hx : x.Is w I β v) : OpPost G s I β w a q v w :=
  ⟨x, s, I, β, h, hR, hx, Ext.refl, rfl, rfl, rfl, fun _ _ _ => rfl, fun _ _ _ _ => rfl⟩

/-! ### stores -/
theorem pstore_ok (hG : GOk G) (hR : Rel G I β s a w) {t : TypeId} {x v : PV} {u y : Value} {q : PV → PSt → Prop} (h : pstore G s.st t x v fun st => q (.tup []) (s.store st)) (hx : x.Is w I β u) (hv : v.Is w I β y) :
    ∃ w', (Instr.storeAt t u y).run G.cx.P w = .ok () w' ∧ OpPost G s I β w a q undef w' := by
  have hh := hR.heap
  replace h := need_ok h
  obtain ⟨n, hn, h⟩ := h
  replace h := bif_ok h
  obtain ⟨hc, h⟩ := h
  simp only [Bool.and_eq_true, List.all_eq_true] at hc
  obtain ⟨⟨hc1, hc2⟩, hc3⟩ := hc
  have hvn : v.cells.length = n := Nat.eq_of_beq_eq_true hc1
  have hn0 : 0 < n := Nat.le_of_ble_eq_true hc2
  have hnt : ∀ ts, v ≠ .tup ts := fun ts e => by subst e; exact h.elim
  have hyc := hv.cellsL hnt
  have hyl := hyc.length
  simp only [Array.length_toList] at hyl
  have hone := ones_of hnt hv hc3
  have hrun : ∀ {g o : Nat} {arr : Array Value} {ty : TypeId}, w.heap[g]? = some (.cells arr ty (0, 0)) → o + y.cells.toList.length ≤ arr.size →
      (Instr.storeAt t (.pointer (some ⟨g, o, none⟩)) y).run G.cx.P w = .ok () (w.setRow g (arr.toList.take o ++ y.cells.toList ++ arr.toList.drop (o + y.cells.toList.length)).toArray) := fun {g o arr ty} hhg hsz => by
    have := run_storeCells_at (P := G.cx.P) g o ty y.cells.toList 0 arr w hhg (by simpa using hsz) hone
    simp only [Instr.storeAt, Instr.sureAddr, storeVar, Sem.run_bind, Sem.run_pure, Result.andThen_ok, Ev.size_run hG.ok hn]
    rw [if_neg (by omega)]
    simpa using this
  split at h
  · exact h.elim
  · split at h <;> try simp only [PV.Is] at hx
    · rename_i l off
      replace h := need_ok h
      obtain ⟨b, hb, h⟩ := h
      replace h := bif_ok h
      obtain ⟨hbc, h⟩ := h
      simp only [Bool.and_eq_true] at hbc
      obtain ⟨hmem, hcan⟩ := hbc
      obtain ⟨hlive, hm⟩ := can_ok hcan
      replace h := need_ok h
      obtain ⟨cs, hcs, h⟩ := h
      replace h := setB_ok (forceL_ok h)
      obtain ⟨hlt, h⟩ := h
      obtain ⟨p, g, o, hp, ha, rfl⟩ := hx
      obtain ⟨arr, ty, fr, hhg, hca, hown⟩ := mem_cells hh hb hmem hp ha
      have hfr : fr = (0, 0) := (hown.1 (by rw [hm]; decide)).1
      subst hfr
      have hle : off + v.cells.length ≤ b.cs.length := by
        unfold putC at hcs
        split at hcs
        · rename_i hle; exact Nat.le_of_ble_eq_true hle
        · cases hcs
      have hsz : o + off + y.cells.toList.length ≤ arr.size := by
        obtain ⟨z, hz, _⟩ := hca _ _ (List.getElem?_eq_getElem (show off + n - 1 < b.cs.length by omega))
        have := (Array.getElem?_eq_some_iff.1 hz).1
        simp only [Array.length_toList]
        omega
      obtain ⟨k1, k2, k3, k4, k5, k6⟩ := withCs_k b cs
      have hlc : cs.length = b.cs.length := by
        unfold putC at hcs
        split at hcs
        · cases hcs; simp only [List.length_append, List.length_take, List.length_drop]; omega
        · cases hcs
      have hsa : ((arr.toList.take (o + off) ++ y.cells.toList ++ arr.toList.drop (o + off + y.cells.toList.length)).toArray).size = arr.size := by
        simp only [List.size_toArray, List.length_append, List.length_take, List.length_drop, Array.length_toList]
        simp only [Array.length_toList] at hsz
        omega
      have hput := putC_ok hcs hca hyc hone hsz
      obtain ⟨hH, hE⟩ := hh.write (b' := b.withCs cs) hb hlive hm hp ha hhg (by rw [k5]; exact hlive) (by rw [k4]; exact hm) (arr' := (arr.toList.take (o + off) ++ y.cells.toList ++ arr.toList.drop (o + off + y.cells.toList.length)).toArray) (fun hI hO => by
        have hrow := setRow_heap w g arr (arr.toList.take (o + off) ++ y.cells.toList ++ arr.toList.drop (o + off + y.cells.toList.length)).toArray ty (0, 0) hhg
        obtain ⟨q', hq', hk⟩ := hh.blk l b hb hlive
        rw [hp] at hq'
        cases hq'
        refine ⟨p, hp, ?_⟩
        rw [k1]
        unfold PBlk.mem at hmem
        split at hk
        · rename_i hkk
          refine ⟨g, o, _, ty, (0, 0), ha, hrow, ?_, hO⟩
          rw [k6]; exact hput.mono (fun _ h => h) hI (fun _ _ h => h)
        · rename_i hkk
          obtain ⟨g', arr', fr', ha', hh', _, _, h1, h2, h3, h4, h5⟩ := hk
          rw [ha] at ha'; cases ha'
          rw [hhg] at hh'; cases hh'
          refine ⟨g, _, (0, 0), ha, by rw [k2]; exact hrow, ?_, hO, by rw [k6, k3, hlc]; exact h1, h2, h3, by rw [k3, hsa]; exact h4, by rw [k3]; exact h5⟩
          rw [k6]; exact hput.mono (fun _ h => h) hI (fun _ _ h => h)
        · rename_i hkk
          rw [hkk] at hmem; simp at hmem
        · rename_i hkk
          rw [hkk] at hmem; simp at hmem)
      refine ⟨_, hrun hhg hsz, OpPost.mk' hR h hH hE (fun _ _ h => h) (by simp) (fun _ _ => rfl) ?_⟩
      simp only [PV.Is]; exact ⟨#[], rfl, by simp only [IsL]⟩
    · rename_i l i m off
      replace h := need_ok h
      obtain ⟨b, hb, h⟩ := h
      split at h
      · rename_i hk
        replace h := bif_ok h
        obtain ⟨hbc, hi, h⟩ := h
        simp only [Bool.and_eq_true] at hbc
        obtain ⟨⟨⟨⟨hcan, hbn⟩, hmn⟩, hoff⟩, hel⟩ := hbc
        obtain ⟨hlive, hm⟩ := can_ok hcan
        obtain ⟨u, hu⟩ : ∃ u, v.norm = u := ⟨_, rfl⟩
        rw [hu] at h
        have hv2 : u.Is w I β y := by rw [← hu]; cases v <;> first | exact hv | (simp only [PV.norm, PV.Is] at hv ⊢; exact hv)
        have hel2 : u.elem = true := by rw [← hu]; cases v <;> first | exact hel | rfl
        have hvn2 : u.cells.length = n := by rw [← hu, ← hvn]; cases v <;> rfl
        have hbn := Nat.eq_of_beq_eq_true hbn
        have hmn := Nat.eq_of_beq_eq_true hmn
        have hoff := Nat.eq_of_beq_eq_true hoff
        replace h := setB_ok h
        obtain ⟨hlt, h⟩ := h
        obtain ⟨p, g, o, hp, ha, rfl⟩ := hx
        obtain ⟨hsp, hlen, hle, hmx, hor⟩ := whole_dyn hh hb hlive hk hp
        rcases hor with ⟨ha', _⟩ | ⟨g', arr, fr, ha', _, hhg, hes, hown, has⟩
        · rw [ha] at ha'; cases ha'
        · rw [ha] at ha'
          cases ha'
          have hfr : fr = (0, 0) := (hown.1 (by rw [hm]; decide)).1
          subst hfr
          have hin : i * n + n ≤ p.cap * n := by rw [← Nat.succ_mul]; exact Nat.mul_le_mul_right _ (by omega)
          have hsz : 0 + (i * m + off) + y.cells.toList.length ≤ arr.size := by simp only [Array.length_toList]; rw [has, hbn, hmn, hoff]; omega
          obtain ⟨k1, k2, k3, k4, k5, k6⟩ := withCs_k b (b.cs.set i u)
          obtain ⟨_, hcells⟩ := elem_ok hel2 hv2
          have hsa : ((arr.toList.take (0 + (i * m + off)) ++ y.cells.toList ++ arr.toList.drop (0 + (i * m + off) + y.cells.toList.length)).toArray).size = arr.size := by
            simp only [List.size_toArray, List.length_append, List.length_take, List.length_drop, Array.length_toList]
            simp only [Array.length_toList] at hsz
            omega
          obtain ⟨hH, hE⟩ := hh.write (b' := b.withCs (b.cs.set i u)) hb hlive hm hp ha hhg (by rw [k5]; exact hlive) (by rw [k4]; exact hm) (arr' := (arr.toList.take (0 + (i * m + off)) ++ y.cells.toList ++ arr.toList.drop (0 + (i * m + off) + y.cells.toList.length)).toArray) (fun hI hO => by
            have hrow := setRow_heap w g arr (arr.toList.take (0 + (i * m + off)) ++ y.cells.toList ++ arr.toList.drop (0 + (i * m + off) + y.cells.toList.length)).toArray b.ty (0, 0) hhg
            refine ⟨p, hp, ?_⟩
            rw [k1, hk]
            refine ⟨⟨by rw [k3]; exact hsp, by rw [k6, List.length_set]; exact hlen, hle, hmx⟩, .inr ⟨g, _, (0, 0), ha, by rw [k2]; exact hrow, ?_, hO, by rw [hsa, k3]; exact has⟩⟩
            rw [k6, k3]
            have h1' : (arr.toList.take (0 + (i * m + off))).length = 0 + (i * m + off) := by rw [List.length_take]; simp only [Array.length_toList] at hsz ⊢; omega
            refine IsEs.of fun j e he => ?_
            by_cases hj : j = i
            · subst hj
              rw [List.getElem?_set_self hi] at he
              cases he
              refine ⟨by rw [hvn2, hbn], IsAt.of fun j2 c hc2 => ?_⟩
              obtain ⟨z, hz, hzi, hz1⟩ := hcells j2 c hc2
              have hlt2 := (List.getElem?_eq_some_iff.1 hz).1
              refine ⟨z, ?_, PV.Is.mono (fun _ h => h) hI c _ _ z (fun _ _ _ h => h) hzi, hz1⟩
              rw [Ev.cells_of hrow]
              simp only [List.getElem?_toArray]
              rw [List.getElem?_append_left (by rw [List.length_append, h1']; rw [hbn, hmn, hoff]; omega), List.getElem?_append_right (by rw [h1', hbn, hmn, hoff]; omega), h1', show 0 + j * b.size + j2 - (0 + (j * m + off)) = j2 by rw [hbn, hmn, hoff]; omega]
              exact hz
            · rw [List.getElem?_set_ne (fun e => hj e.symm)] at he
              obtain ⟨hel1, hel2⟩ := hes.get he
              refine ⟨hel1, IsAt.of fun j2 c hc2 => ?_⟩
              obtain ⟨z, hz, hzi, hz1⟩ := hel2.get hc2
              refine ⟨z, ?_, PV.Is.mono (fun _ h => h) hI c _ _ z (fun _ _ _ h => h) hzi, hz1⟩
              rw [Ev.cells_of hrow]
              rw [Ev.cells_of hhg] at hz
              simp only [List.getElem?_toArray]
              have hj2 : j2 < n := by have := (List.getElem?_eq_some_iff.1 hc2).1; omega
              rcases Nat.lt_or_ge j i with hji | hji
              · have : j * n + n ≤ i * n := by rw [← Nat.succ_mul]; exact Nat.mul_le_mul_right _ (by omega)
                rw [List.append_assoc, List.getElem?_append_left (by rw [h1', hbn, hmn, hoff]; omega), List.getElem?_take, if_pos (by rw [hbn, hmn, hoff]; omega)]
                simpa using hz
              · have : i * n + n ≤ j * n := by rw [← Nat.succ_mul]; exact Nat.mul_le_mul_right _ (by omega)
                have h2 : (arr.toList.take (0 + (i * m + off)) ++ y.cells.toList).length = 0 + (i * m + off) + y.cells.toList.length := by rw [List.length_append, h1']
                have hyl' : y.cells.toList.length = n := by simp only [Array.length_toList]; omega
                rw [List.getElem?_append_right (by rw [h2, hyl', hbn, hmn, hoff]; omega), h2, List.getElem?_drop, show 0 + (i * m + off) + y.cells.toList.length + (0 + j * b.size + j2 - (0 + (i * m + off) + y.cells.toList.length)) = 0 + j * b.size + j2 by rw [hyl', hbn, hmn, hoff]; omega]
                simpa using hz)
          refine ⟨_, hrun hhg hsz, OpPost.mk' hR h hH hE (fun _ _ h => h) (by simp) (fun _ _ => rfl) ?_⟩
          simp only [PV.Is]; exact ⟨#[], rfl, by simp only [IsL]⟩
      · exact h.elim
    · exact h.elim

/-! ### new blocks -/
theorem CellsAt.new {cs : List PV} {vs : Array Value} (h : IsL w I cs β vs.toList) (h1 : ∀ c ∈ cs, c.cell1 = true) : CellsAt w I β cs vs 0 := fun i c hc => by
  obtain ⟨v, hv, hi⟩ := h.get hc
  exact ⟨v, by simpa using hv, hi, flat_one (hi.flat (h1 c (List.mem_of_getElem? hc)))⟩
theorem alloc_keeps (hh : HeapOk I β st w) (hI : ∀ g, I g → g < w.heap.size) (o : Obj) : ∀ g, Lives β st g ∨ I g → (w.alloc o).heap[g]? = w.heap[g]? := fun g hg => Ev.heap_old w o g (hg.elim hh.lives_lt (hI g))
theorem alloc_new (hh : HeapOk I β st w) (hI : ∀ g, I g → g < w.heap.size) {vs : Array Value} {t : TypeId} {b : PBlk} {p : Plc} (hp : p.a = some (w.heap.size, 0))
    (hb : Own I (β.set st.length p) (st ++ [b]) st.length w.heap.size (0, 0) b → BlkOk I (β.set st.length p) (st ++ [b]) (w.alloc (.cells vs t)) st.length b) (hm : b.m = .w) :
    HeapOk I (β.set st.length p) (st ++ [b]) (w.alloc (.cells vs t)) ∧ Ext I β st w I (β.set st.length p) (st ++ [b]) (w.alloc (.cells vs t)) := by
  have hfresh : ∀ g o, p.a = some (g, o) → ¬ I g ∧ ¬ Lives β st g := fun g o ha => by
    rw [hp] at ha; cases ha
    exact ⟨fun h => by have := hI _ h; omega, fun h => by have := hh.lives_lt h; omega⟩
  refine ⟨hh.add (alloc_keeps hh hI _) hfresh (hb ⟨fun _ => ⟨rfl, (hfresh _ _ hp).1, fun l' b' hne hl' hlive' p' g' o' hp' ha' e => ?_⟩, fun hr => by rw [hm] at hr; cases hr⟩), Ext.add (w' := w.alloc (.cells vs t)) hh rfl rfl rfl (by simp) (fun g hg _ => Ev.heap_old w _ g hg) fun g o ha hlt => by rw [hp] at ha; cases ha; omega⟩
  subst e
  unfold Places.set at hp'
  rw [if_neg hne] at hp'
  have := hh.lt hp'
  rw [List.getElem?_append_left this] at hl'
  exact (hfresh _ _ hp).2 ⟨l', b', p', o', hl', hlive', hp', ha'⟩
theorem pnew_ok (hR : Rel G I β s a w) {t t' : TypeId} {cs : List PV} {vs : Array Value} {q : PV → PSt → Prop} (h : pnew s ⟨.loc, t, 1, .w, true, cs⟩ q) (hc : IsL w I cs β vs.toList) (h1 : ∀ c ∈ cs, c.cell1 = true) : OpPost G s I β w a q (.pointer (some ⟨w.heap.size, 0, none⟩)) (w.alloc (.cells vs t')) := by
  replace h := addB_ok (lenK_ok h)
  rw [Nat.zero_add] at h
  have hset := Places.set_mono hR.heap ⟨some (w.heap.size, 0), 0, 0⟩
  obtain ⟨hH, hE⟩ := alloc_new (vs := vs) (t := t') hR.heap hR.imm.imm (b := ⟨.loc, t, 1, .w, true, cs⟩) (p := ⟨some (w.heap.size, 0), 0, 0⟩) rfl (fun ho =>
    ⟨_, Places.set_self .., w.heap.size, 0, vs, t', (0, 0), rfl, Ev.heap_new w _, (CellsAt.new hc h1).mono (fun _ h => h) (fun g hg => alloc_keeps hR.heap hR.imm.imm _ g (.inr hg)) hset, ho⟩) rfl
  refine OpPost.mk' hR h hH hE hset (by simp) (fun l hl => if_neg (by omega)) ?_
  simp only [PV.Is]; exact ⟨_, w.heap.size, 0, Places.set_self .., rfl, rfl⟩
theorem pnewS_ok (hR : Rel G I β s a w) {t : TypeId} {len n : Nat} {cs : List PV} {vs : Array Value} {q : PV → PSt → Prop} (h : pnewS s ⟨.arr, t, n, .w, true, cs⟩ q) (hc : IsL w I cs β vs.toList) (h1 : ∀ c ∈ cs, c.cell1 = true) (hl : cs.length = len * n) (hn : 0 < n) (hm : len ≤ maxLen) : OpPost G s I β w a q (.slice (some ⟨w.heap.size, 0, none⟩) len len) (w.alloc (.cells vs t)) := by
  replace h := addB_ok (lenK_ok h)
  rw [Nat.zero_add] at h
  have hset := Places.set_mono hR.heap ⟨some (w.heap.size, 0), len, len⟩
  have hvl := hc.length
  simp only [Array.length_toList] at hvl
  obtain ⟨hH, hE⟩ := alloc_new (vs := vs) (t := t) hR.heap hR.imm.imm (b := ⟨.arr, t, n, .w, true, cs⟩) (p := ⟨some (w.heap.size, 0), len, len⟩) rfl (fun ho =>
    ⟨_, Places.set_self .., w.heap.size, vs, (0, 0), rfl, Ev.heap_new w _, (CellsAt.new hc h1).mono (fun _ h => h) (fun g hg => alloc_keeps hR.heap hR.imm.imm _ g (.inr hg)) hset, ho, hl, Nat.le_refl _, hm, by rw [← hvl]; exact hl, hn⟩) rfl
  refine OpPost.mk' hR h hH hE hset (by simp) (fun l hl => if_neg (by omega)) ?_
  simp only [PV.Is]; exact ⟨_, Places.set_self .., rfl⟩
end

end Go.Proofs.YtjcacjeoddnmhaaDoor.Pw

/- Append, as the evaluator says. -/
namespace Go.Proofs.YtjcacjeoddnmhaaDoor.Pw
open Go Go.RowKit

section
variable {w w' : World} {I I' : Nat → Prop} {β β' : Places} {cx : Ev.Cx} {G : Gx} {P : Program} {s : PSt} {a : Act} {st st' : List PBlk}

/-- elements, one behind the other, as values -/
def RowIs (w : World) (I : Nat → Prop) (es : List PV) (n : Nat) (xs : List Value) : Prop :=
  xs.length = es.length * n ∧ ∀ i e, es[i]? = some e → e.cells.length = n ∧ ∀ j c, e.cells[j]? = some c → ∃ v, xs[i * n + j]? = some v ∧ c.Is w I (fun _ => none) v ∧ v.oneCell' = true
def CellsIs (w : World) (I : Nat → Prop) (β : Places) (cs : List PV) (xs : List Value) : Prop := xs.length = cs.length ∧ ∀ (j : Nat) (c : PV), cs[j]? = some c → ∃ v : Value, xs[j]? = some v ∧ c.Is w I β v ∧ v.oneCell' = true
def SrcIs (w : World) (I : Nat → Prop) (β : Places) (n : Nat) : Src → List Value → Prop
  | .stat cs, xs => CellsIs w I β cs xs
  | .told es, xs => RowIs w I es n xs
theorem RowIs.append {es fs : List PV} {n : Nat} {xs ys : List Value} (h : RowIs w I es n xs) (k : RowIs w I fs n ys) : RowIs w I (es ++ fs) n (xs ++ ys) := by
  refine ⟨by rw [List.length_append, List.length_append, h.1, k.1, Nat.add_mul], fun i e he => ?_⟩
  by_cases hi : i < es.length
  · rw [List.getElem?_append_left hi] at he
    obtain ⟨h1, h2⟩ := h.2 i e he
    refine ⟨h1, fun j c hc => ?_⟩
    obtain ⟨v, hv, h3⟩ := h2 j c hc
    have := (List.getElem?_eq_some_iff.1 hv).1
    exact ⟨v, by rw [List.getElem?_append_left this]; exact hv, h3⟩
  · rw [List.getElem?_append_right (by omega)] at he
    obtain ⟨h1, h2⟩ := k.2 _ e he
    refine ⟨h1, fun j c hc => ?_⟩
    obtain ⟨v, hv, h3⟩ := h2 j c hc
    have e1 : es.length * n ≤ i * n := Nat.mul_le_mul_right _ (by omega)
    refine ⟨v, ?_, h3⟩
    rw [List.getElem?_append_right (by rw [h.1]; omega), h.1, show i * n + j - es.length * n = (i - es.length) * n + j by rw [Nat.sub_mul]; omega]
    exact hv
theorem CellsIs.append {cs ds : List PV} {xs ys : List Value} (h : CellsIs w I β cs xs) (k : CellsIs w I β ds ys) : CellsIs w I β (cs ++ ds) (xs ++ ys) := by
  refine ⟨by rw [List.length_append, List.length_append, h.1, k.1], fun j c hc => ?_⟩
  by_cases hj : j < cs.length
  · rw [List.getElem?_append_left hj] at hc
    rw [List.getElem?_append_left (by rw [h.1]; exact hj)]
    exact h.2 j c hc
  · rw [List.getElem?_append_right (by omega)] at hc
    rw [List.getElem?_append_right (by rw [h.1]; omega), h.1]
    exact k.2 _ c hc
theorem RowIs.mono {es : List PV} {n : Nat} {xs : List Value} (hI : ∀ g, I g → I' g) (hw : ∀ g, I g → w'.heap[g]? = w.heap[g]?) (h : RowIs w I es n xs) : RowIs w' I' es n xs :=
  ⟨h.1, fun i e he => ⟨(h.2 i e he).1, fun j c hc => let ⟨v, h1, h2, h3⟩ := (h.2 i e he).2 j c hc; ⟨v, h1, PV.Is.mono hI hw c _ _ v (fun _ _ _ h => h) h2, h3⟩⟩⟩
theorem CellsIs.mono {cs : List PV} {xs : List Value} (hI : ∀ g, I g → I' g) (hw : ∀ g, I g → w'.heap[g]? = w.heap[g]?) (hb : ∀ l p, β l = some p → β' l = some p) (h : CellsIs w I β cs xs) : CellsIs w' I' β' cs xs :=
  ⟨h.1, fun j c hc => let ⟨v, h1, h2, h3⟩ := h.2 j c hc; ⟨v, h1, PV.Is.mono hI hw c _ _ v (fun l p _ => hb l p) h2, h3⟩⟩
/-- elements that lie somewhere, as values -/
theorem IsEs.row : ∀ {es : List PV} {n g o : Nat}, IsEs w I es n g o → ∃ xs, RowIs w I es n xs ∧ ∀ j v, xs[j]? = some v → w.cell? ⟨g, o + j, none⟩ = some v
  | [], n, g, o, _ => ⟨[], ⟨by simp, fun i e he => by simp at he⟩, fun j v h => by simp at h⟩
  | e :: es, n, g, o, h => by
    rw [IsEs.cons] at h
    obtain ⟨⟨hl, hc⟩, h⟩ := h
    obtain ⟨xs, hx, hy⟩ := IsEs.row h
    have key : ∀ (cs : List PV) (o : Nat), IsAt w I cs g o → ∃ ys : List Value, ys.length = cs.length ∧ (∀ (j : Nat) (c : PV), cs[j]? = some c → ∃ v : Value, ys[j]? = some v ∧ c.Is w I (fun _ => none) v ∧ v.oneCell' = true) ∧ ∀ (j : Nat) (v : Value), ys[j]? = some v → w.cell? ⟨g, o + j, none⟩ = some v := by
      intro cs
      induction cs with
      | nil => intro o _; exact ⟨[], rfl, fun j c h => by simp at h, fun j v h => by simp at h⟩
      | cons c cs ih =>
        intro o h
        simp only [IsAt] at h
        obtain ⟨⟨v, h1, h2⟩, h3⟩ := h
        obtain ⟨ys, g1, g2, g3⟩ := ih (o + 1) h3
        refine ⟨v :: ys, by simp [g1], fun j c' hc' => ?_, fun j u hu => ?_⟩
        · cases j with
          | zero => simp at hc'; subst hc'; exact ⟨v, rfl, h2⟩
          | succ j => simpa using g2 j c' (by simpa using hc')
        · cases j with
          | zero => simp at hu; subst hu; exact h1
          | succ j => rw [show o + (j + 1) = o + 1 + j by omega]; exact g3 j u (by simpa using hu)
    obtain ⟨ys, g1, g2, g3⟩ := key e.cells o hc
    have hyl : ys.length = n := by omega
    refine ⟨ys ++ xs, ?_, fun j v hv => ?_⟩
    · refine ⟨by rw [List.length_append, hx.1, List.length_cons, hyl, Nat.succ_mul]; omega, fun i e' he' => ?_⟩
      cases i with
      | zero =>
        simp at he'; subst he'
        refine ⟨hl, fun j c hj => ?_⟩
        obtain ⟨v, hv, h2⟩ := g2 j c hj
        have := (List.getElem?_eq_some_iff.1 hv).1
        exact ⟨v, by rw [Nat.zero_mul, Nat.zero_add, List.getElem?_append_left this]; exact hv, h2⟩
      | succ i =>
        obtain ⟨h1, h2⟩ := hx.2 i e' (by simpa using he')
        refine ⟨h1, fun j c hj => ?_⟩
        obtain ⟨v, hv, h3⟩ := h2 j c hj
        refine ⟨v, ?_, h3⟩
        rw [Nat.succ_mul, List.getElem?_append_right (by omega), show i * n + n + j - ys.length = i * n + j by omega]
        exact hv
    · by_cases hj : j < ys.length
      · rw [List.getElem?_append_left hj] at hv; exact g3 j v hv
      · rw [List.getElem?_append_right (by omega)] at hv
        have := hy _ v hv
        rw [show o + n + (j - ys.length) = o + j by omega] at this
        exact this
theorem RowIs.at {es : List PV} {n g : Nat} {xs : List Value} (h : RowIs w I es n xs) (hc : ∀ j v, xs[j]? = some v → w'.cell? ⟨g, j, none⟩ = some v) (hI : ∀ g, I g → I' g) (hw : ∀ g, I g → w'.heap[g]? = w.heap[g]?) : IsEs w' I' es n g 0 := IsEs.of fun i e he => by
  obtain ⟨h1, h2⟩ := h.2 i e he
  refine ⟨h1, IsAt.of fun j c hj => ?_⟩
  obtain ⟨v, hv, h3, h4⟩ := h2 j c hj
  exact ⟨v, by rw [Nat.zero_add]; exact hc _ v hv, PV.Is.mono hI hw c _ _ v (fun _ _ _ h => h) h3, h4⟩
theorem RowIs.ones {es : List PV} {n : Nat} {xs : List Value} (h : RowIs w I es n xs) : ∀ v ∈ xs, v.oneCell' = true := by
  intro v hv
  obtain ⟨k, hk, rfl⟩ := List.getElem_of_mem hv
  have hk' : k < es.length * n := by rw [← h.1]; exact hk
  have hn : 0 < n := by
    rcases Nat.eq_zero_or_pos n with h0 | h0
    · rw [h0] at hk'; omega
    · exact h0
  have hi : k / n < es.length := Nat.div_lt_of_lt_mul (by rw [Nat.mul_comm]; exact hk')
  obtain ⟨h1, h2⟩ := h.2 _ _ (List.getElem?_eq_getElem hi)
  have hm : k % n < n := Nat.mod_lt _ hn
  obtain ⟨u, hu, _, h3⟩ := h2 (k % n) _ (List.getElem?_eq_getElem (by omega))
  rw [show k / n * n + k % n = k by rw [Nat.mul_comm]; exact Nat.div_add_mod k n, List.getElem?_eq_getElem hk] at hu
  cases hu; exact h3
theorem CellsIs.ones {cs : List PV} {xs : List Value} (h : CellsIs w I β cs xs) : ∀ v ∈ xs, v.oneCell' = true := by
  intro v hv
  obtain ⟨k, hk, rfl⟩ := List.getElem_of_mem hv
  have hk' : k < cs.length := by rw [← h.1]; exact hk
  obtain ⟨u, hu, _, h3⟩ := h.2 _ _ (List.getElem?_eq_getElem hk')
  rw [List.getElem?_eq_getElem hk] at hu
  cases hu; exact h3
theorem SrcIs.ones {n : Nat} {x : Src} {xs : List Value} (h : SrcIs w I β n x xs) : ∀ v ∈ xs, v.oneCell' = true := by
  cases x with
  | stat cs => exact CellsIs.ones h
  | told es => exact RowIs.ones h
theorem chunk_ok {ag : Bool} {n : Nat} (hn : 0 < n) (hag : ag = true ∨ n = 1) : ∀ (k : Nat) {cs : List PV} {xs : List Value}, cs.length = k * n → CellsIs w I β cs xs → (chunk ag n k cs).all PV.elem = true → (chunk ag n k cs).length = k ∧ RowIs w I (chunk ag n k cs) n xs
  | 0, cs, xs, hl, h, _ => by
    have : xs = [] := List.eq_nil_of_length_eq_zero (by rw [h.1, hl, Nat.zero_mul])
    subst this
    exact ⟨rfl, by simp [chunk], fun i e he => by simp [chunk] at he⟩
  | k + 1, cs, xs, hl, h, hall => by
    simp only [chunk, List.all_cons, Bool.and_eq_true] at hall
    obtain ⟨he, hall⟩ := hall
    have hlk : (cs.drop n).length = k * n := by rw [List.length_drop, hl, Nat.succ_mul]; omega
    have hdrop : CellsIs w I β (cs.drop n) (xs.drop n) := ⟨by rw [List.length_drop, List.length_drop, h.1], fun j c hc => by
      rw [List.getElem?_drop] at hc ⊢; exact h.2 _ c hc⟩
    obtain ⟨ih1, ih2⟩ := chunk_ok hn hag k hlk hdrop hall
    have hcn : n ≤ cs.length := by rw [hl, Nat.succ_mul]; omega
    have nr : ∀ {c : PV} {y : Value}, c.noRef = true → c.Is w I β y → c.Is w I (fun _ => none) y := fun {c y} hc hi => by
      refine PV.Is.mono (fun _ h => h) (fun _ _ => rfl) _ β _ _ (fun l p hl => ?_) hi
      cases c <;> simp_all [PV.uses, PV.noRef]
    refine ⟨by simp [chunk, ih1], by rw [h.1, hl]; simp only [chunk, List.length_cons, ih1], fun i e hi => ?_⟩
    cases i with
    | zero =>
      simp only [chunk, List.getElem?_cons_zero, Option.some.injEq] at hi
      subst hi
      cases ag with
      | true =>
        simp only [if_true, PV.elem, List.all_eq_true] at he
        simp only [if_true, PV.cells]
        refine ⟨by rw [List.length_take]; omega, fun j c hj => ?_⟩
        rw [List.getElem?_take] at hj
        split at hj
        · obtain ⟨v, hv, h2, h3⟩ := h.2 j c hj
          refine ⟨v, by rw [Nat.zero_mul, Nat.zero_add]; exact hv, nr (he c ?_) h2, h3⟩
          refine List.mem_of_getElem? (i := j) ?_
          rw [List.getElem?_take, if_pos ‹_›]; exact hj
        · cases hj
      | false =>
        have hn1 : n = 1 := by simpa using hag
        subst hn1
        cases cs with
        | nil => simp at hcn
        | cons c cs =>
          simp only [Bool.false_eq_true, if_false] at he ⊢
          obtain ⟨v, hv, h2, h3⟩ := h.2 0 c rfl
          have hc1 : c.cells = [c] := by
            cases c <;> first | rfl | (simp only [PV.Is] at h2; obtain ⟨vs, rfl, _⟩ := h2; simp [Value.oneCell'] at h3)
          rw [hc1]
          refine ⟨rfl, fun j c' hj => ?_⟩
          cases j with
          | zero =>
            simp at hj; subst hj
            refine ⟨v, by simpa using hv, nr ?_ h2, h3⟩
            cases c <;> first | exact he | (exfalso; simp only [PV.Is] at h2; obtain ⟨vs, rfl, _⟩ := h2; simp [Value.oneCell'] at h3)
          | succ j => simp at hj
    | succ i =>
      simp only [chunk, List.getElem?_cons_succ] at hi
      obtain ⟨h1, h2⟩ := ih2.2 i e hi
      refine ⟨h1, fun j c hj => ?_⟩
      obtain ⟨v, hv, h3⟩ := h2 j c hj
      refine ⟨v, ?_, h3⟩
      rw [List.getElem?_drop] at hv
      rw [Nat.succ_mul, show i * n + n + j = n + (i * n + j) by omega]
      exact hv

theorem norm_is {x : PV} {v : Value} (h : x.Is w I β v) : x.norm.Is w I β v := by
  cases x <;> first | exact h | (simp only [PV.norm, PV.Is] at h ⊢; exact h)
theorem norm_cells {cs : List PV} {xs : List Value} (h : CellsIs w I β cs xs) : CellsIs w I β (cs.map PV.norm) xs := by
  refine ⟨by rw [List.length_map]; exact h.1, fun j c hj => ?_⟩
  rw [List.getElem?_map, Option.map_eq_some_iff] at hj
  obtain ⟨d, hd, rfl⟩ := hj
  obtain ⟨v, h1, h2, h3⟩ := h.2 j d hd
  exact ⟨v, h1, norm_is h2, h3⟩
theorem elemsOf_ok {ag : Bool} {n : Nat} (hn : 0 < n) (hag : ag = true ∨ n = 1) {x : Src} {es : List PV} {xs : List Value} {len : Nat} (h : elemsOf ag n x = some es) (hx : SrcIs w I β n x xs) (hl : xs.length = len * n) : es.length = len ∧ RowIs w I es n xs := by
  have hc : ∀ {a b : Nat}, a * n = b * n → a = b := fun h => Nat.eq_of_mul_eq_mul_right hn h
  cases x with
  | told es' =>
    simp only [elemsOf, Option.some.injEq] at h
    subst h
    exact ⟨hc (by rw [← hx.1, hl]), hx⟩
  | stat cs =>
    simp only [elemsOf, lenO_eq, Nat.zero_add] at h
    split at h
    · rename_i hall
      cases h
      have hcl : cs.length = len * n := by rw [← hx.1, hl]
      have hd : cs.length / n = len := by rw [hcl]; exact Nat.mul_div_cancel _ hn
      rw [hd] at hall ⊢
      exact chunk_ok hn hag len (by rw [List.length_map]; exact hcl) (norm_cells hx) hall
    · cases h
theorem take_at {arr : Array Value} {g : Nat} {ty : TypeId} {fr : Nat × Nat} (hh : w.heap[g]? = some (.cells arr ty fr)) (o k : Nat) : ∀ (j : Nat) (v : Value), ((arr.toList.drop o).take k)[j]? = some v → w.cell? ⟨g, o + j, none⟩ = some v := fun j v hv => by
  rw [List.getElem?_take] at hv
  split at hv
  · rw [List.getElem?_drop] at hv
    rw [Ev.cells_of hh]; simpa using hv
  · cases hv
theorem srcK_ok (hO : Ev.CxOk cx) (hh : HeapOk I β st w) {n : Nat} (hn : 0 < n) {x : PV} {u : Value} {q : Src → Prop} (h : srcK cx st n x q) (hx : x.Is w I β u) :
    ∃ src ad len c news, q src ∧ u = .slice ad len c ∧ SrcIs w I β n src news ∧ news.length = len * n ∧ (len = 0 ∨ ∃ g o, ad = some ⟨g, o, none⟩) ∧ ∀ g o, ad = some ⟨g, o, none⟩ → ∀ j v, news[j]? = some v → w.cell? ⟨g, o + j, none⟩ = some v := by
  unfold srcK at h
  split at h <;> try simp only [PV.Is] at hx
  · exact ⟨_, none, 0, 0, [], h, hx, ⟨by simp, fun i e he => by simp at he⟩, by simp, .inl rfl, fun _ _ _ j v hv => by simp at hv⟩
  · rename_i m es
    replace h := bif_ok h
    obtain ⟨hm, h⟩ := h
    have hm := Nat.eq_of_beq_eq_true hm
    obtain ⟨ad, cap, rfl, _, _, h4, h5⟩ := hx
    by_cases h0 : es.length = 0
    · have : es = [] := List.eq_nil_of_length_eq_zero h0
      subst this
      exact ⟨_, ad, 0, cap, [], h, rfl, ⟨by simp, fun i e he => by simp at he⟩, by simp, .inl rfl, fun _ _ _ j v hv => by simp at hv⟩
    · obtain ⟨g, o, rfl, hg, _⟩ := h5 h0
      obtain ⟨xs, h6, h7⟩ := (h4 g o rfl).row
      rw [hm] at h6
      exact ⟨_, _, es.length, cap, xs, h, rfl, h6, h6.1, (.inr ⟨_, _, rfl⟩), fun g' o' e => by cases e; exact h7⟩
  · rename_i l off len
    replace h := need_ok h
    obtain ⟨b, hb, h⟩ := h
    replace h := bif_ok h
    obtain ⟨hc, h⟩ := h
    simp only [Bool.and_eq_true] at hc
    have hle := Nat.le_of_ble_eq_true hc.2
    obtain ⟨p, g, o, cap, hp, ha, rfl, _⟩ := hx
    obtain ⟨arr, ty, fr, hhg, hca, _⟩ := mem_cells hh hb hc.1 hp ha
    have hsz : 0 < len * n → o + off + len * n ≤ arr.size := fun h0 => by
      obtain ⟨z, hz, _⟩ := hca _ _ (List.getElem?_eq_getElem (show off + len * n - 1 < b.cs.length by omega))
      have := (Array.getElem?_eq_some_iff.1 hz).1
      omega
    have hnl : ((arr.toList.drop (o + off)).take (len * n)).length = len * n := by
      rw [List.length_take, List.length_drop, Array.length_toList]
      rcases Nat.eq_zero_or_pos (len * n) with h0 | h0
      · omega
      · have := hsz h0; omega
    refine ⟨_, _, len, cap, _, forceL_ok h, rfl, ⟨?_, fun j c hj => ?_⟩, hnl, (.inr ⟨_, _, rfl⟩), fun g' o' e => by cases e; exact take_at hhg _ _⟩
    · rw [hnl, List.length_take, List.length_drop]; omega
    · rw [List.getElem?_take] at hj
      split at hj
      · rename_i hj'
        rw [List.getElem?_drop] at hj
        obtain ⟨v, hv, h1, h2⟩ := hca _ _ hj
        exact ⟨v, by rw [List.getElem?_take, if_pos hj', List.getElem?_drop]; simpa [Nat.add_assoc] using hv, h1, h2⟩
      · cases hj
  · rename_i l
    replace h := need_ok h
    obtain ⟨b, hb, h⟩ := h
    replace h := bif_ok h
    obtain ⟨hc, h⟩ := h
    simp only [Bool.and_eq_true] at hc
    have hbn := Nat.eq_of_beq_eq_true hc.2
    obtain ⟨p, hp, rfl⟩ := hx
    split at h
    · rename_i hk
      obtain ⟨g, arr, fr, ha, hw, hhg, hca, _, hlen, hle, _, has, _⟩ := whole_arr hh hb hc.1 hk hp
      rw [hbn] at hlen has
      have hsz : p.len * n ≤ arr.size := by rw [has]; exact Nat.mul_le_mul_right _ hle
      refine ⟨_, _, p.len, p.cap, (arr.toList.drop 0).take (p.len * n), h, hw, ⟨?_, fun j c hj => ?_⟩, ?_, (.inr ⟨_, _, rfl⟩), fun g' o' e => by cases e; exact take_at hhg _ _⟩
      · rw [List.length_take, List.length_drop, Array.length_toList]; omega
      · obtain ⟨v, hv, h1, h2⟩ := hca _ _ hj
        have hj' : j < p.len * n := by rw [← hlen]; exact (List.getElem?_eq_some_iff.1 hj).1
        exact ⟨v, by rw [List.getElem?_take, if_pos hj', List.getElem?_drop]; simpa using hv, h1, h2⟩
      · rw [List.length_take, List.length_drop, Array.length_toList]; omega
    · rename_i hk
      obtain ⟨_, hlen, hle, _, hor⟩ := whole_dyn hh hb hc.1 hk hp
      rcases hor with ⟨_, hc0, hw⟩ | ⟨g, arr, fr, ha, hw, hhg, hes, _, has⟩
      · have hb0 : b.cs = [] := List.eq_nil_of_length_eq_zero (by omega)
        rw [hb0] at h
        exact ⟨_, none, 0, 0, [], h, hw, ⟨by simp, fun i e he => by simp at he⟩, by simp, .inl rfl, fun _ _ _ j v hv => by simp at hv⟩
      · obtain ⟨xs, h6, h7⟩ := hes.row
        rw [hbn] at h6
        exact ⟨_, _, p.len, p.cap, xs, h, hw, h6, by rw [h6.1, hlen], (.inr ⟨_, _, rfl⟩), fun g' o' e => by cases e; exact h7⟩
    · exact h.elim
  · exact h.elim
/-- a slice that may be appended to: the blocks without it -/
theorem killB_ok {l : Nat} {b : PBlk} {q : List PBlk → Prop} (hb : st[l]? = some b) (h : killB st l q) : ∃ b', b'.live = false ∧ q (st.set l b') := by
  replace h := need_ok h
  obtain ⟨b2, hb2, h⟩ := h
  cases b2
  exact ⟨_, rfl, (setB_ok h).2⟩
theorem destK_ok (hh : HeapOk I β st w) {n : Nat} (hn : 0 < n) {elem : TypeId} {x : PV} {v : Value} {q : Src → List PBlk → Prop} (h : destK st elem n x q) (hx : x.Is w I β v) :
    ∃ dst st' xs len, q dst st' ∧ w.ownsRow 0 elem n v len xs ∧ SrcIs w I β n dst xs ∧ xs.length = len * n ∧ HeapOk I β st' w ∧ st'.length = st.length ∧ Ext I β st w I β st' w ∧ (∀ g, v.ownBlock = some g → Wr β st g ∧ ¬ I g ∧ ¬ Lives β st' g) ∧ (v = .slice none 0 0 ∨ ∃ ad m c, v = .slice (some ad) m c) := by
  unfold destK at h
  split at h <;> try simp only [PV.Is] at hx
  · subst hx
    exact ⟨_, st, [], 0, h, World.ownsRow_nil _ _ _ _, ⟨by simp, fun j c hj => by simp at hj⟩, by simp, hh, rfl, Ext.refl, fun g e => by simp [Value.ownBlock] at e, .inl rfl⟩
  · rename_i l
    replace h := need_ok h
    obtain ⟨b, hb, h⟩ := h
    replace h := bif_ok h
    obtain ⟨hc, h⟩ := h
    simp only [Bool.and_eq_true] at hc
    obtain ⟨hlive, hm⟩ := can_ok hc.1.1
    have hbn := Nat.eq_of_beq_eq_true hc.1.2
    have hty := Nat.eq_of_beq_eq_true hc.2
    obtain ⟨p, hp, rfl⟩ := hx
    have dead : ∀ {g o : Nat} {b' : PBlk}, p.a = some (g, o) → b'.live = false → (Own I β st l g (0, 0) b ∨ ∃ fr, Own I β st l g fr b) → Wr β st g ∧ ¬ I g ∧ ¬ Lives β (st.set l b') g := by
      intro g o b' ha hb' ho
      have ho : ∃ fr, Own I β st l g fr b := ho.elim (fun h => ⟨_, h⟩) id
      obtain ⟨fr, ho⟩ := ho
      refine ⟨⟨l, b, p, o, hb, hlive, hm, hp, ha⟩, (ho.1 (by rw [hm]; decide)).2.1, fun ⟨l2, b2, p2, o2, h1, h2, h3, h4⟩ => ?_⟩
      by_cases hne : l2 = l
      · subst hne
        rw [List.getElem?_set_self (by simpa using (List.getElem?_eq_some_iff.1 h1).1)] at h1
        cases h1; rw [hb'] at h2; cases h2
      · rw [List.getElem?_set_ne (fun e => hne e.symm)] at h1
        exact (ho.1 (by rw [hm]; decide)).2.2 l2 b2 hne h1 h2 p2 g o2 h3 h4 rfl
    split at h
    · rename_i hk
      obtain ⟨b', hb', h⟩ := killB_ok hb h
      obtain ⟨g, arr, fr, ha, hw, hhg, hca, hown, hlen, hle, hmx, has, _⟩ := whole_arr hh hb hlive hk hp
      rw [hbn] at hlen has
      have hfr : fr = (0, 0) := (hown.1 (by rw [hm]; decide)).1
      subst hfr
      have hsz : p.len * n ≤ arr.size := by rw [has]; exact Nat.mul_le_mul_right _ hle
      have hxl : (arr.toList.take (p.len * n)).length = p.len * n := by rw [List.length_take, Array.length_toList]; omega
      refine ⟨_, _, arr.toList.take (p.len * n), p.len, h, ⟨hxl, .inr ⟨g, p.cap, arr, hw, Nat.zero_le _, by rw [← hty]; exact hhg, hle, hmx, has, rfl⟩⟩, ⟨by rw [hxl, hlen], fun j c hj => ?_⟩, hxl, hh.kill l hb', by simp, Ext.kill hb', fun g' e => ?_, .inr ⟨_, _, _, hw⟩⟩
      · obtain ⟨u, hu, h1, h2⟩ := hca _ _ hj
        have hj' : j < p.len * n := by rw [← hlen]; exact (List.getElem?_eq_some_iff.1 hj).1
        exact ⟨u, by rw [List.getElem?_take, if_pos hj']; simpa using hu, h1, h2⟩
      · rw [hw] at e
        simp only [Value.ownBlock, Option.some.injEq] at e
        subst e
        exact dead ha hb' (.inl hown)
    · rename_i hk
      obtain ⟨b', hb', h⟩ := killB_ok hb h
      obtain ⟨_, hlen, hle, hmx, hor⟩ := whole_dyn hh hb hlive hk hp
      rcases hor with ⟨_, hc0, hw⟩ | ⟨g, arr, fr, ha, hw, hhg, hes, hown, has⟩
      · have hb0 : b.cs = [] := List.eq_nil_of_length_eq_zero (by omega)
        rw [hb0] at h
        rw [hw]
        exact ⟨_, _, [], 0, h, World.ownsRow_nil _ _ _ _, ⟨by simp, fun i e he => by simp at he⟩, by simp, hh.kill l hb', by simp, Ext.kill hb', fun g e => by simp [Value.ownBlock] at e, .inl rfl⟩
      · rw [hbn] at hes has
        have hfr : fr = (0, 0) := (hown.1 (by rw [hm]; decide)).1
        subst hfr
        obtain ⟨xs, h6, h7⟩ := hes.row
        have hsz : p.len * n ≤ arr.size := by rw [has]; exact Nat.mul_le_mul_right _ hle
        have hxl : xs.length = p.len * n := by rw [h6.1, hlen]
        refine ⟨_, _, xs, p.len, h, ⟨hxl, .inr ⟨g, p.cap, arr, hw, Nat.zero_le _, by rw [← hty]; exact hhg, hle, hmx, has, ?_⟩⟩, h6, hxl, hh.kill l hb', by simp, Ext.kill hb', fun g' e => ?_, .inr ⟨_, _, _, hw⟩⟩
        · apply List.ext_getElem?
          intro j
          rw [List.getElem?_take]
          split
          · rename_i hj
            have hj2 : j < xs.length := by omega
            have := h7 j _ (List.getElem?_eq_getElem hj2)
            rw [Ev.cells_of hhg, Nat.zero_add] at this
            rw [List.getElem?_eq_getElem hj2]; simpa using this
          · rename_i hj
            rw [List.getElem?_eq_none (by omega)]
        · rw [hw] at e
          simp only [Value.ownBlock, Option.some.injEq] at e
          subst e
          exact dead ha hb' (.inl hown)
    · exact h.elim
  · exact h.elim
/-- nothing is appended -/
theorem run_append_none (t ty e : TypeId) (i : TypeInfo) (ht : P.underlying t = some (.slice e)) (hi : P.info? e = some i) (b : Option Addr) (n cap c : Nat) (hle : n ≤ cap) : (Builtin.append_ #[t, t] ty #[.slice b n cap, .slice none 0 c]).run P w = .ok (.slice b n cap) w := by
  cases b <;> simp [Builtin.append_, run_underlying ht, sizeOf, typeInfo, hi, Builtin.lenOf, Builtin.firstCells, hle, storeCells]
end

end Go.Proofs.YtjcacjeoddnmhaaDoor.Pw

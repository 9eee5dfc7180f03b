/- Terms in memory; lists of nodes; what keeps what lay. -/
import Derived.Test.YtfnjlkmhnhojpaaDoorChecked
import Derived.Test.YtfnjlkmhnhojpaaDoorJcBase
import Derived.RegionTactic
import Derived.Deep.RegionHeld3
import Derived.Deep.RegionLaw
import Derived.Deep.AppendLies
import Derived.Deep.DeepCutAuto
namespace Go.Proofs.YtfnjlkmhnhojpaaDoor
open Go Go.RowKit

/-- a term -/
inductive T where
  | leaf (op n : Int) | one (op n : Int) (a : T) | two (op n : Int) (a b : T)
  deriving Inhabited
namespace T
def op : T → Int
  | .leaf o _ => o | .one o _ _ => o | .two o _ _ _ => o
def num : T → Int
  | .leaf _ n => n | .one _ n _ => n | .two _ n _ _ => n
def kids : T → Nat
  | .leaf .. => 0 | .one .. => 1 | .two .. => 2
def size : T → Nat
  | .leaf .. => 1 | .one _ _ a => 1 + a.size | .two _ _ a b => 1 + a.size + b.size
/-- a term by value, its list's slice being s -/
def val (t : T) (s : Value) : Value := .agg #[.int .i64 t.op, .int .u32 t.num, s]
/-- the slice s is a term's list, in the blocks bl -/
def IsS (w : World) : T → Value → List Nat → Prop
  | .leaf _ _, s, bl => s = .slice none 0 0 ∧ bl = []
  | .one _ _ a, s, bl => ∃ g cap cur fr sa bla, s = .slice (some ⟨g, 0, none⟩) 1 cap ∧ 1 ≤ cap ∧ w.heap[g]? = some (.cells cur 28 fr) ∧ cur[0]? = some (.int .i64 a.op) ∧ cur[1]? = some (.int .u32 a.num) ∧ cur[2]? = some sa ∧ a.IsS w sa bla ∧ bl = g :: bla
  | .two _ _ a b, s, bl => ∃ g cap cur fr sa bla sb blb, s = .slice (some ⟨g, 0, none⟩) 2 cap ∧ 2 ≤ cap ∧ w.heap[g]? = some (.cells cur 28 fr) ∧ cur[0]? = some (.int .i64 a.op) ∧ cur[1]? = some (.int .u32 a.num) ∧ cur[2]? = some sa ∧ cur[3]? = some (.int .i64 b.op) ∧ cur[4]? = some (.int .u32 b.num) ∧ cur[5]? = some sb ∧ a.IsS w sa bla ∧ b.IsS w sb blb ∧ bl = g :: (bla ++ blb)
theorem IsS.keep {w w' : World} : ∀ {t : T} {s : Value} {bl : List Nat}, t.IsS w s bl → (∀ b ∈ bl, w'.heap[b]? = w.heap[b]?) → t.IsS w' s bl
  | .leaf _ _, _, _, h, _ => h
  | .one _ _ a, s, bl, ⟨g, cap, cur, fr, sa, bla, h1, h2, h3, h4, h5, h6, h7, h8⟩, hk => by
    subst h8
    exact ⟨g, cap, cur, fr, sa, bla, h1, h2, (hk g (by simp)).trans h3, h4, h5, h6, h7.keep fun b hb => hk b (by simp [hb]), rfl⟩
  | .two _ _ a b, s, bl, ⟨g, cap, cur, fr, sa, bla, sb, blb, h1, h2, h3, h4, h5, h6, h7, h8, h9, h10, h11, h12⟩, hk => by
    subst h12
    exact ⟨g, cap, cur, fr, sa, bla, sb, blb, h1, h2, (hk g (by simp)).trans h3, h4, h5, h6, h7, h8, h9, h10.keep fun c hc => hk c (by simp [hc]), h11.keep fun c hc => hk c (by simp [hc]), rfl⟩
theorem IsS.one {w : World} {t : T} {s : Value} {bl : List Nat} (h : t.IsS w s bl) : s.oneCell' = true := by
  cases t with
  | leaf => obtain ⟨rfl, _⟩ := h; rfl
  | one => obtain ⟨g, cap, cur, fr, sa, bla, rfl, _⟩ := h; rfl
  | two => obtain ⟨g, cap, cur, fr, sa, bla, sb, blb, rfl, _⟩ := h; rfl
theorem IsS.form {w : World} {t : T} {s : Value} {bl : List Nat} (h : t.IsS w s bl) : ∃ p c, s = .slice p t.kids c := by
  cases t with
  | leaf => obtain ⟨rfl, _⟩ := h; exact ⟨_, _, rfl⟩
  | one => obtain ⟨g, cap, cur, fr, sa, bla, rfl, _⟩ := h; exact ⟨_, _, rfl⟩
  | two => obtain ⟨g, cap, cur, fr, sa, bla, sb, blb, rfl, _⟩ := h; exact ⟨_, _, rfl⟩
end T
theorem cells3_one {a b : Int} {s : Value} (h : s.oneCell' = true) : ∀ u ∈ [Value.int .i64 a, .int .u32 b, s], u.oneCell' = true := by
  intro u hu
  simp only [List.mem_cons, List.not_mem_nil, or_false] at hu
  rcases hu with rfl | rfl | rfl
  · rfl
  · rfl
  · exact h

/-- all that lay lies as it lay, but for block B -/
structure Kept (B : Nat) (w w' : World) : Prop where
  os : w'.os = w.os
  tape : w'.tape = w.tape
  output : w'.output = w.output
  size : w.heap.size ≤ w'.heap.size
  block : ∀ k, k < w.heap.size → k ≠ B → w'.heap[k]? = w.heap[k]?
section
variable {B : Nat} {w w' w'' : World}
theorem Kept.refl (B : Nat) (w : World) : Kept B w w := ⟨rfl, rfl, rfl, Nat.le_refl _, fun _ _ _ => rfl⟩
theorem Kept.trans (h : Kept B w w') (k : Kept B w' w'') : Kept B w w'' := ⟨k.os.trans h.os, k.tape.trans h.tape, k.output.trans h.output, Nat.le_trans h.size k.size, fun i hi hb => (k.block i (Nat.lt_of_lt_of_le hi h.size) hb).trans (h.block i hi hb)⟩
theorem Kept.of_below (h : Below w.heap.size w w') : Kept B w w' := ⟨h.os, h.tape, h.output, h.size, fun k hk _ => h.block k hk⟩
theorem Kept.alloc (w : World) (o : Obj) : Kept B w (w.alloc o) := .of_below ((Below.refl _ w).alloc (Nat.le_refl _) o)
theorem Kept.set_ (w : World) (p : Addr) (u : Value) (h : p.block = B ∨ w.heap.size ≤ p.block) : Kept B w (w.setCell p u) :=
  ⟨rfl, rfl, rfl, by simp [World.setCell], fun k hk hb => Below.heap_setCell w p u k (by rcases h with h | h <;> omega)⟩
theorem Kept.cell (h : Kept B w w') {k j : Nat} (hk : k < w.heap.size) (hb : k ≠ B) : w'.cell? ⟨k, j, none⟩ = w.cell? ⟨k, j, none⟩ := World.cell?_of_block (h.block k hk hb)
theorem Kept.frozen (h : Kept B w w') {k j : Nat} (hk : k < w.heap.size) (hb : k ≠ B) : w'.frozen? ⟨k, j, none⟩ = w.frozen? ⟨k, j, none⟩ := World.frozen?_of_block (h.block k hk hb)
theorem grown_cell {row : Option Nat} (h : w.grownBy w' row) {k j : Nat} (hk : k < w.heap.size) (hb : some k ≠ row) : w'.cell? ⟨k, j, none⟩ = w.cell? ⟨k, j, none⟩ := h.cell_far ⟨k, j, none⟩ hk hb
theorem grown_frozen {row : Option Nat} (h : w.grownBy w' row) {k j : Nat} (hk : k < w.heap.size) (hb : some k ≠ row) : w'.frozen? ⟨k, j, none⟩ = w.frozen? ⟨k, j, none⟩ := h.frozen_far ⟨k, j, none⟩ hk hb
theorem alloc_cell (w : World) (o : Obj) {k j : Nat} (hk : k < w.heap.size) : (w.alloc o).cell? ⟨k, j, none⟩ = w.cell? ⟨k, j, none⟩ := World.cell?_of_block (Below.heap_alloc w o k hk)
theorem alloc_frozen (w : World) (o : Obj) {k j : Nat} (hk : k < w.heap.size) : (w.alloc o).frozen? ⟨k, j, none⟩ = w.frozen? ⟨k, j, none⟩ := World.frozen?_of_block (Below.heap_alloc w o k hk)
theorem Kept.drew (w : World) : Kept B w w.drew := ⟨rfl, rfl, rfl, Nat.le_refl _, fun _ _ _ => rfl⟩
end

section
variable {B g : Nat} {w w' : World} {t : TypeId} {cs : Array Value}
theorem Blk.kept (h : Blk w g t cs) (hk : Kept B w w') (hb : g ≠ B) : Blk w' g t cs := (hk.block g h.lt hb).trans h
theorem Blk.grown {row : Option Nat} (h : Blk w g t cs) (hg : w.grownBy w' row) (hb : some g ≠ row) : Blk w' g t cs := (hg.block g h.lt hb).trans h
theorem Blk.c3 {a b c : Value} (h : Blk w g t #[a, b, c]) : w.cell? ⟨g, 0, none⟩ = some a ∧ w.cell? ⟨g, 1, none⟩ = some b ∧ w.cell? ⟨g, 2, none⟩ = some c := ⟨h.cell 0, h.cell 1, h.cell 2⟩
theorem Blk.f3 (h : Blk w g t cs) : w.frozen? ⟨g, 0, none⟩ = false ∧ w.frozen? ⟨g, 1, none⟩ = false ∧ w.frozen? ⟨g, 2, none⟩ = false := ⟨h.frozen 0, h.frozen 1, h.frozen 2⟩
end

section
variable {B : Nat} {w w' w'' : World}
theorem Kept.grown {row : Option Nat} (h : Kept B w w') (hg : w'.grownBy w'' row) (hr : ∀ r, row = some r → w.heap.size ≤ r) : Kept B w w'' :=
  ⟨hg.os.trans h.os, hg.tape.trans h.tape, hg.output.trans h.output, Nat.le_trans h.size hg.size, fun k hk hb => (hg.block k (Nat.lt_of_lt_of_le hk h.size) (fun e => by have := hr k e.symm; omega)).trans (h.block k hk hb)⟩
theorem Kept.grownBy (h : Kept B w w') : w.grownBy w' (some B) := ⟨h.os, h.tape, h.output, h.size, fun k hk hb => h.block k hk (fun e => hb (by rw [e]))⟩
theorem grown_set (w : World) (p : Addr) (u : Value) : w.grownBy (w.setCell p u) (some p.block) := ⟨rfl, rfl, rfl, by simp [World.setCell], fun k _ hb => Below.heap_setCell w p u k (fun e => hb (by rw [e]))⟩
theorem Kept.setNew (h : Kept B w w') {p : Addr} (u : Value) (hp : w.heap.size ≤ p.block) : Kept B w (w'.setCell p u) :=
  ⟨h.os, h.tape, h.output, by simpa [World.setCell] using h.size, fun k hk hb => (Below.heap_setCell w' p u k (by omega)).trans (h.block k hk hb)⟩
end

theorem T.IsS.mk_one {w1 wf : World} {base g cp : Nat} {o n : Int} {a : T} {sa : Value} {bla : List Nat} (hown : w1.ownsRow base 28 3 (.slice (some ⟨g, 0, none⟩) 1 cp) 1 [.int .i64 a.op, .int .u32 a.num, sa]) (hg : wf.heap[g]? = w1.heap[g]?) (ha : a.IsS wf sa bla) : (T.one o n a).IsS wf (.slice (some ⟨g, 0, none⟩) 1 cp) (g :: bla) := by
  obtain ⟨_, h⟩ := hown
  rcases h with ⟨h, _⟩ | ⟨g', cap, cur, hv, _, hh, hn, _, hs, ht⟩
  · cases h
  · cases hv
    have e : ∀ i, i < 3 → cur[i]? = [Value.int .i64 a.op, .int .u32 a.num, sa][i]? := fun i hi => by
      rw [← ht, List.getElem?_take, if_pos (by omega)]; simp
    exact ⟨g, cp, cur, (0, 0), sa, bla, rfl, hn, hg.trans hh, e 0 (by omega), e 1 (by omega), e 2 (by omega), ha, rfl⟩
theorem T.IsS.mk_two {w1 wf : World} {base g cp : Nat} {o n : Int} {a b : T} {sa sb : Value} {bla blb : List Nat} (hown : w1.ownsRow base 28 3 (.slice (some ⟨g, 0, none⟩) 2 cp) 2 [.int .i64 a.op, .int .u32 a.num, sa, .int .i64 b.op, .int .u32 b.num, sb]) (hg : wf.heap[g]? = w1.heap[g]?) (ha : a.IsS wf sa bla) (hb : b.IsS wf sb blb) : (T.two o n a b).IsS wf (.slice (some ⟨g, 0, none⟩) 2 cp) (g :: (bla ++ blb)) := by
  obtain ⟨_, h⟩ := hown
  rcases h with ⟨h, _⟩ | ⟨g', cap, cur, hv, _, hh, hn, _, hs, ht⟩
  · cases h
  · cases hv
    have e : ∀ i, i < 6 → cur[i]? = [Value.int .i64 a.op, .int .u32 a.num, sa, .int .i64 b.op, .int .u32 b.num, sb][i]? := fun i hi => by
      rw [← ht, List.getElem?_take, if_pos (by omega)]; simp
    exact ⟨g, cp, cur, (0, 0), sa, bla, sb, blb, rfl, hn, hg.trans hh, e 0 (by omega), e 1 (by omega), e 2 (by omega), e 3 (by omega), e 4 (by omega), e 5 (by omega), ha, hb, rfl⟩

/-- a term's list's cells -/
theorem T.IsS.cells1 {w : World} {o n : Int} {a : T} {s : Value} {bl : List Nat} (h : (T.one o n a).IsS w s bl) : ∃ g cap p c bla, s = .slice (some ⟨g, 0, none⟩) 1 cap ∧ 1 ≤ cap ∧ g < w.heap.size ∧ w.cell? ⟨g, 0, none⟩ = some (.int .i64 a.op) ∧ w.cell? ⟨g, 1, none⟩ = some (.int .u32 a.num) ∧ w.cell? ⟨g, 2, none⟩ = some (.slice p a.kids c) ∧
    a.IsS w (.slice p a.kids c) bla ∧ ∀ b ∈ bla, b ∈ bl := by
  obtain ⟨g, cap, cur, fr, sa, bla, rfl, hcap, hh, h0, h1, h2, ha, rfl⟩ := h
  obtain ⟨p, c, rfl⟩ := ha.form
  have c0 : w.cell? ⟨g, 0, none⟩ = some (.int .i64 a.op) := by rw [cell_of_row w g 0 cur _ fr hh, h0]
  exact ⟨g, cap, p, c, bla, rfl, hcap, World.block_lt_of_cell? w ⟨g, 0, none⟩ c0, c0, by rw [cell_of_row w g 1 cur _ fr hh, h1], by rw [cell_of_row w g 2 cur _ fr hh, h2], ha, fun b hb => by simp [hb]⟩
theorem T.IsS.cells2 {w : World} {o n : Int} {a b : T} {s : Value} {bl : List Nat} (h : (T.two o n a b).IsS w s bl) : ∃ g cap p c q d bla blb, s = .slice (some ⟨g, 0, none⟩) 2 cap ∧ 2 ≤ cap ∧ g < w.heap.size ∧ (w.cell? ⟨g, 0, none⟩ = some (.int .i64 a.op) ∧ w.cell? ⟨g, 1, none⟩ = some (.int .u32 a.num) ∧ w.cell? ⟨g, 2, none⟩ = some (.slice p a.kids c)) ∧
    (w.cell? ⟨g, 3, none⟩ = some (.int .i64 b.op) ∧ w.cell? ⟨g, 4, none⟩ = some (.int .u32 b.num) ∧ w.cell? ⟨g, 5, none⟩ = some (.slice q b.kids d)) ∧ a.IsS w (.slice p a.kids c) bla ∧ b.IsS w (.slice q b.kids d) blb ∧ (∀ b ∈ bla, b ∈ bl) ∧ ∀ b ∈ blb, b ∈ bl := by
  obtain ⟨g, cap, cur, fr, sa, bla, sb, blb, rfl, hcap, hh, h0, h1, h2, h3, h4, h5, ha, hb, rfl⟩ := h
  obtain ⟨p, c, rfl⟩ := ha.form
  obtain ⟨q, d, rfl⟩ := hb.form
  have c0 : w.cell? ⟨g, 0, none⟩ = some (.int .i64 a.op) := by rw [cell_of_row w g 0 cur _ fr hh, h0]
  exact ⟨g, cap, p, c, q, d, bla, blb, rfl, hcap, World.block_lt_of_cell? w ⟨g, 0, none⟩ c0, ⟨c0, by rw [cell_of_row w g 1 cur _ fr hh, h1], by rw [cell_of_row w g 2 cur _ fr hh, h2]⟩, ⟨by rw [cell_of_row w g 3 cur _ fr hh, h3], by rw [cell_of_row w g 4 cur _ fr hh, h4], by rw [cell_of_row w g 5 cur _ fr hh, h5]⟩, ha, hb, fun b hb => by simp [hb], fun b hb => by simp [hb]⟩

/-- a list of nodes that came in: pairs of an operator and a number -/
def NodesAt (w : World) (pl : Option Addr) (l : List (Int × Int)) (M : Nat) : Prop :=
  ∀ i x, l[i]? = some x → ∃ b off, pl = some ⟨b, off, none⟩ ∧ b < M ∧ b < w.heap.size ∧ w.cell? ⟨b, off + i * 2, none⟩ = some (.int .i64 x.1) ∧ w.cell? ⟨b, off + i * 2 + 1, none⟩ = some (.int .u32 x.2)
theorem NodesAt.kept {w w' : World} {pl : Option Addr} {l : List (Int × Int)} {M B : Nat} (h : NodesAt w pl l M) (hk : Kept B w w') (hB : M ≤ B) : NodesAt w' pl l M := fun i x hx => by
  obtain ⟨b, off, h1, h2, h3, h4, h5⟩ := h i x hx
  have e : w'.heap[b]? = w.heap[b]? := hk.block b h3 (by omega)
  exact ⟨b, off, h1, h2, Nat.lt_of_lt_of_le h3 hk.size, (World.cell?_of_block e).trans h4, (World.cell?_of_block e).trans h5⟩

theorem NodesAt.mono {w : World} {pl : Option Addr} {l : List (Int × Int)} {M M' : Nat} (h : NodesAt w pl l M) (hM : M ≤ M') : NodesAt w pl l M' := fun i x hx => by
  obtain ⟨b, off, h1, h2, h3⟩ := h i x hx
  exact ⟨b, off, h1, Nat.lt_of_lt_of_le h2 hM, h3⟩

/-- the term that a list of nodes begins with, and where the next one begins -/
def builtT : Nat → List (Int × Int) → Nat → T × Nat
  | 0, _, at_ => (.leaf 1 0, at_)
  | k + 1, l, at_ => match l[at_]? with
    | none => (.leaf 1 0, at_)
    | some x => if 5 ≤ x.1 ∧ x.1 ≤ 17 then (.two x.1 0 (builtT k l (at_ + 1)).1 (builtT k l (builtT k l (at_ + 1)).2).1, (builtT k l (builtT k l (at_ + 1)).2).2)
      else if 3 ≤ x.1 ∧ x.1 ≤ 4 then (.one x.1 0 (builtT k l (at_ + 1)).1, (builtT k l (at_ + 1)).2)
      else (.leaf x.1 x.2, at_ + 1)
theorem builtT_le : ∀ (k : Nat) (l : List (Int × Int)) (i : Nat), i ≤ l.length → i ≤ (builtT k l i).2 ∧ (builtT k l i).2 ≤ l.length ∧ (builtT k l i).1.size ≤ 2 * ((builtT k l i).2 - i) + 1
  | 0, l, i, h => by simp only [builtT, T.size]; omega
  | k + 1, l, i, h => by
    unfold builtT
    cases hx : l[i]? with
    | none => simp only [T.size]; omega
    | some x =>
      have hi : i < l.length := (List.getElem?_eq_some_iff.1 hx).1
      have h1 := builtT_le k l (i + 1) (by omega)
      have h2 := builtT_le k l (builtT k l (i + 1)).2 (by omega)
      dsimp only
      split
      · simp only [T.size]; omega
      · split
        · simp only [T.size]; omega
        · simp only [T.size]; omega

theorem termOf_any (n : Int) (w : World) : Calls Tryd.prog 11 #[.int .u32 n] w fun e w' => e = .returned (.agg #[.int .i64 1, .int .u32 n, .slice none 0 0]) ∧ w' = w.alloc (.cells #[.int .i64 1, .int .u32 n, .slice none 0 0] 28) := by
  go_enter Tryd.func11, Tryd.ntmps11
  go_wp2
  exact bodyPost_ret (v := .agg #[.int .i64 1, .int .u32 n, .slice none 0 0]) (by simp [results, Tryd.results11, go_sem]) rfl ⟨rfl, rfl⟩

end Go.Proofs.YtfnjlkmhnhojpaaDoor

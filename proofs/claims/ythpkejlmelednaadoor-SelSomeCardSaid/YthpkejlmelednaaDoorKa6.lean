/- What the laws of this claim are proved with, joined (join.py) of 11 texts: no condition. -/
import Derived.Test.YthpkejlmelednaaDoorKa4
import Derived.Test.YthpkejlmelednaaDoorKa5
import Derived.WalkKit
import Derived.Lib.Walk
import Derived.Lib.SliceRun
import Derived.Lib.AppendZerosOnto
import Derived.Test.YthpkejlmelednaaDoorKaImmD
import Derived.Test.YthpkejlmelednaaDoorRows
import Derived.ProofKit
import Derived.LaidMore
import Derived.OpenShut
import Derived.Stop.Joined
import Derived.Lib.LaidTab
set_option linter.unusedVariables false

/- General words for walks over values: values that are what they say; arguments one by one. No program in sight but its numbers. -/
namespace Go.Proofs.YthpkejlmelednaaDoor.Pw
open Go Go.RowKit

theorem entersT {f : FuncId} {fn : Func} {c : Code} (hf : Tryd.prog.funcs[f]? = some fn) (hb : fn.body = some c) (hn : (fn.name == "runtime.NumGoroutine") = false) : Ev.Enters gT.cx.P f := Ev.enters_of hf hb hn

theorem isLn {w : World} {I : Nat → Prop} {β : Places} : IsL w I [] β [] := by simp only [IsL]
theorem isLc {w : World} {I : Nat → Prop} {β : Places} {x : PV} {v : Value} {xs : List PV} {vs : List Value} (h : x.Is w I β v) (h' : IsL w I xs β vs) : IsL w I (x :: xs) β (v :: vs) := by simp only [IsL]; exact ⟨h, h'⟩
theorem is_bool {w : World} {I : Nat → Prop} {β : Places} (b : Bool) : (PV.bool (b = true)).Is w I β (.bool b) := by simp only [PV.Is]; rw [pb_dec]; simp
theorem is_int {w : World} {I : Nat → Prop} {β : Places} (k : IntKind) (n : Int) : (PV.int k n).Is w I β (.int k n) := by simp only [PV.Is]
theorem is_tup {w : World} {I : Nat → Prop} {β : Places} {xs : List PV} {vs : Array Value} (h : IsL w I xs β vs.toList) : (PV.tup xs).Is w I β (.tuple vs) := by simp only [PV.Is]; exact ⟨vs, rfl, h⟩
theorem is_agg {w : World} {I : Nat → Prop} {β : Places} {xs : List PV} {vs : Array Value} (h : IsL w I xs β vs.toList) : (PV.agg xs).Is w I β (.agg vs) := by simp only [PV.Is]; exact ⟨vs, rfl, h⟩
theorem isL0 {w : World} {I : Nat → Prop} {β : Places} {vals : List Value} (h : IsL w I [] β vals) : vals = [] := by
  cases vals with
  | nil => rfl
  | cons => simp only [IsL] at h
theorem isL1 {w : World} {I : Nat → Prop} {β : Places} {x : PV} {vals : List Value} (h : IsL w I [x] β vals) : ∃ v, vals = [v] ∧ x.Is w I β v := by
  match vals, h with
  | [v], h => exact ⟨v, rfl, by simpa only [IsL, and_true] using h⟩
theorem isL2 {w : World} {I : Nat → Prop} {β : Places} {x y : PV} {vals : List Value} (h : IsL w I [x, y] β vals) : ∃ v u, vals = [v, u] ∧ x.Is w I β v ∧ y.Is w I β u := by
  match vals, h with
  | [v, u], h => exact ⟨v, u, rfl, by simpa only [IsL, and_true] using h⟩
theorem isL3 {w : World} {I : Nat → Prop} {β : Places} {x y z : PV} {vals : List Value} (h : IsL w I [x, y, z] β vals) : ∃ v u t, vals = [v, u, t] ∧ x.Is w I β v ∧ y.Is w I β u ∧ z.Is w I β t := by
  match vals, h with
  | [v, u, t], h => exact ⟨v, u, t, rfl, by simpa only [IsL, and_true] using h⟩
/-- a table of numbers, as the row that it is -/
theorem tab_row {G : Gx} {I : Nat → Prop} {w : World} (hM : ImmOk G I w) {g : Nat} {k : IntKind} {l : List Int} (h : (g, l.map (PV.lit k)) ∈ G.tabs) : ∃ ty fr, w.heap[g]? = some (.cells (l.map (Value.int k)).toArray ty fr) := by
  obtain ⟨arr, ty, fr, h1, h2⟩ := hM.row _ _ h
  obtain ⟨_, h3⟩ := hM.tab _ _ h
  refine ⟨ty, fr, ?_⟩
  rw [h1]
  congr 2
  refine Array.ext' (List.ext_getElem? fun i => ?_)
  rw [List.length_map] at h2
  by_cases hi : i < l.length
  · obtain ⟨v, hv, hiv, _⟩ := h3.get (i := i) (c := PV.lit k l[i]) (by simp [hi])
    rw [Ev.cells_of h1, Nat.zero_add] at hv
    simp only [PV.Is] at hiv
    subst hiv
    simp only [Array.getElem?_toList, hv, List.getElem?_map, List.getElem?_eq_getElem hi, Option.map_some]
  · rw [List.getElem?_eq_none (by simp; omega), List.getElem?_eq_none (by simp; omega)]
/-- a function that is told over worlds, where the tables are laid -/
theorem PureF.of_at {G : Gx} {f : FuncId} {args : List PV} {r : PV} (he : Ev.Enters G.cx.P f)
    (h : ∀ I β w vals, ImmOk G I w → IsL w I args β vals → ∃ v, r.Is w I no v ∧ (∀ w' I' β', r.Is w' I' β' v) ∧ Calls G.cx.P f vals.toArray w fun e w' => e = .returned v ∧ Below w.heap.size w w') : PureF G f args r := by
  refine Spec.intro he fun I β w vals hH hM hA => ?_
  obtain ⟨v, _, hr, hc⟩ := h I β w vals hM hA
  refine hc.mono fun e w' ⟨he, hB⟩ => ⟨v, r, [], I, β, he, rfl, hr _ _ _, hH.none0 _ _, hM.below hB, ⟨hB.os, hB.tape, hB.output, hB.size, fun g hg _ => hB.block g hg, fun g _ h => h, fun _ h => h, fun _ _ h => .inl h⟩, Nat.le_refl _, fun _ _ _ => rfl⟩
theorem wr1 : IntKind.i64.wrap (0 + 1) = 1 := by decide
theorem wr2 : IntKind.i64.wrap (1 + 1) = 2 := by decide
theorem wr3 : IntKind.i64.wrap (2 + 1) = 3 := by decide
theorem wr4 : IntKind.i64.wrap (3 + 1) = 4 := by decide
theorem wr5 : IntKind.i64.wrap (4 + 1) = 5 := by decide
theorem wr6 : IntKind.i64.wrap (5 + 1) = 6 := by decide
theorem wr7 : IntKind.i64.wrap (6 + 1) = 7 := by decide
theorem wr8 : IntKind.i64.wrap (7 + 1) = 8 := by decide
theorem wr9 : IntKind.i64.wrap (8 + 1) = 9 := by decide
theorem wr10 : IntKind.i64.wrap (9 + 1) = 10 := by decide
theorem wr11 : IntKind.i64.wrap (10 + 1) = 11 := by decide
theorem wr12 : IntKind.i64.wrap (11 + 1) = 12 := by decide

end Go.Proofs.YthpkejlmelednaaDoor.Pw

/- Chapter 18 over values: operations, their registers. -/
namespace Go.Proofs.YthpkejlmelednaaDoor.Pw
open Go Go.RowKit

/-- an operation -/
structure VO where
  kind : Int
  t0 : Int
  t1 : Int
  f0 : Int
  f1 : Int
  f2 : Int
  f3 : Int
  n : Int
def voL (o : VO) : List PV := [.int .i64 o.kind, .int .i64 o.t0, .int .i64 o.t1, .int .i64 o.f0, .int .i64 o.f1, .int .i64 o.f2, .int .i64 o.f3, .int .u32 o.n]
def voP (o : VO) : PV := .agg (voL o)
def oB (o : VO) : PBlk := ⟨.loc, 40, 1, .w, true, voL o⟩
def intsP (l : List Int) : List PV := l.map (PV.int .i64)
/-- registers without none -/
def nm (l : List Int) : List Int := l.filter fun r => decide (r ≠ -1)
def VO.to (o : VO) : List Int := [o.t0, o.t1]
def VO.from_ (o : VO) : List Int := [o.f0, o.f1, o.f2, o.f3]
theorem nm_cons (x : Int) (l : List Int) : nm (x :: l) = if x = -1 then nm l else x :: nm l := by
  unfold nm
  by_cases h : x = -1 <;> simp [h]
theorem nm_nil : nm [] = [] := rfl

set_option maxHeartbeats 2000000 in
set_option maxRecDepth 100000 in
theorem named_to (o : VO) : Spec gT 136 [.ref 0 1 2] [oB o] [] fun r S' => r = .sl 1 (intsP (nm o.to)) ∧ S' = [oB o] := by
  refine Spec.leS (Spec.enter gTok P136 100 Tryd.func136 rfl (by kernel_rfl) ?_)
  refine SW.rounds gTok P136 (by kernel_rfl) (N := 60) 3 ?_
  repeat' ((conv => whnf); first | (refine (And.intro (fun _ => ?_) (fun _ => ?_) : (_ → _) ∧ (_ → _)) <;> (first | (exfalso; first | contradiction | omega) | skip)) | refine Or.inl (And.intro (by first | exact inR_i64 (by omega) | exact inR_u32 (by omega) | exact inR_u64 (by omega) | exact inR_u8 (by omega)) ?_) | (refine And.intro (show (_ : Int) ≠ 0 by omega) (Or.inl (And.intro (show (0 : Int) ≤ _ by omega) (And.intro (show (0 : Int) < _ by omega) ?_)))) | (refine And.intro (show (_ : Int) ≠ 0 by omega) (Or.inl (And.intro (show (0 : Int) ≤ _ by omega) (And.intro (by first | exact (show (_ : Int) ≤ 9223372036854775807 by omega) | exact (show (_ : Int) ≤ 4294967295 by omega)) (And.intro (show (0 : Int) < _ by omega) ?_))))) | (refine retS ?_ (by repeat' first | exact trivial | exact rfl | exact Iff.rfl | exact Or.inl rfl | refine And.intro ?_ ?_); show _ = _; (try simp only [Classical.not_not] at *); simp only [VO.to, nm_cons, nm_nil, *, if_true, if_false]; rfl) | (intro _))

set_option maxHeartbeats 4000000 in
set_option maxRecDepth 100000 in
theorem named_from (o : VO) : Spec gT 136 [.ref 0 3 4] [oB o] [] fun r S' => r = .sl 1 (intsP (nm o.from_)) ∧ S' = [oB o] := by
  refine Spec.leS (Spec.enter gTok P136 100 Tryd.func136 rfl (by kernel_rfl) ?_)
  refine SW.rounds gTok P136 (by kernel_rfl) (N := 60) 5 ?_
  repeat' ((conv => whnf); first | (refine (And.intro (fun _ => ?_) (fun _ => ?_) : (_ → _) ∧ (_ → _)) <;> (first | (exfalso; first | contradiction | omega) | skip)) | refine Or.inl (And.intro (by first | exact inR_i64 (by omega) | exact inR_u32 (by omega) | exact inR_u64 (by omega) | exact inR_u8 (by omega)) ?_) | (refine And.intro (show (_ : Int) ≠ 0 by omega) (Or.inl (And.intro (show (0 : Int) ≤ _ by omega) (And.intro (show (0 : Int) < _ by omega) ?_)))) | (refine And.intro (show (_ : Int) ≠ 0 by omega) (Or.inl (And.intro (show (0 : Int) ≤ _ by omega) (And.intro (by first | exact (show (_ : Int) ≤ 9223372036854775807 by omega) | exact (show (_ : Int) ≤ 4294967295 by omega)) (And.intro (show (0 : Int) < _ by omega) ?_))))) | (refine retS ?_ (by repeat' first | exact trivial | exact rfl | exact Iff.rfl | exact Or.inl rfl | refine And.intro ?_ ?_); show _ = _; (try simp only [Classical.not_not] at *); simp only [VO.from_, nm_cons, nm_nil, *, if_true, if_false]; rfl) | (intro _))

theorem uses_pure (o : VO) : PureF gT 106 [voP o] (.sl 1 (intsP (nm o.from_))) := by
  refine Spec.enter gTok P106 100 Tryd.func106 rfl (by kernel_rfl) ?_
  refine ⟨[], no_rl, (named_from o).mono ?_⟩
  rintro r S' ⟨rfl, rfl⟩
  (refine retE ?_; repeat' first | exact trivial | exact rfl | exact Iff.rfl | exact Or.inl rfl | refine And.intro ?_ ?_)
theorem sets_pure (o : VO) : PureF gT 107 [voP o] (.sl 1 (intsP (nm o.to))) := by
  refine Spec.enter gTok P107 100 Tryd.func107 rfl (by kernel_rfl) ?_
  refine ⟨[], no_rl, (named_to o).mono ?_⟩
  rintro r S' ⟨rfl, rfl⟩
  (refine retE ?_; repeat' first | exact trivial | exact rfl | exact Iff.rfl | exact Or.inl rfl | refine And.intro ?_ ?_)

theorem vis_pure (k : Int) : PureF gT 103 [.int .i64 k] (.bool (1 ≤ k ∧ k ≤ 31)) := by
  refine Spec.enter gTok P103 100 Tryd.func103 rfl (by kernel_rfl) ?_
  repeat' ((conv => whnf); first | (refine (And.intro (fun _ => ?_) (fun _ => ?_) : (_ → _) ∧ (_ → _)) <;> (first | (exfalso; first | contradiction | omega) | skip)) | refine Or.inl (And.intro (by first | exact inR_i64 (by omega) | exact inR_u32 (by omega) | exact inR_u64 (by omega) | exact inR_u8 (by omega)) ?_) | (refine And.intro (show (_ : Int) ≠ 0 by omega) (Or.inl (And.intro (show (0 : Int) ≤ _ by omega) (And.intro (show (0 : Int) < _ by omega) ?_)))) | (refine And.intro (show (_ : Int) ≠ 0 by omega) (Or.inl (And.intro (show (0 : Int) ≤ _ by omega) (And.intro (by first | exact (show (_ : Int) ≤ 9223372036854775807 by omega) | exact (show (_ : Int) ≤ 4294967295 by omega)) (And.intro (show (0 : Int) < _ by omega) ?_))))) | (refine retE ?_; show ¬ _; omega) | (refine retE ?_; show _ ↔ _; omega) | (intro _))
/-- may a number be, of a kind? -/
def vnum (k n : Int) : Prop := k = 1 ∨ ((k = 2 ∨ k = 3 ∨ k = 4) ∧ n % 4 = 0 ∧ n ≤ 1020) ∨ ((k = 18 ∨ k = 19 ∨ k = 20) ∧ 1 ≤ n ∧ n ≤ 31) ∨ (k = 30 ∧ ((1 ≤ n ∧ n ≤ 255) ∨ (n % 4 = 0 ∧ 255 < n ∧ n ≤ 1024))) ∨ (¬ (1 ≤ k ∧ k ≤ 4) ∧ ¬ (18 ≤ k ∧ k ≤ 20) ∧ k ≠ 30 ∧ n = 0)
theorem vnumber_pure (k n : Int) (hn : 0 ≤ n ∧ n ≤ 4294967295) : PureF gT 105 [.int .i64 k, .int .u32 n] (.bool (vnum k n)) := by
  refine Spec.enter gTok P105 100 Tryd.func105 rfl (by kernel_rfl) ?_
  unfold vnum
  repeat' ((conv => whnf); first | (refine (And.intro (fun _ => ?_) (fun _ => ?_) : (_ → _) ∧ (_ → _)) <;> (first | (exfalso; first | contradiction | omega) | skip)) | refine Or.inl (And.intro (by first | exact inR_i64 (by omega) | exact inR_u32 (by omega) | exact inR_u64 (by omega) | exact inR_u8 (by omega)) ?_) | (refine And.intro (show (_ : Int) ≠ 0 by omega) (Or.inl (And.intro (show (0 : Int) ≤ _ by omega) (And.intro (show (0 : Int) < _ by omega) ?_)))) | (refine And.intro (show (_ : Int) ≠ 0 by omega) (Or.inl (And.intro (show (0 : Int) ≤ _ by omega) (And.intro (by first | exact (show (_ : Int) ≤ 9223372036854775807 by omega) | exact (show (_ : Int) ≤ 4294967295 by omega)) (And.intro (show (0 : Int) < _ by omega) ?_))))) | (refine retE ?_; show ¬ _; omega) | (refine retE ?_; (show vnum _ _); unfold vnum; omega) | (refine retE ?_; show _ ↔ _; omega) | (intro _))

/-- as many registers as n, the first ones -/
def plc (i n r : Int) : Prop := (i < n → 0 ≤ r ∧ r ≤ 65535) ∧ (¬ i < n → r = -1)
set_option maxHeartbeats 4000000 in
set_option maxRecDepth 100000 in
theorem placed_to (o : VO) (n : Int) : Spec gT 104 [.ref 0 1 2, .int .i64 n] [oB o] [] fun r S' => r = .bool (plc 0 n o.t0 ∧ plc 1 n o.t1) ∧ S' = [oB o] := by
  refine Spec.leS (Spec.enter gTok P104 100 Tryd.func104 rfl (by kernel_rfl) ?_)
  refine SW.rounds gTok P104 (by kernel_rfl) (N := 60) 3 ?_
  repeat' ((conv => whnf); first | (refine (And.intro (fun _ => ?_) (fun _ => ?_) : (_ → _) ∧ (_ → _)) <;> (first | (exfalso; first | contradiction | omega) | skip)) | refine Or.inl (And.intro (by first | exact inR_i64 (by omega) | exact inR_u32 (by omega) | exact inR_u64 (by omega) | exact inR_u8 (by omega)) ?_) | (refine And.intro (show (_ : Int) ≠ 0 by omega) (Or.inl (And.intro (show (0 : Int) ≤ _ by omega) (And.intro (show (0 : Int) < _ by omega) ?_)))) | (refine And.intro (show (_ : Int) ≠ 0 by omega) (Or.inl (And.intro (show (0 : Int) ≤ _ by omega) (And.intro (by first | exact (show (_ : Int) ≤ 9223372036854775807 by omega) | exact (show (_ : Int) ≤ 4294967295 by omega)) (And.intro (show (0 : Int) < _ by omega) ?_))))) | (refine retS ?_ (by repeat' first | exact trivial | exact rfl | exact Iff.rfl | exact Or.inl rfl | refine And.intro ?_ ?_); (show plc _ _ _ ∧ plc _ _ _); (try simp only [Classical.not_not, wr1, wr2, wr3, wr4, wr5, wr6, wr7, wr8, wr9, wr10, wr11] at *); unfold plc; omega) | (refine retS ?_ (by repeat' first | exact trivial | exact rfl | exact Iff.rfl | exact Or.inl rfl | refine And.intro ?_ ?_); show ¬ _; (try simp only [Classical.not_not, wr1, wr2, wr3, wr4, wr5, wr6, wr7, wr8, wr9, wr10, wr11] at *); unfold plc; omega) | (intro _))
set_option maxHeartbeats 8000000 in
set_option maxRecDepth 100000 in
theorem placed_from (o : VO) (n : Int) : Spec gT 104 [.ref 0 3 4, .int .i64 n] [oB o] [] fun r S' => r = .bool (plc 0 n o.f0 ∧ plc 1 n o.f1 ∧ plc 2 n o.f2 ∧ plc 3 n o.f3) ∧ S' = [oB o] := by
  refine Spec.leS (Spec.enter gTok P104 100 Tryd.func104 rfl (by kernel_rfl) ?_)
  refine SW.rounds gTok P104 (by kernel_rfl) (N := 60) 5 ?_
  repeat' ((conv => whnf); first | (refine (And.intro (fun _ => ?_) (fun _ => ?_) : (_ → _) ∧ (_ → _)) <;> (first | (exfalso; first | contradiction | omega) | skip)) | refine Or.inl (And.intro (by first | exact inR_i64 (by omega) | exact inR_u32 (by omega) | exact inR_u64 (by omega) | exact inR_u8 (by omega)) ?_) | (refine And.intro (show (_ : Int) ≠ 0 by omega) (Or.inl (And.intro (show (0 : Int) ≤ _ by omega) (And.intro (show (0 : Int) < _ by omega) ?_)))) | (refine And.intro (show (_ : Int) ≠ 0 by omega) (Or.inl (And.intro (show (0 : Int) ≤ _ by omega) (And.intro (by first | exact (show (_ : Int) ≤ 9223372036854775807 by omega) | exact (show (_ : Int) ≤ 4294967295 by omega)) (And.intro (show (0 : Int) < _ by omega) ?_))))) | (refine retS ?_ (by repeat' first | exact trivial | exact rfl | exact Iff.rfl | exact Or.inl rfl | refine And.intro ?_ ?_); (show plc _ _ _ ∧ plc _ _ _ ∧ plc _ _ _ ∧ plc _ _ _); (try simp only [Classical.not_not, wr1, wr2, wr3, wr4, wr5, wr6, wr7, wr8, wr9, wr10, wr11] at *); unfold plc; omega) | (refine retS ?_ (by repeat' first | exact trivial | exact rfl | exact Iff.rfl | exact Or.inl rfl | refine And.intro ?_ ?_); show ¬ _; (try simp only [Classical.not_not, wr1, wr2, wr3, wr4, wr5, wr6, wr7, wr8, wr9, wr10, wr11] at *); unfold plc; omega) | (intro _))
theorem useO {o : VO} {f : FuncId} {args args' : List PV} {r0 : PV} {st : List PBlk} {K : PV → List PBlk → Prop} (h : Spec gT f args' [oB o] [] fun r S' => r = r0 ∧ S' = [oB o]) (hle : leL leK args args') (hu : (usesL args').all (fun l => Nat.blt l 1) = true) (hr0 : r0.uses.all (fun l => Nat.blt l 1) = true)
    (hK : stLe st [oB o] fun T => frBB [oB o] fun S1 => appK S1 T (K r0)) : Spec gT f args st [] K := Spec.useS h rfl rfl hu hr0 hle hK

def vtoL : List Int := [0, 1, 1, 0, 1, 1, 0, 1, 1, 1, 1, 1, 1, 1, 1, 1, 1, 1, 1, 1, 1, 1, 1, 2, 2, 1, 2, 1, 1, 1, 0, 0]
def vfromL : List Int := [0, 0, 0, 1, 0, 2, 3, 2, 2, 2, 2, 2, 2, 2, 2, 2, 1, 1, 1, 1, 1, 2, 2, 4, 4, 4, 2, 1, 2, 3, 1, 1]
def vto (k : Int) : Int := if 1 ≤ k ∧ k ≤ 31 then vtoL.getD k.toNat 0 else 0
def vfrom (k : Int) : Int := if 1 ≤ k ∧ k ≤ 31 then vfromL.getD k.toNat 0 else 0
theorem kinds {k : Int} (h : 1 ≤ k ∧ k ≤ 31) : k = 1 ∨ k = 2 ∨ k = 3 ∨ k = 4 ∨ k = 5 ∨ k = 6 ∨ k = 7 ∨ k = 8 ∨ k = 9 ∨ k = 10 ∨ k = 11 ∨ k = 12 ∨ k = 13 ∨ k = 14 ∨ k = 15 ∨ k = 16 ∨ k = 17 ∨ k = 18 ∨ k = 19 ∨ k = 20 ∨ k = 21 ∨ k = 22 ∨ k = 23 ∨ k = 24 ∨ k = 25 ∨ k = 26 ∨ k = 27 ∨ k = 28 ∨ k = 29 ∨ k = 30 ∨ k = 31 := by omega
set_option maxRecDepth 100000 in
theorem find_1 : PureF gT 102 [.int .i64 1] (.agg [.int .i64 (vto 1), .int .i64 (vfrom 1)]) := by
  refine Spec.enter gTok P102 100 Tryd.func102 rfl (by kernel_rfl) ?_
  refine ⟨[], no_rl, (vis_pure _).use (by repeat' first | exact trivial | exact rfl | exact Iff.rfl | exact Or.inl rfl | refine And.intro ?_ ?_) rfl rfl ?_⟩
  refine And.intro (fun h => absurd (show (1 : Int) ≤ 1 ∧ (1 : Int) ≤ 31 by decide) h) (fun _ => ?_)
  refine ⟨by decide, by decide, .inl ⟨1, rfl, ?_⟩⟩
  (refine retE ?_; repeat' first | exact trivial | exact rfl | exact Iff.rfl | exact Or.inl rfl | refine And.intro ?_ ?_)
set_option maxRecDepth 100000 in
theorem find_2 : PureF gT 102 [.int .i64 2] (.agg [.int .i64 (vto 2), .int .i64 (vfrom 2)]) := by
  refine Spec.enter gTok P102 100 Tryd.func102 rfl (by kernel_rfl) ?_
  refine ⟨[], no_rl, (vis_pure _).use (by repeat' first | exact trivial | exact rfl | exact Iff.rfl | exact Or.inl rfl | refine And.intro ?_ ?_) rfl rfl ?_⟩
  refine And.intro (fun h => absurd (show (1 : Int) ≤ 2 ∧ (2 : Int) ≤ 31 by decide) h) (fun _ => ?_)
  refine ⟨by decide, by decide, .inl ⟨2, rfl, ?_⟩⟩
  (refine retE ?_; repeat' first | exact trivial | exact rfl | exact Iff.rfl | exact Or.inl rfl | refine And.intro ?_ ?_)
set_option maxRecDepth 100000 in
theorem find_3 : PureF gT 102 [.int .i64 3] (.agg [.int .i64 (vto 3), .int .i64 (vfrom 3)]) := by
  refine Spec.enter gTok P102 100 Tryd.func102 rfl (by kernel_rfl) ?_
  refine ⟨[], no_rl, (vis_pure _).use (by repeat' first | exact trivial | exact rfl | exact Iff.rfl | exact Or.inl rfl | refine And.intro ?_ ?_) rfl rfl ?_⟩
  refine And.intro (fun h => absurd (show (1 : Int) ≤ 3 ∧ (3 : Int) ≤ 31 by decide) h) (fun _ => ?_)
  refine ⟨by decide, by decide, .inl ⟨3, rfl, ?_⟩⟩
  (refine retE ?_; repeat' first | exact trivial | exact rfl | exact Iff.rfl | exact Or.inl rfl | refine And.intro ?_ ?_)
set_option maxRecDepth 100000 in
theorem find_4 : PureF gT 102 [.int .i64 4] (.agg [.int .i64 (vto 4), .int .i64 (vfrom 4)]) := by
  refine Spec.enter gTok P102 100 Tryd.func102 rfl (by kernel_rfl) ?_
  refine ⟨[], no_rl, (vis_pure _).use (by repeat' first | exact trivial | exact rfl | exact Iff.rfl | exact Or.inl rfl | refine And.intro ?_ ?_) rfl rfl ?_⟩
  refine And.intro (fun h => absurd (show (1 : Int) ≤ 4 ∧ (4 : Int) ≤ 31 by decide) h) (fun _ => ?_)
  refine ⟨by decide, by decide, .inl ⟨4, rfl, ?_⟩⟩
  (refine retE ?_; repeat' first | exact trivial | exact rfl | exact Iff.rfl | exact Or.inl rfl | refine And.intro ?_ ?_)
set_option maxRecDepth 100000 in
theorem find_5 : PureF gT 102 [.int .i64 5] (.agg [.int .i64 (vto 5), .int .i64 (vfrom 5)]) := by
  refine Spec.enter gTok P102 100 Tryd.func102 rfl (by kernel_rfl) ?_
  refine ⟨[], no_rl, (vis_pure _).use (by repeat' first | exact trivial | exact rfl | exact Iff.rfl | exact Or.inl rfl | refine And.intro ?_ ?_) rfl rfl ?_⟩
  refine And.intro (fun h => absurd (show (1 : Int) ≤ 5 ∧ (5 : Int) ≤ 31 by decide) h) (fun _ => ?_)
  refine ⟨by decide, by decide, .inl ⟨5, rfl, ?_⟩⟩
  (refine retE ?_; repeat' first | exact trivial | exact rfl | exact Iff.rfl | exact Or.inl rfl | refine And.intro ?_ ?_)
set_option maxRecDepth 100000 in
theorem find_6 : PureF gT 102 [.int .i64 6] (.agg [.int .i64 (vto 6), .int .i64 (vfrom 6)]) := by
  refine Spec.enter gTok P102 100 Tryd.func102 rfl (by kernel_rfl) ?_
  refine ⟨[], no_rl, (vis_pure _).use (by repeat' first | exact trivial | exact rfl | exact Iff.rfl | exact Or.inl rfl | refine And.intro ?_ ?_) rfl rfl ?_⟩
  refine And.intro (fun h => absurd (show (1 : Int) ≤ 6 ∧ (6 : Int) ≤ 31 by decide) h) (fun _ => ?_)
  refine ⟨by decide, by decide, .inl ⟨6, rfl, ?_⟩⟩
  (refine retE ?_; repeat' first | exact trivial | exact rfl | exact Iff.rfl | exact Or.inl rfl | refine And.intro ?_ ?_)
set_option maxRecDepth 100000 in
theorem find_7 : PureF gT 102 [.int .i64 7] (.agg [.int .i64 (vto 7), .int .i64 (vfrom 7)]) := by
  refine Spec.enter gTok P102 100 Tryd.func102 rfl (by kernel_rfl) ?_
  refine ⟨[], no_rl, (vis_pure _).use (by repeat' first | exact trivial | exact rfl | exact Iff.rfl | exact Or.inl rfl | refine And.intro ?_ ?_) rfl rfl ?_⟩
  refine And.intro (fun h => absurd (show (1 : Int) ≤ 7 ∧ (7 : Int) ≤ 31 by decide) h) (fun _ => ?_)
  refine ⟨by decide, by decide, .inl ⟨7, rfl, ?_⟩⟩
  (refine retE ?_; repeat' first | exact trivial | exact rfl | exact Iff.rfl | exact Or.inl rfl | refine And.intro ?_ ?_)
set_option maxRecDepth 100000 in
theorem find_8 : PureF gT 102 [.int .i64 8] (.agg [.int .i64 (vto 8), .int .i64 (vfrom 8)]) := by
  refine Spec.enter gTok P102 100 Tryd.func102 rfl (by kernel_rfl) ?_
  refine ⟨[], no_rl, (vis_pure _).use (by repeat' first | exact trivial | exact rfl | exact Iff.rfl | exact Or.inl rfl | refine And.intro ?_ ?_) rfl rfl ?_⟩
  refine And.intro (fun h => absurd (show (1 : Int) ≤ 8 ∧ (8 : Int) ≤ 31 by decide) h) (fun _ => ?_)
  refine ⟨by decide, by decide, .inl ⟨8, rfl, ?_⟩⟩
  (refine retE ?_; repeat' first | exact trivial | exact rfl | exact Iff.rfl | exact Or.inl rfl | refine And.intro ?_ ?_)
set_option maxRecDepth 100000 in
theorem find_9 : PureF gT 102 [.int .i64 9] (.agg [.int .i64 (vto 9), .int .i64 (vfrom 9)]) := by
  refine Spec.enter gTok P102 100 Tryd.func102 rfl (by kernel_rfl) ?_
  refine ⟨[], no_rl, (vis_pure _).use (by repeat' first | exact trivial | exact rfl | exact Iff.rfl | exact Or.inl rfl | refine And.intro ?_ ?_) rfl rfl ?_⟩
  refine And.intro (fun h => absurd (show (1 : Int) ≤ 9 ∧ (9 : Int) ≤ 31 by decide) h) (fun _ => ?_)
  refine ⟨by decide, by decide, .inl ⟨9, rfl, ?_⟩⟩
  (refine retE ?_; repeat' first | exact trivial | exact rfl | exact Iff.rfl | exact Or.inl rfl | refine And.intro ?_ ?_)
set_option maxRecDepth 100000 in
theorem find_10 : PureF gT 102 [.int .i64 10] (.agg [.int .i64 (vto 10), .int .i64 (vfrom 10)]) := by
  refine Spec.enter gTok P102 100 Tryd.func102 rfl (by kernel_rfl) ?_
  refine ⟨[], no_rl, (vis_pure _).use (by repeat' first | exact trivial | exact rfl | exact Iff.rfl | exact Or.inl rfl | refine And.intro ?_ ?_) rfl rfl ?_⟩
  refine And.intro (fun h => absurd (show (1 : Int) ≤ 10 ∧ (10 : Int) ≤ 31 by decide) h) (fun _ => ?_)
  refine ⟨by decide, by decide, .inl ⟨10, rfl, ?_⟩⟩
  (refine retE ?_; repeat' first | exact trivial | exact rfl | exact Iff.rfl | exact Or.inl rfl | refine And.intro ?_ ?_)
set_option maxRecDepth 100000 in
theorem find_11 : PureF gT 102 [.int .i64 11] (.agg [.int .i64 (vto 11), .int .i64 (vfrom 11)]) := by
  refine Spec.enter gTok P102 100 Tryd.func102 rfl (by kernel_rfl) ?_
  refine ⟨[], no_rl, (vis_pure _).use (by repeat' first | exact trivial | exact rfl | exact Iff.rfl | exact Or.inl rfl | refine And.intro ?_ ?_) rfl rfl ?_⟩
  refine And.intro (fun h => absurd (show (1 : Int) ≤ 11 ∧ (11 : Int) ≤ 31 by decide) h) (fun _ => ?_)
  refine ⟨by decide, by decide, .inl ⟨11, rfl, ?_⟩⟩
  (refine retE ?_; repeat' first | exact trivial | exact rfl | exact Iff.rfl | exact Or.inl rfl | refine And.intro ?_ ?_)
set_option maxRecDepth 100000 in
theorem find_12 : PureF gT 102 [.int .i64 12] (.agg [.int .i64 (vto 12), .int .i64 (vfrom 12)]) := by
  refine Spec.enter gTok P102 100 Tryd.func102 rfl (by kernel_rfl) ?_
  refine ⟨[], no_rl, (vis_pure _).use (by repeat' first | exact trivial | exact rfl | exact Iff.rfl | exact Or.inl rfl | refine And.intro ?_ ?_) rfl rfl ?_⟩
  refine And.intro (fun h => absurd (show (1 : Int) ≤ 12 ∧ (12 : Int) ≤ 31 by decide) h) (fun _ => ?_)
  refine ⟨by decide, by decide, .inl ⟨12, rfl, ?_⟩⟩
  (refine retE ?_; repeat' first | exact trivial | exact rfl | exact Iff.rfl | exact Or.inl rfl | refine And.intro ?_ ?_)
set_option maxRecDepth 100000 in
theorem find_13 : PureF gT 102 [.int .i64 13] (.agg [.int .i64 (vto 13), .int .i64 (vfrom 13)]) := by
  refine Spec.enter gTok P102 100 Tryd.func102 rfl (by kernel_rfl) ?_
  refine ⟨[], no_rl, (vis_pure _).use (by repeat' first | exact trivial | exact rfl | exact Iff.rfl | exact Or.inl rfl | refine And.intro ?_ ?_) rfl rfl ?_⟩
  refine And.intro (fun h => absurd (show (1 : Int) ≤ 13 ∧ (13 : Int) ≤ 31 by decide) h) (fun _ => ?_)
  refine ⟨by decide, by decide, .inl ⟨13, rfl, ?_⟩⟩
  (refine retE ?_; repeat' first | exact trivial | exact rfl | exact Iff.rfl | exact Or.inl rfl | refine And.intro ?_ ?_)
set_option maxRecDepth 100000 in
theorem find_14 : PureF gT 102 [.int .i64 14] (.agg [.int .i64 (vto 14), .int .i64 (vfrom 14)]) := by
  refine Spec.enter gTok P102 100 Tryd.func102 rfl (by kernel_rfl) ?_
  refine ⟨[], no_rl, (vis_pure _).use (by repeat' first | exact trivial | exact rfl | exact Iff.rfl | exact Or.inl rfl | refine And.intro ?_ ?_) rfl rfl ?_⟩
  refine And.intro (fun h => absurd (show (1 : Int) ≤ 14 ∧ (14 : Int) ≤ 31 by decide) h) (fun _ => ?_)
  refine ⟨by decide, by decide, .inl ⟨14, rfl, ?_⟩⟩
  (refine retE ?_; repeat' first | exact trivial | exact rfl | exact Iff.rfl | exact Or.inl rfl | refine And.intro ?_ ?_)
set_option maxRecDepth 100000 in
theorem find_15 : PureF gT 102 [.int .i64 15] (.agg [.int .i64 (vto 15), .int .i64 (vfrom 15)]) := by
  refine Spec.enter gTok P102 100 Tryd.func102 rfl (by kernel_rfl) ?_
  refine ⟨[], no_rl, (vis_pure _).use (by repeat' first | exact trivial | exact rfl | exact Iff.rfl | exact Or.inl rfl | refine And.intro ?_ ?_) rfl rfl ?_⟩
  refine And.intro (fun h => absurd (show (1 : Int) ≤ 15 ∧ (15 : Int) ≤ 31 by decide) h) (fun _ => ?_)
  refine ⟨by decide, by decide, .inl ⟨15, rfl, ?_⟩⟩
  (refine retE ?_; repeat' first | exact trivial | exact rfl | exact Iff.rfl | exact Or.inl rfl | refine And.intro ?_ ?_)
set_option maxRecDepth 100000 in
theorem find_16 : PureF gT 102 [.int .i64 16] (.agg [.int .i64 (vto 16), .int .i64 (vfrom 16)]) := by
  refine Spec.enter gTok P102 100 Tryd.func102 rfl (by kernel_rfl) ?_
  refine ⟨[], no_rl, (vis_pure _).use (by repeat' first | exact trivial | exact rfl | exact Iff.rfl | exact Or.inl rfl | refine And.intro ?_ ?_) rfl rfl ?_⟩
  refine And.intro (fun h => absurd (show (1 : Int) ≤ 16 ∧ (16 : Int) ≤ 31 by decide) h) (fun _ => ?_)
  refine ⟨by decide, by decide, .inl ⟨16, rfl, ?_⟩⟩
  (refine retE ?_; repeat' first | exact trivial | exact rfl | exact Iff.rfl | exact Or.inl rfl | refine And.intro ?_ ?_)
set_option maxRecDepth 100000 in
theorem find_17 : PureF gT 102 [.int .i64 17] (.agg [.int .i64 (vto 17), .int .i64 (vfrom 17)]) := by
  refine Spec.enter gTok P102 100 Tryd.func102 rfl (by kernel_rfl) ?_
  refine ⟨[], no_rl, (vis_pure _).use (by repeat' first | exact trivial | exact rfl | exact Iff.rfl | exact Or.inl rfl | refine And.intro ?_ ?_) rfl rfl ?_⟩
  refine And.intro (fun h => absurd (show (1 : Int) ≤ 17 ∧ (17 : Int) ≤ 31 by decide) h) (fun _ => ?_)
  refine ⟨by decide, by decide, .inl ⟨17, rfl, ?_⟩⟩
  (refine retE ?_; repeat' first | exact trivial | exact rfl | exact Iff.rfl | exact Or.inl rfl | refine And.intro ?_ ?_)
set_option maxRecDepth 100000 in
theorem find_18 : PureF gT 102 [.int .i64 18] (.agg [.int .i64 (vto 18), .int .i64 (vfrom 18)]) := by
  refine Spec.enter gTok P102 100 Tryd.func102 rfl (by kernel_rfl) ?_
  refine ⟨[], no_rl, (vis_pure _).use (by repeat' first | exact trivial | exact rfl | exact Iff.rfl | exact Or.inl rfl | refine And.intro ?_ ?_) rfl rfl ?_⟩
  refine And.intro (fun h => absurd (show (1 : Int) ≤ 18 ∧ (18 : Int) ≤ 31 by decide) h) (fun _ => ?_)
  refine ⟨by decide, by decide, .inl ⟨18, rfl, ?_⟩⟩
  (refine retE ?_; repeat' first | exact trivial | exact rfl | exact Iff.rfl | exact Or.inl rfl | refine And.intro ?_ ?_)
set_option maxRecDepth 100000 in
theorem find_19 : PureF gT 102 [.int .i64 19] (.agg [.int .i64 (vto 19), .int .i64 (vfrom 19)]) := by
  refine Spec.enter gTok P102 100 Tryd.func102 rfl (by kernel_rfl) ?_
  refine ⟨[], no_rl, (vis_pure _).use (by repeat' first | exact trivial | exact rfl | exact Iff.rfl | exact Or.inl rfl | refine And.intro ?_ ?_) rfl rfl ?_⟩
  refine And.intro (fun h => absurd (show (1 : Int) ≤ 19 ∧ (19 : Int) ≤ 31 by decide) h) (fun _ => ?_)
  refine ⟨by decide, by decide, .inl ⟨19, rfl, ?_⟩⟩
  (refine retE ?_; repeat' first | exact trivial | exact rfl | exact Iff.rfl | exact Or.inl rfl | refine And.intro ?_ ?_)
set_option maxRecDepth 100000 in
theorem find_20 : PureF gT 102 [.int .i64 20] (.agg [.int .i64 (vto 20), .int .i64 (vfrom 20)]) := by
  refine Spec.enter gTok P102 100 Tryd.func102 rfl (by kernel_rfl) ?_
  refine ⟨[], no_rl, (vis_pure _).use (by repeat' first | exact trivial | exact rfl | exact Iff.rfl | exact Or.inl rfl | refine And.intro ?_ ?_) rfl rfl ?_⟩
  refine And.intro (fun h => absurd (show (1 : Int) ≤ 20 ∧ (20 : Int) ≤ 31 by decide) h) (fun _ => ?_)
  refine ⟨by decide, by decide, .inl ⟨20, rfl, ?_⟩⟩
  (refine retE ?_; repeat' first | exact trivial | exact rfl | exact Iff.rfl | exact Or.inl rfl | refine And.intro ?_ ?_)
set_option maxRecDepth 100000 in
theorem find_21 : PureF gT 102 [.int .i64 21] (.agg [.int .i64 (vto 21), .int .i64 (vfrom 21)]) := by
  refine Spec.enter gTok P102 100 Tryd.func102 rfl (by kernel_rfl) ?_
  refine ⟨[], no_rl, (vis_pure _).use (by repeat' first | exact trivial | exact rfl | exact Iff.rfl | exact Or.inl rfl | refine And.intro ?_ ?_) rfl rfl ?_⟩
  refine And.intro (fun h => absurd (show (1 : Int) ≤ 21 ∧ (21 : Int) ≤ 31 by decide) h) (fun _ => ?_)
  refine ⟨by decide, by decide, .inl ⟨21, rfl, ?_⟩⟩
  (refine retE ?_; repeat' first | exact trivial | exact rfl | exact Iff.rfl | exact Or.inl rfl | refine And.intro ?_ ?_)
set_option maxRecDepth 100000 in
theorem find_22 : PureF gT 102 [.int .i64 22] (.agg [.int .i64 (vto 22), .int .i64 (vfrom 22)]) := by
  refine Spec.enter gTok P102 100 Tryd.func102 rfl (by kernel_rfl) ?_
  refine ⟨[], no_rl, (vis_pure _).use (by repeat' first | exact trivial | exact rfl | exact Iff.rfl | exact Or.inl rfl | refine And.intro ?_ ?_) rfl rfl ?_⟩
  refine And.intro (fun h => absurd (show (1 : Int) ≤ 22 ∧ (22 : Int) ≤ 31 by decide) h) (fun _ => ?_)
  refine ⟨by decide, by decide, .inl ⟨22, rfl, ?_⟩⟩
  (refine retE ?_; repeat' first | exact trivial | exact rfl | exact Iff.rfl | exact Or.inl rfl | refine And.intro ?_ ?_)
set_option maxRecDepth 100000 in
theorem find_23 : PureF gT 102 [.int .i64 23] (.agg [.int .i64 (vto 23), .int .i64 (vfrom 23)]) := by
  refine Spec.enter gTok P102 100 Tryd.func102 rfl (by kernel_rfl) ?_
  refine ⟨[], no_rl, (vis_pure _).use (by repeat' first | exact trivial | exact rfl | exact Iff.rfl | exact Or.inl rfl | refine And.intro ?_ ?_) rfl rfl ?_⟩
  refine And.intro (fun h => absurd (show (1 : Int) ≤ 23 ∧ (23 : Int) ≤ 31 by decide) h) (fun _ => ?_)
  refine ⟨by decide, by decide, .inl ⟨23, rfl, ?_⟩⟩
  (refine retE ?_; repeat' first | exact trivial | exact rfl | exact Iff.rfl | exact Or.inl rfl | refine And.intro ?_ ?_)
set_option maxRecDepth 100000 in
theorem find_24 : PureF gT 102 [.int .i64 24] (.agg [.int .i64 (vto 24), .int .i64 (vfrom 24)]) := by
  refine Spec.enter gTok P102 100 Tryd.func102 rfl (by kernel_rfl) ?_
  refine ⟨[], no_rl, (vis_pure _).use (by repeat' first | exact trivial | exact rfl | exact Iff.rfl | exact Or.inl rfl | refine And.intro ?_ ?_) rfl rfl ?_⟩
  refine And.intro (fun h => absurd (show (1 : Int) ≤ 24 ∧ (24 : Int) ≤ 31 by decide) h) (fun _ => ?_)
  refine ⟨by decide, by decide, .inl ⟨24, rfl, ?_⟩⟩
  (refine retE ?_; repeat' first | exact trivial | exact rfl | exact Iff.rfl | exact Or.inl rfl | refine And.intro ?_ ?_)
set_option maxRecDepth 100000 in
theorem find_25 : PureF gT 102 [.int .i64 25] (.agg [.int .i64 (vto 25), .int .i64 (vfrom 25)]) := by
  refine Spec.enter gTok P102 100 Tryd.func102 rfl (by kernel_rfl) ?_
  refine ⟨[], no_rl, (vis_pure _).use (by repeat' first | exact trivial | exact rfl | exact Iff.rfl | exact Or.inl rfl | refine And.intro ?_ ?_) rfl rfl ?_⟩
  refine And.intro (fun h => absurd (show (1 : Int) ≤ 25 ∧ (25 : Int) ≤ 31 by decide) h) (fun _ => ?_)
  refine ⟨by decide, by decide, .inl ⟨25, rfl, ?_⟩⟩
  (refine retE ?_; repeat' first | exact trivial | exact rfl | exact Iff.rfl | exact Or.inl rfl | refine And.intro ?_ ?_)
set_option maxRecDepth 100000 in
theorem find_26 : PureF gT 102 [.int .i64 26] (.agg [.int .i64 (vto 26), .int .i64 (vfrom 26)]) := by
  refine Spec.enter gTok P102 100 Tryd.func102 rfl (by kernel_rfl) ?_
  refine ⟨[], no_rl, (vis_pure _).use (by repeat' first | exact trivial | exact rfl | exact Iff.rfl | exact Or.inl rfl | refine And.intro ?_ ?_) rfl rfl ?_⟩
  refine And.intro (fun h => absurd (show (1 : Int) ≤ 26 ∧ (26 : Int) ≤ 31 by decide) h) (fun _ => ?_)
  refine ⟨by decide, by decide, .inl ⟨26, rfl, ?_⟩⟩
  (refine retE ?_; repeat' first | exact trivial | exact rfl | exact Iff.rfl | exact Or.inl rfl | refine And.intro ?_ ?_)
set_option maxRecDepth 100000 in
theorem find_27 : PureF gT 102 [.int .i64 27] (.agg [.int .i64 (vto 27), .int .i64 (vfrom 27)]) := by
  refine Spec.enter gTok P102 100 Tryd.func102 rfl (by kernel_rfl) ?_
  refine ⟨[], no_rl, (vis_pure _).use (by repeat' first | exact trivial | exact rfl | exact Iff.rfl | exact Or.inl rfl | refine And.intro ?_ ?_) rfl rfl ?_⟩
  refine And.intro (fun h => absurd (show (1 : Int) ≤ 27 ∧ (27 : Int) ≤ 31 by decide) h) (fun _ => ?_)
  refine ⟨by decide, by decide, .inl ⟨27, rfl, ?_⟩⟩
  (refine retE ?_; repeat' first | exact trivial | exact rfl | exact Iff.rfl | exact Or.inl rfl | refine And.intro ?_ ?_)
set_option maxRecDepth 100000 in
theorem find_28 : PureF gT 102 [.int .i64 28] (.agg [.int .i64 (vto 28), .int .i64 (vfrom 28)]) := by
  refine Spec.enter gTok P102 100 Tryd.func102 rfl (by kernel_rfl) ?_
  refine ⟨[], no_rl, (vis_pure _).use (by repeat' first | exact trivial | exact rfl | exact Iff.rfl | exact Or.inl rfl | refine And.intro ?_ ?_) rfl rfl ?_⟩
  refine And.intro (fun h => absurd (show (1 : Int) ≤ 28 ∧ (28 : Int) ≤ 31 by decide) h) (fun _ => ?_)
  refine ⟨by decide, by decide, .inl ⟨28, rfl, ?_⟩⟩
  (refine retE ?_; repeat' first | exact trivial | exact rfl | exact Iff.rfl | exact Or.inl rfl | refine And.intro ?_ ?_)
set_option maxRecDepth 100000 in
theorem find_29 : PureF gT 102 [.int .i64 29] (.agg [.int .i64 (vto 29), .int .i64 (vfrom 29)]) := by
  refine Spec.enter gTok P102 100 Tryd.func102 rfl (by kernel_rfl) ?_
  refine ⟨[], no_rl, (vis_pure _).use (by repeat' first | exact trivial | exact rfl | exact Iff.rfl | exact Or.inl rfl | refine And.intro ?_ ?_) rfl rfl ?_⟩
  refine And.intro (fun h => absurd (show (1 : Int) ≤ 29 ∧ (29 : Int) ≤ 31 by decide) h) (fun _ => ?_)
  refine ⟨by decide, by decide, .inl ⟨29, rfl, ?_⟩⟩
  (refine retE ?_; repeat' first | exact trivial | exact rfl | exact Iff.rfl | exact Or.inl rfl | refine And.intro ?_ ?_)
set_option maxRecDepth 100000 in
theorem find_30 : PureF gT 102 [.int .i64 30] (.agg [.int .i64 (vto 30), .int .i64 (vfrom 30)]) := by
  refine Spec.enter gTok P102 100 Tryd.func102 rfl (by kernel_rfl) ?_
  refine ⟨[], no_rl, (vis_pure _).use (by repeat' first | exact trivial | exact rfl | exact Iff.rfl | exact Or.inl rfl | refine And.intro ?_ ?_) rfl rfl ?_⟩
  refine And.intro (fun h => absurd (show (1 : Int) ≤ 30 ∧ (30 : Int) ≤ 31 by decide) h) (fun _ => ?_)
  refine ⟨by decide, by decide, .inl ⟨30, rfl, ?_⟩⟩
  (refine retE ?_; repeat' first | exact trivial | exact rfl | exact Iff.rfl | exact Or.inl rfl | refine And.intro ?_ ?_)
set_option maxRecDepth 100000 in
theorem find_31 : PureF gT 102 [.int .i64 31] (.agg [.int .i64 (vto 31), .int .i64 (vfrom 31)]) := by
  refine Spec.enter gTok P102 100 Tryd.func102 rfl (by kernel_rfl) ?_
  refine ⟨[], no_rl, (vis_pure _).use (by repeat' first | exact trivial | exact rfl | exact Iff.rfl | exact Or.inl rfl | refine And.intro ?_ ?_) rfl rfl ?_⟩
  refine And.intro (fun h => absurd (show (1 : Int) ≤ 31 ∧ (31 : Int) ≤ 31 by decide) h) (fun _ => ?_)
  refine ⟨by decide, by decide, .inl ⟨31, rfl, ?_⟩⟩
  (refine retE ?_; repeat' first | exact trivial | exact rfl | exact Iff.rfl | exact Or.inl rfl | refine And.intro ?_ ?_)
theorem find_no (k : Int) (h : ¬ (1 ≤ k ∧ k ≤ 31)) : PureF gT 102 [.int .i64 k] (.agg [.int .i64 (vto k), .int .i64 (vfrom k)]) := by
  have e1 : vto k = 0 := if_neg h
  have e2 : vfrom k = 0 := if_neg h
  rw [e1, e2]
  refine Spec.enter gTok P102 100 Tryd.func102 rfl (by kernel_rfl) ?_
  refine ⟨[], no_rl, (vis_pure _).use (by repeat' first | exact trivial | exact rfl | exact Iff.rfl | exact Or.inl rfl | refine And.intro ?_ ?_) rfl rfl ?_⟩
  refine And.intro (fun _ => ?_) (fun h' => absurd h h')
  (refine retE ?_; repeat' first | exact trivial | exact rfl | exact Iff.rfl | exact Or.inl rfl | refine And.intro ?_ ?_)
theorem find_pure (k : Int) : PureF gT 102 [.int .i64 k] (.agg [.int .i64 (vto k), .int .i64 (vfrom k)]) := by
  by_cases h : 1 ≤ k ∧ k ≤ 31
  · rcases kinds h with rfl | rfl | rfl | rfl | rfl | rfl | rfl | rfl | rfl | rfl | rfl | rfl | rfl | rfl | rfl | rfl | rfl | rfl | rfl | rfl | rfl | rfl | rfl | rfl | rfl | rfl | rfl | rfl | rfl | rfl | rfl
    · exact find_1
    · exact find_2
    · exact find_3
    · exact find_4
    · exact find_5
    · exact find_6
    · exact find_7
    · exact find_8
    · exact find_9
    · exact find_10
    · exact find_11
    · exact find_12
    · exact find_13
    · exact find_14
    · exact find_15
    · exact find_16
    · exact find_17
    · exact find_18
    · exact find_19
    · exact find_20
    · exact find_21
    · exact find_22
    · exact find_23
    · exact find_24
    · exact find_25
    · exact find_26
    · exact find_27
    · exact find_28
    · exact find_29
    · exact find_30
    · exact find_31
    
  · exact find_no k h

end Go.Proofs.YthpkejlmelednaaDoor.Pw

/- Chapter 18 over values: which operations may be; which registers are small. -/
namespace Go.Proofs.YthpkejlmelednaaDoor.Pw
open Go Go.RowKit

/-- may an operation be? -/
def vright (o : VO) : Prop := (1 ≤ o.kind ∧ o.kind ≤ 31) ∧ (plc 0 (vto o.kind) o.t0 ∧ plc 1 (vto o.kind) o.t1) ∧ (plc 0 (vfrom o.kind) o.f0 ∧ plc 1 (vfrom o.kind) o.f1 ∧ plc 2 (vfrom o.kind) o.f2 ∧ plc 3 (vfrom o.kind) o.f3) ∧ (vto o.kind < 2 ∨ o.t0 ≠ o.t1) ∧ vnum o.kind o.n
set_option maxHeartbeats 4000000 in
set_option maxRecDepth 100000 in
theorem vright_pure (o : VO) (hn : 0 ≤ o.n ∧ o.n ≤ 4294967295) : PureF gT 48 [voP o] (.bool (vright o)) := by
  refine Spec.enter gTok P48 100 Tryd.func48 rfl (by kernel_rfl) ?_
  refine ⟨[], no_rl, (find_pure o.kind).use (by repeat' first | exact trivial | exact rfl | exact Iff.rfl | exact Or.inl rfl | refine And.intro ?_ ?_) rfl rfl ?_⟩
  refine ⟨[], no_rl, (vis_pure o.kind).use (by repeat' first | exact trivial | exact rfl | exact Iff.rfl | exact Or.inl rfl | refine And.intro ?_ ?_) rfl rfl ?_⟩
  refine And.intro (fun h1 => ?_) (fun h1 => ?_)
  · refine ⟨[], no_rl, useO (placed_to o (vto o.kind)) (by repeat' first | exact trivial | exact rfl | exact Iff.rfl | exact Or.inl rfl | refine And.intro ?_ ?_) rfl rfl (And.intro (by repeat' first | exact trivial | exact rfl | exact Iff.rfl | exact Or.inl rfl | refine And.intro ?_ ?_) ?_)⟩
    refine And.intro (fun h2 => ?_) (fun h2 => ?_)
    · refine ⟨[], no_rl, useO (placed_from o (vfrom o.kind)) (by repeat' first | exact trivial | exact rfl | exact Iff.rfl | exact Or.inl rfl | refine And.intro ?_ ?_) rfl rfl (And.intro (by repeat' first | exact trivial | exact rfl | exact Iff.rfl | exact Or.inl rfl | refine And.intro ?_ ?_) ?_)⟩
      refine And.intro (fun h3 => ?_) (fun h3 => ?_)
      · refine And.intro (fun h4 => ?_) (fun h4 => ?_)
        · refine ⟨[], no_rl, (vnumber_pure o.kind o.n hn).use (by repeat' first | exact trivial | exact rfl | exact Iff.rfl | exact Or.inl rfl | refine And.intro ?_ ?_) rfl rfl ?_⟩
          refine retE ?_
          exact (show vnum o.kind o.n ↔ vright o from ⟨fun h => ⟨h1, h2, h3, .inl h4, h⟩, fun h => h.2.2.2.2⟩)
        · refine And.intro (fun h5 => ?_) (fun h5 => ?_)
          · refine ⟨[], no_rl, (vnumber_pure o.kind o.n hn).use (by repeat' first | exact trivial | exact rfl | exact Iff.rfl | exact Or.inl rfl | refine And.intro ?_ ?_) rfl rfl ?_⟩
            refine retE ?_
            exact (show vnum o.kind o.n ↔ vright o from ⟨fun h => ⟨h1, h2, h3, .inr h5, h⟩, fun h => h.2.2.2.2⟩)
          · refine retE ?_
            exact (show ¬ vright o from fun h => h.2.2.2.1.elim h4 h5)
      · refine retE ?_
        exact (show ¬ vright o from fun h => h3 h.2.2.1)
    · refine retE ?_
      exact (show ¬ vright o from fun h => h2 h.2.1)
  · refine retE ?_
    exact (show ¬ vright o from fun h => h1 h.1)

open Classical in
noncomputable def idxG {α : Type} (p : α → Prop) : List α → Nat → Int
  | [], _ => -1
  | x :: l, i => if p x then (i : Int) else idxG p l (i + 1)
theorem idxG_iff {α : Type} {p : α → Prop} : ∀ {l : List α} {i : Nat}, 0 ≤ idxG p l i ↔ ∃ x ∈ l, p x
  | [], i => by simp [idxG]
  | x :: l, i => by
    rw [idxG]
    by_cases h : p x
    · rw [if_pos h]
      exact ⟨fun _ => ⟨x, by simp, h⟩, fun _ => by omega⟩
    · rw [if_neg h, idxG_iff (l := l)]
      refine ⟨fun ⟨y, hy, hp⟩ => ⟨y, by simp [hy], hp⟩, fun ⟨y, hy, hp⟩ => ?_⟩
      rcases List.mem_cons.1 hy with rfl | hy
      · exact absurd hp h
      · exact ⟨y, hy, hp⟩
theorem idxG_step {α : Type} {p : α → Prop} {l : List α} {i : Nat} {x : α} (h : l[i]? = some x) : (p x → idxG p (l.drop i) i = i) ∧ (¬ p x → idxG p (l.drop i) i = idxG p (l.drop (i + 1)) (i + 1)) := by
  obtain ⟨hlt, hx⟩ := List.getElem?_eq_some_iff.1 h
  rw [List.drop_eq_getElem_cons hlt, hx, idxG]
  exact ⟨fun h => if_pos h, fun h => if_neg h⟩
theorem idxG_end {α : Type} {p : α → Prop} {l : List α} {i : Nat} (h : l.length ≤ i) : idxG p (l.drop i) i = -1 := by rw [List.drop_of_length_le h]; rfl

set_option maxRecDepth 10000 in
theorem index_pure (l : List Int) (x : Int) : PureF gT 138 [.sl 1 (intsP l), .int .i64 x] (.int .i64 (idxG (x = ·) l 0)) := by
  refine Spec.enter gTok P138 100 Tryd.func138 rfl (by kernel_rfl) ?_
  intro hm
  obtain ⟨z, hz⟩ : ∃ z, z = idxG (x = ·) l 0 := ⟨_, rfl⟩
  rw [← hz]
  refine SW.loopS gTok P138 (by kernel_rfl) (α := {i : Nat // idxG (x = ·) (l.drop i) i = z}) (fun i => [(8, .int .i64 i.1)]) (fun i => l.length - i.1) ⟨0, hz.symm⟩ 60 ?_ ?_
  · repeat' first | exact trivial | exact rfl | refine And.intro ?_ ?_
  rintro ⟨i, hi⟩
  have el : (intsP l).length = l.length := List.length_map ..
  refine And.intro (fun h => ?_) (fun h => ?_)
  · have h' : (i : Int) < ((intsP l).length : Nat) := h
    refine ⟨Int, l, PV.int .i64, rfl, show (0 : Int) ≤ (i : Int) by omega, show (i : Int) < (l.length : Int) by omega, fun y hy => ?_⟩
    have hy' : l[i]? = some y := hy
    refine And.intro (fun he => ?_) (fun he => ?_)
    · refine retE ?_
      exact (show (i : Int) = z by rw [← hi, (idxG_step hy').1 he])
    · unfold maxLen at hm
      refine .inl ⟨inR_i64 (show _ ≤ (i : Int) + 1 ∧ (i : Int) + 1 ≤ _ by omega), ⟨⟨i + 1, by rw [← hi, (idxG_step hy').2 he]⟩, show l.length - (i + 1) < l.length - i by omega, ?_⟩⟩
      repeat' first | exact trivial | exact rfl | refine And.intro ?_ ?_
  · have h' : ¬ (i : Int) < ((intsP l).length : Nat) := h
    refine retE ?_
    exact (show (-1 : Int) = z by rw [← hi, idxG_end (by omega)])
theorem contains_pure (l : List Int) (x : Int) : PureF gT 110 [.sl 1 (intsP l), .int .i64 x] (.bool (x ∈ l)) := by
  refine Spec.enter gTok P110 100 Tryd.func110 rfl (by kernel_rfl) ?_
  refine ⟨[], no_rl, (index_pure l x).use (by repeat' first | exact trivial | exact rfl | exact Iff.rfl | exact Or.inl rfl | refine And.intro ?_ ?_) rfl rfl ?_⟩
  refine retE ?_
  exact (show 0 ≤ idxG (x = ·) l 0 ↔ x ∈ l by rw [idxG_iff]; exact ⟨fun ⟨y, hy, e⟩ => e ▸ hy, fun h => ⟨x, h, rfl⟩⟩)

theorem small1_spec (o : VO) (x : Int) : Spec gT 109 [.int .i64 x, .ptr 0 0] [oB o] [] fun r S' => r = .bool (x ∈ nm o.from_) ∧ S' = [oB o] := by
  refine Spec.leS (Spec.enter gTok P109 100 Tryd.func109 rfl (by kernel_rfl) ?_)
  refine ⟨[], no_rl, (uses_pure o).use (by repeat' first | exact trivial | exact rfl | exact Iff.rfl | exact Or.inl rfl | refine And.intro ?_ ?_) rfl rfl ?_⟩
  refine ⟨[], no_rl, (contains_pure _ x).use (by repeat' first | exact trivial | exact rfl | exact Iff.rfl | exact Or.inl rfl | refine And.intro ?_ ?_) rfl rfl ?_⟩
  exact retS Iff.rfl (by repeat' first | exact trivial | exact rfl | exact Iff.rfl | exact Or.inl rfl | refine And.intro ?_ ?_)
set_option maxRecDepth 10000 in
theorem indexF_spec (o : VO) (l : List Int) : Spec gT 137 [.sl 1 (intsP l), .clo 109 [.ptr 0 0]] [oB o] [] fun r S' => r = .int .i64 (idxG (· ∈ nm o.from_) l 0) ∧ S' = [oB o] := by
  refine Spec.leS (Spec.enter gTok P137 100 Tryd.func137 rfl (by kernel_rfl) ?_)
  intro hm
  obtain ⟨z, hz⟩ : ∃ z, z = idxG (· ∈ nm o.from_) l 0 := ⟨_, rfl⟩
  rw [← hz]
  refine SW.loopS gTok P137 (by kernel_rfl) (α := {i : Nat // idxG (· ∈ nm o.from_) (l.drop i) i = z}) (fun i => [(8, .int .i64 i.1)]) (fun i => l.length - i.1) ⟨0, hz.symm⟩ 60 ?_ ?_
  · repeat' first | exact trivial | exact rfl | refine And.intro ?_ ?_
  rintro ⟨i, hi⟩
  have el : (intsP l).length = l.length := List.length_map ..
  refine And.intro (fun h => ?_) (fun h => ?_)
  · have h' : (i : Int) < ((intsP l).length : Nat) := h
    refine ⟨Int, l, PV.int .i64, rfl, show (0 : Int) ≤ (i : Int) by omega, show (i : Int) < (l.length : Int) by omega, fun y hy => ?_⟩
    have hy' : l[i]? = some y := hy
    refine ⟨[], no_rl, useO (small1_spec o y) (by repeat' first | exact trivial | exact rfl | exact Iff.rfl | exact Or.inl rfl | refine And.intro ?_ ?_) rfl rfl (And.intro (by repeat' first | exact trivial | exact rfl | exact Iff.rfl | exact Or.inl rfl | refine And.intro ?_ ?_) ?_)⟩
    refine And.intro (fun he => ?_) (fun he => ?_)
    · refine retS ?_ (by repeat' first | exact trivial | exact rfl | exact Iff.rfl | exact Or.inl rfl | refine And.intro ?_ ?_)
      exact (show (i : Int) = z by rw [← hi, (idxG_step hy').1 he])
    · unfold maxLen at hm
      refine .inl ⟨inR_i64 (show _ ≤ (i : Int) + 1 ∧ (i : Int) + 1 ≤ _ by omega), ⟨⟨i + 1, by rw [← hi, (idxG_step hy').2 he]⟩, show l.length - (i + 1) < l.length - i by omega, ?_⟩⟩
      repeat' first | exact trivial | exact rfl | refine And.intro ?_ ?_
  · have h' : ¬ (i : Int) < ((intsP l).length : Nat) := h
    refine retS ?_ (by repeat' first | exact trivial | exact rfl | exact Iff.rfl | exact Or.inl rfl | refine And.intro ?_ ?_)
    exact (show (-1 : Int) = z by rw [← hi, idxG_end (by omega)])
theorem containsF_spec (o : VO) (l : List Int) : Spec gT 108 [.sl 1 (intsP l), .clo 109 [.ptr 0 0]] [oB o] [] fun r S' => r = .bool (∃ x ∈ l, x ∈ nm o.from_) ∧ S' = [oB o] := by
  refine Spec.leS (Spec.enter gTok P108 100 Tryd.func108 rfl (by kernel_rfl) ?_)
  refine ⟨[], no_rl, useO (indexF_spec o l) (by repeat' first | exact trivial | exact rfl | exact Iff.rfl | exact Or.inl rfl | refine And.intro ?_ ?_) rfl rfl (And.intro (by repeat' first | exact trivial | exact rfl | exact Iff.rfl | exact Or.inl rfl | refine And.intro ?_ ?_) ?_)⟩
  refine retS ?_ (by repeat' first | exact trivial | exact rfl | exact Iff.rfl | exact Or.inl rfl | refine And.intro ?_ ?_)
  exact (show 0 ≤ idxG (· ∈ nm o.from_) l 0 ↔ _ from idxG_iff)

/-- registers, as the caller's own -/
def dI (cs : List PV) : PBlk := ⟨.dyn, 3, 1, .w, true, cs⟩
set_option maxHeartbeats 4000000 in
set_option maxRecDepth 100000 in
theorem named_to_new (o : VO) : Spec gT 136 [.ref 0 1 2] [oB o] [] fun r S' => r = .wref 1 ∧ S' = [oB o, dI (intsP (nm o.to))] := by
  refine Spec.enterN gTok P136 100 Tryd.func136 rfl (by kernel_rfl) ?_
  refine SW.rounds gTok P136 (by kernel_rfl) (N := 60) 3 ?_
  repeat' ((conv => whnf); first | (refine (And.intro (fun _ => ?_) (fun _ => ?_) : (_ → _) ∧ (_ → _)) <;> (first | (exfalso; first | contradiction | omega) | skip)) | refine Or.inl (And.intro (by first | exact inR_i64 (by omega) | exact inR_u32 (by omega) | exact inR_u64 (by omega) | exact inR_u8 (by omega)) ?_) | (refine And.intro (show (_ : Int) ≠ 0 by omega) (Or.inl (And.intro (show (0 : Int) ≤ _ by omega) (And.intro (show (0 : Int) < _ by omega) ?_)))) | (refine And.intro (show (_ : Int) ≠ 0 by omega) (Or.inl (And.intro (show (0 : Int) ≤ _ by omega) (And.intro (by first | exact (show (_ : Int) ≤ 9223372036854775807 by omega) | exact (show (_ : Int) ≤ 4294967295 by omega)) (And.intro (show (0 : Int) < _ by omega) ?_))))) | (refine Exists.intro [some 0, some 2] (Exists.intro [(2, .wref 1)] (Exists.intro [oB o, dI (intsP (nm o.to))] (And.intro ?_ (And.intro (Nat.le_of_ble_eq_true rfl) (And.intro rfl rfl))))); (repeat' first | exact trivial | exact rfl | refine And.intro ?_ ?_); show _ = _; (try simp only [Classical.not_not] at *); simp only [VO.to, nm_cons, nm_nil, *, if_true, if_false]; rfl) | (refine Exists.intro [some 0, some 4] (Exists.intro [(2, .wref 1)] (Exists.intro [oB o, dI (intsP (nm o.to))] (And.intro ?_ (And.intro (Nat.le_of_ble_eq_true rfl) (And.intro rfl rfl))))); (repeat' first | exact trivial | exact rfl | refine And.intro ?_ ?_); show _ = _; (try simp only [Classical.not_not] at *); simp only [VO.to, nm_cons, nm_nil, *, if_true, if_false]; rfl) | ((try simp only [Classical.not_not] at *); (rw [show nm o.to = [] by simp only [VO.to, nm_cons, nm_nil, *, if_true, if_false]]); refine Exists.intro [some 0, none] (Exists.intro [(2, .wref 1)] (Exists.intro [oB o, dI []] (And.intro ?_ (And.intro (Nat.le_of_ble_eq_true rfl) (And.intro rfl rfl))))); (repeat' first | exact trivial | exact rfl | refine And.intro ?_ ?_)) | (intro _))
set_option maxHeartbeats 4000000 in
set_option maxRecDepth 100000 in
theorem named_from_new (o : VO) : Spec gT 136 [.ref 0 3 4] [oB o] [] fun r S' => r = .wref 1 ∧ S' = [oB o, dI (intsP (nm o.from_))] := by
  refine Spec.enterN gTok P136 100 Tryd.func136 rfl (by kernel_rfl) ?_
  refine SW.rounds gTok P136 (by kernel_rfl) (N := 60) 5 ?_
  repeat' ((conv => whnf); first | (refine (And.intro (fun _ => ?_) (fun _ => ?_) : (_ → _) ∧ (_ → _)) <;> (first | (exfalso; first | contradiction | omega) | skip)) | refine Or.inl (And.intro (by first | exact inR_i64 (by omega) | exact inR_u32 (by omega) | exact inR_u64 (by omega) | exact inR_u8 (by omega)) ?_) | (refine And.intro (show (_ : Int) ≠ 0 by omega) (Or.inl (And.intro (show (0 : Int) ≤ _ by omega) (And.intro (show (0 : Int) < _ by omega) ?_)))) | (refine And.intro (show (_ : Int) ≠ 0 by omega) (Or.inl (And.intro (show (0 : Int) ≤ _ by omega) (And.intro (by first | exact (show (_ : Int) ≤ 9223372036854775807 by omega) | exact (show (_ : Int) ≤ 4294967295 by omega)) (And.intro (show (0 : Int) < _ by omega) ?_))))) | (refine Exists.intro [some 0, some 2] (Exists.intro [(2, .wref 1)] (Exists.intro [oB o, dI (intsP (nm o.from_))] (And.intro ?_ (And.intro (Nat.le_of_ble_eq_true rfl) (And.intro rfl rfl))))); (repeat' first | exact trivial | exact rfl | refine And.intro ?_ ?_); show _ = _; (try simp only [Classical.not_not] at *); simp only [VO.from_, nm_cons, nm_nil, *, if_true, if_false]; rfl) | (refine Exists.intro [some 0, some 4] (Exists.intro [(2, .wref 1)] (Exists.intro [oB o, dI (intsP (nm o.from_))] (And.intro ?_ (And.intro (Nat.le_of_ble_eq_true rfl) (And.intro rfl rfl))))); (repeat' first | exact trivial | exact rfl | refine And.intro ?_ ?_); show _ = _; (try simp only [Classical.not_not] at *); simp only [VO.from_, nm_cons, nm_nil, *, if_true, if_false]; rfl) | (refine Exists.intro [some 0, some 6] (Exists.intro [(2, .wref 1)] (Exists.intro [oB o, dI (intsP (nm o.from_))] (And.intro ?_ (And.intro (Nat.le_of_ble_eq_true rfl) (And.intro rfl rfl))))); (repeat' first | exact trivial | exact rfl | refine And.intro ?_ ?_); show _ = _; (try simp only [Classical.not_not] at *); simp only [VO.from_, nm_cons, nm_nil, *, if_true, if_false]; rfl) | (refine Exists.intro [some 0, some 8] (Exists.intro [(2, .wref 1)] (Exists.intro [oB o, dI (intsP (nm o.from_))] (And.intro ?_ (And.intro (Nat.le_of_ble_eq_true rfl) (And.intro rfl rfl))))); (repeat' first | exact trivial | exact rfl | refine And.intro ?_ ?_); show _ = _; (try simp only [Classical.not_not] at *); simp only [VO.from_, nm_cons, nm_nil, *, if_true, if_false]; rfl) | ((try simp only [Classical.not_not] at *); (rw [show nm o.from_ = [] by simp only [VO.from_, nm_cons, nm_nil, *, if_true, if_false]]); refine Exists.intro [some 0, none] (Exists.intro [(2, .wref 1)] (Exists.intro [oB o, dI []] (And.intro ?_ (And.intro (Nat.le_of_ble_eq_true rfl) (And.intro rfl rfl))))); (repeat' first | exact trivial | exact rfl | refine And.intro ?_ ?_)) | (intro _))
theorem uses_new (o : VO) : Spec gT 106 [voP o] [] [] fun r S' => r = .wref 0 ∧ S' = [dI (intsP (nm o.from_))] := by
  refine Spec.enterN gTok P106 100 Tryd.func106 rfl (by kernel_rfl) ?_
  refine ⟨[], no_rl, (named_from_new o).mono ?_⟩
  rintro r S' ⟨rfl, rfl⟩
  refine Exists.intro [some 1] (Exists.intro [(2, .wref 0)] (Exists.intro [dI (intsP (nm o.from_))] (And.intro ?_ (And.intro (Nat.le_of_ble_eq_true rfl) (And.intro rfl rfl)))))
  repeat' first | exact trivial | exact rfl | refine And.intro ?_ ?_

/-- all registers of the eight, and those that are set none that is read -/
def vsmall (o : VO) : Prop := (∀ x ∈ nm o.from_ ++ nm o.to, x < 8) ∧ ¬ ∃ x ∈ nm o.to, x ∈ nm o.from_
theorem nm_len (l : List Int) : (nm l).length ≤ l.length := List.length_filter_le ..
set_option maxHeartbeats 4000000 in
set_option maxRecDepth 100000 in
theorem small_pure (o : VO) : PureF gT 49 [voP o] (.bool (vsmall o)) := by
  have l1 : (intsP (nm o.from_)).length ≤ 4 := by rw [intsP, List.length_map]; exact nm_len _
  have l2 : (intsP (nm o.to)).length ≤ 2 := by rw [intsP, List.length_map]; exact nm_len _
  refine Spec.enter gTok P49 100 Tryd.func49 rfl (by kernel_rfl) ?_
  refine ⟨[], no_rl, (uses_new o).useNew rfl rfl rfl (by repeat' first | exact trivial | exact rfl | exact Iff.rfl | exact Or.inl rfl | refine And.intro ?_ ?_) rfl ?_⟩
  refine ⟨[], no_rl, (sets_pure o).use (by repeat' first | exact trivial | exact rfl | exact Iff.rfl | exact Or.inl rfl | refine And.intro ?_ ?_) rfl rfl ?_⟩
  have l3 : (intsP (nm o.from_) ++ intsP (nm o.to)).length = (nm o.from_ ++ nm o.to).length := by simp [intsP]
  have l4 : (nm o.from_ ++ nm o.to).length ≤ 6 := by rw [← l3, List.length_append]; omega
  have e3 : intsP (nm o.from_) ++ intsP (nm o.to) = (nm o.from_ ++ nm o.to).map (PV.int .i64) := by simp [intsP]
  refine ⟨show (intsP (nm o.from_)).length + (intsP (nm o.to)).length ≤ maxLen by unfold maxLen; omega, show ((intsP (nm o.from_)).length + (intsP (nm o.to)).length) * 8 ≤ 140737488355328 by omega, ?_⟩
  intro _
  refine SW.loopS gTok P49 (by kernel_rfl) (α := {i : Nat // ∀ x ∈ (nm o.from_ ++ nm o.to).take i, x < 8}) (fun i => [(11, .int .i64 i.1)]) (fun i => (nm o.from_ ++ nm o.to).length - i.1) ⟨0, by simp⟩ 60 ?_ ?_
  · repeat' first | exact trivial | exact rfl | refine And.intro ?_ ?_
  rintro ⟨i, hi⟩
  refine And.intro (fun h => ?_) (fun h => ?_)
  · have h' : (i : Int) < ((intsP (nm o.from_) ++ intsP (nm o.to)).length : Nat) := h
    refine ⟨show (0 : Int) ≤ (i : Int) by omega, show (i : Int) < ((intsP (nm o.from_) ++ intsP (nm o.to)).length : Nat) by omega, Int, nm o.from_ ++ nm o.to, PV.int .i64, e3, show (i : Int).toNat < (nm o.from_ ++ nm o.to).length by omega, fun x hx => ?_⟩
    have hx' : (nm o.from_ ++ nm o.to)[i]? = some x := hx
    refine And.intro (fun h8 => ?_) (fun h8 => ?_)
    · refine retE ?_
      exact (show ¬ vsmall o from fun hs => by have := hs.1 x (List.mem_of_getElem? hx'); omega)
    · refine .inl ⟨inR_i64 (show _ ≤ (i : Int) + 1 ∧ (i : Int) + 1 ≤ _ by omega), ⟨⟨i + 1, fun y hy => ?_⟩, show (nm o.from_ ++ nm o.to).length - (i + 1) < (nm o.from_ ++ nm o.to).length - i by omega, ?_⟩⟩
      · rw [List.take_add_one, hx', List.mem_append] at hy
        rcases hy with hy | hy
        · exact hi y hy
        · simp at hy; subst hy; omega
      · repeat' first | exact trivial | exact rfl | refine And.intro ?_ ?_
  · have h' : ¬ (i : Int) < ((intsP (nm o.from_) ++ intsP (nm o.to)).length : Nat) := h
    rw [List.take_of_length_le (by omega)] at hi
    refine ⟨[], no_rl, (sets_pure o).use (by repeat' first | exact trivial | exact rfl | exact Iff.rfl | exact Or.inl rfl | refine And.intro ?_ ?_) rfl rfl ?_⟩
    refine ⟨[], no_rl, useO (containsF_spec o (nm o.to)) (by repeat' first | exact trivial | exact rfl | exact Iff.rfl | exact Or.inl rfl | refine And.intro ?_ ?_) rfl rfl (And.intro (by repeat' first | exact trivial | exact rfl | exact Iff.rfl | exact Or.inl rfl | refine And.intro ?_ ?_) ?_)⟩
    refine retE ?_
    exact (show (¬ ∃ x ∈ nm o.to, x ∈ nm o.from_) ↔ vsmall o from ⟨fun h => ⟨hi, h⟩, fun h => h.2⟩)

end Go.Proofs.YthpkejlmelednaaDoor.Pw

/- Chapter 18 over values: slices.Grow, slices.Concat at instructions. -/
namespace Go.Proofs.YthpkejlmelednaaDoor.Pw
open Go Go.RowKit

def zInst : Value := .agg #[.int .i64 0, .int .i64 0, .int .i64 0, .int .i64 0, .int .i64 0, .int .i64 0, .int .i64 0, .int .i64 0, .int .i64 0, .int .i64 0, .int .i64 0]
/-- slices.Grow of nil -/
theorem grow_zero (w : World) : Calls Tryd.prog 111 #[.slice none 0 0, .int .i64 0] w fun e w' => e = .returned (.slice none 0 0) ∧ w' = w := by
  go_enter Tryd.func111, Tryd.ntmps111
  go_wp2
  go_ret
  exact ⟨rfl, rfl⟩
set_option maxHeartbeats 4000000 in
set_option maxRecDepth 100000 in
theorem grow_some (n : Nat) (h0 : 0 < n) (hbig : n * 88 ≤ 140737488355328) (w : World) : Calls Tryd.prog 111 #[.slice none 0 0, .int .i64 n] w fun e w' =>
    ∃ (cs : Array Value), cs.size = grownCap w n 0 24 * 11 ∧ e = .returned (.slice (some ⟨w.heap.size, 0, none⟩) 0 (grownCap w n 0 24)) ∧ w' = w.drew.alloc (.cells cs 24) := by
  have h1 : ¬ ((n : Int) < 0) := by omega
  have h3 : wrap64 (n : Int) = n := by unfold wrap64; omega
  have h4 : (n : Int) > 0 := by omega
  obtain ⟨i0, hi0, hz0, hs0, hb0⟩ : ∃ i, Tryd.prog.info? 24 = some i ∧ i.zero = some zInst ∧ i.size = 11 ∧ i.bytes = 88 := ⟨Tryd.t24, by kernel_rfl, by kernel_rfl, by kernel_rfl, by kernel_rfl⟩
  have hrz : ∀ ty, (Builtin.append_ #[42, 3] ty #[.slice none 0 0, .int .i64 n]).run Tryd.prog w =
      .ok (.slice (some ⟨w.heap.size, 0, none⟩) n (grownCap w n 0 24)) (w.drew.alloc (.cells (#[] ++ Builtin.zeroCells zInst.cells n ++ Builtin.zeroCells zInst.cells (grownCap w n 0 24 - n)) 24)) := fun ty => by
    have h := Lib.run_append_grow_zeros w 42 3 ty 24 i0 zInst .i64 .i64 Tryd.underlying42 Tryd.underlying3 hi0 hz0 none 0 0 [] (run_firstCells_none w.drew i0.size 0 0 0) n h0 (by omega) (by omega) (by omega)
      (by rw [hb0]; omega) (by rw [Nat.zero_add]; exact growslice_fits h0 (by rw [hb0]; exact hbig))
    rw [Nat.zero_add] at h
    exact h
  obtain ⟨C, hC⟩ : ∃ C, C = #[] ++ Builtin.zeroCells zInst.cells n ++ Builtin.zeroCells zInst.cells (grownCap w n 0 24 - n) := ⟨_, rfl⟩
  have hGn : n ≤ grownCap w n 0 24 := grownCap_ge w _ _ _
  have hCs : C.size = grownCap w n 0 24 * 11 := by
    rw [hC]
    simp only [Array.size_append, size_zeroCells, List.size_toArray, List.length_nil, Nat.zero_add]
    rw [show zInst.cells.size = 11 from rfl, ← Nat.add_mul, Nat.add_sub_cancel' hGn]
  rw [← hC] at hrz
  clear hC
  obtain ⟨G, hG⟩ : ∃ G, G = grownCap w n 0 24 := ⟨_, rfl⟩
  have hG63 : G ≤ 9223372036854775807 := by
    have := grownCap_le_maxLen w n 0 24 (by unfold maxLen; omega)
    rw [← hG] at this
    unfold maxLen at this
    omega
  rw [← hG] at hrz hGn hCs ⊢
  clear hG hi0 hz0 hs0 hb0
  go_enter Tryd.func111, Tryd.ntmps111
  go_wp2_with (at_builtin; refine Lib.wpList_append_run _ rfl _ _ _ _ rfl _ _ rfl rfl _ _ (hrz _) ?_)
  all_goals (go_ret; exact ⟨C, hCs, rfl, rfl⟩)

def dIn (cs : List PV) : PBlk := ⟨.dyn, 24, 11, .w, true, cs⟩
theorem grow_new (n : Nat) (hbig : n * 88 ≤ 140737488355328) : Spec gT 111 [.nil, .int .i64 n] [] [] fun r S' => r = .wref 0 ∧ S' = [dIn []] := by
  refine Spec.intro (entersT Tryd.func111 rfl (by kernel_rfl)) fun I β w vals hH hM hA => ?_
  obtain ⟨v, u, rfl, h1, h2⟩ := isL2 hA
  simp only [PV.Is] at h1 h2
  subst h1; subst h2
  rcases Nat.eq_zero_or_pos n with rfl | h0
  · refine (grow_zero w).mono ?_
    rintro e w' ⟨rfl, rfl⟩
    have hadd := hH.add (w' := w') (b := dIn []) (p := ⟨none, 0, 0⟩) (fun _ _ => rfl) (fun g o ha => by cases ha) ⟨_, Places.set_self .., ⟨by decide, rfl, Nat.le_refl _, Nat.zero_le _⟩, .inl ⟨rfl, rfl⟩⟩
    exact ⟨_, .wref 0, [dIn []], I, _, rfl, ⟨rfl, rfl⟩, (by simp only [PV.Is]; exact ⟨_, Places.set_self .., rfl⟩), hadd, hM, Ext.add hH rfl rfl rfl (Nat.le_refl _) (fun _ _ _ => rfl) (fun g o ha => by cases ha), Nat.zero_le _, fun l hl => absurd hl (Nat.not_lt_zero _)⟩
  · refine (grow_some n h0 hbig w).mono ?_
    rintro e w' ⟨cs, hcs, rfl, rfl⟩
    have hH0 : HeapOk I β [] w.drew := hH.ofHeap rfl
    have hcm : grownCap w n 0 24 ≤ maxLen := grownCap_le_maxLen w n 0 24 (by unfold maxLen; omega)
    obtain ⟨G, hG⟩ : ∃ G, G = grownCap w n 0 24 := ⟨_, rfl⟩
    rw [← hG] at hcs hcm ⊢
    have hI : ∀ g, I g → g < w.drew.heap.size := hM.imm
    obtain ⟨hA1, hE⟩ := alloc_new (vs := cs) (t := 24) hH0 hI (b := dIn []) (p := ⟨some (w.heap.size, 0), 0, G⟩) rfl (fun ho =>
      ⟨_, Places.set_self .., ⟨by decide, rfl, Nat.zero_le _, hcm⟩, .inr ⟨w.heap.size, cs, (0, 0), rfl, Ev.heap_new w.drew _, (by simp only [dIn, IsEs]), ho, hcs⟩⟩) rfl
    refine ⟨_, .wref 0, [dIn []], I, _, rfl, ⟨rfl, rfl⟩, (by simp only [PV.Is]; exact ⟨_, Places.set_self .., rfl⟩), hA1, ?_, (show Ext I β [] w I β [] w.drew from Ext.ofHeap rfl rfl rfl rfl).trans hE, Nat.zero_le _, fun l hl => absurd hl (Nat.not_lt_zero _)⟩
    exact hM.below ⟨rfl, rfl, rfl, by simp, fun g hg => Ev.heap_old w.drew _ g hg⟩

/-- an instruction -/
structure IN where
  form : Int
  rd : Int
  rn : Int
  rm : Int
  ra : Int
  imm : Int
  kind : Int
  by_ : Int
  set : Int
  cond : Int
  regs : Int
def inFs (i : IN) : List PV := [.int .i64 i.form, .int .i64 i.rd, .int .i64 i.rn, .int .i64 i.rm, .int .i64 i.ra, .int .i64 i.imm, .int .i64 i.kind, .int .i64 i.by_, .int .i64 i.set, .int .i64 i.cond, .int .i64 i.regs]
def inP (i : IN) : PV := .agg (inFs i)
def insP (l : List IN) : List PV := l.map inP

set_option maxHeartbeats 4000000 in
set_option maxRecDepth 100000 in
theorem concat_pure (a b c d : List IN) (h : a.length + b.length + c.length + d.length ≤ 1000000) : PureF gT 52 [.sl 1 [.sl 11 (insP a), .sl 11 (insP b), .sl 11 (insP c), .sl 11 (insP d)]] (.sl 11 (insP (a ++ b ++ c ++ d))) := by
  have ha : (insP a).length = a.length := List.length_map ..
  have hb : (insP b).length = b.length := List.length_map ..
  have hc : (insP c).length = c.length := List.length_map ..
  have hd : (insP d).length = d.length := List.length_map ..
  refine Spec.enter gTok P52 100 Tryd.func52 rfl (by kernel_rfl) ?_
  intro _
  refine SW.rounds gTok P52 (by kernel_rfl) (N := 60) 5 ?_
  refine And.intro (fun _ => ?_) (fun h => absurd (show (0 : Int) < 4 by decide) h)
  refine ⟨PV, [.sl 11 (insP a), .sl 11 (insP b), .sl 11 (insP c), .sl 11 (insP d)], id, rfl, by decide, show (_ : Int) < 4 by decide, fun x hx => ?_⟩
  obtain rfl : PV.sl 11 (insP a) = x := Option.some.inj hx
  intro _
  refine .inl ⟨inR_i64 (by omega), ?_⟩
  refine And.intro (fun h => absurd h (by omega)) (fun _ => ?_)
  refine And.intro (fun _ => ?_) (fun h => absurd (show (1 : Int) < 4 by decide) h)
  refine ⟨PV, [.sl 11 (insP a), .sl 11 (insP b), .sl 11 (insP c), .sl 11 (insP d)], id, rfl, by decide, show (_ : Int) < 4 by decide, fun x hx => ?_⟩
  obtain rfl : PV.sl 11 (insP b) = x := Option.some.inj hx
  intro _
  refine .inl ⟨inR_i64 (by omega), ?_⟩
  refine And.intro (fun h => absurd h (by omega)) (fun _ => ?_)
  refine And.intro (fun _ => ?_) (fun h => absurd (show (2 : Int) < 4 by decide) h)
  refine ⟨PV, [.sl 11 (insP a), .sl 11 (insP b), .sl 11 (insP c), .sl 11 (insP d)], id, rfl, by decide, show (_ : Int) < 4 by decide, fun x hx => ?_⟩
  obtain rfl : PV.sl 11 (insP c) = x := Option.some.inj hx
  intro _
  refine .inl ⟨inR_i64 (by omega), ?_⟩
  refine And.intro (fun h => absurd h (by omega)) (fun _ => ?_)
  refine And.intro (fun _ => ?_) (fun h => absurd (show (3 : Int) < 4 by decide) h)
  refine ⟨PV, [.sl 11 (insP a), .sl 11 (insP b), .sl 11 (insP c), .sl 11 (insP d)], id, rfl, by decide, show (_ : Int) < 4 by decide, fun x hx => ?_⟩
  obtain rfl : PV.sl 11 (insP d) = x := Option.some.inj hx
  intro _
  refine .inl ⟨inR_i64 (by omega), ?_⟩
  refine And.intro (fun h => absurd h (by omega)) (fun _ => ?_)
  refine And.intro (fun h => absurd (show (4 : Int) < 4 from h) (by decide)) (fun _ => ?_)
  refine ⟨[], no_rl, (grow_new (a.length + b.length + c.length + d.length) (by omega)).useNew rfl rfl rfl ⟨trivial, (show _ = _ by omega), trivial⟩ rfl ?_⟩
  intro _
  refine SW.rounds gTok P52 (by kernel_rfl) (N := 60) 5 ?_
  refine And.intro (fun _ => ?_) (fun h => absurd (show (0 : Int) < 4 by decide) h)
  refine ⟨PV, [.sl 11 (insP a), .sl 11 (insP b), .sl 11 (insP c), .sl 11 (insP d)], id, rfl, by decide, show (_ : Int) < 4 by decide, fun x hx => ?_⟩
  obtain rfl : PV.sl 11 (insP a) = x := Option.some.inj hx
  refine ⟨show (([] : List PV)).length + (insP a).length ≤ maxLen by simp only [List.length_append, List.length_nil, ha, hb, hc, hd]; unfold maxLen; omega, show ((([] : List PV)).length + (insP a).length) * 88 ≤ 140737488355328 by simp only [List.length_append, List.length_nil, ha, hb, hc, hd]; omega, ?_⟩
  refine And.intro (fun _ => ?_) (fun h => absurd (show (1 : Int) < 4 by decide) h)
  refine ⟨PV, [.sl 11 (insP a), .sl 11 (insP b), .sl 11 (insP c), .sl 11 (insP d)], id, rfl, by decide, show (_ : Int) < 4 by decide, fun x hx => ?_⟩
  obtain rfl : PV.sl 11 (insP b) = x := Option.some.inj hx
  refine ⟨show (([] : List PV) ++ insP a).length + (insP b).length ≤ maxLen by simp only [List.length_append, List.length_nil, ha, hb, hc, hd]; unfold maxLen; omega, show ((([] : List PV) ++ insP a).length + (insP b).length) * 88 ≤ 140737488355328 by simp only [List.length_append, List.length_nil, ha, hb, hc, hd]; omega, ?_⟩
  refine And.intro (fun _ => ?_) (fun h => absurd (show (2 : Int) < 4 by decide) h)
  refine ⟨PV, [.sl 11 (insP a), .sl 11 (insP b), .sl 11 (insP c), .sl 11 (insP d)], id, rfl, by decide, show (_ : Int) < 4 by decide, fun x hx => ?_⟩
  obtain rfl : PV.sl 11 (insP c) = x := Option.some.inj hx
  refine ⟨show (([] : List PV) ++ insP a ++ insP b).length + (insP c).length ≤ maxLen by simp only [List.length_append, List.length_nil, ha, hb, hc, hd]; unfold maxLen; omega, show ((([] : List PV) ++ insP a ++ insP b).length + (insP c).length) * 88 ≤ 140737488355328 by simp only [List.length_append, List.length_nil, ha, hb, hc, hd]; omega, ?_⟩
  refine And.intro (fun _ => ?_) (fun h => absurd (show (3 : Int) < 4 by decide) h)
  refine ⟨PV, [.sl 11 (insP a), .sl 11 (insP b), .sl 11 (insP c), .sl 11 (insP d)], id, rfl, by decide, show (_ : Int) < 4 by decide, fun x hx => ?_⟩
  obtain rfl : PV.sl 11 (insP d) = x := Option.some.inj hx
  refine ⟨show (([] : List PV) ++ insP a ++ insP b ++ insP c).length + (insP d).length ≤ maxLen by simp only [List.length_append, List.length_nil, ha, hb, hc, hd]; unfold maxLen; omega, show ((([] : List PV) ++ insP a ++ insP b ++ insP c).length + (insP d).length) * 88 ≤ 140737488355328 by simp only [List.length_append, List.length_nil, ha, hb, hc, hd]; omega, ?_⟩
  refine And.intro (fun h => absurd (show (4 : Int) < 4 from h) (by decide)) (fun _ => ?_)
  refine retE ?_
  exact (show [] ++ insP a ++ insP b ++ insP c ++ insP d = _ by simp [insP])

end Go.Proofs.YthpkejlmelednaaDoor.Pw

/- Chapter 18 over values: an operation's instructions. -/
namespace Go.Proofs.YthpkejlmelednaaDoor.Pw
open Go Go.RowKit

theorem facOf {I : Nat → Prop} {w : World} (hM : ImmOk gT I w) : Fac w :=
  tab_row hM (g := 2) (k := .u32) (l := [1, 65537, 16777472, 16843009]) (show (2, facP) ∈ gT.tabs from List.mem_cons_self)
theorem immof_pure (x : Int) (hx : 0 ≤ x ∧ x ≤ 4294967295) : PureF gT 115 [.int .u32 x] (.tup [.int .i64 (Rm.ofN x), .int .i64 (Rm.ofE x)]) :=
  PureF.of_at (entersT Tryd.func115 rfl (by kernel_rfl)) fun I β w vals hM hA => by
    obtain ⟨v, rfl, h1⟩ := isL1 hA
    simp only [PV.Is] at h1
    subst h1
    refine ⟨.tuple #[.int .i64 (Rm.ofN x), .int .i64 (Rm.ofE x)], is_tup (isLc (is_int ..) (isLc (is_int ..) isLn)), fun _ _ _ => is_tup (isLc (is_int ..) (isLc (is_int ..) isLn)), ?_⟩
    refine (of_any x w (facOf hM) hx.1 hx.2).mono ?_
    rintro e w' ⟨rfl, rfl⟩
    exact ⟨rfl, Below.refl _ _⟩
theorem refof_pure (x : Int) (hx : 0 ≤ x ∧ x ≤ 4294967295) : PureF gT 116 [.int .u32 x] (.int .i64 (Rm.ofM x)) :=
  PureF.of_at (entersT Tryd.func116 rfl (by kernel_rfl)) fun I β w vals hM hA => by
    obtain ⟨v, rfl, h1⟩ := isL1 hA
    simp only [PV.Is] at h1
    subst h1
    refine ⟨.int .i64 (Rm.ofM x), is_int .., fun _ _ _ => is_int .., ?_⟩
    refine (refof_any x w hx.1 hx.2).mono ?_
    rintro e w' ⟨rfl, rfl⟩
    exact ⟨rfl, Below.refl _ _⟩

def iZ : IN := ⟨0, 0, 0, 0, 0, 0, 0, 0, 0, 0, 0⟩
def iF (f d n m : Int) : IN := { iZ with form := f, rd := d, rn := n, rm := m }
def iM (f d n : Int) : IN := { iZ with form := f, rd := d, imm := n }
def borrowI (t : Int) : IN := iF 73 t t t
def upperI (t : Int) : IN := { iZ with form := 2, rd := t, rm := t, imm := 31 }
set_option maxRecDepth 100000 in
theorem borrow_pure (t : Int) : PureF gT 112 [.int .i64 t] (inP (borrowI t)) := by
  refine Spec.enter gTok P112 100 Tryd.func112 rfl (by kernel_rfl) ?_
  (refine retE ?_; repeat' first | exact trivial | exact rfl | exact Iff.rfl | exact Or.inl rfl | refine And.intro ?_ ?_)
set_option maxRecDepth 100000 in
theorem upper_pure (t : Int) : PureF gT 113 [.int .i64 t] (inP (upperI t)) := by
  refine Spec.enter gTok P113 100 Tryd.func113 rfl (by kernel_rfl) ?_
  (refine retE ?_; repeat' first | exact trivial | exact rfl | exact Iff.rfl | exact Or.inl rfl | refine And.intro ?_ ?_)
/-- a form of three registers, by the kind -/
def threeF (k : Int) : Int := if k = 7 then 66 else if k = 8 then 68 else if k = 9 then 70 else if k = 10 then 4 else if k = 11 then 5 else if k = 12 then 92 else if k = 13 then 88 else if k = 14 then 89 else if k = 15 then 91 else if k = 28 then 97 else 0
theorem three_pure (k : Int) : PureF gT 50 [.int .i64 k] (.int .i64 (threeF k)) := by
  refine Spec.enter gTok P50 100 Tryd.func50 rfl (by kernel_rfl) ?_
  repeat' ((conv => whnf); first | (refine (And.intro (fun _ => ?_) (fun _ => ?_) : (_ → _) ∧ (_ → _)) <;> (first | (exfalso; first | contradiction | omega) | skip)) | refine Or.inl (And.intro (by first | exact inR_i64 (by omega) | exact inR_u32 (by omega) | exact inR_u64 (by omega) | exact inR_u8 (by omega)) ?_) | (refine And.intro (show (_ : Int) ≠ 0 by omega) (Or.inl (And.intro (show (0 : Int) ≤ _ by omega) (And.intro (show (0 : Int) < _ by omega) ?_)))) | (refine And.intro (show (_ : Int) ≠ 0 by omega) (Or.inl (And.intro (show (0 : Int) ≤ _ by omega) (And.intro (by first | exact (show (_ : Int) ≤ 9223372036854775807 by omega) | exact (show (_ : Int) ≤ 4294967295 by omega)) (And.intro (show (0 : Int) < _ by omega) ?_))))) | (refine retE ?_; show _ = _; simp only [threeF, *, if_true, if_false, reduceIte, Int.reduceEq]) | (intro _))
theorem is_pure (f : Int) : PureF gT 51 [.int .i64 f] (.bool (1 ≤ f ∧ f ≤ 100)) := by
  refine Spec.enter gTok P51 100 Tryd.func51 rfl (by kernel_rfl) ?_
  repeat' ((conv => whnf); first | (refine (And.intro (fun _ => ?_) (fun _ => ?_) : (_ → _) ∧ (_ → _)) <;> (first | (exfalso; first | contradiction | omega) | skip)) | refine Or.inl (And.intro (by first | exact inR_i64 (by omega) | exact inR_u32 (by omega) | exact inR_u64 (by omega) | exact inR_u8 (by omega)) ?_) | (refine And.intro (show (_ : Int) ≠ 0 by omega) (Or.inl (And.intro (show (0 : Int) ≤ _ by omega) (And.intro (show (0 : Int) < _ by omega) ?_)))) | (refine And.intro (show (_ : Int) ≠ 0 by omega) (Or.inl (And.intro (show (0 : Int) ≤ _ by omega) (And.intro (by first | exact (show (_ : Int) ≤ 9223372036854775807 by omega) | exact (show (_ : Int) ≤ 4294967295 by omega)) (And.intro (show (0 : Int) < _ by omega) ?_))))) | (refine retE ?_; show _ ↔ _; omega) | (refine retE ?_; show ¬ _; omega) | (intro _))

/-- .. of what loads and stores -/
def memL (o : VO) : List IN := if o.kind = 2 then [iM 38 o.t0 o.n] else if o.kind = 3 then [iM 37 o.f0 o.n] else if o.kind = 4 then [iM 39 o.t0 o.n] else if o.kind = 5 then [{ iF 87 o.t0 o.f0 o.f1 with by_ := 2 }] else if o.kind = 6 then [{ iF 86 o.f2 o.f0 o.f1 with by_ := 2 }] else []
set_option maxHeartbeats 4000000 in
set_option maxRecDepth 100000 in
theorem memory_pure (o : VO) (hn : 0 ≤ o.n ∧ o.n ≤ 4294967295) : PureF gT 53 [voP o] (.sl 11 (insP (memL o))) := by
  refine Spec.enter gTok P53 100 Tryd.func53 rfl (by kernel_rfl) ?_
  repeat' ((conv => whnf); first | (refine (And.intro (fun _ => ?_) (fun _ => ?_) : (_ → _) ∧ (_ → _)) <;> (first | (exfalso; first | contradiction | omega) | skip)) | refine Or.inl (And.intro (by first | exact inR_i64 (by omega) | exact inR_u32 (by omega) | exact inR_u64 (by omega) | exact inR_u8 (by omega)) ?_) | (refine And.intro (show (_ : Int) ≠ 0 by omega) (Or.inl (And.intro (show (0 : Int) ≤ _ by omega) (And.intro (show (0 : Int) < _ by omega) ?_)))) | (refine And.intro (show (_ : Int) ≠ 0 by omega) (Or.inl (And.intro (show (0 : Int) ≤ _ by omega) (And.intro (by first | exact (show (_ : Int) ≤ 9223372036854775807 by omega) | exact (show (_ : Int) ≤ 4294967295 by omega)) (And.intro (show (0 : Int) < _ by omega) ?_))))) | (refine retE ?_; show _ = _; simp only [memL, *, if_true, if_false, reduceIte, Int.reduceEq]; rfl) | (intro _))

/-- .. of pairs -/
def pairL (o : VO) : List IN := if o.kind = 23 then [iF 4 o.t0 o.f0 o.f2, iF 72 o.t1 o.f1 o.f3] else if o.kind = 24 then [iF 5 o.t0 o.f0 o.f2, iF 73 o.t1 o.f1 o.f3] else if o.kind = 25 then [iF 5 o.t0 o.f0 o.f2, { iF 73 o.t0 o.f1 o.f3 with set := 1 }, borrowI o.t0, upperI o.t0] else if o.kind = 26 then [{ iF 95 o.t0 o.f0 o.f1 with ra := o.t1 }] else []
set_option maxHeartbeats 4000000 in
set_option maxRecDepth 100000 in
theorem pairs_pure (o : VO) : PureF gT 54 [voP o] (.sl 11 (insP (pairL o))) := by
  refine Spec.enter gTok P54 100 Tryd.func54 rfl (by kernel_rfl) ?_
  repeat' ((conv => whnf); first | (refine (And.intro (fun _ => ?_) (fun _ => ?_) : (_ → _) ∧ (_ → _)) <;> (first | (exfalso; first | contradiction | omega) | skip)) | refine Or.inl (And.intro (by first | exact inR_i64 (by omega) | exact inR_u32 (by omega) | exact inR_u64 (by omega) | exact inR_u8 (by omega)) ?_) | (refine And.intro (show (_ : Int) ≠ 0 by omega) (Or.inl (And.intro (show (0 : Int) ≤ _ by omega) (And.intro (show (0 : Int) < _ by omega) ?_)))) | (refine And.intro (show (_ : Int) ≠ 0 by omega) (Or.inl (And.intro (show (0 : Int) ≤ _ by omega) (And.intro (by first | exact (show (_ : Int) ≤ 9223372036854775807 by omega) | exact (show (_ : Int) ≤ 4294967295 by omega)) (And.intro (show (0 : Int) < _ by omega) ?_))))) | (refine Exists.intro [] (And.intro no_rl ((borrow_pure o.t0).use (by repeat' first | exact trivial | exact rfl | exact Iff.rfl | exact Or.inl rfl | refine And.intro ?_ ?_) rfl rfl ?_))) | (refine Exists.intro [] (And.intro no_rl ((upper_pure o.t0).use (by repeat' first | exact trivial | exact rfl | exact Iff.rfl | exact Or.inl rfl | refine And.intro ?_ ?_) rfl rfl ?_))) | (refine retE ?_; show _ = _; simp only [pairL, *, if_true, if_false, reduceIte, Int.reduceEq]; rfl) | (intro _))

/-- .. of a number -/
def numL (t n : Int) : List IN := if n ≤ 255 then [iM 8 t n] else if Rm.ofE n = 0 then [iM 60 t (Rm.ofN n)] else if Rm.ofE (4294967295 - n) = 0 then [iM 61 t (Rm.ofN (4294967295 - n))] else if n / 65536 ≠ 0 then [iM 48 t (n % 65536), iM 49 t (n / 65536)] else [iM 48 t (n % 65536)]
theorem m16 (n : Int) (h0 : 0 ≤ n) (h1 : n ≤ 4294967295) : bits .and .u32 n 65535 = n % 65536 := by
  rw [u32_and n 65535 h0 (by omega) (by omega) (by omega)]
  have e : n.toNat &&& (65535 : Int).toNat = n.toNat % 65536 := Nat.and_two_pow_sub_one_eq_mod n.toNat 16
  rw [e]; omega
set_option maxHeartbeats 4000000 in
set_option maxRecDepth 100000 in
theorem number_pure (t n : Int) (hn : 0 ≤ n ∧ n ≤ 4294967295) : PureF gT 114 [.int .i64 t, .int .u32 n] (.sl 11 (insP (numL t n))) := by
  refine Spec.enter gTok P114 100 Tryd.func114 rfl (by kernel_rfl) ?_
  refine And.intro (fun h1 => ?_) (fun h1 => ?_)
  · refine .inl ⟨inR_i64 (by omega), ?_⟩
    refine retE ?_
    show _ = _
    rw [numL, if_pos h1]; rfl
  refine ⟨[], no_rl, (immof_pure n hn).use (by repeat' first | exact trivial | exact rfl | exact Iff.rfl | exact Or.inl rfl | refine And.intro ?_ ?_) rfl rfl ?_⟩
  refine And.intro (fun h2 => ?_) (fun h2 => ?_)
  · refine retE ?_
    show _ = _
    rw [numL, if_neg h1, if_pos h2]; rfl
  refine ⟨[], no_rl, (immof_pure (4294967295 - n) (by omega)).use ⟨Rm.not32 n hn.1 hn.2, trivial⟩ rfl rfl ?_⟩
  refine And.intro (fun h3 => ?_) (fun h3 => ?_)
  · refine retE ?_
    show _ = _
    rw [numL, if_neg h1, if_neg h2, if_pos h3]; rfl
  have e16 := m16 n hn.1 hn.2
  refine .inl ⟨inR_i64 (show _ ≤ bits .and .u32 n 65535 ∧ bits .and .u32 n 65535 ≤ _ by rw [e16]; omega), ?_⟩
  refine ⟨by decide, And.intro (fun h4 => ?_) (fun h4 => ?_)⟩
  · have h4' : ¬ n / 65536 = 0 := h4
    refine ⟨by decide, .inl ⟨inR_i64 (show _ ≤ n / 65536 ∧ n / 65536 ≤ _ by omega), ?_⟩⟩
    refine retE ?_
    show [_, _] = _
    rw [numL, if_neg h1, if_neg h2, if_neg h3, if_pos h4']
    show [inP (iM 48 t (bits .and .u32 n 65535)), inP (iM 49 t (n / 65536))] = _
    rw [e16]; rfl
  · have h4' : ¬ ¬ n / 65536 = 0 := h4
    refine retE ?_
    show [_] = _
    rw [numL, if_neg h1, if_neg h2, if_neg h3, if_neg h4']
    show [inP (iM 48 t (bits .and .u32 n 65535))] = _
    rw [e16]; rfl

/-- .. of what has one operand, or a number -/
def singL (o : VO) : List IN := if o.kind = 1 then numL o.t0 o.n else if o.kind = 16 then [{ iZ with form := 77, rd := o.t0, rm := o.f0 }] else if o.kind = 17 then [{ iZ with form := 59, rd := o.t0, rn := o.f0 }] else if o.kind = 18 then [{ iZ with form := 1, rd := o.t0, rm := o.f0, imm := o.n }] else if o.kind = 19 then [{ iZ with form := 2, rd := o.t0, rm := o.f0, imm := o.n }]
  else if o.kind = 20 then [{ iZ with form := 76, rd := o.t0, rm := o.f0, kind := 3, by_ := o.n }] else if o.kind = 27 then [{ iZ with form := 50, rd := o.t0, rn := o.f0, imm := 1 }, { iZ with form := 59, rd := o.t0, rn := o.t0 }] else []
set_option maxHeartbeats 4000000 in
set_option maxRecDepth 100000 in
theorem single_pure (o : VO) (hn : 0 ≤ o.n ∧ o.n ≤ 4294967295) : PureF gT 55 [voP o] (.sl 11 (insP (singL o))) := by
  refine Spec.enter gTok P55 100 Tryd.func55 rfl (by kernel_rfl) ?_
  repeat' ((conv => whnf); first | (refine (And.intro (fun _ => ?_) (fun _ => ?_) : (_ → _) ∧ (_ → _)) <;> (first | (exfalso; first | contradiction | omega) | skip)) | refine Or.inl (And.intro (by first | exact inR_i64 (by omega) | exact inR_u32 (by omega) | exact inR_u64 (by omega) | exact inR_u8 (by omega)) ?_) | (refine And.intro (show (_ : Int) ≠ 0 by omega) (Or.inl (And.intro (show (0 : Int) ≤ _ by omega) (And.intro (show (0 : Int) < _ by omega) ?_)))) | (refine And.intro (show (_ : Int) ≠ 0 by omega) (Or.inl (And.intro (show (0 : Int) ≤ _ by omega) (And.intro (by first | exact (show (_ : Int) ≤ 9223372036854775807 by omega) | exact (show (_ : Int) ≤ 4294967295 by omega)) (And.intro (show (0 : Int) < _ by omega) ?_))))) | (refine Exists.intro [] (And.intro no_rl ((number_pure o.t0 o.n hn).use (by repeat' first | exact trivial | exact rfl | exact Iff.rfl | exact Or.inl rfl | refine And.intro ?_ ?_) rfl rfl ?_))) | (refine retE ?_; show _ = _; simp only [singL, *, if_true, if_false, reduceIte, Int.reduceEq]; try rfl) | (intro _))

/-- .. of what compares -/
def testL (o : VO) : List IN := if o.kind = 21 then [iF 5 o.t0 o.f0 o.f1, borrowI o.t0, upperI o.t0] else if o.kind = 22 then [iF 70 o.t0 o.f0 o.f1, iM 11 o.t0 1, borrowI o.t0, upperI o.t0] else if o.kind = 29 then [{ iF 94 o.t0 o.f1 o.f2 with ra := o.f0 }] else if o.kind = 31 then [{ iZ with form := 9, rd := o.f0 }]
  else if o.kind = 30 then (if o.n ≤ 255 then [iM 9 o.f0 o.n] else [{ iZ with form := 65, rn := o.f0, imm := Rm.ofN o.n }]) else []
set_option maxHeartbeats 4000000 in
set_option maxRecDepth 100000 in
theorem tests_pure (o : VO) (hn : 0 ≤ o.n ∧ o.n ≤ 4294967295) : PureF gT 56 [voP o] (.sl 11 (insP (testL o))) := by
  refine Spec.enter gTok P56 100 Tryd.func56 rfl (by kernel_rfl) ?_
  repeat' ((conv => whnf); first | (refine (And.intro (fun _ => ?_) (fun _ => ?_) : (_ → _) ∧ (_ → _)) <;> (first | (exfalso; first | contradiction | omega) | skip)) | refine Or.inl (And.intro (by first | exact inR_i64 (by omega) | exact inR_u32 (by omega) | exact inR_u64 (by omega) | exact inR_u8 (by omega)) ?_) | (refine And.intro (show (_ : Int) ≠ 0 by omega) (Or.inl (And.intro (show (0 : Int) ≤ _ by omega) (And.intro (show (0 : Int) < _ by omega) ?_)))) | (refine And.intro (show (_ : Int) ≠ 0 by omega) (Or.inl (And.intro (show (0 : Int) ≤ _ by omega) (And.intro (by first | exact (show (_ : Int) ≤ 9223372036854775807 by omega) | exact (show (_ : Int) ≤ 4294967295 by omega)) (And.intro (show (0 : Int) < _ by omega) ?_))))) | (refine Exists.intro [] (And.intro no_rl ((immof_pure o.n hn).use (by repeat' first | exact trivial | exact rfl | exact Iff.rfl | exact Or.inl rfl | refine And.intro ?_ ?_) rfl rfl ?_))) | (refine Exists.intro [] (And.intro no_rl ((borrow_pure o.t0).use (by repeat' first | exact trivial | exact rfl | exact Iff.rfl | exact Or.inl rfl | refine And.intro ?_ ?_) rfl rfl ?_))) | (refine Exists.intro [] (And.intro no_rl ((upper_pure o.t0).use (by repeat' first | exact trivial | exact rfl | exact Iff.rfl | exact Or.inl rfl | refine And.intro ?_ ?_) rfl rfl ?_))) | (refine retE ?_; show _ = _; simp only [testL, *, if_true, if_false, reduceIte, Int.reduceEq]; try rfl) | (intro _))

/-- an operation's instructions -/
def insL (o : VO) : List IN := if threeF o.kind ≠ 0 then [iF (threeF o.kind) o.t0 o.f0 o.f1] else memL o ++ pairL o ++ singL o ++ testL o
open Classical in
noncomputable def insR (o : VO) : PV := if vright o ∧ vsmall o then .tup [.sl 11 (insP (insL o)), .int .i64 0] else .tup [.sl 11 [], .int .i64 10]
theorem threeF_in (k : Int) : threeF k = 0 ∨ (1 ≤ threeF k ∧ threeF k ≤ 100) := by
  unfold threeF
  repeat' split <;> first | (exact .inl rfl) | (exact .inr (by decide)) | skip
theorem insLen (o : VO) : (memL o).length + (pairL o).length + (singL o).length + (testL o).length ≤ 100 := by
  have h1 : (memL o).length ≤ 10 := by unfold memL; (repeat' split) <;> simp
  have h2 : (pairL o).length ≤ 10 := by unfold pairL; (repeat' split) <;> simp
  have h3 : (singL o).length ≤ 10 := by unfold singL numL; (repeat' split) <;> simp
  have h4 : (testL o).length ≤ 10 := by unfold testL; (repeat' split) <;> simp
  omega
set_option maxHeartbeats 4000000 in
set_option maxRecDepth 100000 in
theorem insts_pure (o : VO) (hn : 0 ≤ o.n ∧ o.n ≤ 4294967295) : PureF gT 22 [voP o] (insR o) := by
  refine Spec.enter gTok P22 100 Tryd.func22 rfl (by kernel_rfl) ?_
  refine ⟨[], no_rl, (vright_pure o hn).use (by repeat' first | exact trivial | exact rfl | exact Iff.rfl | exact Or.inl rfl | refine And.intro ?_ ?_) rfl rfl ?_⟩
  refine And.intro (fun h1 => ?_) (fun h1 => ?_)
  · rw [insR, if_neg (fun h => h1 h.1)]
    (refine retE ?_; repeat' first | exact trivial | exact rfl | exact Iff.rfl | exact Or.inl rfl | refine And.intro ?_ ?_)
  refine ⟨[], no_rl, (small_pure o).use (by repeat' first | exact trivial | exact rfl | exact Iff.rfl | exact Or.inl rfl | refine And.intro ?_ ?_) rfl rfl ?_⟩
  refine And.intro (fun h2 => ?_) (fun h2 => ?_)
  · rw [insR, if_neg (fun h => h2 h.2)]
    (refine retE ?_; repeat' first | exact trivial | exact rfl | exact Iff.rfl | exact Or.inl rfl | refine And.intro ?_ ?_)
  rw [insR, if_pos ⟨Classical.not_not.1 h1, Classical.not_not.1 h2⟩]
  refine ⟨[], no_rl, (three_pure o.kind).use (by repeat' first | exact trivial | exact rfl | exact Iff.rfl | exact Or.inl rfl | refine And.intro ?_ ?_) rfl rfl ?_⟩
  refine ⟨[], no_rl, (is_pure _).use (by repeat' first | exact trivial | exact rfl | exact Iff.rfl | exact Or.inl rfl | refine And.intro ?_ ?_) rfl rfl ?_⟩
  refine And.intro (fun h3 => ?_) (fun h3 => ?_)
  · rw [insL, if_pos (by omega)]
    (refine retE ?_; repeat' first | exact trivial | exact rfl | exact Iff.rfl | exact Or.inl rfl | refine And.intro ?_ ?_)
  · have h0 : ¬ threeF o.kind ≠ 0 := by have := threeF_in o.kind; omega
    rw [insL, if_neg h0]
    refine ⟨[], no_rl, (memory_pure o hn).use (by repeat' first | exact trivial | exact rfl | exact Iff.rfl | exact Or.inl rfl | refine And.intro ?_ ?_) rfl rfl ?_⟩
    refine ⟨[], no_rl, (pairs_pure o).use (by repeat' first | exact trivial | exact rfl | exact Iff.rfl | exact Or.inl rfl | refine And.intro ?_ ?_) rfl rfl ?_⟩
    refine ⟨[], no_rl, (single_pure o hn).use (by repeat' first | exact trivial | exact rfl | exact Iff.rfl | exact Or.inl rfl | refine And.intro ?_ ?_) rfl rfl ?_⟩
    refine ⟨[], no_rl, (tests_pure o hn).use (by repeat' first | exact trivial | exact rfl | exact Iff.rfl | exact Or.inl rfl | refine And.intro ?_ ?_) rfl rfl ?_⟩
    have hl := insLen o
    refine ⟨[], no_rl, (concat_pure (memL o) (pairL o) (singL o) (testL o) (by omega)).useF [1] rfl ⟨.inr ⟨rfl, rfl⟩, trivial⟩ rfl rfl ?_⟩
    (refine retE ?_; repeat' first | exact trivial | exact rfl | exact Iff.rfl | exact Or.inl rfl | refine And.intro ?_ ?_)

end Go.Proofs.YthpkejlmelednaaDoor.Pw

/- Chapter 18 over values: the document's operations that may be, and their instructions. -/
namespace Go.Proofs.YthpkejlmelednaaDoor.Pw
open Go Go.RowKit

/-! ### which operations may be -/
theorem rreg_pure (r i n : Int) : PureF gT 101 [.int .i64 r, .int .i64 i, .int .i64 n] (.bool (plc i n r)) := by
  refine Spec.enter gTok P101 100 Tryd.func101 rfl (by kernel_rfl) ?_
  repeat' ((conv => whnf); first | (refine (And.intro (fun _ => ?_) (fun _ => ?_) : (_ → _) ∧ (_ → _)) <;> (first | (exfalso; first | contradiction | omega) | skip)) | refine Or.inl (And.intro (by first | exact inR_i64 (by omega) | exact inR_u32 (by omega) | exact inR_u64 (by omega) | exact inR_u8 (by omega)) ?_) | (refine And.intro (show (_ : Int) ≠ 0 by omega) (Or.inl (And.intro (show (0 : Int) ≤ _ by omega) (And.intro (show (0 : Int) < _ by omega) ?_)))) | (refine And.intro (show (_ : Int) ≠ 0 by omega) (Or.inl (And.intro (show (0 : Int) ≤ _ by omega) (And.intro (by first | exact (show (_ : Int) ≤ 9223372036854775807 by omega) | exact (show (_ : Int) ≤ 4294967295 by omega)) (And.intro (show (0 : Int) < _ by omega) ?_))))) | (refine retE ?_; show ¬ plc _ _ _; unfold plc; omega) | (refine retE ?_; show _ ↔ plc _ _ _; unfold plc; omega) | (intro _))
set_option maxRecDepth 100000 in
theorem rshape_1 : PureF gT 100 [.int .i64 1] (.tup [.int .i64 (vto 1), .int .i64 (vfrom 1)]) := by
  refine Spec.enter gTok P100 100 Tryd.func100 rfl (by kernel_rfl) ?_
  repeat' ((conv => whnf); first | (refine (And.intro (fun _ => ?_) (fun _ => ?_) : (_ → _) ∧ (_ → _)) <;> (first | (exfalso; first | contradiction | omega) | skip)) | refine Or.inl (And.intro (by first | exact inR_i64 (by omega) | exact inR_u32 (by omega) | exact inR_u64 (by omega) | exact inR_u8 (by omega)) ?_) | (refine And.intro (show (_ : Int) ≠ 0 by omega) (Or.inl (And.intro (show (0 : Int) ≤ _ by omega) (And.intro (show (0 : Int) < _ by omega) ?_)))) | (refine And.intro (show (_ : Int) ≠ 0 by omega) (Or.inl (And.intro (show (0 : Int) ≤ _ by omega) (And.intro (by first | exact (show (_ : Int) ≤ 9223372036854775807 by omega) | exact (show (_ : Int) ≤ 4294967295 by omega)) (And.intro (show (0 : Int) < _ by omega) ?_))))) | (refine Or.inl (Exists.intro 1 (And.intro rfl ?_))) | ((refine retE ?_; repeat' first | exact trivial | exact rfl | exact Iff.rfl | exact Or.inl rfl | refine And.intro ?_ ?_)) | (refine And.intro (show (0 : Int) ≤ _ by omega) (And.intro (show _ < (_ : Int) by omega) ?_)) | (intro _))
set_option maxRecDepth 100000 in
theorem rshape_2 : PureF gT 100 [.int .i64 2] (.tup [.int .i64 (vto 2), .int .i64 (vfrom 2)]) := by
  refine Spec.enter gTok P100 100 Tryd.func100 rfl (by kernel_rfl) ?_
  repeat' ((conv => whnf); first | (refine (And.intro (fun _ => ?_) (fun _ => ?_) : (_ → _) ∧ (_ → _)) <;> (first | (exfalso; first | contradiction | omega) | skip)) | refine Or.inl (And.intro (by first | exact inR_i64 (by omega) | exact inR_u32 (by omega) | exact inR_u64 (by omega) | exact inR_u8 (by omega)) ?_) | (refine And.intro (show (_ : Int) ≠ 0 by omega) (Or.inl (And.intro (show (0 : Int) ≤ _ by omega) (And.intro (show (0 : Int) < _ by omega) ?_)))) | (refine And.intro (show (_ : Int) ≠ 0 by omega) (Or.inl (And.intro (show (0 : Int) ≤ _ by omega) (And.intro (by first | exact (show (_ : Int) ≤ 9223372036854775807 by omega) | exact (show (_ : Int) ≤ 4294967295 by omega)) (And.intro (show (0 : Int) < _ by omega) ?_))))) | (refine Or.inl (Exists.intro 2 (And.intro rfl ?_))) | ((refine retE ?_; repeat' first | exact trivial | exact rfl | exact Iff.rfl | exact Or.inl rfl | refine And.intro ?_ ?_)) | (refine And.intro (show (0 : Int) ≤ _ by omega) (And.intro (show _ < (_ : Int) by omega) ?_)) | (intro _))
set_option maxRecDepth 100000 in
theorem rshape_3 : PureF gT 100 [.int .i64 3] (.tup [.int .i64 (vto 3), .int .i64 (vfrom 3)]) := by
  refine Spec.enter gTok P100 100 Tryd.func100 rfl (by kernel_rfl) ?_
  repeat' ((conv => whnf); first | (refine (And.intro (fun _ => ?_) (fun _ => ?_) : (_ → _) ∧ (_ → _)) <;> (first | (exfalso; first | contradiction | omega) | skip)) | refine Or.inl (And.intro (by first | exact inR_i64 (by omega) | exact inR_u32 (by omega) | exact inR_u64 (by omega) | exact inR_u8 (by omega)) ?_) | (refine And.intro (show (_ : Int) ≠ 0 by omega) (Or.inl (And.intro (show (0 : Int) ≤ _ by omega) (And.intro (show (0 : Int) < _ by omega) ?_)))) | (refine And.intro (show (_ : Int) ≠ 0 by omega) (Or.inl (And.intro (show (0 : Int) ≤ _ by omega) (And.intro (by first | exact (show (_ : Int) ≤ 9223372036854775807 by omega) | exact (show (_ : Int) ≤ 4294967295 by omega)) (And.intro (show (0 : Int) < _ by omega) ?_))))) | (refine Or.inl (Exists.intro 3 (And.intro rfl ?_))) | ((refine retE ?_; repeat' first | exact trivial | exact rfl | exact Iff.rfl | exact Or.inl rfl | refine And.intro ?_ ?_)) | (refine And.intro (show (0 : Int) ≤ _ by omega) (And.intro (show _ < (_ : Int) by omega) ?_)) | (intro _))
set_option maxRecDepth 100000 in
theorem rshape_4 : PureF gT 100 [.int .i64 4] (.tup [.int .i64 (vto 4), .int .i64 (vfrom 4)]) := by
  refine Spec.enter gTok P100 100 Tryd.func100 rfl (by kernel_rfl) ?_
  repeat' ((conv => whnf); first | (refine (And.intro (fun _ => ?_) (fun _ => ?_) : (_ → _) ∧ (_ → _)) <;> (first | (exfalso; first | contradiction | omega) | skip)) | refine Or.inl (And.intro (by first | exact inR_i64 (by omega) | exact inR_u32 (by omega) | exact inR_u64 (by omega) | exact inR_u8 (by omega)) ?_) | (refine And.intro (show (_ : Int) ≠ 0 by omega) (Or.inl (And.intro (show (0 : Int) ≤ _ by omega) (And.intro (show (0 : Int) < _ by omega) ?_)))) | (refine And.intro (show (_ : Int) ≠ 0 by omega) (Or.inl (And.intro (show (0 : Int) ≤ _ by omega) (And.intro (by first | exact (show (_ : Int) ≤ 9223372036854775807 by omega) | exact (show (_ : Int) ≤ 4294967295 by omega)) (And.intro (show (0 : Int) < _ by omega) ?_))))) | (refine Or.inl (Exists.intro 4 (And.intro rfl ?_))) | ((refine retE ?_; repeat' first | exact trivial | exact rfl | exact Iff.rfl | exact Or.inl rfl | refine And.intro ?_ ?_)) | (refine And.intro (show (0 : Int) ≤ _ by omega) (And.intro (show _ < (_ : Int) by omega) ?_)) | (intro _))
set_option maxRecDepth 100000 in
theorem rshape_5 : PureF gT 100 [.int .i64 5] (.tup [.int .i64 (vto 5), .int .i64 (vfrom 5)]) := by
  refine Spec.enter gTok P100 100 Tryd.func100 rfl (by kernel_rfl) ?_
  repeat' ((conv => whnf); first | (refine (And.intro (fun _ => ?_) (fun _ => ?_) : (_ → _) ∧ (_ → _)) <;> (first | (exfalso; first | contradiction | omega) | skip)) | refine Or.inl (And.intro (by first | exact inR_i64 (by omega) | exact inR_u32 (by omega) | exact inR_u64 (by omega) | exact inR_u8 (by omega)) ?_) | (refine And.intro (show (_ : Int) ≠ 0 by omega) (Or.inl (And.intro (show (0 : Int) ≤ _ by omega) (And.intro (show (0 : Int) < _ by omega) ?_)))) | (refine And.intro (show (_ : Int) ≠ 0 by omega) (Or.inl (And.intro (show (0 : Int) ≤ _ by omega) (And.intro (by first | exact (show (_ : Int) ≤ 9223372036854775807 by omega) | exact (show (_ : Int) ≤ 4294967295 by omega)) (And.intro (show (0 : Int) < _ by omega) ?_))))) | (refine Or.inl (Exists.intro 5 (And.intro rfl ?_))) | ((refine retE ?_; repeat' first | exact trivial | exact rfl | exact Iff.rfl | exact Or.inl rfl | refine And.intro ?_ ?_)) | (refine And.intro (show (0 : Int) ≤ _ by omega) (And.intro (show _ < (_ : Int) by omega) ?_)) | (intro _))
set_option maxRecDepth 100000 in
theorem rshape_6 : PureF gT 100 [.int .i64 6] (.tup [.int .i64 (vto 6), .int .i64 (vfrom 6)]) := by
  refine Spec.enter gTok P100 100 Tryd.func100 rfl (by kernel_rfl) ?_
  repeat' ((conv => whnf); first | (refine (And.intro (fun _ => ?_) (fun _ => ?_) : (_ → _) ∧ (_ → _)) <;> (first | (exfalso; first | contradiction | omega) | skip)) | refine Or.inl (And.intro (by first | exact inR_i64 (by omega) | exact inR_u32 (by omega) | exact inR_u64 (by omega) | exact inR_u8 (by omega)) ?_) | (refine And.intro (show (_ : Int) ≠ 0 by omega) (Or.inl (And.intro (show (0 : Int) ≤ _ by omega) (And.intro (show (0 : Int) < _ by omega) ?_)))) | (refine And.intro (show (_ : Int) ≠ 0 by omega) (Or.inl (And.intro (show (0 : Int) ≤ _ by omega) (And.intro (by first | exact (show (_ : Int) ≤ 9223372036854775807 by omega) | exact (show (_ : Int) ≤ 4294967295 by omega)) (And.intro (show (0 : Int) < _ by omega) ?_))))) | (refine Or.inl (Exists.intro 6 (And.intro rfl ?_))) | ((refine retE ?_; repeat' first | exact trivial | exact rfl | exact Iff.rfl | exact Or.inl rfl | refine And.intro ?_ ?_)) | (refine And.intro (show (0 : Int) ≤ _ by omega) (And.intro (show _ < (_ : Int) by omega) ?_)) | (intro _))
set_option maxRecDepth 100000 in
theorem rshape_7 : PureF gT 100 [.int .i64 7] (.tup [.int .i64 (vto 7), .int .i64 (vfrom 7)]) := by
  refine Spec.enter gTok P100 100 Tryd.func100 rfl (by kernel_rfl) ?_
  repeat' ((conv => whnf); first | (refine (And.intro (fun _ => ?_) (fun _ => ?_) : (_ → _) ∧ (_ → _)) <;> (first | (exfalso; first | contradiction | omega) | skip)) | refine Or.inl (And.intro (by first | exact inR_i64 (by omega) | exact inR_u32 (by omega) | exact inR_u64 (by omega) | exact inR_u8 (by omega)) ?_) | (refine And.intro (show (_ : Int) ≠ 0 by omega) (Or.inl (And.intro (show (0 : Int) ≤ _ by omega) (And.intro (show (0 : Int) < _ by omega) ?_)))) | (refine And.intro (show (_ : Int) ≠ 0 by omega) (Or.inl (And.intro (show (0 : Int) ≤ _ by omega) (And.intro (by first | exact (show (_ : Int) ≤ 9223372036854775807 by omega) | exact (show (_ : Int) ≤ 4294967295 by omega)) (And.intro (show (0 : Int) < _ by omega) ?_))))) | (refine Or.inl (Exists.intro 7 (And.intro rfl ?_))) | ((refine retE ?_; repeat' first | exact trivial | exact rfl | exact Iff.rfl | exact Or.inl rfl | refine And.intro ?_ ?_)) | (refine And.intro (show (0 : Int) ≤ _ by omega) (And.intro (show _ < (_ : Int) by omega) ?_)) | (intro _))
set_option maxRecDepth 100000 in
theorem rshape_8 : PureF gT 100 [.int .i64 8] (.tup [.int .i64 (vto 8), .int .i64 (vfrom 8)]) := by
  refine Spec.enter gTok P100 100 Tryd.func100 rfl (by kernel_rfl) ?_
  repeat' ((conv => whnf); first | (refine (And.intro (fun _ => ?_) (fun _ => ?_) : (_ → _) ∧ (_ → _)) <;> (first | (exfalso; first | contradiction | omega) | skip)) | refine Or.inl (And.intro (by first | exact inR_i64 (by omega) | exact inR_u32 (by omega) | exact inR_u64 (by omega) | exact inR_u8 (by omega)) ?_) | (refine And.intro (show (_ : Int) ≠ 0 by omega) (Or.inl (And.intro (show (0 : Int) ≤ _ by omega) (And.intro (show (0 : Int) < _ by omega) ?_)))) | (refine And.intro (show (_ : Int) ≠ 0 by omega) (Or.inl (And.intro (show (0 : Int) ≤ _ by omega) (And.intro (by first | exact (show (_ : Int) ≤ 9223372036854775807 by omega) | exact (show (_ : Int) ≤ 4294967295 by omega)) (And.intro (show (0 : Int) < _ by omega) ?_))))) | (refine Or.inl (Exists.intro 8 (And.intro rfl ?_))) | ((refine retE ?_; repeat' first | exact trivial | exact rfl | exact Iff.rfl | exact Or.inl rfl | refine And.intro ?_ ?_)) | (refine And.intro (show (0 : Int) ≤ _ by omega) (And.intro (show _ < (_ : Int) by omega) ?_)) | (intro _))
set_option maxRecDepth 100000 in
theorem rshape_9 : PureF gT 100 [.int .i64 9] (.tup [.int .i64 (vto 9), .int .i64 (vfrom 9)]) := by
  refine Spec.enter gTok P100 100 Tryd.func100 rfl (by kernel_rfl) ?_
  repeat' ((conv => whnf); first | (refine (And.intro (fun _ => ?_) (fun _ => ?_) : (_ → _) ∧ (_ → _)) <;> (first | (exfalso; first | contradiction | omega) | skip)) | refine Or.inl (And.intro (by first | exact inR_i64 (by omega) | exact inR_u32 (by omega) | exact inR_u64 (by omega) | exact inR_u8 (by omega)) ?_) | (refine And.intro (show (_ : Int) ≠ 0 by omega) (Or.inl (And.intro (show (0 : Int) ≤ _ by omega) (And.intro (show (0 : Int) < _ by omega) ?_)))) | (refine And.intro (show (_ : Int) ≠ 0 by omega) (Or.inl (And.intro (show (0 : Int) ≤ _ by omega) (And.intro (by first | exact (show (_ : Int) ≤ 9223372036854775807 by omega) | exact (show (_ : Int) ≤ 4294967295 by omega)) (And.intro (show (0 : Int) < _ by omega) ?_))))) | (refine Or.inl (Exists.intro 9 (And.intro rfl ?_))) | ((refine retE ?_; repeat' first | exact trivial | exact rfl | exact Iff.rfl | exact Or.inl rfl | refine And.intro ?_ ?_)) | (refine And.intro (show (0 : Int) ≤ _ by omega) (And.intro (show _ < (_ : Int) by omega) ?_)) | (intro _))
set_option maxRecDepth 100000 in
theorem rshape_10 : PureF gT 100 [.int .i64 10] (.tup [.int .i64 (vto 10), .int .i64 (vfrom 10)]) := by
  refine Spec.enter gTok P100 100 Tryd.func100 rfl (by kernel_rfl) ?_
  repeat' ((conv => whnf); first | (refine (And.intro (fun _ => ?_) (fun _ => ?_) : (_ → _) ∧ (_ → _)) <;> (first | (exfalso; first | contradiction | omega) | skip)) | refine Or.inl (And.intro (by first | exact inR_i64 (by omega) | exact inR_u32 (by omega) | exact inR_u64 (by omega) | exact inR_u8 (by omega)) ?_) | (refine And.intro (show (_ : Int) ≠ 0 by omega) (Or.inl (And.intro (show (0 : Int) ≤ _ by omega) (And.intro (show (0 : Int) < _ by omega) ?_)))) | (refine And.intro (show (_ : Int) ≠ 0 by omega) (Or.inl (And.intro (show (0 : Int) ≤ _ by omega) (And.intro (by first | exact (show (_ : Int) ≤ 9223372036854775807 by omega) | exact (show (_ : Int) ≤ 4294967295 by omega)) (And.intro (show (0 : Int) < _ by omega) ?_))))) | (refine Or.inl (Exists.intro 10 (And.intro rfl ?_))) | ((refine retE ?_; repeat' first | exact trivial | exact rfl | exact Iff.rfl | exact Or.inl rfl | refine And.intro ?_ ?_)) | (refine And.intro (show (0 : Int) ≤ _ by omega) (And.intro (show _ < (_ : Int) by omega) ?_)) | (intro _))
set_option maxRecDepth 100000 in
theorem rshape_11 : PureF gT 100 [.int .i64 11] (.tup [.int .i64 (vto 11), .int .i64 (vfrom 11)]) := by
  refine Spec.enter gTok P100 100 Tryd.func100 rfl (by kernel_rfl) ?_
  repeat' ((conv => whnf); first | (refine (And.intro (fun _ => ?_) (fun _ => ?_) : (_ → _) ∧ (_ → _)) <;> (first | (exfalso; first | contradiction | omega) | skip)) | refine Or.inl (And.intro (by first | exact inR_i64 (by omega) | exact inR_u32 (by omega) | exact inR_u64 (by omega) | exact inR_u8 (by omega)) ?_) | (refine And.intro (show (_ : Int) ≠ 0 by omega) (Or.inl (And.intro (show (0 : Int) ≤ _ by omega) (And.intro (show (0 : Int) < _ by omega) ?_)))) | (refine And.intro (show (_ : Int) ≠ 0 by omega) (Or.inl (And.intro (show (0 : Int) ≤ _ by omega) (And.intro (by first | exact (show (_ : Int) ≤ 9223372036854775807 by omega) | exact (show (_ : Int) ≤ 4294967295 by omega)) (And.intro (show (0 : Int) < _ by omega) ?_))))) | (refine Or.inl (Exists.intro 11 (And.intro rfl ?_))) | ((refine retE ?_; repeat' first | exact trivial | exact rfl | exact Iff.rfl | exact Or.inl rfl | refine And.intro ?_ ?_)) | (refine And.intro (show (0 : Int) ≤ _ by omega) (And.intro (show _ < (_ : Int) by omega) ?_)) | (intro _))
set_option maxRecDepth 100000 in
theorem rshape_12 : PureF gT 100 [.int .i64 12] (.tup [.int .i64 (vto 12), .int .i64 (vfrom 12)]) := by
  refine Spec.enter gTok P100 100 Tryd.func100 rfl (by kernel_rfl) ?_
  repeat' ((conv => whnf); first | (refine (And.intro (fun _ => ?_) (fun _ => ?_) : (_ → _) ∧ (_ → _)) <;> (first | (exfalso; first | contradiction | omega) | skip)) | refine Or.inl (And.intro (by first | exact inR_i64 (by omega) | exact inR_u32 (by omega) | exact inR_u64 (by omega) | exact inR_u8 (by omega)) ?_) | (refine And.intro (show (_ : Int) ≠ 0 by omega) (Or.inl (And.intro (show (0 : Int) ≤ _ by omega) (And.intro (show (0 : Int) < _ by omega) ?_)))) | (refine And.intro (show (_ : Int) ≠ 0 by omega) (Or.inl (And.intro (show (0 : Int) ≤ _ by omega) (And.intro (by first | exact (show (_ : Int) ≤ 9223372036854775807 by omega) | exact (show (_ : Int) ≤ 4294967295 by omega)) (And.intro (show (0 : Int) < _ by omega) ?_))))) | (refine Or.inl (Exists.intro 12 (And.intro rfl ?_))) | ((refine retE ?_; repeat' first | exact trivial | exact rfl | exact Iff.rfl | exact Or.inl rfl | refine And.intro ?_ ?_)) | (refine And.intro (show (0 : Int) ≤ _ by omega) (And.intro (show _ < (_ : Int) by omega) ?_)) | (intro _))
set_option maxRecDepth 100000 in
theorem rshape_13 : PureF gT 100 [.int .i64 13] (.tup [.int .i64 (vto 13), .int .i64 (vfrom 13)]) := by
  refine Spec.enter gTok P100 100 Tryd.func100 rfl (by kernel_rfl) ?_
  repeat' ((conv => whnf); first | (refine (And.intro (fun _ => ?_) (fun _ => ?_) : (_ → _) ∧ (_ → _)) <;> (first | (exfalso; first | contradiction | omega) | skip)) | refine Or.inl (And.intro (by first | exact inR_i64 (by omega) | exact inR_u32 (by omega) | exact inR_u64 (by omega) | exact inR_u8 (by omega)) ?_) | (refine And.intro (show (_ : Int) ≠ 0 by omega) (Or.inl (And.intro (show (0 : Int) ≤ _ by omega) (And.intro (show (0 : Int) < _ by omega) ?_)))) | (refine And.intro (show (_ : Int) ≠ 0 by omega) (Or.inl (And.intro (show (0 : Int) ≤ _ by omega) (And.intro (by first | exact (show (_ : Int) ≤ 9223372036854775807 by omega) | exact (show (_ : Int) ≤ 4294967295 by omega)) (And.intro (show (0 : Int) < _ by omega) ?_))))) | (refine Or.inl (Exists.intro 13 (And.intro rfl ?_))) | ((refine retE ?_; repeat' first | exact trivial | exact rfl | exact Iff.rfl | exact Or.inl rfl | refine And.intro ?_ ?_)) | (refine And.intro (show (0 : Int) ≤ _ by omega) (And.intro (show _ < (_ : Int) by omega) ?_)) | (intro _))
set_option maxRecDepth 100000 in
theorem rshape_14 : PureF gT 100 [.int .i64 14] (.tup [.int .i64 (vto 14), .int .i64 (vfrom 14)]) := by
  refine Spec.enter gTok P100 100 Tryd.func100 rfl (by kernel_rfl) ?_
  repeat' ((conv => whnf); first | (refine (And.intro (fun _ => ?_) (fun _ => ?_) : (_ → _) ∧ (_ → _)) <;> (first | (exfalso; first | contradiction | omega) | skip)) | refine Or.inl (And.intro (by first | exact inR_i64 (by omega) | exact inR_u32 (by omega) | exact inR_u64 (by omega) | exact inR_u8 (by omega)) ?_) | (refine And.intro (show (_ : Int) ≠ 0 by omega) (Or.inl (And.intro (show (0 : Int) ≤ _ by omega) (And.intro (show (0 : Int) < _ by omega) ?_)))) | (refine And.intro (show (_ : Int) ≠ 0 by omega) (Or.inl (And.intro (show (0 : Int) ≤ _ by omega) (And.intro (by first | exact (show (_ : Int) ≤ 9223372036854775807 by omega) | exact (show (_ : Int) ≤ 4294967295 by omega)) (And.intro (show (0 : Int) < _ by omega) ?_))))) | (refine Or.inl (Exists.intro 14 (And.intro rfl ?_))) | ((refine retE ?_; repeat' first | exact trivial | exact rfl | exact Iff.rfl | exact Or.inl rfl | refine And.intro ?_ ?_)) | (refine And.intro (show (0 : Int) ≤ _ by omega) (And.intro (show _ < (_ : Int) by omega) ?_)) | (intro _))
set_option maxRecDepth 100000 in
theorem rshape_15 : PureF gT 100 [.int .i64 15] (.tup [.int .i64 (vto 15), .int .i64 (vfrom 15)]) := by
  refine Spec.enter gTok P100 100 Tryd.func100 rfl (by kernel_rfl) ?_
  repeat' ((conv => whnf); first | (refine (And.intro (fun _ => ?_) (fun _ => ?_) : (_ → _) ∧ (_ → _)) <;> (first | (exfalso; first | contradiction | omega) | skip)) | refine Or.inl (And.intro (by first | exact inR_i64 (by omega) | exact inR_u32 (by omega) | exact inR_u64 (by omega) | exact inR_u8 (by omega)) ?_) | (refine And.intro (show (_ : Int) ≠ 0 by omega) (Or.inl (And.intro (show (0 : Int) ≤ _ by omega) (And.intro (show (0 : Int) < _ by omega) ?_)))) | (refine And.intro (show (_ : Int) ≠ 0 by omega) (Or.inl (And.intro (show (0 : Int) ≤ _ by omega) (And.intro (by first | exact (show (_ : Int) ≤ 9223372036854775807 by omega) | exact (show (_ : Int) ≤ 4294967295 by omega)) (And.intro (show (0 : Int) < _ by omega) ?_))))) | (refine Or.inl (Exists.intro 15 (And.intro rfl ?_))) | ((refine retE ?_; repeat' first | exact trivial | exact rfl | exact Iff.rfl | exact Or.inl rfl | refine And.intro ?_ ?_)) | (refine And.intro (show (0 : Int) ≤ _ by omega) (And.intro (show _ < (_ : Int) by omega) ?_)) | (intro _))
set_option maxRecDepth 100000 in
theorem rshape_16 : PureF gT 100 [.int .i64 16] (.tup [.int .i64 (vto 16), .int .i64 (vfrom 16)]) := by
  refine Spec.enter gTok P100 100 Tryd.func100 rfl (by kernel_rfl) ?_
  repeat' ((conv => whnf); first | (refine (And.intro (fun _ => ?_) (fun _ => ?_) : (_ → _) ∧ (_ → _)) <;> (first | (exfalso; first | contradiction | omega) | skip)) | refine Or.inl (And.intro (by first | exact inR_i64 (by omega) | exact inR_u32 (by omega) | exact inR_u64 (by omega) | exact inR_u8 (by omega)) ?_) | (refine And.intro (show (_ : Int) ≠ 0 by omega) (Or.inl (And.intro (show (0 : Int) ≤ _ by omega) (And.intro (show (0 : Int) < _ by omega) ?_)))) | (refine And.intro (show (_ : Int) ≠ 0 by omega) (Or.inl (And.intro (show (0 : Int) ≤ _ by omega) (And.intro (by first | exact (show (_ : Int) ≤ 9223372036854775807 by omega) | exact (show (_ : Int) ≤ 4294967295 by omega)) (And.intro (show (0 : Int) < _ by omega) ?_))))) | (refine Or.inl (Exists.intro 16 (And.intro rfl ?_))) | ((refine retE ?_; repeat' first | exact trivial | exact rfl | exact Iff.rfl | exact Or.inl rfl | refine And.intro ?_ ?_)) | (refine And.intro (show (0 : Int) ≤ _ by omega) (And.intro (show _ < (_ : Int) by omega) ?_)) | (intro _))
set_option maxRecDepth 100000 in
theorem rshape_17 : PureF gT 100 [.int .i64 17] (.tup [.int .i64 (vto 17), .int .i64 (vfrom 17)]) := by
  refine Spec.enter gTok P100 100 Tryd.func100 rfl (by kernel_rfl) ?_
  repeat' ((conv => whnf); first | (refine (And.intro (fun _ => ?_) (fun _ => ?_) : (_ → _) ∧ (_ → _)) <;> (first | (exfalso; first | contradiction | omega) | skip)) | refine Or.inl (And.intro (by first | exact inR_i64 (by omega) | exact inR_u32 (by omega) | exact inR_u64 (by omega) | exact inR_u8 (by omega)) ?_) | (refine And.intro (show (_ : Int) ≠ 0 by omega) (Or.inl (And.intro (show (0 : Int) ≤ _ by omega) (And.intro (show (0 : Int) < _ by omega) ?_)))) | (refine And.intro (show (_ : Int) ≠ 0 by omega) (Or.inl (And.intro (show (0 : Int) ≤ _ by omega) (And.intro (by first | exact (show (_ : Int) ≤ 9223372036854775807 by omega) | exact (show (_ : Int) ≤ 4294967295 by omega)) (And.intro (show (0 : Int) < _ by omega) ?_))))) | (refine Or.inl (Exists.intro 17 (And.intro rfl ?_))) | ((refine retE ?_; repeat' first | exact trivial | exact rfl | exact Iff.rfl | exact Or.inl rfl | refine And.intro ?_ ?_)) | (refine And.intro (show (0 : Int) ≤ _ by omega) (And.intro (show _ < (_ : Int) by omega) ?_)) | (intro _))
set_option maxRecDepth 100000 in
theorem rshape_18 : PureF gT 100 [.int .i64 18] (.tup [.int .i64 (vto 18), .int .i64 (vfrom 18)]) := by
  refine Spec.enter gTok P100 100 Tryd.func100 rfl (by kernel_rfl) ?_
  repeat' ((conv => whnf); first | (refine (And.intro (fun _ => ?_) (fun _ => ?_) : (_ → _) ∧ (_ → _)) <;> (first | (exfalso; first | contradiction | omega) | skip)) | refine Or.inl (And.intro (by first | exact inR_i64 (by omega) | exact inR_u32 (by omega) | exact inR_u64 (by omega) | exact inR_u8 (by omega)) ?_) | (refine And.intro (show (_ : Int) ≠ 0 by omega) (Or.inl (And.intro (show (0 : Int) ≤ _ by omega) (And.intro (show (0 : Int) < _ by omega) ?_)))) | (refine And.intro (show (_ : Int) ≠ 0 by omega) (Or.inl (And.intro (show (0 : Int) ≤ _ by omega) (And.intro (by first | exact (show (_ : Int) ≤ 9223372036854775807 by omega) | exact (show (_ : Int) ≤ 4294967295 by omega)) (And.intro (show (0 : Int) < _ by omega) ?_))))) | (refine Or.inl (Exists.intro 18 (And.intro rfl ?_))) | ((refine retE ?_; repeat' first | exact trivial | exact rfl | exact Iff.rfl | exact Or.inl rfl | refine And.intro ?_ ?_)) | (refine And.intro (show (0 : Int) ≤ _ by omega) (And.intro (show _ < (_ : Int) by omega) ?_)) | (intro _))
set_option maxRecDepth 100000 in
theorem rshape_19 : PureF gT 100 [.int .i64 19] (.tup [.int .i64 (vto 19), .int .i64 (vfrom 19)]) := by
  refine Spec.enter gTok P100 100 Tryd.func100 rfl (by kernel_rfl) ?_
  repeat' ((conv => whnf); first | (refine (And.intro (fun _ => ?_) (fun _ => ?_) : (_ → _) ∧ (_ → _)) <;> (first | (exfalso; first | contradiction | omega) | skip)) | refine Or.inl (And.intro (by first | exact inR_i64 (by omega) | exact inR_u32 (by omega) | exact inR_u64 (by omega) | exact inR_u8 (by omega)) ?_) | (refine And.intro (show (_ : Int) ≠ 0 by omega) (Or.inl (And.intro (show (0 : Int) ≤ _ by omega) (And.intro (show (0 : Int) < _ by omega) ?_)))) | (refine And.intro (show (_ : Int) ≠ 0 by omega) (Or.inl (And.intro (show (0 : Int) ≤ _ by omega) (And.intro (by first | exact (show (_ : Int) ≤ 9223372036854775807 by omega) | exact (show (_ : Int) ≤ 4294967295 by omega)) (And.intro (show (0 : Int) < _ by omega) ?_))))) | (refine Or.inl (Exists.intro 19 (And.intro rfl ?_))) | ((refine retE ?_; repeat' first | exact trivial | exact rfl | exact Iff.rfl | exact Or.inl rfl | refine And.intro ?_ ?_)) | (refine And.intro (show (0 : Int) ≤ _ by omega) (And.intro (show _ < (_ : Int) by omega) ?_)) | (intro _))
set_option maxRecDepth 100000 in
theorem rshape_20 : PureF gT 100 [.int .i64 20] (.tup [.int .i64 (vto 20), .int .i64 (vfrom 20)]) := by
  refine Spec.enter gTok P100 100 Tryd.func100 rfl (by kernel_rfl) ?_
  repeat' ((conv => whnf); first | (refine (And.intro (fun _ => ?_) (fun _ => ?_) : (_ → _) ∧ (_ → _)) <;> (first | (exfalso; first | contradiction | omega) | skip)) | refine Or.inl (And.intro (by first | exact inR_i64 (by omega) | exact inR_u32 (by omega) | exact inR_u64 (by omega) | exact inR_u8 (by omega)) ?_) | (refine And.intro (show (_ : Int) ≠ 0 by omega) (Or.inl (And.intro (show (0 : Int) ≤ _ by omega) (And.intro (show (0 : Int) < _ by omega) ?_)))) | (refine And.intro (show (_ : Int) ≠ 0 by omega) (Or.inl (And.intro (show (0 : Int) ≤ _ by omega) (And.intro (by first | exact (show (_ : Int) ≤ 9223372036854775807 by omega) | exact (show (_ : Int) ≤ 4294967295 by omega)) (And.intro (show (0 : Int) < _ by omega) ?_))))) | (refine Or.inl (Exists.intro 20 (And.intro rfl ?_))) | ((refine retE ?_; repeat' first | exact trivial | exact rfl | exact Iff.rfl | exact Or.inl rfl | refine And.intro ?_ ?_)) | (refine And.intro (show (0 : Int) ≤ _ by omega) (And.intro (show _ < (_ : Int) by omega) ?_)) | (intro _))
set_option maxRecDepth 100000 in
theorem rshape_21 : PureF gT 100 [.int .i64 21] (.tup [.int .i64 (vto 21), .int .i64 (vfrom 21)]) := by
  refine Spec.enter gTok P100 100 Tryd.func100 rfl (by kernel_rfl) ?_
  repeat' ((conv => whnf); first | (refine (And.intro (fun _ => ?_) (fun _ => ?_) : (_ → _) ∧ (_ → _)) <;> (first | (exfalso; first | contradiction | omega) | skip)) | refine Or.inl (And.intro (by first | exact inR_i64 (by omega) | exact inR_u32 (by omega) | exact inR_u64 (by omega) | exact inR_u8 (by omega)) ?_) | (refine And.intro (show (_ : Int) ≠ 0 by omega) (Or.inl (And.intro (show (0 : Int) ≤ _ by omega) (And.intro (show (0 : Int) < _ by omega) ?_)))) | (refine And.intro (show (_ : Int) ≠ 0 by omega) (Or.inl (And.intro (show (0 : Int) ≤ _ by omega) (And.intro (by first | exact (show (_ : Int) ≤ 9223372036854775807 by omega) | exact (show (_ : Int) ≤ 4294967295 by omega)) (And.intro (show (0 : Int) < _ by omega) ?_))))) | (refine Or.inl (Exists.intro 21 (And.intro rfl ?_))) | ((refine retE ?_; repeat' first | exact trivial | exact rfl | exact Iff.rfl | exact Or.inl rfl | refine And.intro ?_ ?_)) | (refine And.intro (show (0 : Int) ≤ _ by omega) (And.intro (show _ < (_ : Int) by omega) ?_)) | (intro _))
set_option maxRecDepth 100000 in
theorem rshape_22 : PureF gT 100 [.int .i64 22] (.tup [.int .i64 (vto 22), .int .i64 (vfrom 22)]) := by
  refine Spec.enter gTok P100 100 Tryd.func100 rfl (by kernel_rfl) ?_
  repeat' ((conv => whnf); first | (refine (And.intro (fun _ => ?_) (fun _ => ?_) : (_ → _) ∧ (_ → _)) <;> (first | (exfalso; first | contradiction | omega) | skip)) | refine Or.inl (And.intro (by first | exact inR_i64 (by omega) | exact inR_u32 (by omega) | exact inR_u64 (by omega) | exact inR_u8 (by omega)) ?_) | (refine And.intro (show (_ : Int) ≠ 0 by omega) (Or.inl (And.intro (show (0 : Int) ≤ _ by omega) (And.intro (show (0 : Int) < _ by omega) ?_)))) | (refine And.intro (show (_ : Int) ≠ 0 by omega) (Or.inl (And.intro (show (0 : Int) ≤ _ by omega) (And.intro (by first | exact (show (_ : Int) ≤ 9223372036854775807 by omega) | exact (show (_ : Int) ≤ 4294967295 by omega)) (And.intro (show (0 : Int) < _ by omega) ?_))))) | (refine Or.inl (Exists.intro 22 (And.intro rfl ?_))) | ((refine retE ?_; repeat' first | exact trivial | exact rfl | exact Iff.rfl | exact Or.inl rfl | refine And.intro ?_ ?_)) | (refine And.intro (show (0 : Int) ≤ _ by omega) (And.intro (show _ < (_ : Int) by omega) ?_)) | (intro _))
set_option maxRecDepth 100000 in
theorem rshape_23 : PureF gT 100 [.int .i64 23] (.tup [.int .i64 (vto 23), .int .i64 (vfrom 23)]) := by
  refine Spec.enter gTok P100 100 Tryd.func100 rfl (by kernel_rfl) ?_
  repeat' ((conv => whnf); first | (refine (And.intro (fun _ => ?_) (fun _ => ?_) : (_ → _) ∧ (_ → _)) <;> (first | (exfalso; first | contradiction | omega) | skip)) | refine Or.inl (And.intro (by first | exact inR_i64 (by omega) | exact inR_u32 (by omega) | exact inR_u64 (by omega) | exact inR_u8 (by omega)) ?_) | (refine And.intro (show (_ : Int) ≠ 0 by omega) (Or.inl (And.intro (show (0 : Int) ≤ _ by omega) (And.intro (show (0 : Int) < _ by omega) ?_)))) | (refine And.intro (show (_ : Int) ≠ 0 by omega) (Or.inl (And.intro (show (0 : Int) ≤ _ by omega) (And.intro (by first | exact (show (_ : Int) ≤ 9223372036854775807 by omega) | exact (show (_ : Int) ≤ 4294967295 by omega)) (And.intro (show (0 : Int) < _ by omega) ?_))))) | (refine Or.inl (Exists.intro 23 (And.intro rfl ?_))) | ((refine retE ?_; repeat' first | exact trivial | exact rfl | exact Iff.rfl | exact Or.inl rfl | refine And.intro ?_ ?_)) | (refine And.intro (show (0 : Int) ≤ _ by omega) (And.intro (show _ < (_ : Int) by omega) ?_)) | (intro _))
set_option maxRecDepth 100000 in
theorem rshape_24 : PureF gT 100 [.int .i64 24] (.tup [.int .i64 (vto 24), .int .i64 (vfrom 24)]) := by
  refine Spec.enter gTok P100 100 Tryd.func100 rfl (by kernel_rfl) ?_
  repeat' ((conv => whnf); first | (refine (And.intro (fun _ => ?_) (fun _ => ?_) : (_ → _) ∧ (_ → _)) <;> (first | (exfalso; first | contradiction | omega) | skip)) | refine Or.inl (And.intro (by first | exact inR_i64 (by omega) | exact inR_u32 (by omega) | exact inR_u64 (by omega) | exact inR_u8 (by omega)) ?_) | (refine And.intro (show (_ : Int) ≠ 0 by omega) (Or.inl (And.intro (show (0 : Int) ≤ _ by omega) (And.intro (show (0 : Int) < _ by omega) ?_)))) | (refine And.intro (show (_ : Int) ≠ 0 by omega) (Or.inl (And.intro (show (0 : Int) ≤ _ by omega) (And.intro (by first | exact (show (_ : Int) ≤ 9223372036854775807 by omega) | exact (show (_ : Int) ≤ 4294967295 by omega)) (And.intro (show (0 : Int) < _ by omega) ?_))))) | (refine Or.inl (Exists.intro 24 (And.intro rfl ?_))) | ((refine retE ?_; repeat' first | exact trivial | exact rfl | exact Iff.rfl | exact Or.inl rfl | refine And.intro ?_ ?_)) | (refine And.intro (show (0 : Int) ≤ _ by omega) (And.intro (show _ < (_ : Int) by omega) ?_)) | (intro _))
set_option maxRecDepth 100000 in
theorem rshape_25 : PureF gT 100 [.int .i64 25] (.tup [.int .i64 (vto 25), .int .i64 (vfrom 25)]) := by
  refine Spec.enter gTok P100 100 Tryd.func100 rfl (by kernel_rfl) ?_
  repeat' ((conv => whnf); first | (refine (And.intro (fun _ => ?_) (fun _ => ?_) : (_ → _) ∧ (_ → _)) <;> (first | (exfalso; first | contradiction | omega) | skip)) | refine Or.inl (And.intro (by first | exact inR_i64 (by omega) | exact inR_u32 (by omega) | exact inR_u64 (by omega) | exact inR_u8 (by omega)) ?_) | (refine And.intro (show (_ : Int) ≠ 0 by omega) (Or.inl (And.intro (show (0 : Int) ≤ _ by omega) (And.intro (show (0 : Int) < _ by omega) ?_)))) | (refine And.intro (show (_ : Int) ≠ 0 by omega) (Or.inl (And.intro (show (0 : Int) ≤ _ by omega) (And.intro (by first | exact (show (_ : Int) ≤ 9223372036854775807 by omega) | exact (show (_ : Int) ≤ 4294967295 by omega)) (And.intro (show (0 : Int) < _ by omega) ?_))))) | (refine Or.inl (Exists.intro 25 (And.intro rfl ?_))) | ((refine retE ?_; repeat' first | exact trivial | exact rfl | exact Iff.rfl | exact Or.inl rfl | refine And.intro ?_ ?_)) | (refine And.intro (show (0 : Int) ≤ _ by omega) (And.intro (show _ < (_ : Int) by omega) ?_)) | (intro _))
set_option maxRecDepth 100000 in
theorem rshape_26 : PureF gT 100 [.int .i64 26] (.tup [.int .i64 (vto 26), .int .i64 (vfrom 26)]) := by
  refine Spec.enter gTok P100 100 Tryd.func100 rfl (by kernel_rfl) ?_
  repeat' ((conv => whnf); first | (refine (And.intro (fun _ => ?_) (fun _ => ?_) : (_ → _) ∧ (_ → _)) <;> (first | (exfalso; first | contradiction | omega) | skip)) | refine Or.inl (And.intro (by first | exact inR_i64 (by omega) | exact inR_u32 (by omega) | exact inR_u64 (by omega) | exact inR_u8 (by omega)) ?_) | (refine And.intro (show (_ : Int) ≠ 0 by omega) (Or.inl (And.intro (show (0 : Int) ≤ _ by omega) (And.intro (show (0 : Int) < _ by omega) ?_)))) | (refine And.intro (show (_ : Int) ≠ 0 by omega) (Or.inl (And.intro (show (0 : Int) ≤ _ by omega) (And.intro (by first | exact (show (_ : Int) ≤ 9223372036854775807 by omega) | exact (show (_ : Int) ≤ 4294967295 by omega)) (And.intro (show (0 : Int) < _ by omega) ?_))))) | (refine Or.inl (Exists.intro 26 (And.intro rfl ?_))) | ((refine retE ?_; repeat' first | exact trivial | exact rfl | exact Iff.rfl | exact Or.inl rfl | refine And.intro ?_ ?_)) | (refine And.intro (show (0 : Int) ≤ _ by omega) (And.intro (show _ < (_ : Int) by omega) ?_)) | (intro _))
set_option maxRecDepth 100000 in
theorem rshape_27 : PureF gT 100 [.int .i64 27] (.tup [.int .i64 (vto 27), .int .i64 (vfrom 27)]) := by
  refine Spec.enter gTok P100 100 Tryd.func100 rfl (by kernel_rfl) ?_
  repeat' ((conv => whnf); first | (refine (And.intro (fun _ => ?_) (fun _ => ?_) : (_ → _) ∧ (_ → _)) <;> (first | (exfalso; first | contradiction | omega) | skip)) | refine Or.inl (And.intro (by first | exact inR_i64 (by omega) | exact inR_u32 (by omega) | exact inR_u64 (by omega) | exact inR_u8 (by omega)) ?_) | (refine And.intro (show (_ : Int) ≠ 0 by omega) (Or.inl (And.intro (show (0 : Int) ≤ _ by omega) (And.intro (show (0 : Int) < _ by omega) ?_)))) | (refine And.intro (show (_ : Int) ≠ 0 by omega) (Or.inl (And.intro (show (0 : Int) ≤ _ by omega) (And.intro (by first | exact (show (_ : Int) ≤ 9223372036854775807 by omega) | exact (show (_ : Int) ≤ 4294967295 by omega)) (And.intro (show (0 : Int) < _ by omega) ?_))))) | (refine Or.inl (Exists.intro 27 (And.intro rfl ?_))) | ((refine retE ?_; repeat' first | exact trivial | exact rfl | exact Iff.rfl | exact Or.inl rfl | refine And.intro ?_ ?_)) | (refine And.intro (show (0 : Int) ≤ _ by omega) (And.intro (show _ < (_ : Int) by omega) ?_)) | (intro _))
set_option maxRecDepth 100000 in
theorem rshape_28 : PureF gT 100 [.int .i64 28] (.tup [.int .i64 (vto 28), .int .i64 (vfrom 28)]) := by
  refine Spec.enter gTok P100 100 Tryd.func100 rfl (by kernel_rfl) ?_
  repeat' ((conv => whnf); first | (refine (And.intro (fun _ => ?_) (fun _ => ?_) : (_ → _) ∧ (_ → _)) <;> (first | (exfalso; first | contradiction | omega) | skip)) | refine Or.inl (And.intro (by first | exact inR_i64 (by omega) | exact inR_u32 (by omega) | exact inR_u64 (by omega) | exact inR_u8 (by omega)) ?_) | (refine And.intro (show (_ : Int) ≠ 0 by omega) (Or.inl (And.intro (show (0 : Int) ≤ _ by omega) (And.intro (show (0 : Int) < _ by omega) ?_)))) | (refine And.intro (show (_ : Int) ≠ 0 by omega) (Or.inl (And.intro (show (0 : Int) ≤ _ by omega) (And.intro (by first | exact (show (_ : Int) ≤ 9223372036854775807 by omega) | exact (show (_ : Int) ≤ 4294967295 by omega)) (And.intro (show (0 : Int) < _ by omega) ?_))))) | (refine Or.inl (Exists.intro 28 (And.intro rfl ?_))) | ((refine retE ?_; repeat' first | exact trivial | exact rfl | exact Iff.rfl | exact Or.inl rfl | refine And.intro ?_ ?_)) | (refine And.intro (show (0 : Int) ≤ _ by omega) (And.intro (show _ < (_ : Int) by omega) ?_)) | (intro _))
set_option maxRecDepth 100000 in
theorem rshape_29 : PureF gT 100 [.int .i64 29] (.tup [.int .i64 (vto 29), .int .i64 (vfrom 29)]) := by
  refine Spec.enter gTok P100 100 Tryd.func100 rfl (by kernel_rfl) ?_
  repeat' ((conv => whnf); first | (refine (And.intro (fun _ => ?_) (fun _ => ?_) : (_ → _) ∧ (_ → _)) <;> (first | (exfalso; first | contradiction | omega) | skip)) | refine Or.inl (And.intro (by first | exact inR_i64 (by omega) | exact inR_u32 (by omega) | exact inR_u64 (by omega) | exact inR_u8 (by omega)) ?_) | (refine And.intro (show (_ : Int) ≠ 0 by omega) (Or.inl (And.intro (show (0 : Int) ≤ _ by omega) (And.intro (show (0 : Int) < _ by omega) ?_)))) | (refine And.intro (show (_ : Int) ≠ 0 by omega) (Or.inl (And.intro (show (0 : Int) ≤ _ by omega) (And.intro (by first | exact (show (_ : Int) ≤ 9223372036854775807 by omega) | exact (show (_ : Int) ≤ 4294967295 by omega)) (And.intro (show (0 : Int) < _ by omega) ?_))))) | (refine Or.inl (Exists.intro 29 (And.intro rfl ?_))) | ((refine retE ?_; repeat' first | exact trivial | exact rfl | exact Iff.rfl | exact Or.inl rfl | refine And.intro ?_ ?_)) | (refine And.intro (show (0 : Int) ≤ _ by omega) (And.intro (show _ < (_ : Int) by omega) ?_)) | (intro _))
set_option maxRecDepth 100000 in
theorem rshape_30 : PureF gT 100 [.int .i64 30] (.tup [.int .i64 (vto 30), .int .i64 (vfrom 30)]) := by
  refine Spec.enter gTok P100 100 Tryd.func100 rfl (by kernel_rfl) ?_
  repeat' ((conv => whnf); first | (refine (And.intro (fun _ => ?_) (fun _ => ?_) : (_ → _) ∧ (_ → _)) <;> (first | (exfalso; first | contradiction | omega) | skip)) | refine Or.inl (And.intro (by first | exact inR_i64 (by omega) | exact inR_u32 (by omega) | exact inR_u64 (by omega) | exact inR_u8 (by omega)) ?_) | (refine And.intro (show (_ : Int) ≠ 0 by omega) (Or.inl (And.intro (show (0 : Int) ≤ _ by omega) (And.intro (show (0 : Int) < _ by omega) ?_)))) | (refine And.intro (show (_ : Int) ≠ 0 by omega) (Or.inl (And.intro (show (0 : Int) ≤ _ by omega) (And.intro (by first | exact (show (_ : Int) ≤ 9223372036854775807 by omega) | exact (show (_ : Int) ≤ 4294967295 by omega)) (And.intro (show (0 : Int) < _ by omega) ?_))))) | (refine Or.inl (Exists.intro 30 (And.intro rfl ?_))) | ((refine retE ?_; repeat' first | exact trivial | exact rfl | exact Iff.rfl | exact Or.inl rfl | refine And.intro ?_ ?_)) | (refine And.intro (show (0 : Int) ≤ _ by omega) (And.intro (show _ < (_ : Int) by omega) ?_)) | (intro _))
set_option maxRecDepth 100000 in
theorem rshape_31 : PureF gT 100 [.int .i64 31] (.tup [.int .i64 (vto 31), .int .i64 (vfrom 31)]) := by
  refine Spec.enter gTok P100 100 Tryd.func100 rfl (by kernel_rfl) ?_
  repeat' ((conv => whnf); first | (refine (And.intro (fun _ => ?_) (fun _ => ?_) : (_ → _) ∧ (_ → _)) <;> (first | (exfalso; first | contradiction | omega) | skip)) | refine Or.inl (And.intro (by first | exact inR_i64 (by omega) | exact inR_u32 (by omega) | exact inR_u64 (by omega) | exact inR_u8 (by omega)) ?_) | (refine And.intro (show (_ : Int) ≠ 0 by omega) (Or.inl (And.intro (show (0 : Int) ≤ _ by omega) (And.intro (show (0 : Int) < _ by omega) ?_)))) | (refine And.intro (show (_ : Int) ≠ 0 by omega) (Or.inl (And.intro (show (0 : Int) ≤ _ by omega) (And.intro (by first | exact (show (_ : Int) ≤ 9223372036854775807 by omega) | exact (show (_ : Int) ≤ 4294967295 by omega)) (And.intro (show (0 : Int) < _ by omega) ?_))))) | (refine Or.inl (Exists.intro 31 (And.intro rfl ?_))) | ((refine retE ?_; repeat' first | exact trivial | exact rfl | exact Iff.rfl | exact Or.inl rfl | refine And.intro ?_ ?_)) | (refine And.intro (show (0 : Int) ≤ _ by omega) (And.intro (show _ < (_ : Int) by omega) ?_)) | (intro _))
set_option maxRecDepth 100000 in
theorem rshape_no (k : Int) (h : ¬ (1 ≤ k ∧ k ≤ 31)) : PureF gT 100 [.int .i64 k] (.tup [.int .i64 (-1), .int .i64 (-1)]) := by
  refine Spec.enter gTok P100 100 Tryd.func100 rfl (by kernel_rfl) ?_
  repeat' ((conv => whnf); first | (refine (And.intro (fun _ => ?_) (fun _ => ?_) : (_ → _) ∧ (_ → _)) <;> (first | (exfalso; first | contradiction | omega) | skip)) | refine Or.inl (And.intro (by first | exact inR_i64 (by omega) | exact inR_u32 (by omega) | exact inR_u64 (by omega) | exact inR_u8 (by omega)) ?_) | (refine And.intro (show (_ : Int) ≠ 0 by omega) (Or.inl (And.intro (show (0 : Int) ≤ _ by omega) (And.intro (show (0 : Int) < _ by omega) ?_)))) | (refine And.intro (show (_ : Int) ≠ 0 by omega) (Or.inl (And.intro (show (0 : Int) ≤ _ by omega) (And.intro (by first | exact (show (_ : Int) ≤ 9223372036854775807 by omega) | exact (show (_ : Int) ≤ 4294967295 by omega)) (And.intro (show (0 : Int) < _ by omega) ?_))))) | ((refine retE ?_; repeat' first | exact trivial | exact rfl | exact Iff.rfl | exact Or.inl rfl | refine And.intro ?_ ?_)) | (intro _))
theorem rshape_pure (k : Int) (h : 1 ≤ k ∧ k ≤ 31) : PureF gT 100 [.int .i64 k] (.tup [.int .i64 (vto k), .int .i64 (vfrom k)]) := by
  rcases kinds h with rfl | rfl | rfl | rfl | rfl | rfl | rfl | rfl | rfl | rfl | rfl | rfl | rfl | rfl | rfl | rfl | rfl | rfl | rfl | rfl | rfl | rfl | rfl | rfl | rfl | rfl | rfl | rfl | rfl | rfl | rfl
  · exact rshape_1
  · exact rshape_2
  · exact rshape_3
  · exact rshape_4
  · exact rshape_5
  · exact rshape_6
  · exact rshape_7
  · exact rshape_8
  · exact rshape_9
  · exact rshape_10
  · exact rshape_11
  · exact rshape_12
  · exact rshape_13
  · exact rshape_14
  · exact rshape_15
  · exact rshape_16
  · exact rshape_17
  · exact rshape_18
  · exact rshape_19
  · exact rshape_20
  · exact rshape_21
  · exact rshape_22
  · exact rshape_23
  · exact rshape_24
  · exact rshape_25
  · exact rshape_26
  · exact rshape_27
  · exact rshape_28
  · exact rshape_29
  · exact rshape_30
  · exact rshape_31
  

end Go.Proofs.YthpkejlmelednaaDoor.Pw

/- Chapter 18 over values: the document's operations that may be; what may be done by instructions. -/
namespace Go.Proofs.YthpkejlmelednaaDoor.Pw
open Go Go.RowKit

theorem vto_bd (k : Int) (h : 1 ≤ k ∧ k ≤ 31) : 0 ≤ vto k ∧ vto k ≤ 2 := by
  rcases kinds h with rfl | rfl | rfl | rfl | rfl | rfl | rfl | rfl | rfl | rfl | rfl | rfl | rfl | rfl | rfl | rfl | rfl | rfl | rfl | rfl | rfl | rfl | rfl | rfl | rfl | rfl | rfl | rfl | rfl | rfl | rfl <;> decide
set_option maxHeartbeats 8000000 in
set_option maxRecDepth 100000 in
theorem oright_pure (o : VO) (hn : 0 ≤ o.n ∧ o.n ≤ 4294967295) : PureF gT 47 [voP o] (.bool (vright o)) := by
  by_cases hk : 1 ≤ o.kind ∧ o.kind ≤ 31
  · have hv := vto_bd o.kind hk
    have hs := rshape_pure o.kind hk
    have e : vright o ↔ ((plc 0 (vto o.kind) o.t0 ∧ plc 1 (vto o.kind) o.t1) ∧ (plc 0 (vfrom o.kind) o.f0 ∧ plc 1 (vfrom o.kind) o.f1 ∧ plc 2 (vfrom o.kind) o.f2 ∧ plc 3 (vfrom o.kind) o.f3) ∧ (vto o.kind < 2 ∨ o.t0 ≠ o.t1) ∧ vnum o.kind o.n) := ⟨fun h => h.2, fun h => ⟨hk, h⟩⟩
    refine Spec.enter gTok P47 100 Tryd.func47 rfl (by kernel_rfl) ?_
    refine ⟨[], no_rl, hs.use (by repeat' first | exact trivial | exact rfl | exact Iff.rfl | exact Or.inl rfl | refine And.intro ?_ ?_) rfl rfl ?_⟩
    obtain ⟨to, hto⟩ : ∃ to, to = vto o.kind := ⟨_, rfl⟩
    obtain ⟨fr, hfr⟩ : ∃ fr, fr = vfrom o.kind := ⟨_, rfl⟩
    rw [← hto, ← hfr] at e ⊢
    rw [← hto] at hv
    clear hfr hto hs hk
    repeat' ((conv => whnf); first | (refine (And.intro (fun _ => ?_) (fun _ => ?_) : (_ → _) ∧ (_ → _)) <;> (first | (exfalso; first | contradiction | omega) | skip)) | refine Or.inl (And.intro (by first | exact inR_i64 (by omega) | exact inR_u32 (by omega) | exact inR_u64 (by omega) | exact inR_u8 (by omega)) ?_) | (refine And.intro (show (_ : Int) ≠ 0 by omega) (Or.inl (And.intro (show (0 : Int) ≤ _ by omega) (And.intro (show (0 : Int) < _ by omega) ?_)))) | (refine And.intro (show (_ : Int) ≠ 0 by omega) (Or.inl (And.intro (show (0 : Int) ≤ _ by omega) (And.intro (by first | exact (show (_ : Int) ≤ 9223372036854775807 by omega) | exact (show (_ : Int) ≤ 4294967295 by omega)) (And.intro (show (0 : Int) < _ by omega) ?_))))) | (refine SW.rounds gTok P47 (by kernel_rfl) (N := 60) 5 ?_) | (refine retE ?_; (show ¬ vright o); rw [e]; (try simp only [Classical.not_not, wr1, wr2, wr3, wr4, wr5, wr6, wr7, wr8, wr9, wr10, wr11] at *); clear e; simp only [plc, vnum] at *; omega) | (refine retE ?_; (show _ ↔ vright o); rw [e]; (try simp only [Classical.not_not, wr1, wr2, wr3, wr4, wr5, wr6, wr7, wr8, wr9, wr10, wr11] at *); clear e; simp only [plc, vnum] at *; omega) | (refine retE ?_; (show vright o); rw [e]; (try simp only [Classical.not_not, wr1, wr2, wr3, wr4, wr5, wr6, wr7, wr8, wr9, wr10, wr11] at *); clear e; simp only [plc, vnum] at *; omega) | (refine Exists.intro [] (And.intro no_rl ((rreg_pure _ _ _).use (by repeat' first | exact trivial | exact rfl | exact Iff.rfl | exact Or.inl rfl | refine And.intro ?_ ?_) rfl rfl ?_))) | (intro _))
  · refine Spec.enter gTok P47 100 Tryd.func47 rfl (by kernel_rfl) ?_
    refine ⟨[], no_rl, (rshape_no o.kind hk).use (by repeat' first | exact trivial | exact rfl | exact Iff.rfl | exact Or.inl rfl | refine And.intro ?_ ?_) rfl rfl ?_⟩
    repeat' ((conv => whnf); first | (refine (And.intro (fun _ => ?_) (fun _ => ?_) : (_ → _) ∧ (_ → _)) <;> (first | (exfalso; first | contradiction | omega) | skip)) | refine Or.inl (And.intro (by first | exact inR_i64 (by omega) | exact inR_u32 (by omega) | exact inR_u64 (by omega) | exact inR_u8 (by omega)) ?_) | (refine And.intro (show (_ : Int) ≠ 0 by omega) (Or.inl (And.intro (show (0 : Int) ≤ _ by omega) (And.intro (show (0 : Int) < _ by omega) ?_)))) | (refine And.intro (show (_ : Int) ≠ 0 by omega) (Or.inl (And.intro (show (0 : Int) ≤ _ by omega) (And.intro (by first | exact (show (_ : Int) ≤ 9223372036854775807 by omega) | exact (show (_ : Int) ≤ 4294967295 by omega)) (And.intro (show (0 : Int) < _ by omega) ?_))))) | (refine retE ?_; exact (show ¬ vright o from fun h => hk h.1)) | (intro _))

end Go.Proofs.YthpkejlmelednaaDoor.Pw

/- Chapter 18 over values: what may be done by instructions; the document's examples. -/
namespace Go.Proofs.YthpkejlmelednaaDoor.Pw
open Go Go.RowKit

def vpair (t f : Int) : Prop := ¬ 7 < t ∧ ¬ 7 < f ∧ ¬ (0 ≤ t ∧ t = f)
theorem mem_nm (l : List Int) (x : Int) : x ∈ nm l ↔ x ∈ l ∧ x ≠ -1 := by simp [nm]
theorem vsmall_iff (o : VO) (hv : vright o) : (vright o ∧ vsmall o) ↔ (vpair o.t0 o.f0 ∧ vpair o.t0 o.f1 ∧ vpair o.t0 o.f2 ∧ vpair o.t0 o.f3) ∧ (vpair o.t1 o.f0 ∧ vpair o.t1 o.f1 ∧ vpair o.t1 o.f2 ∧ vpair o.t1 o.f3) := by
  have hv0 := hv
  obtain ⟨_, ⟨a0, a1⟩, ⟨b0, b1, b2, b3⟩, _⟩ := hv
  have g : ∀ i n r, plc i n r → -1 ≤ r := fun i n r h => by unfold plc at h; omega
  have a0 := g _ _ _ a0; have a1 := g _ _ _ a1; have b0 := g _ _ _ b0; have b1 := g _ _ _ b1; have b2 := g _ _ _ b2; have b3 := g _ _ _ b3
  refine ⟨fun ⟨_, h1, h2⟩ => ?_, fun h => ⟨hv0, ?_, ?_⟩⟩
  · have hf : ∀ x ∈ o.from_, x ≠ -1 → x < 8 := fun x hx hn => h1 x (List.mem_append_left _ ((mem_nm _ _).2 ⟨hx, hn⟩))
    have ht : ∀ x ∈ o.to, x ≠ -1 → x < 8 := fun x hx hn => h1 x (List.mem_append_right _ ((mem_nm _ _).2 ⟨hx, hn⟩))
    have hp : ∀ x ∈ o.to, x ≠ -1 → x ∉ o.from_ := fun x hx hn hf => h2 ⟨x, (mem_nm _ _).2 ⟨hx, hn⟩, (mem_nm _ _).2 ⟨hf, hn⟩⟩
    have f0 := hf o.f0 (by simp [VO.from_]); have f1 := hf o.f1 (by simp [VO.from_]); have f2 := hf o.f2 (by simp [VO.from_]); have f3 := hf o.f3 (by simp [VO.from_])
    have t0 := ht o.t0 (by simp [VO.to]); have t1 := ht o.t1 (by simp [VO.to])
    have p0 := hp o.t0 (by simp [VO.to]); have p1 := hp o.t1 (by simp [VO.to])
    simp only [VO.from_, List.mem_cons, List.not_mem_nil, or_false, not_or] at p0 p1
    unfold vpair
    omega
  · intro x hx
    simp only [List.mem_append, mem_nm, VO.from_, VO.to, List.mem_cons, List.not_mem_nil, or_false] at hx
    unfold vpair at h
    omega
  · rintro ⟨x, hx, hy⟩
    simp only [mem_nm, VO.from_, VO.to, List.mem_cons, List.not_mem_nil, or_false] at hx hy
    unfold vpair at h
    omega
set_option maxHeartbeats 8000000 in
set_option maxRecDepth 100000 in
theorem fits_pure (o : VO) (hn : 0 ≤ o.n ∧ o.n ≤ 4294967295) : PureF gT 21 [voP o] (.bool (vright o ∧ vsmall o)) := by
  refine Spec.enter gTok P21 100 Tryd.func21 rfl (by kernel_rfl) ?_
  refine ⟨[], no_rl, (oright_pure o hn).use (by repeat' first | exact trivial | exact rfl | exact Iff.rfl | exact Or.inl rfl | refine And.intro ?_ ?_) rfl rfl ?_⟩
  refine And.intro (fun h1 => ?_) (fun h1 => ?_)
  · refine retE ?_
    exact (show ¬ (vright o ∧ vsmall o) from fun h => h1 h.1)
  have e := vsmall_iff o (Classical.not_not.1 h1)
  clear h1
  repeat' ((conv => whnf); first | (refine (And.intro (fun _ => ?_) (fun _ => ?_) : (_ → _) ∧ (_ → _)) <;> (first | (exfalso; first | contradiction | omega) | skip)) | refine Or.inl (And.intro (by first | exact inR_i64 (by omega) | exact inR_u32 (by omega) | exact inR_u64 (by omega) | exact inR_u8 (by omega)) ?_) | (refine And.intro (show (_ : Int) ≠ 0 by omega) (Or.inl (And.intro (show (0 : Int) ≤ _ by omega) (And.intro (show (0 : Int) < _ by omega) ?_)))) | (refine And.intro (show (_ : Int) ≠ 0 by omega) (Or.inl (And.intro (show (0 : Int) ≤ _ by omega) (And.intro (by first | exact (show (_ : Int) ≤ 9223372036854775807 by omega) | exact (show (_ : Int) ≤ 4294967295 by omega)) (And.intro (show (0 : Int) < _ by omega) ?_))))) | (refine retE ?_; (show ¬ (vright o ∧ vsmall o)); rw [e]; clear e; unfold vpair; omega) | (refine retE ?_; (show vright o ∧ vsmall o); rw [e]; clear e; unfold vpair; omega) | (refine SW.rounds gTok P21 (by kernel_rfl) (N := 60) 5 ?_) | (intro _))

def oNum (n : Int) : VO := ⟨1, 3, -1, -1, -1, -1, -1, n⟩
theorem oNum_ok (n : Int) : vright (oNum n) ∧ vsmall (oNum n) := by
  have h : vright (oNum n) := by
    refine ⟨show (1 : Int) ≤ 1 ∧ (1 : Int) ≤ 31 by decide, ?_, ?_, .inl (show vto 1 < 2 by decide), .inl rfl⟩
    · show plc 0 (vto 1) 3 ∧ plc 1 (vto 1) (-1)
      rw [show vto 1 = 1 by decide]; unfold plc; omega
    · show plc 0 (vfrom 1) (-1) ∧ plc 1 (vfrom 1) (-1) ∧ plc 2 (vfrom 1) (-1) ∧ plc 3 (vfrom 1) (-1)
      rw [show vfrom 1 = 0 by decide]; unfold plc; omega
  refine (vsmall_iff _ h).2 ?_
  show (vpair 3 (-1) ∧ vpair 3 (-1) ∧ vpair 3 (-1) ∧ vpair 3 (-1)) ∧ (vpair (-1) (-1) ∧ vpair (-1) (-1) ∧ vpair (-1) (-1) ∧ vpair (-1) (-1))
  unfold vpair
  omega
set_option maxHeartbeats 8000000 in
set_option maxRecDepth 100000 in
theorem anchor18_pure : PureF gT 20 [] .tt := by
  have e1 : insR (oNum 256) = .tup [.sl 11 (insP [iM 60 3 3968]), .int .i64 0] := by
    rw [insR, if_pos (oNum_ok _)]
    have h1 : Rm.ofE 256 = 0 := by decide +kernel
    have h2 : Rm.ofN 256 = 3968 := by decide +kernel
    simp only [insL, oNum, threeF, memL, pairL, singL, testL, numL, h1, h2, ne_eq, reduceIte, Int.reduceEq, Int.reduceLE, not_false_eq_true, not_true_eq_false, List.nil_append, List.append_nil]
  have e2 : insR (oNum 305419896) = .tup [.sl 11 (insP [iM 48 3 22136, iM 49 3 4660]), .int .i64 0] := by
    rw [insR, if_pos (oNum_ok _)]
    have h1 : Rm.ofE 305419896 ≠ 0 := by decide +kernel
    have h2 : Rm.ofE (4294967295 - 305419896) ≠ 0 := by decide +kernel
    simp only [insL, oNum, threeF, memL, pairL, singL, testL, numL, h1, h2, ne_eq, reduceIte, Int.reduceEq, Int.reduceLE, Int.reduceDiv, Int.reduceMod, not_false_eq_true, not_true_eq_false, List.nil_append, List.append_nil]
  have i1 := insts_pure (oNum 256) (show (0 : Int) ≤ 256 ∧ (256 : Int) ≤ 4294967295 by decide)
  have i2 := insts_pure (oNum 305419896) (show (0 : Int) ≤ 305419896 ∧ (305419896 : Int) ≤ 4294967295 by decide)
  rw [e1] at i1
  rw [e2] at i2
  refine Spec.enter gTok P20 100 Tryd.func20 rfl (by kernel_rfl) ?_
  repeat' ((conv => whnf); first | (refine (And.intro (fun _ => ?_) (fun _ => ?_) : (_ → _) ∧ (_ → _)) <;> (first | (exfalso; first | contradiction | omega) | skip)) | refine Or.inl (And.intro (by first | exact inR_i64 (by omega) | exact inR_u32 (by omega) | exact inR_u64 (by omega) | exact inR_u8 (by omega)) ?_) | (refine And.intro (show (_ : Int) ≠ 0 by omega) (Or.inl (And.intro (show (0 : Int) ≤ _ by omega) (And.intro (show (0 : Int) < _ by omega) ?_)))) | (refine And.intro (show (_ : Int) ≠ 0 by omega) (Or.inl (And.intro (show (0 : Int) ≤ _ by omega) (And.intro (by first | exact (show (_ : Int) ≤ 9223372036854775807 by omega) | exact (show (_ : Int) ≤ 4294967295 by omega)) (And.intro (show (0 : Int) < _ by omega) ?_))))) | (refine SW.rounds gTok P99 (by kernel_rfl) (N := 60) 5 ?_) | (refine Exists.intro [] (And.intro no_rl (Spec.enter gTok P99 100 Tryd.func99 rfl (by kernel_rfl) ?_))) | (refine Exists.intro [] (And.intro no_rl (Spec.enter gTok P46 100 Tryd.func46 rfl (by kernel_rfl) ?_))) | (refine Exists.intro _ (And.intro (PLe.refl _) ?_)) | (intro _))
  refine ⟨[], no_rl, i1.use (by repeat' first | exact trivial | exact rfl | exact Iff.rfl | exact Or.inl rfl | refine And.intro ?_ ?_) rfl rfl ?_⟩
  repeat' ((conv => whnf); first | (refine (And.intro (fun _ => ?_) (fun _ => ?_) : (_ → _) ∧ (_ → _)) <;> (first | (exfalso; first | contradiction | omega) | skip)) | refine Or.inl (And.intro (by first | exact inR_i64 (by omega) | exact inR_u32 (by omega) | exact inR_u64 (by omega) | exact inR_u8 (by omega)) ?_) | (refine And.intro (show (_ : Int) ≠ 0 by omega) (Or.inl (And.intro (show (0 : Int) ≤ _ by omega) (And.intro (show (0 : Int) < _ by omega) ?_)))) | (refine And.intro (show (_ : Int) ≠ 0 by omega) (Or.inl (And.intro (show (0 : Int) ≤ _ by omega) (And.intro (by first | exact (show (_ : Int) ≤ 9223372036854775807 by omega) | exact (show (_ : Int) ≤ 4294967295 by omega)) (And.intro (show (0 : Int) < _ by omega) ?_))))) | (refine SW.rounds gTok P99 (by kernel_rfl) (N := 60) 5 ?_) | (refine Exists.intro [] (And.intro no_rl (Spec.enter gTok P99 100 Tryd.func99 rfl (by kernel_rfl) ?_))) | (refine Exists.intro [] (And.intro no_rl (Spec.enter gTok P46 100 Tryd.func46 rfl (by kernel_rfl) ?_))) | (refine Exists.intro _ (And.intro (PLe.refl _) ?_)) | (intro _))
  refine ⟨[], no_rl, i2.use (by repeat' first | exact trivial | exact rfl | exact Iff.rfl | exact Or.inl rfl | refine And.intro ?_ ?_) rfl rfl ?_⟩
  refine And.intro (fun _ => ?_) (fun h => absurd rfl h)
  refine And.intro (fun _ => ?_) (fun h => absurd rfl h)
  intro _
  refine And.intro (fun _ => ?_) (fun h => absurd rfl h)
  refine ⟨IN, [iM 60 3 3968], inP, rfl, by decide, by decide, fun x hx => ?_⟩
  obtain rfl : iM 60 3 3968 = x := Option.some.inj hx
  refine And.intro (fun _ => ?_) (fun h => absurd ⟨rfl, rfl, rfl, rfl, rfl, rfl, rfl, rfl, rfl, rfl, rfl, trivial⟩ h)
  intro _
  refine And.intro (fun _ => ?_) (fun h => absurd rfl h)
  refine ⟨IN, [iM 48 3 22136, iM 49 3 4660], inP, rfl, by decide, by decide, fun x hx => ?_⟩
  obtain rfl : iM 48 3 22136 = x := Option.some.inj hx
  refine And.intro (fun _ => ?_) (fun h => absurd rfl h)
  refine ⟨IN, [iM 48 3 22136, iM 49 3 4660], inP, rfl, by decide, by decide, fun x hx => ?_⟩
  obtain rfl : iM 49 3 4660 = x := Option.some.inj hx
  exact retE rfl

end Go.Proofs.YthpkejlmelednaaDoor.Pw

/- Operations that come in to chapter 18's laws, opened; the tables. -/
namespace Go.Proofs.YthpkejlmelednaaDoor.selLaid
open Go.ChangeShapes Go.WideShapes Go.ChangeAt Go.RowKit Go.Deep

def laidList : List (String × DataW Unit) := [("remontoire/imm.factors", Rows.laid_remontoire_imm_factors), ("remontoire/vop.rows", Rows.laid_remontoire_vop_rows)]

def fuel : Nat := 3000
theorem door_met (os : Os) (args : Array Value) : laidMetH Tryd.prog laidList ((World.doorLaid Tryd.prog fuel os).forCall (fun _ _ => 0) ⟨#[], args, []⟩).memory :=
  laidMetH_of_parts3 (fuel := 8) (laidMet_of_run' 8 (by kernel_rfl) (by kernel_rfl)) (by kernel_rfl) (by kernel_rfl)

end Go.Proofs.YthpkejlmelednaaDoor.selLaid

namespace Go.Proofs.YthpkejlmelednaaDoor.Pw
open Go Go.RowKit

theorem immSel {W : World} (h : laidMetH Tryd.prog selLaid.laidList W) : ImmOk gT (In W) W :=
  immOk_laid (laid := selLaid.laidList) (by kernel_rfl) h fun x hx => by
    have hx' : x ∈ [(2, facP), (1, vrowsP)] := hx
    simp only [List.mem_cons, List.not_mem_nil, or_false] at hx'
    rcases hx' with rfl | rfl
    · exact ⟨"remontoire/imm.factors", _, 156, List.mem_cons_self, by kernel_rfl, by kernel_rfl, by kernel_rfl, nofun⟩
    · exact ⟨"remontoire/vop.rows", _, 143, List.mem_cons_of_mem _ List.mem_cons_self, by kernel_rfl, by kernel_rfl, by kernel_rfl, nofun⟩

/-- an array that comes in -/
theorem opArr {P : Program} {t e : TypeId} {S : PV → Prop} {n : Nat} (ht : P.underlying t = some (.array n e)) (he : Op P e S) (hc : P.cellsOf t = n * P.cellsOf e) : Op P t (SAgg (List.replicate n S)) := fun {H} ec w base held fuel cs x h hwt => by
  obtain ⟨xs, m, _, rfl, hl, hxl, hx⟩ := DataW.trod_array ht h
  have key : ∀ (k off : Nat), k + off = n → ∃ ys, All2S (List.replicate k S) ys ∧ IsL w (In w) (ys.flatMap PV.cells) no (cs.drop (off * P.cellsOf e)) ∧ ∀ c ∈ cs.drop (off * P.cellsOf e), c.oneCell' = true := by
    intro k
    induction k with
    | zero =>
      intro off hk
      have hge : cs.length ≤ off * P.cellsOf e := by rw [hl, hc, show off = n by omega]; exact Nat.le_refl _
      refine ⟨[], trivial, ?_, ?_⟩
      · rw [List.drop_eq_nil_of_le hge]; simp only [List.flatMap_nil, IsL]
      · rw [List.drop_eq_nil_of_le hge]; intro c hc; cases hc
    | succ k ih =>
      intro off hk
      obtain ⟨ys, h1, h2, h3⟩ := ih (off + 1) (by omega)
      have hi := hx off (by omega)
      have hlt : off < xs.length := by omega
      rw [List.getElem?_eq_getElem hlt] at hi
      obtain ⟨y, hS, _, hy, hyl, hy1⟩ := he ec w base held m _ _ hi fun n hn => hwt n (by
        simp only [DataW.weights, ht]
        exact weights_all (List.mem_map.2 ⟨xs[off], List.getElem_mem hlt, rfl⟩) hn)
      have hd : cs.drop (off * P.cellsOf e) = (cs.drop (off * P.cellsOf e)).take (P.cellsOf e) ++ cs.drop ((off + 1) * P.cellsOf e) := by
        rw [Nat.succ_mul, ← List.drop_drop, List.take_append_drop]
      refine ⟨y :: ys, ⟨hS, h1⟩, ?_, ?_⟩
      · rw [hd, List.flatMap_cons]; exact hy.append h2
      · intro c hcc
        rw [hd, List.mem_append] at hcc
        exact hcc.elim (hy1 c) (h3 c)
  obtain ⟨ys, h1, h2, h3⟩ := key n 0 rfl
  rw [Nat.zero_mul, List.drop_zero] at h2 h3
  exact ⟨.agg (ys.flatMap PV.cells), ⟨ys, h1, rfl⟩, nofun, h2, hl, h3⟩

structure VO.Ok (o : VO) : Prop where
  n : 0 ≤ o.n ∧ o.n ≤ 4294967295
theorem inR_u32s {z : Int} (h : InR .u32 z) : 0 ≤ z ∧ z ≤ 4294967295 := by unfold InR Ev.kmin Ev.kmax at h; simp only [IntKind.signed, IntKind.bits] at h; simpa using h
theorem opVO_ : Op Tryd.prog 40 (SAgg [SInt .i64, SAgg (List.replicate 2 (SInt .i64)), SAgg (List.replicate 4 (SInt .i64)), SInt .u32]) :=
  opAgg (Ss := [SInt .i64, SAgg (List.replicate 2 (SInt .i64)), SAgg (List.replicate 4 (SInt .i64)), SInt .u32]) Tryd.underlying40
    ⟨rfl, opInt Tryd.underlying3 (by kernel_rfl), (show _ = _ by kernel_rfl), opArr Tryd.underlying37 (opInt Tryd.underlying3 (by kernel_rfl)) (by kernel_rfl), (show _ = _ by kernel_rfl), opArr Tryd.underlying38 (opInt Tryd.underlying3 (by kernel_rfl)) (by kernel_rfl), (show _ = _ by kernel_rfl), opInt Tryd.underlying25 (by kernel_rfl), (show _ = _ by kernel_rfl)⟩
theorem vo_dec (x : PV) (h : SAgg [SInt .i64, SAgg (List.replicate 2 (SInt .i64)), SAgg (List.replicate 4 (SInt .i64)), SInt .u32] x) : ∃ o : VO, o.Ok ∧ x = voP o := by
  obtain ⟨xs, h, rfl⟩ := h
  obtain ⟨_, _, rfl, ⟨k, _, rfl⟩, h_1⟩ := all2_cons h
  obtain ⟨_, _, rfl, ⟨ts, ht, rfl⟩, h_2⟩ := all2_cons h_1
  obtain ⟨_, _, rfl, ⟨fs, hf, rfl⟩, h_3⟩ := all2_cons h_2
  obtain ⟨_, _, rfl, ⟨n, hn, rfl⟩, h_4⟩ := all2_cons h_3
  obtain rfl := all2_nil h_4
  obtain ⟨_, _, rfl, ⟨t0, _, rfl⟩, ht_1⟩ := all2_cons ht
  obtain ⟨_, _, rfl, ⟨t1, _, rfl⟩, ht_2⟩ := all2_cons ht_1
  obtain rfl := all2_nil ht_2
  obtain ⟨_, _, rfl, ⟨f0, _, rfl⟩, hf_1⟩ := all2_cons hf
  obtain ⟨_, _, rfl, ⟨f1, _, rfl⟩, hf_2⟩ := all2_cons hf_1
  obtain ⟨_, _, rfl, ⟨f2, _, rfl⟩, hf_3⟩ := all2_cons hf_2
  obtain ⟨_, _, rfl, ⟨f3, _, rfl⟩, hf_4⟩ := all2_cons hf_3
  obtain rfl := all2_nil hf_4
  exact ⟨⟨k, t0, t1, f0, f1, f2, f3, n⟩, ⟨inR_u32s hn⟩, rfl⟩
def SVO (x : PV) : Prop := ∃ o : VO, o.Ok ∧ x = voP o
theorem opVO : Op Tryd.prog 40 SVO := opVO_.weak vo_dec
theorem opVOs : Op Tryd.prog 48 (SLs 8 64 voP VO.Ok) :=
  opList (opSlice opVO_ 8 64 (by kernel_rfl) Tryd.underlying48 (by kernel_rfl) (by decide) (by kernel_rfl)) vo_dec

end Go.Proofs.YthpkejlmelednaaDoor.Pw

/- Chapter 18 over values: SelSome. -/
namespace Go.Proofs.YthpkejlmelednaaDoor.Pw
open Go Go.RowKit

theorem insL_len2 (o : VO) : (insL o).length ≤ 100 := by
  unfold insL
  split
  · simp
  · have := insLen o
    simp only [List.length_append]; omega
theorem insts_yes (o : VO) (h : o.Ok) (hf : vright o ∧ vsmall o) : PureF gT 22 [voP o] (.tup [.sl 11 (insP (insL o)), .int .i64 0]) := by
  have := insts_pure o h.n
  rwa [insR, if_pos hf] at this
theorem insts_no (o : VO) (h : o.Ok) (hf : ¬ (vright o ∧ vsmall o)) : PureF gT 22 [voP o] (.tup [.sl 11 [], .int .i64 10]) := by
  have := insts_pure o h.n
  rwa [insR, if_neg hf] at this
def trapC (k : Int) : Int := if k = 30 then 2 else if k = 31 then 0 else -1
def trapN (k : Int) : Int := if k = 30 then 1 else if k = 31 then 2 else 0
theorem trap_pure (o : VO) : PureF gT 37 [voP o] (.tup [.int .i64 (trapC o.kind), .int .i64 (trapN o.kind)]) := by
  refine Spec.enter gTok P37 100 Tryd.func37 rfl (by kernel_rfl) ?_
  repeat' ((conv => whnf); first | (refine (And.intro (fun _ => ?_) (fun _ => ?_) : (_ → _) ∧ (_ → _)) <;> (first | (exfalso; first | contradiction | omega) | skip)) | refine Or.inl (And.intro (by first | exact inR_i64 (by omega) | exact inR_u32 (by omega) | exact inR_u64 (by omega) | exact inR_u8 (by omega)) ?_) | (refine And.intro (show (_ : Int) ≠ 0 by omega) (Or.inl (And.intro (show (0 : Int) ≤ _ by omega) (And.intro (show (0 : Int) < _ by omega) ?_)))) | (refine And.intro (show (_ : Int) ≠ 0 by omega) (Or.inl (And.intro (show (0 : Int) ≤ _ by omega) (And.intro (by first | exact (show (_ : Int) ≤ 9223372036854775807 by omega) | exact (show (_ : Int) ≤ 4294967295 by omega)) (And.intro (show (0 : Int) < _ by omega) ?_))))) | ((simp only [trapC, trapN, *, if_true, if_false, reduceIte, Int.reduceEq]); (refine retE ?_; repeat' first | exact trivial | exact rfl | exact Iff.rfl | exact Or.inl rfl | refine And.intro ?_ ?_)) | (intro _))
/-- an operation that is done and doesn't trap -/
def okO (o : VO) : Prop := (vright o ∧ vsmall o) ∧ o.kind ≠ 30 ∧ o.kind ≠ 31
theorem trapC_ok {o : VO} (h : okO o) : trapC o.kind = -1 := by unfold trapC; rw [if_neg h.2.1, if_neg h.2.2]
theorem okO_of {o : VO} (h1 : vright o ∧ vsmall o) (h2 : trapC o.kind = -1) : okO o := by
  unfold trapC at h2
  refine ⟨h1, fun h => ?_, fun h => ?_⟩
  · rw [if_pos h] at h2; omega
  · rw [if_neg (by omega), if_pos h] at h2; omega
def allIns (l : List VO) : List IN := l.flatMap insL
theorem allIns_len (l : List VO) : (allIns l).length ≤ 100 * l.length := by
  induction l with
  | nil => simp [allIns]
  | cons o l ih =>
    have := insL_len2 o
    unfold allIns at ih ⊢
    rw [List.flatMap_cons, List.length_append, List.length_cons]; omega
theorem allIns_take {l : List VO} {i : Nat} {o : VO} (h : l[i]? = some o) : allIns (l.take (i + 1)) = allIns (l.take i) ++ insL o := by
  unfold allIns
  rw [List.take_add_one, h, List.flatMap_append]; simp

set_option maxHeartbeats 8000000 in
set_option maxRecDepth 100000 in
theorem some_yes (l : List VO) (hl : l.length ≤ 60) (hn : ∀ o ∈ l, o.Ok) (hall : ∀ o ∈ l, okO o) : PureF gT 24 [.sl 8 (l.map voP)] (.tup [.sl 11 (insP (allIns l)), .int .i64 0]) := by
  have el : (l.map voP).length = l.length := List.length_map ..
  refine Spec.enter gTok P24 100 Tryd.func24 rfl (by kernel_rfl) ?_
  intro _
  refine SW.loopW gTok P24 (by kernel_rfl) (fun i : Nat => [(13, .int .i64 i), (4, .wref 0)]) (fun i => [dIn (insP (allIns (l.take i)))]) (fun i => l.length - i) 0 60 [none] ?_ fun i => ?_
  · repeat' first | exact trivial | exact rfl | refine And.intro ?_ ?_
  have ea : (insP (allIns (l.take i))).length ≤ 6000 := by
    have := allIns_len (l.take i)
    rw [insP, List.length_map]
    have h2 : (l.take i).length ≤ l.length := by rw [List.length_take]; omega
    omega
  refine And.intro (fun h => ?_) (fun h => ?_)
  · have h' : (i : Int) < ((l.map voP).length : Nat) := h
    refine ⟨VO, l, voP, rfl, show (0 : Int) ≤ (i : Int) by omega, show (i : Int) < (l.length : Int) by omega, fun o ho => ?_⟩
    have ho' : l[i]? = some o := ho
    have hm := List.mem_of_getElem? ho'
    have hok := hall o hm
    have hi := insts_yes o (hn o hm) hok.1
    have et := allIns_take ho'
    have hle : (insP (insL o)).length ≤ 100 := by rw [insP, List.length_map]; exact insL_len2 o
    generalize insL o = L at hi et hle
    refine ⟨[], no_rl, hi.use (by repeat' first | exact trivial | exact rfl | exact Iff.rfl | exact Or.inl rfl | refine And.intro ?_ ?_) rfl rfl ?_⟩
    refine ⟨[], no_rl, (trap_pure o).use (by repeat' first | exact trivial | exact rfl | exact Iff.rfl | exact Or.inl rfl | refine And.intro ?_ ?_) rfl rfl ?_⟩
    have htc := trapC_ok hok
    refine And.intro (fun h => absurd htc h) (fun _ => ?_)
    refine And.intro (fun h => absurd rfl h) (fun _ => ?_)
    refine ⟨show (insP (allIns (l.take i))).length + (insP L).length ≤ maxLen by unfold maxLen; omega, show ((insP (allIns (l.take i))).length + (insP L).length) * 88 ≤ 140737488355328 by omega, ?_⟩
    refine .inl ⟨inR_i64 (show _ ≤ (i : Int) + 1 ∧ (i : Int) + 1 ≤ _ by omega), ⟨i + 1, [some 2], show l.length - (i + 1) < l.length - i by omega, ?_⟩⟩
    repeat' first | exact trivial | exact rfl | refine And.intro ?_ ?_
    exact (show insP (allIns (l.take i)) ++ insP L = insP (allIns (l.take (i + 1))) by rw [et]; simp [insP])
  · have h' : ¬ (i : Int) < ((l.map voP).length : Nat) := h
    refine retE ?_
    have e : insP (allIns (l.take i)) = insP (allIns l) := by rw [List.take_of_length_le (by omega)]
    refine And.intro (show leA (.sl 11 (insP (allIns (l.take i)))) (.sl 11 (insP (allIns l))) from ?_) (by repeat' first | exact trivial | exact rfl | exact Iff.rfl | exact Or.inl rfl | refine And.intro ?_ ?_)
    rw [e]
    repeat' first | exact trivial | exact rfl | refine And.intro ?_ ?_

end Go.Proofs.YthpkejlmelednaaDoor.Pw

/- Chapter 18 over values: SelSome. -/
namespace Go.Proofs.YthpkejlmelednaaDoor.Pw
open Go Go.RowKit

set_option maxHeartbeats 8000000 in
set_option maxRecDepth 100000 in
theorem some_no (l : List VO) (hl : l.length ≤ 60) (hn : ∀ o ∈ l, o.Ok) (hall : ¬ ∀ o ∈ l, okO o) : PureF gT 24 [.sl 8 (l.map voP)] (.tup [.sl 11 [], .int .i64 10]) := by
  have el : (l.map voP).length = l.length := List.length_map ..
  refine Spec.enter gTok P24 100 Tryd.func24 rfl (by kernel_rfl) ?_
  intro _
  refine SW.loopW gTok P24 (by kernel_rfl) (α := {i : Nat // ∀ o ∈ l.take i, okO o}) (fun i => [(13, .int .i64 i.1), (4, .wref 0)]) (fun i => [dIn (insP (allIns (l.take i.1)))]) (fun i => l.length - i.1) ⟨0, by simp⟩ 60 [none] ?_ ?_
  · repeat' first | exact Iff.rfl | exact trivial | exact rfl | refine And.intro ?_ ?_
  rintro ⟨i, hi⟩
  have ea : (insP (allIns (l.take i))).length ≤ 6000 := by
    have := allIns_len (l.take i)
    rw [insP, List.length_map]
    have h2 : (l.take i).length ≤ l.length := by rw [List.length_take]; omega
    omega
  refine And.intro (fun h => ?_) (fun h => ?_)
  · have h' : (i : Int) < ((l.map voP).length : Nat) := h
    refine ⟨VO, l, voP, rfl, show (0 : Int) ≤ (i : Int) by omega, show (i : Int) < (l.length : Int) by omega, fun o ho => ?_⟩
    have ho' : l[i]? = some o := ho
    have hm := List.mem_of_getElem? ho'
    by_cases hf : vright o ∧ vsmall o
    · have hi2 := insts_yes o (hn o hm) hf
      have et := allIns_take ho'
      have hle : (insP (insL o)).length ≤ 100 := by rw [insP, List.length_map]; exact insL_len2 o
      generalize insL o = L at hi2 et hle
      refine ⟨[], no_rl, hi2.use (by repeat' first | exact trivial | exact rfl | exact Iff.rfl | exact Or.inl rfl | refine And.intro ?_ ?_) rfl rfl ?_⟩
      refine ⟨[], no_rl, (trap_pure o).use (by repeat' first | exact trivial | exact rfl | exact Iff.rfl | exact Or.inl rfl | refine And.intro ?_ ?_) rfl rfl ?_⟩
      refine And.intro (fun h => ?_) (fun htc => ?_)
      · (refine retE ?_; repeat' first | exact trivial | exact rfl | exact Iff.rfl | exact Or.inl rfl | refine And.intro ?_ ?_)
      have hok : okO o := okO_of hf (Classical.not_not.1 htc)
      refine And.intro (fun h => absurd rfl h) (fun _ => ?_)
      refine ⟨show (insP (allIns (l.take i))).length + (insP L).length ≤ maxLen by unfold maxLen; omega, show ((insP (allIns (l.take i))).length + (insP L).length) * 88 ≤ 140737488355328 by omega, ?_⟩
      refine .inl ⟨inR_i64 (show _ ≤ (i : Int) + 1 ∧ (i : Int) + 1 ≤ _ by omega), ⟨⟨i + 1, fun y hy => ?_⟩, [some 2], show l.length - (i + 1) < l.length - i by omega, ?_⟩⟩
      · rw [List.take_add_one, ho', List.mem_append] at hy
        rcases hy with hy | hy
        · exact hi y hy
        · simp at hy; subst hy; exact hok
      repeat' first | exact Iff.rfl | exact trivial | exact rfl | refine And.intro ?_ ?_
      exact (show insP (allIns (l.take i)) ++ insP L = insP (allIns (l.take (i + 1))) by rw [et]; simp [insP])
    · refine ⟨[], no_rl, (insts_no o (hn o hm) hf).use (by repeat' first | exact trivial | exact rfl | exact Iff.rfl | exact Or.inl rfl | refine And.intro ?_ ?_) rfl rfl ?_⟩
      refine ⟨[], no_rl, (trap_pure o).use (by repeat' first | exact trivial | exact rfl | exact Iff.rfl | exact Or.inl rfl | refine And.intro ?_ ?_) rfl rfl ?_⟩
      refine And.intro (fun h => ?_) (fun htc => ?_)
      · (refine retE ?_; repeat' first | exact trivial | exact rfl | exact Iff.rfl | exact Or.inl rfl | refine And.intro ?_ ?_)
      refine And.intro (fun h => ?_) (fun h => absurd (show ¬ (10 : Int) = 0 by decide) h)
      (refine retE ?_; repeat' first | exact trivial | exact rfl | exact Iff.rfl | exact Or.inl rfl | refine And.intro ?_ ?_)
  · have h' : ¬ (i : Int) < ((l.map voP).length : Nat) := h
    rw [List.take_of_length_le (by omega)] at hi
    exact absurd hi hall

set_option maxHeartbeats 8000000 in
set_option maxRecDepth 100000 in
theorem SelSome_pure (l : List VO) (hm : l.length ≤ maxLen) (hn : ∀ o ∈ l, o.Ok) : PureF gT 6 [.sl 8 (l.map voP)] .tt := by
  have el : (l.map voP).length = l.length := List.length_map ..
  refine Spec.enter gTok P6 100 Tryd.func6 rfl (by kernel_rfl) ?_
  refine ⟨[], no_rl, anchor18_pure.use trivial rfl rfl ?_⟩
  intro _
  refine And.intro (fun h => ?_) (fun h => ?_)
  · exact retE trivial
  have hl : l.length ≤ 60 := by
    have h' : ¬ (60 : Int) < ((l.map voP).length : Nat) := h
    omega
  clear h
  have eb : ∀ i, (insP (allIns (l.take i))).length ≤ 6000 := fun i => by
    have := allIns_len (l.take i)
    rw [insP, List.length_map]
    have h2 : (l.take i).length ≤ l.length := by rw [List.length_take]; omega
    omega
  by_cases hall : ∀ o ∈ l, okO o
  · refine ⟨[], no_rl, (some_yes l hl hn hall).use (by repeat' first | exact trivial | exact rfl | exact Iff.rfl | exact Or.inl rfl | refine And.intro ?_ ?_) rfl rfl ?_⟩
    intro _
    refine SW.loopW gTok P6 (by kernel_rfl) (fun i : Nat => [(23, .int .i64 i), (5, .wref 0)]) (fun i => [dIn (insP (allIns (l.take i)))]) (fun i => l.length - i) 0 60 [none] ?_ fun i => ?_
    · repeat' first | exact Iff.rfl | exact trivial | exact rfl | refine And.intro ?_ ?_
    have ea := eb i
    refine And.intro (fun h => ?_) (fun h => ?_)
    · have h' : (i : Int) < ((l.map voP).length : Nat) := h
      refine ⟨VO, l, voP, rfl, show (0 : Int) ≤ (i : Int) by omega, show (i : Int) < (l.length : Int) by omega, fun o ho => ?_⟩
      have ho' : l[i]? = some o := ho
      have hm := List.mem_of_getElem? ho'
      have hok := hall o hm
      have hi := insts_yes o (hn o hm) hok.1
      have et := allIns_take ho'
      have hle : (insP (insL o)).length ≤ 100 := by rw [insP, List.length_map]; exact insL_len2 o
      generalize insL o = L at hi et hle
      refine ⟨[], no_rl, (fits_pure o (hn o hm).n).use (by repeat' first | exact trivial | exact rfl | exact Iff.rfl | exact Or.inl rfl | refine And.intro ?_ ?_) rfl rfl ?_⟩
      refine And.intro (fun h => absurd hok.1 h) (fun _ => ?_)
      refine And.intro (fun h => absurd h hok.2.1) (fun _ => ?_)
      refine And.intro (fun h => absurd h hok.2.2) (fun _ => ?_)
      refine ⟨[], no_rl, hi.use (by repeat' first | exact trivial | exact rfl | exact Iff.rfl | exact Or.inl rfl | refine And.intro ?_ ?_) rfl rfl ?_⟩
      refine ⟨show (insP (allIns (l.take i))).length + (insP L).length ≤ maxLen by unfold maxLen; omega, show ((insP (allIns (l.take i))).length + (insP L).length) * 88 ≤ 140737488355328 by omega, ?_⟩
      refine .inl ⟨inR_i64 (show _ ≤ (i : Int) + 1 ∧ (i : Int) + 1 ≤ _ by omega), ⟨i + 1, [some 2], show l.length - (i + 1) < l.length - i by omega, ?_⟩⟩
      repeat' first | exact Iff.rfl | exact trivial | exact rfl | refine And.intro ?_ ?_
      exact (show insP (allIns (l.take i)) ++ insP L = insP (allIns (l.take (i + 1))) by rw [et]; simp [insP])
    · have h' : ¬ (i : Int) < ((l.map voP).length : Nat) := h
      have e : l.take i = l := List.take_of_length_le (by omega)
      rw [e]
      have ea2 := eb l.length
      rw [List.take_length] at ea2
      have eA : (insP (allIns l)).length = (allIns l).length := List.length_map ..
      generalize allIns l = A at ea2 eA
      refine And.intro (fun h => absurd rfl h) (fun _ => ?_)
      refine fun _ => fun _ => And.intro (fun h => absurd rfl h) (fun _ => ?_)
      intro _
      refine SW.loopS gTok P6 (by kernel_rfl) (fun j : Nat => [(67, .int .i64 j)]) (fun j => A.length - j) 0 60 ?_ fun j => ?_
      · repeat' first | exact Iff.rfl | exact trivial | exact rfl | refine And.intro ?_ ?_
      refine And.intro (fun h => ?_) (fun h => ?_)
      · have h' : (j : Int) < ((insP A).length : Nat) := h
        refine ⟨IN, A, inP, rfl, show (0 : Int) ≤ (j : Int) by omega, show (j : Int) < (A.length : Int) by omega, fun x hx => ?_⟩
        have hx' : A[j]? = some x := hx
        refine ⟨show (0 : Int) ≤ (j : Int) by omega, show (j : Int) < ((insP A).length : Nat) by omega, IN, A, inP, rfl, show (j : Int).toNat < A.length by omega, fun y hy => ?_⟩
        have hy' : A[j]? = some y := hy
        obtain rfl : x = y := Option.some.inj (hx'.symm.trans hy')
        refine And.intro (fun h => absurd ⟨rfl, rfl, rfl, rfl, rfl, rfl, rfl, rfl, rfl, rfl, rfl, trivial⟩ h) (fun _ => ?_)
        refine .inl ⟨inR_i64 (show _ ≤ (j : Int) + 1 ∧ (j : Int) + 1 ≤ _ by omega), ⟨j + 1, show A.length - (j + 1) < A.length - j by omega, ?_⟩⟩
        repeat' first | exact Iff.rfl | exact trivial | exact rfl | refine And.intro ?_ ?_
      · exact retE trivial
  · refine ⟨[], no_rl, (some_no l hl hn hall).use (by repeat' first | exact trivial | exact rfl | exact Iff.rfl | exact Or.inl rfl | refine And.intro ?_ ?_) rfl rfl ?_⟩
    intro _
    refine SW.loopW gTok P6 (by kernel_rfl) (α := {i : Nat // ∀ o ∈ l.take i, okO o}) (fun i => [(23, .int .i64 i.1), (5, .wref 0)]) (fun i => [dIn (insP (allIns (l.take i.1)))]) (fun i => l.length - i.1) ⟨0, by simp⟩ 60 [none] ?_ ?_
    · repeat' first | exact Iff.rfl | exact trivial | exact rfl | refine And.intro ?_ ?_
    rintro ⟨i, hi⟩
    have ea := eb i
    refine And.intro (fun h => ?_) (fun h => ?_)
    · have h' : (i : Int) < ((l.map voP).length : Nat) := h
      refine ⟨VO, l, voP, rfl, show (0 : Int) ≤ (i : Int) by omega, show (i : Int) < (l.length : Int) by omega, fun o ho => ?_⟩
      have ho' : l[i]? = some o := ho
      have hm := List.mem_of_getElem? ho'
      refine ⟨[], no_rl, (fits_pure o (hn o hm).n).use (by repeat' first | exact trivial | exact rfl | exact Iff.rfl | exact Or.inl rfl | refine And.intro ?_ ?_) rfl rfl ?_⟩
      have fin : ∀ {p : Prop}, (p → True) := fun _ => trivial
      refine And.intro (fun hf => ?_) (fun hf => ?_)
      · refine And.intro (fun _ => fun _ => ?_) (fun h => absurd rfl h)
        exact retE (show ((0 : Nat) : Int) = 0 from rfl)
      have hf := Classical.not_not.1 hf
      refine And.intro (fun h30 => ?_) (fun h30 => ?_)
      · refine And.intro (fun _ => fun _ => ?_) (fun h => absurd rfl h)
        exact retE (show ((0 : Nat) : Int) = 0 from rfl)
      refine And.intro (fun h31 => ?_) (fun h31 => ?_)
      · refine And.intro (fun _ => fun _ => ?_) (fun h => absurd rfl h)
        exact retE (show ((0 : Nat) : Int) = 0 from rfl)
      have hi2 := insts_yes o (hn o hm) hf
      have et := allIns_take ho'
      have hle : (insP (insL o)).length ≤ 100 := by rw [insP, List.length_map]; exact insL_len2 o
      generalize insL o = L at hi2 et hle
      refine ⟨[], no_rl, hi2.use (by repeat' first | exact trivial | exact rfl | exact Iff.rfl | exact Or.inl rfl | refine And.intro ?_ ?_) rfl rfl ?_⟩
      refine ⟨show (insP (allIns (l.take i))).length + (insP L).length ≤ maxLen by unfold maxLen; omega, show ((insP (allIns (l.take i))).length + (insP L).length) * 88 ≤ 140737488355328 by omega, ?_⟩
      refine .inl ⟨inR_i64 (show _ ≤ (i : Int) + 1 ∧ (i : Int) + 1 ≤ _ by omega), ⟨⟨i + 1, fun y hy => ?_⟩, [some 2], show l.length - (i + 1) < l.length - i by omega, ?_⟩⟩
      · rw [List.take_add_one, ho', List.mem_append] at hy
        rcases hy with hy | hy
        · exact hi y hy
        · simp at hy; subst hy; exact ⟨hf, h30, h31⟩
      repeat' first | exact Iff.rfl | exact trivial | exact rfl | refine And.intro ?_ ?_
      exact (show insP (allIns (l.take i)) ++ insP L = insP (allIns (l.take (i + 1))) by rw [et]; simp [insP])
    · have h' : ¬ (i : Int) < ((l.map voP).length : Nat) := h
      rw [List.take_of_length_le (by omega)] at hi
      exact absurd hi hall
theorem SelSome_pure' (x : PV) (s : SLs 8 64 voP VO.Ok x) : PureF gT 6 [x] .tt := by
  obtain ⟨l, h1, h2, rfl⟩ := s
  exact SelSome_pure l h1.1 h2

end Go.Proofs.YthpkejlmelednaaDoor.Pw

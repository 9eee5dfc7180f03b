/- What the laws of this claim are proved with, joined (join.py) of 10 texts: no condition. -/
import Derived.Test.YthpkejlmelednaaDoorKe4
import Derived.Test.YthpkejlmelednaaDoorKe5
import Derived.Test.YthpkejlmelednaaDoorKeImmD
import Derived.WalkKit
import Derived.Lib.Walk
import Derived.Lib.SliceRun
import Derived.Lib.AppendZerosOnto
set_option linter.unusedVariables false
set_option linter.unusedSimpArgs false

/- General words for walks over values: values that are what they say; arguments one by one. No program in sight but its numbers. -/
namespace Go.Proofs.YthpkejlmelednaaDoor.Pw
open Go Go.RowKit

theorem entersT {f : FuncId} {fn : Func} {c : Code} (hf : Tryd.prog.funcs[f]? = some fn) (hb : fn.body = some c) (hn : (fn.name == "runtime.NumGoroutine") = false) : Ev.Enters gT.cx.P f := Ev.enters_of hf hb hn

theorem isLn {w : World} {I : Nat → Prop} {β : Places} : IsL w I [] β [] := by simp only [IsL]
theorem isLc {w : World} {I : Nat → Prop} {β : Places} {x : PV} {v : Value} {xs : List PV} {vs : List Value} (h : x.Is w I β v) (h' : IsL w I xs β vs) : IsL w I (x :: xs) β (v :: vs) := by simp only [IsL]; exact ⟨h, h'⟩
theorem is_bool {w : World} {I : Nat → Prop} {β : Places} (b : Bool) : (PV.bool (b = true)).Is w I β (.bool b) := by simp only [PV.Is]; rw [pb_dec]; simp
theorem is_int {w : World} {I : Nat → Prop} {β : Places} (k : IntKind) (n : Int) : (PV.int k n).Is w I β (.int k n) := by simp only [PV.Is]
theorem is_tup {w : World} {I : Nat → Prop} {β : Places} {xs : List PV} {vs : Array Value} (h : IsL w I xs β vs.toList) : (PV.tup xs).Is w I β (.tuple vs) := by simp only [PV.Is]; exact ⟨vs, rfl, h⟩
theorem is_agg {w : World} {I : Nat → Prop} {β : Places} {xs : List PV} {vs : Array Value} (h : IsL w I xs β vs.toList) : (PV.agg xs).Is w I β (.agg vs) := by simp only [PV.Is]; exact ⟨vs, rfl, h⟩
theorem isL0 {w : World} {I : Nat → Prop} {β : Places} {vals : List Value} (h : IsL w I [] β vals) : vals = [] := by
  cases vals with
  | nil => rfl
  | cons => simp only [IsL] at h
theorem isL1 {w : World} {I : Nat → Prop} {β : Places} {x : PV} {vals : List Value} (h : IsL w I [x] β vals) : ∃ v, vals = [v] ∧ x.Is w I β v := by
  match vals, h with
  | [v], h => exact ⟨v, rfl, by simpa only [IsL, and_true] using h⟩
theorem isL2 {w : World} {I : Nat → Prop} {β : Places} {x y : PV} {vals : List Value} (h : IsL w I [x, y] β vals) : ∃ v u, vals = [v, u] ∧ x.Is w I β v ∧ y.Is w I β u := by
  match vals, h with
  | [v, u], h => exact ⟨v, u, rfl, by simpa only [IsL, and_true] using h⟩
theorem isL3 {w : World} {I : Nat → Prop} {β : Places} {x y z : PV} {vals : List Value} (h : IsL w I [x, y, z] β vals) : ∃ v u t, vals = [v, u, t] ∧ x.Is w I β v ∧ y.Is w I β u ∧ z.Is w I β t := by
  match vals, h with
  | [v, u, t], h => exact ⟨v, u, t, rfl, by simpa only [IsL, and_true] using h⟩
/-- a table of numbers, as the row that it is -/
theorem tab_row {G : Gx} {I : Nat → Prop} {w : World} (hM : ImmOk G I w) {g : Nat} {k : IntKind} {l : List Int} (h : (g, l.map (PV.lit k)) ∈ G.tabs) : ∃ ty fr, w.heap[g]? = some (.cells (l.map (Value.int k)).toArray ty fr) := by
  obtain ⟨arr, ty, fr, h1, h2⟩ := hM.row _ _ h
  obtain ⟨_, h3⟩ := hM.tab _ _ h
  refine ⟨ty, fr, ?_⟩
  rw [h1]
  congr 2
  refine Array.ext' (List.ext_getElem? fun i => ?_)
  rw [List.length_map] at h2
  by_cases hi : i < l.length
  · obtain ⟨v, hv, hiv, _⟩ := h3.get (i := i) (c := PV.lit k l[i]) (by simp [hi])
    rw [Ev.cells_of h1, Nat.zero_add] at hv
    simp only [PV.Is] at hiv
    subst hiv
    simp only [Array.getElem?_toList, hv, List.getElem?_map, List.getElem?_eq_getElem hi, Option.map_some]
  · rw [List.getElem?_eq_none (by simp; omega), List.getElem?_eq_none (by simp; omega)]
/-- a function that is told over worlds, where the tables are laid -/
theorem PureF.of_at {G : Gx} {f : FuncId} {args : List PV} {r : PV} (he : Ev.Enters G.cx.P f)
    (h : ∀ I β w vals, ImmOk G I w → IsL w I args β vals → ∃ v, r.Is w I no v ∧ (∀ w' I' β', r.Is w' I' β' v) ∧ Calls G.cx.P f vals.toArray w fun e w' => e = .returned v ∧ Below w.heap.size w w') : PureF G f args r := by
  refine Spec.intro he fun I β w vals hH hM hA => ?_
  obtain ⟨v, _, hr, hc⟩ := h I β w vals hM hA
  refine hc.mono fun e w' ⟨he, hB⟩ => ⟨v, r, [], I, β, he, rfl, hr _ _ _, hH.none0 _ _, hM.below hB, ⟨hB.os, hB.tape, hB.output, hB.size, fun g hg _ => hB.block g hg, fun g _ h => h, fun _ h => h, fun _ _ h => .inl h⟩, Nat.le_refl _, fun _ _ _ => rfl⟩
theorem wr1 : IntKind.i64.wrap (0 + 1) = 1 := by decide
theorem wr2 : IntKind.i64.wrap (1 + 1) = 2 := by decide
theorem wr3 : IntKind.i64.wrap (2 + 1) = 3 := by decide
theorem wr4 : IntKind.i64.wrap (3 + 1) = 4 := by decide
theorem wr5 : IntKind.i64.wrap (4 + 1) = 5 := by decide
theorem wr6 : IntKind.i64.wrap (5 + 1) = 6 := by decide
theorem wr7 : IntKind.i64.wrap (6 + 1) = 7 := by decide
theorem wr8 : IntKind.i64.wrap (7 + 1) = 8 := by decide
theorem wr9 : IntKind.i64.wrap (8 + 1) = 9 := by decide
theorem wr10 : IntKind.i64.wrap (9 + 1) = 10 := by decide
theorem wr11 : IntKind.i64.wrap (10 + 1) = 11 := by decide
theorem wr12 : IntKind.i64.wrap (11 + 1) = 12 := by decide

end Go.Proofs.YthpkejlmelednaaDoor.Pw

/- Instructions as values; the table of factors as the old contracts want it. -/
namespace Go.Proofs.YthpkejlmelednaaDoor.Pw
open Go Go.RowKit

/-- an instruction -/
structure IN where
  form : Int
  rd : Int
  rn : Int
  rm : Int
  ra : Int
  imm : Int
  kind : Int
  by_ : Int
  set : Int
  cond : Int
  regs : Int
def inFs (i : IN) : List PV := [.int .i64 i.form, .int .i64 i.rd, .int .i64 i.rn, .int .i64 i.rm, .int .i64 i.ra, .int .i64 i.imm, .int .i64 i.kind, .int .i64 i.by_, .int .i64 i.set, .int .i64 i.cond, .int .i64 i.regs]
def inP (i : IN) : PV := .agg (inFs i)
def insP (l : List IN) : List PV := l.map inP

def iZ : IN := ⟨0, 0, 0, 0, 0, 0, 0, 0, 0, 0, 0⟩
theorem facOf {I : Nat → Prop} {w : World} (hM : ImmOk gT I w) : Fac w :=
  tab_row hM (g := 2) (k := .u32) (l := [1, 65537, 16777472, 16843009]) (show (2, facP) ∈ gT.tabs from List.mem_cons_self)

end Go.Proofs.YthpkejlmelednaaDoor.Pw

/- Chapter 3 over values: which instructions may be: the rules. -/
namespace Go.Proofs.YthpkejlmelednaaDoor.Pw
open Go Go.RowKit

theorem form_is (f : Int) : PureF gT 51 [.int .i64 f] (.bool (1 ≤ f ∧ f ≤ 100)) := by
  refine Spec.enter gTok P51 100 Tryd.func51 rfl (by kernel_rfl) ?_
  repeat' ((conv => whnf); first | (refine (And.intro (fun _ => ?_) (fun _ => ?_) : (_ → _) ∧ (_ → _)) <;> (first | (exfalso; first | contradiction | omega) | skip)) | refine Or.inl (And.intro (by first | exact inR_i64 (by omega) | exact inR_u32 (by omega) | exact inR_u64 (by omega) | exact inR_u8 (by omega)) ?_) | (refine And.intro (show (_ : Int) ≠ 0 by omega) (Or.inl (And.intro (show (0 : Int) ≤ _ by omega) (And.intro (show (0 : Int) < _ by omega) ?_)))) | (refine And.intro (show (_ : Int) ≠ 0 by omega) (Or.inl (And.intro (show (0 : Int) ≤ _ by omega) (And.intro (by first | exact (show (_ : Int) ≤ 9223372036854775807 by omega) | exact (show (_ : Int) ≤ 4294967295 by omega)) (And.intro (show (0 : Int) < _ by omega) ?_))))) | (refine retE ?_; show _ ↔ _; omega) | (refine retE ?_; show ¬ _; omega) | (intro _))
theorem form_wide (f : Int) : PureF gT 66 [.int .i64 f] (.bool (48 ≤ f ∧ f ≤ 100)) := by
  refine Spec.enter gTok P66 100 Tryd.func66 rfl (by kernel_rfl) ?_
  refine ⟨[], no_rl, (form_is f).use (by repeat' first | exact trivial | exact rfl | exact Iff.rfl | exact Or.inl rfl | refine And.intro ?_ ?_) rfl rfl ?_⟩
  repeat' ((conv => whnf); first | (refine (And.intro (fun _ => ?_) (fun _ => ?_) : (_ → _) ∧ (_ → _)) <;> (first | (exfalso; first | contradiction | omega) | skip)) | refine Or.inl (And.intro (by first | exact inR_i64 (by omega) | exact inR_u32 (by omega) | exact inR_u64 (by omega) | exact inR_u8 (by omega)) ?_) | (refine And.intro (show (_ : Int) ≠ 0 by omega) (Or.inl (And.intro (show (0 : Int) ≤ _ by omega) (And.intro (show (0 : Int) < _ by omega) ?_)))) | (refine And.intro (show (_ : Int) ≠ 0 by omega) (Or.inl (And.intro (show (0 : Int) ≤ _ by omega) (And.intro (by first | exact (show (_ : Int) ≤ 9223372036854775807 by omega) | exact (show (_ : Int) ≤ 4294967295 by omega)) (And.intro (show (0 : Int) < _ by omega) ?_))))) | (refine retE ?_; show _ ↔ _; omega) | (refine retE ?_; show ¬ _; omega) | (intro _))
def shL : List Int := [0, 1, 1, 1, 2, 2, 3, 3, 4, 4, 4, 4, 5, 5, 5, 5, 5, 5, 5, 5, 5, 5, 5, 5, 5, 5, 5, 5, 6, 6, 6, 7, 8, 2, 2, 9, 9, 8, 8, 8, 10, 10, 11, 12, 13, 14, 15, 16, 17, 17, 18, 18, 18, 18, 18, 18, 18, 18, 18, 18, 19, 19, 20, 20, 20, 20, 21, 21, 21, 21, 21, 21, 21, 21, 21, 21, 22, 22, 23, 23, 23, 23, 24, 24, 25, 25, 26, 26, 27, 27, 27, 27, 28, 29, 30, 31, 31, 28, 32, 33, 34]
def shapeV (f : Int) : Int := if 1 ≤ f ∧ f ≤ 100 then shL.getD f.toNat 0 else 0
theorem shape_at {f : Int} (h : 1 ≤ f ∧ f ≤ 100) {c : PV} (hc : (shL.map (PV.lit .i64))[f.toNat]? = some c) : c = .lit .i64 (shapeV f) := by
  rw [List.getElem?_map, Option.map_eq_some_iff] at hc
  obtain ⟨z, hz, rfl⟩ := hc
  unfold shapeV
  rw [if_pos h, List.getD_eq_getElem?_getD, hz]; rfl
set_option maxRecDepth 100000 in
theorem shape_pure (f : Int) : PureF gT 79 [.int .i64 f] (.int .i64 (shapeV f)) := by
  refine Spec.enter gTok P79 100 Tryd.func79 rfl (by kernel_rfl) ?_
  refine ⟨[], no_rl, (form_is f).use (by repeat' first | exact trivial | exact rfl | exact Iff.rfl | exact Or.inl rfl | refine And.intro ?_ ?_) rfl rfl ?_⟩
  refine And.intro (fun h => ?_) (fun h => ?_)
  · refine retE ?_
    exact (show (0 : Int) = shapeV f by unfold shapeV; rw [if_neg h])
  have h' := Classical.not_not.1 h
  refine ⟨by omega, show f < 101 by omega, .inr ⟨rfl, by omega, show 0 + f.toNat * 1 < 101 by omega, fun c hc => ?_⟩⟩
  have hc' : (shL.map (PV.lit .i64))[f.toNat]? = some c := by
    have e : 0 + f.toNat * 1 = f.toNat := by omega
    have h0 : (shL.map (PV.lit .i64))[0 + f.toNat * 1]? = some c := hc
    rwa [e] at h0
  obtain rfl := shape_at h' hc'
  exact retE rfl

/-- what a shape's fields may be -/
structure RU where
  rd : Int
  rn : Int
  rm : Int
  ra : Int
  i0 : Int
  i1 : Int
  i2 : Int
  b0 : Int
  b1 : Int
  b2 : Int
  kind : Bool
  set : Bool
  cond : Bool
  regs : Int
def ruF (r : RU) : List PV := [.int .i64 r.rd, .int .i64 r.rn, .int .i64 r.rm, .int .i64 r.ra, .int .i64 r.i0, .int .i64 r.i1, .int .i64 r.i2, .int .i64 r.b0, .int .i64 r.b1, .int .i64 r.b2, .bool (r.kind = true), .bool (r.set = true), .bool (r.cond = true), .int .i64 r.regs]
def ruP (r : RU) : PV := .agg (ruF r)
def r0U : RU := ⟨0, 0, 0, 0, 0, 0, 0, 0, 0, 0, false, false, false, 0⟩
def ruN (s : Int) : RU :=
  if s = 1 then { r0U with rd := 1, rm := 1, i0 := 0, i1 := 32, i2 := 1 } else if s = 2 then { r0U with rd := 1, rn := 1, rm := 1 } else if s = 3 then { r0U with rd := 1, rn := 1, i1 := 7, i2 := 1 }
  else if s = 4 then { r0U with rd := 1, i1 := 255, i2 := 1 } else if s = 5 then { r0U with rd := 1, rm := 1 } else if s = 6 then { r0U with rd := 2, rm := 2 } else if s = 7 then { r0U with rm := 2 }
  else if s = 8 then { r0U with rd := 1, i1 := 1020, i2 := 4 } else if s = 9 then { r0U with rd := 1, rn := 1, i1 := 124, i2 := 4 } else if s = 10 then { r0U with i1 := 508, i2 := 4 } else if s = 11 then { r0U with regs := 16639 } else if s = 12 then { r0U with regs := 33023 }
  else if s = 13 then r0U else if s = 14 then { r0U with i1 := 255, i2 := 1 } else if s = 15 then { r0U with cond := true, i0 := -256, i1 := 254, i2 := 2 } else if s = 16 then { r0U with i0 := -2048, i1 := 2046, i2 := 2 } else r0U
def ruW (s : Int) : RU :=
  if s = 17 then { r0U with rd := 3, i1 := 65535, i2 := 1 } else if s = 18 then { r0U with rd := 3, rn := 3, i1 := 4095, i2 := 1, set := true } else if s = 19 then { r0U with rd := 3, i1 := 4095, i2 := 1, set := true } else if s = 20 then { r0U with rn := 3, i1 := 4095, i2 := 1 }
  else if s = 21 then { r0U with rd := 3, rn := 3, rm := 3, kind := true, set := true } else if s = 22 then { r0U with rd := 3, rm := 3, kind := true, set := true } else if s = 23 then { r0U with rn := 3, rm := 3, kind := true } else if s = 24 then { r0U with rd := 3, rn := 3, i1 := 4095, i2 := 1 }
  else if s = 25 then { r0U with rd := 3, rn := 2, i1 := 4095, i2 := 1 } else if s = 26 then { r0U with rd := 3, rn := 2, rm := 3, b1 := 3, b2 := 1 } else if s = 27 then { r0U with rd := 3, rn := 3, rm := 3, set := true } else if s = 28 then { r0U with rd := 3, rn := 3, rm := 3 }
  else if s = 29 ∨ s = 30 ∨ s = 31 then { r0U with rd := 3, rn := 3, rm := 3, ra := 3 } else if s = 32 then { r0U with rd := 3, rm := 3 } else if s = 33 then { r0U with cond := true, i0 := -1048576, i1 := 1048574, i2 := 2 } else if s = 34 then { r0U with i0 := -16777216, i1 := 16777214, i2 := 2 } else ruN s
set_option maxHeartbeats 8000000 in
set_option maxRecDepth 100000 in
theorem narrowRule_pure (s : Int) : PureF gT 131 [.int .i64 s] (ruP (ruN s)) := by
  refine Spec.enter gTok P131 100 Tryd.func131 rfl (by kernel_rfl) ?_
  repeat' ((conv => whnf); first | (refine (And.intro (fun _ => ?_) (fun _ => ?_) : (_ → _) ∧ (_ → _)) <;> (first | (exfalso; first | contradiction | omega) | skip)) | refine Or.inl (And.intro (by first | exact inR_i64 (by omega) | exact inR_u32 (by omega) | exact inR_u64 (by omega) | exact inR_u8 (by omega)) ?_) | (refine And.intro (show (_ : Int) ≠ 0 by omega) (Or.inl (And.intro (show (0 : Int) ≤ _ by omega) (And.intro (show (0 : Int) < _ by omega) ?_)))) | (refine And.intro (show (_ : Int) ≠ 0 by omega) (Or.inl (And.intro (show (0 : Int) ≤ _ by omega) (And.intro (by first | exact (show (_ : Int) ≤ 9223372036854775807 by omega) | exact (show (_ : Int) ≤ 4294967295 by omega)) (And.intro (show (0 : Int) < _ by omega) ?_))))) | (simp only [ruN, *, if_true, if_false, reduceIte, Int.reduceEq]; refine retE ?_; (repeat' first | exact trivial | exact rfl | exact (show ¬ (false = true) from Bool.false_ne_true) | refine And.intro ?_ ?_)) | (intro _))
set_option maxHeartbeats 8000000 in
set_option maxRecDepth 100000 in
theorem wideRule_pure (s : Int) : PureF gT 78 [.int .i64 s] (ruP (ruW s)) := by
  refine Spec.enter gTok P78 100 Tryd.func78 rfl (by kernel_rfl) ?_
  repeat' ((conv => whnf); first | (refine (And.intro (fun _ => ?_) (fun _ => ?_) : (_ → _) ∧ (_ → _)) <;> (first | (exfalso; first | contradiction | omega) | skip)) | refine Or.inl (And.intro (by first | exact inR_i64 (by omega) | exact inR_u32 (by omega) | exact inR_u64 (by omega) | exact inR_u8 (by omega)) ?_) | (refine And.intro (show (_ : Int) ≠ 0 by omega) (Or.inl (And.intro (show (0 : Int) ≤ _ by omega) (And.intro (show (0 : Int) < _ by omega) ?_)))) | (refine And.intro (show (_ : Int) ≠ 0 by omega) (Or.inl (And.intro (show (0 : Int) ≤ _ by omega) (And.intro (by first | exact (show (_ : Int) ≤ 9223372036854775807 by omega) | exact (show (_ : Int) ≤ 4294967295 by omega)) (And.intro (show (0 : Int) < _ by omega) ?_))))) | (refine Exists.intro [] (And.intro no_rl ((narrowRule_pure s).use (by repeat' first | exact trivial | exact rfl | exact Iff.rfl | exact Or.inl rfl | refine And.intro ?_ ?_) rfl rfl ?_))) | (simp only [ruW, *, if_true, if_false, reduceIte, Int.reduceEq, or_true, true_or, or_false, false_or]; refine retE ?_; (repeat' first | exact trivial | exact rfl | exact (show ¬ (false = true) from Bool.false_ne_true) | exact Iff.rfl | refine And.intro ?_ ?_)) | (intro _))

/-! ### what rules ask -/
def hasV (c r : Int) : Prop := (c = 1 ∧ 0 ≤ r ∧ r < 8) ∨ (c = 2 ∧ 0 ≤ r ∧ r < 15) ∨ (c = 3 ∧ 0 ≤ r ∧ r < 15 ∧ r ≠ 13) ∨ (c ≠ 1 ∧ c ≠ 2 ∧ c ≠ 3 ∧ r = 0)
theorem low_pure' (r : Int) : PureF gT 132 [.int .i64 r] (.bool (0 ≤ r ∧ r < 8)) := by
  refine Spec.enter gTok P132 100 Tryd.func132 rfl (by kernel_rfl) ?_
  repeat' ((conv => whnf); first | (refine (And.intro (fun _ => ?_) (fun _ => ?_) : (_ → _) ∧ (_ → _)) <;> (first | (exfalso; first | contradiction | omega) | skip)) | refine Or.inl (And.intro (by first | exact inR_i64 (by omega) | exact inR_u32 (by omega) | exact inR_u64 (by omega) | exact inR_u8 (by omega)) ?_) | (refine And.intro (show (_ : Int) ≠ 0 by omega) (Or.inl (And.intro (show (0 : Int) ≤ _ by omega) (And.intro (show (0 : Int) < _ by omega) ?_)))) | (refine And.intro (show (_ : Int) ≠ 0 by omega) (Or.inl (And.intro (show (0 : Int) ≤ _ by omega) (And.intro (by first | exact (show (_ : Int) ≤ 9223372036854775807 by omega) | exact (show (_ : Int) ≤ 4294967295 by omega)) (And.intro (show (0 : Int) < _ by omega) ?_))))) | (refine retE ?_; show _ ↔ _; omega) | (refine retE ?_; show ¬ _; omega) | (intro _))
set_option maxRecDepth 100000 in
theorem has_pure (c r : Int) : PureF gT 80 [.int .i64 c, .int .i64 r] (.bool (hasV c r)) := by
  refine Spec.enter gTok P80 100 Tryd.func80 rfl (by kernel_rfl) ?_
  repeat' ((conv => whnf); first | (refine (And.intro (fun _ => ?_) (fun _ => ?_) : (_ → _) ∧ (_ → _)) <;> (first | (exfalso; first | contradiction | omega) | skip)) | refine Or.inl (And.intro (by first | exact inR_i64 (by omega) | exact inR_u32 (by omega) | exact inR_u64 (by omega) | exact inR_u8 (by omega)) ?_) | (refine And.intro (show (_ : Int) ≠ 0 by omega) (Or.inl (And.intro (show (0 : Int) ≤ _ by omega) (And.intro (show (0 : Int) < _ by omega) ?_)))) | (refine And.intro (show (_ : Int) ≠ 0 by omega) (Or.inl (And.intro (show (0 : Int) ≤ _ by omega) (And.intro (by first | exact (show (_ : Int) ≤ 9223372036854775807 by omega) | exact (show (_ : Int) ≤ 4294967295 by omega)) (And.intro (show (0 : Int) < _ by omega) ?_))))) | (refine Exists.intro [] (And.intro no_rl ((low_pure' r).use (by repeat' first | exact trivial | exact rfl | exact Iff.rfl | exact Or.inl rfl | refine And.intro ?_ ?_) rfl rfl ?_))) | (refine retE ?_; (show _ ↔ hasV c r); unfold hasV; omega) | (refine retE ?_; (show ¬ hasV c r); unfold hasV; omega) | (intro _))
def spanV (f t s n : Int) : Prop := (s = 0 ∧ n = 0) ∨ (s ≠ 0 ∧ f ≤ n ∧ n ≤ t ∧ n.tmod s = 0)
set_option maxRecDepth 100000 in
theorem span_pure (f t s n : Int) : PureF gT 82 [.agg [.int .i64 f, .int .i64 t, .int .i64 s], .int .i64 n] (.bool (spanV f t s n)) := by
  refine Spec.enter gTok P82 100 Tryd.func82 rfl (by kernel_rfl) ?_
  refine And.intro (fun h => ?_) (fun h => ?_)
  · refine retE ?_
    exact (show n = 0 ↔ spanV f t s n by unfold spanV; exact ⟨fun e => .inl ⟨h, e⟩, fun e => e.elim (fun e => e.2) (fun e => absurd h e.1)⟩)
  have h0 : s ≠ 0 := h
  refine And.intro (fun h1 => ?_) (fun h1 => ?_)
  · refine And.intro (fun h2 => ?_) (fun h2 => ?_)
    · refine ⟨h0, .inr ?_⟩
      refine retE ?_
      exact (show n.tmod s = 0 ↔ spanV f t s n from ⟨fun e => .inr ⟨h0, h1, h2, e⟩, fun e => e.elim (fun e => absurd e.1 h0) (fun e => e.2.2.2)⟩)
    · refine retE ?_
      exact (show ¬ spanV f t s n from fun e => e.elim (fun e => h0 e.1) (fun e => h2 e.2.2.1))
  · refine retE ?_
    exact (show ¬ spanV f t s n from fun e => e.elim (fun e => h0 e.1) (fun e => h1 e.2.1))
theorem may_pure (n : Int) (ok : Prop) : PureF gT 83 [.int .i64 n, .bool ok] (.bool (n = 0 ∨ (n = 1 ∧ ok))) := by
  refine Spec.enter gTok P83 100 Tryd.func83 rfl (by kernel_rfl) ?_
  refine And.intro (fun h => ?_) (fun h => And.intro (fun h1 => ?_) (fun h1 => ?_))
  · exact retE (show n = 0 ∨ (n = 1 ∧ ok) from .inl h)
  · exact retE (show ok ↔ (n = 0 ∨ (n = 1 ∧ ok)) from ⟨fun k => .inr ⟨h1, k⟩, fun k => k.elim (fun e => absurd e h) (fun e => e.2)⟩)
  · exact retE (show ¬ (n = 0 ∨ (n = 1 ∧ ok)) from fun k => k.elim h (fun e => h1 e.1))

end Go.Proofs.YthpkejlmelednaaDoor.Pw

/- Chapter 3 over values: which instructions may be. -/
namespace Go.Proofs.YthpkejlmelednaaDoor.Pw
open Go Go.RowKit

def I64 (x : Int) : Prop := -9223372036854775808 ≤ x ∧ x ≤ 9223372036854775807
theorem immword_pure (n : Int) (h : I64 n) : PureF gT 134 [.int .i64 n] (.tup [.int .u32 (Rm.wordX n), .int .i64 (Rm.wordE n)]) :=
  PureF.of_at (entersT Tryd.func134 rfl (by kernel_rfl)) fun I β w vals hM hA => by
    obtain ⟨v, rfl, h1⟩ := isL1 hA
    simp only [PV.Is] at h1
    subst h1
    refine ⟨.tuple #[.int .u32 (Rm.wordX n), .int .i64 (Rm.wordE n)], is_tup (isLc (is_int ..) (isLc (is_int ..) isLn)), fun _ _ _ => is_tup (isLc (is_int ..) (isLc (is_int ..) isLn)), ?_⟩
    refine (word_any n w (facOf hM) h.1 h.2).mono ?_
    rintro e w' ⟨rfl, rfl⟩
    exact ⟨rfl, Below.refl _ _⟩

def barrelV (k b : Int) : Prop := (k = 0 ∧ 0 ≤ b ∧ b < 32) ∨ ((k = 1 ∨ k = 2) ∧ 1 ≤ b ∧ b ≤ 32) ∨ (k = 3 ∧ 1 ≤ b ∧ b < 32)
set_option maxRecDepth 100000 in
theorem barrel_pure (k b : Int) : PureF gT 133 [.int .i64 k, .int .i64 b] (.bool (barrelV k b)) := by
  refine Spec.enter gTok P133 100 Tryd.func133 rfl (by kernel_rfl) ?_
  repeat' ((conv => whnf); first | (refine (And.intro (fun _ => ?_) (fun _ => ?_) : (_ → _) ∧ (_ → _)) <;> (first | (exfalso; first | contradiction | omega) | skip)) | refine Or.inl (And.intro (by first | exact inR_i64 (by omega) | exact inR_u32 (by omega) | exact inR_u64 (by omega) | exact inR_u8 (by omega)) ?_) | (refine And.intro (show (_ : Int) ≠ 0 by omega) (Or.inl (And.intro (show (0 : Int) ≤ _ by omega) (And.intro (show (0 : Int) < _ by omega) ?_)))) | (refine And.intro (show (_ : Int) ≠ 0 by omega) (Or.inl (And.intro (show (0 : Int) ≤ _ by omega) (And.intro (by first | exact (show (_ : Int) ≤ 9223372036854775807 by omega) | exact (show (_ : Int) ≤ 4294967295 by omega)) (And.intro (show (0 : Int) < _ by omega) ?_))))) | (refine retE ?_; (show _ ↔ barrelV k b); unfold barrelV; omega) | (refine retE ?_; (show ¬ barrelV k b); unfold barrelV; omega) | (intro _))
def shiftV (i : IN) (r : RU) : Prop := (r.kind = true ∧ barrelV i.kind i.by_) ∨ (¬ r.kind = true ∧ i.kind = 0 ∧ spanV r.b0 r.b1 r.b2 i.by_)
set_option maxHeartbeats 4000000 in
set_option maxRecDepth 100000 in
theorem shift_pure (i : IN) (r : RU) : PureF gT 84 [inP i, ruP r] (.bool (shiftV i r)) := by
  refine Spec.enter gTok P84 100 Tryd.func84 rfl (by kernel_rfl) ?_
  refine And.intro (fun h => ?_) (fun h => ?_)
  · refine ⟨[], no_rl, (barrel_pure i.kind i.by_).use (by repeat' first | exact trivial | exact rfl | exact Iff.rfl | exact Or.inl rfl | refine And.intro ?_ ?_) rfl rfl ?_⟩
    refine retE ?_
    exact (show barrelV i.kind i.by_ ↔ shiftV i r from ⟨fun k => .inl ⟨h, k⟩, fun k => k.elim (fun e => e.2) (fun e => absurd h e.1)⟩)
  · refine And.intro (fun h1 => ?_) (fun h1 => ?_)
    · refine ⟨[], no_rl, (span_pure r.b0 r.b1 r.b2 i.by_).use (by repeat' first | exact trivial | exact rfl | exact Iff.rfl | exact Or.inl rfl | refine And.intro ?_ ?_) rfl rfl ?_⟩
      refine retE ?_
      exact (show spanV r.b0 r.b1 r.b2 i.by_ ↔ shiftV i r from ⟨fun k => .inr ⟨h, h1, k⟩, fun k => k.elim (fun e => absurd e.1 h) (fun e => e.2.2)⟩)
    · refine retE ?_
      exact (show ¬ shiftV i r from fun k => k.elim (fun e => h e.1) (fun e => h1 e.2.1))
def listedV (i : IN) (r : RU) : Prop := (r.regs = 0 ∧ i.regs = 0) ∨ (¬ r.regs = 0 ∧ 0 < i.regs ∧ bits .andNot .i64 i.regs r.regs = 0)
set_option maxHeartbeats 4000000 in
set_option maxRecDepth 100000 in
theorem listed_pure (i : IN) (r : RU) : PureF gT 81 [inP i, ruP r] (.bool (listedV i r)) := by
  refine Spec.enter gTok P81 100 Tryd.func81 rfl (by kernel_rfl) ?_
  refine And.intro (fun h => ?_) (fun h => ?_)
  · refine retE ?_
    exact (show i.regs = 0 ↔ listedV i r from ⟨fun k => .inl ⟨h, k⟩, fun k => k.elim (fun e => e.2) (fun e => absurd h e.1)⟩)
  · refine And.intro (fun h1 => ?_) (fun h1 => ?_)
    · refine retE ?_
      exact (show bits .andNot .i64 i.regs r.regs = 0 ↔ listedV i r from ⟨fun k => .inr ⟨h, h1, k⟩, fun k => k.elim (fun e => absurd e.1 h) (fun e => e.2.2)⟩)
    · refine retE ?_
      exact (show ¬ listedV i r from fun k => k.elim (fun e => h e.1) (fun e => h1 e.2.1))
def apartV (i : IN) : Prop := (i.form = 1 → i.imm < 32) ∧ (i.form = 2 ∨ i.form = 3 → 0 < i.imm) ∧ (i.form = 29 → ¬ (0 ≤ i.rd ∧ i.rd < 8) ∨ ¬ (0 ≤ i.rm ∧ i.rm < 8)) ∧ (i.form = 95 ∨ i.form = 96 → i.rd ≠ i.ra) ∧ (shapeV i.form = 18 ∨ shapeV i.form = 19 ∨ shapeV i.form = 20 → Rm.wordE i.imm = 0)
theorem shape_1 : shapeV 1 = 1 ∧ shapeV 2 = 1 ∧ shapeV 3 = 1 ∧ shapeV 29 = 6 ∧ shapeV 95 = 31 ∧ shapeV 96 = 31 := by decide
set_option maxHeartbeats 8000000 in
set_option maxRecDepth 100000 in
theorem apart_pure (i : IN) (hi : I64 i.imm) : PureF gT 85 [inP i] (.bool (apartV i)) := by
  obtain ⟨s1, s2, s3, s29, s95, s96⟩ := shape_1
  refine Spec.enter gTok P85 100 Tryd.func85 rfl (by kernel_rfl) ?_
  have e : apartV i ↔ ((i.form = 1 → i.imm < 32) ∧ (i.form = 2 ∨ i.form = 3 → 0 < i.imm) ∧ (i.form = 29 → ¬ (0 ≤ i.rd ∧ i.rd < 8) ∨ ¬ (0 ≤ i.rm ∧ i.rm < 8)) ∧ (i.form = 95 ∨ i.form = 96 → i.rd ≠ i.ra) ∧ (shapeV i.form = 18 ∨ shapeV i.form = 19 ∨ shapeV i.form = 20 → Rm.wordE i.imm = 0)) := Iff.rfl
  have f1 : i.form = 1 → shapeV i.form = 1 := fun h => by rw [h]; exact s1
  have f2 : i.form = 2 → shapeV i.form = 1 := fun h => by rw [h]; exact s2
  have f3 : i.form = 3 → shapeV i.form = 1 := fun h => by rw [h]; exact s3
  have f29 : i.form = 29 → shapeV i.form = 6 := fun h => by rw [h]; exact s29
  have f95 : i.form = 95 → shapeV i.form = 31 := fun h => by rw [h]; exact s95
  have f96 : i.form = 96 → shapeV i.form = 31 := fun h => by rw [h]; exact s96
  clear s1 s2 s3 s29 s95 s96
  repeat' ((conv => whnf); first | (refine (And.intro (fun _ => ?_) (fun _ => ?_) : (_ → _) ∧ (_ → _)) <;> (first | (exfalso; first | contradiction | omega) | skip)) | refine Or.inl (And.intro (by first | exact inR_i64 (by omega) | exact inR_u32 (by omega) | exact inR_u64 (by omega) | exact inR_u8 (by omega)) ?_) | (refine And.intro (show (_ : Int) ≠ 0 by omega) (Or.inl (And.intro (show (0 : Int) ≤ _ by omega) (And.intro (show (0 : Int) < _ by omega) ?_)))) | (refine And.intro (show (_ : Int) ≠ 0 by omega) (Or.inl (And.intro (show (0 : Int) ≤ _ by omega) (And.intro (by first | exact (show (_ : Int) ≤ 9223372036854775807 by omega) | exact (show (_ : Int) ≤ 4294967295 by omega)) (And.intro (show (0 : Int) < _ by omega) ?_))))) | (refine Exists.intro [] (And.intro no_rl ((low_pure' _).use (by repeat' first | exact trivial | exact rfl | exact Iff.rfl | exact Or.inl rfl | refine And.intro ?_ ?_) rfl rfl ?_))) | (refine Exists.intro [] (And.intro no_rl ((shape_pure i.form).use (by repeat' first | exact trivial | exact rfl | exact Iff.rfl | exact Or.inl rfl | refine And.intro ?_ ?_) rfl rfl ?_))) | (refine Exists.intro [] (And.intro no_rl ((immword_pure i.imm hi).use (by repeat' first | exact trivial | exact rfl | exact Iff.rfl | exact Or.inl rfl | refine And.intro ?_ ?_) rfl rfl ?_))) | (refine retE ?_; (show apartV i); rw [e]; clear e; omega) | (refine retE ?_; (show _ ↔ apartV i); rw [e]; clear e; omega) | (refine retE ?_; (show ¬ apartV i); rw [e]; clear e; omega) | (intro _))

/-- may an instruction be? -/
def rightR (i : IN) (r : RU) : Prop := (1 ≤ i.form ∧ i.form ≤ 100) ∧ hasV r.rd i.rd ∧ hasV r.rn i.rn ∧ hasV r.rm i.rm ∧ hasV r.ra i.ra ∧ listedV i r ∧ (i.cond = 0 ∨ (r.cond = true ∧ 0 < i.cond ∧ i.cond ≤ 13)) ∧ spanV r.i0 r.i1 r.i2 i.imm ∧ (i.set = 0 ∨ (i.set = 1 ∧ r.set = true)) ∧ shiftV i r ∧ apartV i
def rightV (i : IN) : Prop := rightR i (ruW (shapeV i.form))
set_option maxHeartbeats 16000000 in
set_option maxRecDepth 100000 in
theorem right_pure (i : IN) (hi : I64 i.imm) : PureF gT 35 [inP i] (.bool (rightV i)) := by
  refine Spec.enter gTok P35 100 Tryd.func35 rfl (by kernel_rfl) ?_
  refine ⟨[], no_rl, (form_is i.form).use (by repeat' first | exact trivial | exact rfl | exact Iff.rfl | exact Or.inl rfl | refine And.intro ?_ ?_) rfl rfl ?_⟩
  refine And.intro (fun h => ?_) (fun h => ?_)
  · refine retE ?_
    exact (show ¬ rightV i from fun k => h k.1)
  have hF := Classical.not_not.1 h
  clear h
  refine ⟨[], no_rl, (shape_pure i.form).use (by repeat' first | exact trivial | exact rfl | exact Iff.rfl | exact Or.inl rfl | refine And.intro ?_ ?_) rfl rfl ?_⟩
  refine ⟨[], no_rl, (wideRule_pure _).use (by repeat' first | exact trivial | exact rfl | exact Iff.rfl | exact Or.inl rfl | refine And.intro ?_ ?_) rfl rfl ?_⟩
  unfold rightV
  generalize ruW (shapeV i.form) = r
  repeat' ((conv => whnf); first | (refine (And.intro (fun _ => ?_) (fun _ => ?_) : (_ → _) ∧ (_ → _)) <;> (first | (exfalso; first | contradiction | omega) | skip)) | refine Or.inl (And.intro (by first | exact inR_i64 (by omega) | exact inR_u32 (by omega) | exact inR_u64 (by omega) | exact inR_u8 (by omega)) ?_) | (refine And.intro (show (_ : Int) ≠ 0 by omega) (Or.inl (And.intro (show (0 : Int) ≤ _ by omega) (And.intro (show (0 : Int) < _ by omega) ?_)))) | (refine And.intro (show (_ : Int) ≠ 0 by omega) (Or.inl (And.intro (show (0 : Int) ≤ _ by omega) (And.intro (by first | exact (show (_ : Int) ≤ 9223372036854775807 by omega) | exact (show (_ : Int) ≤ 4294967295 by omega)) (And.intro (show (0 : Int) < _ by omega) ?_))))) | (refine Exists.intro [] (And.intro no_rl ((has_pure _ _).use (by repeat' first | exact trivial | exact rfl | exact Iff.rfl | exact Or.inl rfl | refine And.intro ?_ ?_) rfl rfl ?_))) | (refine Exists.intro [] (And.intro no_rl ((listed_pure i r).use (by repeat' first | exact trivial | exact rfl | exact Iff.rfl | exact Or.inl rfl | refine And.intro ?_ ?_) rfl rfl ?_))) | (refine Exists.intro [] (And.intro no_rl ((span_pure _ _ _ _).use (by repeat' first | exact trivial | exact rfl | exact Iff.rfl | exact Or.inl rfl | refine And.intro ?_ ?_) rfl rfl ?_))) | (refine Exists.intro [] (And.intro no_rl ((may_pure _ _).use (by repeat' first | exact trivial | exact rfl | exact Iff.rfl | exact Or.inl rfl | refine And.intro ?_ ?_) rfl rfl ?_))) | (refine Exists.intro [] (And.intro no_rl ((shift_pure i r).use (by repeat' first | exact trivial | exact rfl | exact Iff.rfl | exact Or.inl rfl | refine And.intro ?_ ?_) rfl rfl ?_))) | (refine Exists.intro [] (And.intro no_rl ((apart_pure i hi).use (by repeat' first | exact trivial | exact rfl | exact Iff.rfl | exact Or.inl rfl | refine And.intro ?_ ?_) rfl rfl ?_))) | (refine retE ?_; (show apartV i ↔ rightR i r); (exact ⟨fun k => ⟨hF, by assumption, by assumption, by assumption, by assumption, by assumption, by first | exact Or.inl (by assumption) | exact Or.inr ⟨by assumption, by assumption, by assumption⟩, by assumption, by assumption, by assumption, k⟩, fun k => k.2.2.2.2.2.2.2.2.2.2⟩)) | (refine retE ?_; (show ¬ rightR i r); (rintro ⟨a0, a1, a2, a3, a4, a5, a6, a7, a8, a9, a10⟩; first | contradiction | (rcases a6 with a6 | ⟨b1, b2, b3⟩ <;> first | contradiction | omega))) | (intro _))

end Go.Proofs.YthpkejlmelednaaDoor.Pw

/- Chapters 3 and 18, plain: right instructions, by their forms (by gen_tb.py). -/
namespace Go.Proofs.YthpkejlmelednaaDoor.Pw
open Go Go.RowKit

theorem tmod0 {n s : Int} (h0 : 0 ≤ n) (h : n % s = 0) : n.tmod s = 0 := by
  rw [Int.tmod_eq_emod_of_nonneg h0]; exact h
theorem ri_66 (d n m : Int) (hd : 0 ≤ d ∧ d ≤ 7) (hn : 0 ≤ n ∧ n ≤ 7) (hm : 0 ≤ m ∧ m ≤ 7)  : rightV ⟨66, d, n, m, 0, 0, 0, 0, 0, 0, 0⟩ := by
  unfold rightV
  show rightR _ (ruW (shapeV 66))
  rw [show shapeV 66 = 21 by decide, show ruW 21 = { r0U with rd := 3, rn := 3, rm := 3, kind := true, set := true } from rfl]
  refine ⟨(show (1 : Int) ≤ 66 ∧ (66 : Int) ≤ 100 by decide), (show hasV 3 d from by unfold hasV; omega), (show hasV 3 n from by unfold hasV; omega), (show hasV 3 m from by unfold hasV; omega), (show hasV 0 0 from .inr (.inr (.inr ⟨by decide, by decide, by decide, rfl⟩))), .inl ⟨rfl, rfl⟩, .inl rfl, .inl ⟨rfl, rfl⟩, .inl rfl, .inl ⟨rfl, .inl ⟨rfl, (show (0 : Int) ≤ 0 ∧ (0 : Int) < 32 by decide)⟩⟩, ?_⟩
  refine ⟨fun h => absurd (show (66 : Int) = 1 from h) (by decide), fun h => absurd (show (66 : Int) = 2 ∨ (66 : Int) = 3 from h) (by decide), fun h => absurd (show (66 : Int) = 29 from h) (by decide), fun h => absurd (show (66 : Int) = 95 ∨ (66 : Int) = 96 from h) (by decide), ?_⟩
  show shapeV 66 = 18 ∨ shapeV 66 = 19 ∨ shapeV 66 = 20 → _
  rw [show shapeV 66 = 21 by decide]
  exact fun h => absurd h (by decide)
theorem ri_68 (d n m : Int) (hd : 0 ≤ d ∧ d ≤ 7) (hn : 0 ≤ n ∧ n ≤ 7) (hm : 0 ≤ m ∧ m ≤ 7)  : rightV ⟨68, d, n, m, 0, 0, 0, 0, 0, 0, 0⟩ := by
  unfold rightV
  show rightR _ (ruW (shapeV 68))
  rw [show shapeV 68 = 21 by decide, show ruW 21 = { r0U with rd := 3, rn := 3, rm := 3, kind := true, set := true } from rfl]
  refine ⟨(show (1 : Int) ≤ 68 ∧ (68 : Int) ≤ 100 by decide), (show hasV 3 d from by unfold hasV; omega), (show hasV 3 n from by unfold hasV; omega), (show hasV 3 m from by unfold hasV; omega), (show hasV 0 0 from .inr (.inr (.inr ⟨by decide, by decide, by decide, rfl⟩))), .inl ⟨rfl, rfl⟩, .inl rfl, .inl ⟨rfl, rfl⟩, .inl rfl, .inl ⟨rfl, .inl ⟨rfl, (show (0 : Int) ≤ 0 ∧ (0 : Int) < 32 by decide)⟩⟩, ?_⟩
  refine ⟨fun h => absurd (show (68 : Int) = 1 from h) (by decide), fun h => absurd (show (68 : Int) = 2 ∨ (68 : Int) = 3 from h) (by decide), fun h => absurd (show (68 : Int) = 29 from h) (by decide), fun h => absurd (show (68 : Int) = 95 ∨ (68 : Int) = 96 from h) (by decide), ?_⟩
  show shapeV 68 = 18 ∨ shapeV 68 = 19 ∨ shapeV 68 = 20 → _
  rw [show shapeV 68 = 21 by decide]
  exact fun h => absurd h (by decide)
theorem ri_70 (d n m : Int) (hd : 0 ≤ d ∧ d ≤ 7) (hn : 0 ≤ n ∧ n ≤ 7) (hm : 0 ≤ m ∧ m ≤ 7)  : rightV ⟨70, d, n, m, 0, 0, 0, 0, 0, 0, 0⟩ := by
  unfold rightV
  show rightR _ (ruW (shapeV 70))
  rw [show shapeV 70 = 21 by decide, show ruW 21 = { r0U with rd := 3, rn := 3, rm := 3, kind := true, set := true } from rfl]
  refine ⟨(show (1 : Int) ≤ 70 ∧ (70 : Int) ≤ 100 by decide), (show hasV 3 d from by unfold hasV; omega), (show hasV 3 n from by unfold hasV; omega), (show hasV 3 m from by unfold hasV; omega), (show hasV 0 0 from .inr (.inr (.inr ⟨by decide, by decide, by decide, rfl⟩))), .inl ⟨rfl, rfl⟩, .inl rfl, .inl ⟨rfl, rfl⟩, .inl rfl, .inl ⟨rfl, .inl ⟨rfl, (show (0 : Int) ≤ 0 ∧ (0 : Int) < 32 by decide)⟩⟩, ?_⟩
  refine ⟨fun h => absurd (show (70 : Int) = 1 from h) (by decide), fun h => absurd (show (70 : Int) = 2 ∨ (70 : Int) = 3 from h) (by decide), fun h => absurd (show (70 : Int) = 29 from h) (by decide), fun h => absurd (show (70 : Int) = 95 ∨ (70 : Int) = 96 from h) (by decide), ?_⟩
  show shapeV 70 = 18 ∨ shapeV 70 = 19 ∨ shapeV 70 = 20 → _
  rw [show shapeV 70 = 21 by decide]
  exact fun h => absurd h (by decide)
theorem ri_72 (d n m : Int) (hd : 0 ≤ d ∧ d ≤ 7) (hn : 0 ≤ n ∧ n ≤ 7) (hm : 0 ≤ m ∧ m ≤ 7)  : rightV ⟨72, d, n, m, 0, 0, 0, 0, 0, 0, 0⟩ := by
  unfold rightV
  show rightR _ (ruW (shapeV 72))
  rw [show shapeV 72 = 21 by decide, show ruW 21 = { r0U with rd := 3, rn := 3, rm := 3, kind := true, set := true } from rfl]
  refine ⟨(show (1 : Int) ≤ 72 ∧ (72 : Int) ≤ 100 by decide), (show hasV 3 d from by unfold hasV; omega), (show hasV 3 n from by unfold hasV; omega), (show hasV 3 m from by unfold hasV; omega), (show hasV 0 0 from .inr (.inr (.inr ⟨by decide, by decide, by decide, rfl⟩))), .inl ⟨rfl, rfl⟩, .inl rfl, .inl ⟨rfl, rfl⟩, .inl rfl, .inl ⟨rfl, .inl ⟨rfl, (show (0 : Int) ≤ 0 ∧ (0 : Int) < 32 by decide)⟩⟩, ?_⟩
  refine ⟨fun h => absurd (show (72 : Int) = 1 from h) (by decide), fun h => absurd (show (72 : Int) = 2 ∨ (72 : Int) = 3 from h) (by decide), fun h => absurd (show (72 : Int) = 29 from h) (by decide), fun h => absurd (show (72 : Int) = 95 ∨ (72 : Int) = 96 from h) (by decide), ?_⟩
  show shapeV 72 = 18 ∨ shapeV 72 = 19 ∨ shapeV 72 = 20 → _
  rw [show shapeV 72 = 21 by decide]
  exact fun h => absurd h (by decide)
theorem ri_73 (d n m : Int) (hd : 0 ≤ d ∧ d ≤ 7) (hn : 0 ≤ n ∧ n ≤ 7) (hm : 0 ≤ m ∧ m ≤ 7)  : rightV ⟨73, d, n, m, 0, 0, 0, 0, 0, 0, 0⟩ := by
  unfold rightV
  show rightR _ (ruW (shapeV 73))
  rw [show shapeV 73 = 21 by decide, show ruW 21 = { r0U with rd := 3, rn := 3, rm := 3, kind := true, set := true } from rfl]
  refine ⟨(show (1 : Int) ≤ 73 ∧ (73 : Int) ≤ 100 by decide), (show hasV 3 d from by unfold hasV; omega), (show hasV 3 n from by unfold hasV; omega), (show hasV 3 m from by unfold hasV; omega), (show hasV 0 0 from .inr (.inr (.inr ⟨by decide, by decide, by decide, rfl⟩))), .inl ⟨rfl, rfl⟩, .inl rfl, .inl ⟨rfl, rfl⟩, .inl rfl, .inl ⟨rfl, .inl ⟨rfl, (show (0 : Int) ≤ 0 ∧ (0 : Int) < 32 by decide)⟩⟩, ?_⟩
  refine ⟨fun h => absurd (show (73 : Int) = 1 from h) (by decide), fun h => absurd (show (73 : Int) = 2 ∨ (73 : Int) = 3 from h) (by decide), fun h => absurd (show (73 : Int) = 29 from h) (by decide), fun h => absurd (show (73 : Int) = 95 ∨ (73 : Int) = 96 from h) (by decide), ?_⟩
  show shapeV 73 = 18 ∨ shapeV 73 = 19 ∨ shapeV 73 = 20 → _
  rw [show shapeV 73 = 21 by decide]
  exact fun h => absurd h (by decide)
theorem ri_73s (d n m : Int) (hd : 0 ≤ d ∧ d ≤ 7) (hn : 0 ≤ n ∧ n ≤ 7) (hm : 0 ≤ m ∧ m ≤ 7)  : rightV ⟨73, d, n, m, 0, 0, 0, 0, 1, 0, 0⟩ := by
  unfold rightV
  show rightR _ (ruW (shapeV 73))
  rw [show shapeV 73 = 21 by decide, show ruW 21 = { r0U with rd := 3, rn := 3, rm := 3, kind := true, set := true } from rfl]
  refine ⟨(show (1 : Int) ≤ 73 ∧ (73 : Int) ≤ 100 by decide), (show hasV 3 d from by unfold hasV; omega), (show hasV 3 n from by unfold hasV; omega), (show hasV 3 m from by unfold hasV; omega), (show hasV 0 0 from .inr (.inr (.inr ⟨by decide, by decide, by decide, rfl⟩))), .inl ⟨rfl, rfl⟩, .inl rfl, .inl ⟨rfl, rfl⟩, .inr ⟨rfl, rfl⟩, .inl ⟨rfl, .inl ⟨rfl, (show (0 : Int) ≤ 0 ∧ (0 : Int) < 32 by decide)⟩⟩, ?_⟩
  refine ⟨fun h => absurd (show (73 : Int) = 1 from h) (by decide), fun h => absurd (show (73 : Int) = 2 ∨ (73 : Int) = 3 from h) (by decide), fun h => absurd (show (73 : Int) = 29 from h) (by decide), fun h => absurd (show (73 : Int) = 95 ∨ (73 : Int) = 96 from h) (by decide), ?_⟩
  show shapeV 73 = 18 ∨ shapeV 73 = 19 ∨ shapeV 73 = 20 → _
  rw [show shapeV 73 = 21 by decide]
  exact fun h => absurd h (by decide)
theorem ri_4 (d n m : Int) (hd : 0 ≤ d ∧ d ≤ 7) (hn : 0 ≤ n ∧ n ≤ 7) (hm : 0 ≤ m ∧ m ≤ 7)  : rightV ⟨4, d, n, m, 0, 0, 0, 0, 0, 0, 0⟩ := by
  unfold rightV
  show rightR _ (ruW (shapeV 4))
  rw [show shapeV 4 = 2 by decide, show ruW 2 = { r0U with rd := 1, rn := 1, rm := 1 } from rfl]
  refine ⟨(show (1 : Int) ≤ 4 ∧ (4 : Int) ≤ 100 by decide), (show hasV 1 d from by unfold hasV; omega), (show hasV 1 n from by unfold hasV; omega), (show hasV 1 m from by unfold hasV; omega), (show hasV 0 0 from .inr (.inr (.inr ⟨by decide, by decide, by decide, rfl⟩))), .inl ⟨rfl, rfl⟩, .inl rfl, .inl ⟨rfl, rfl⟩, .inl rfl, .inr ⟨Bool.false_ne_true, rfl, .inl ⟨rfl, rfl⟩⟩, ?_⟩
  refine ⟨fun h => absurd (show (4 : Int) = 1 from h) (by decide), fun h => absurd (show (4 : Int) = 2 ∨ (4 : Int) = 3 from h) (by decide), fun h => absurd (show (4 : Int) = 29 from h) (by decide), fun h => absurd (show (4 : Int) = 95 ∨ (4 : Int) = 96 from h) (by decide), ?_⟩
  show shapeV 4 = 18 ∨ shapeV 4 = 19 ∨ shapeV 4 = 20 → _
  rw [show shapeV 4 = 2 by decide]
  exact fun h => absurd h (by decide)
theorem ri_5 (d n m : Int) (hd : 0 ≤ d ∧ d ≤ 7) (hn : 0 ≤ n ∧ n ≤ 7) (hm : 0 ≤ m ∧ m ≤ 7)  : rightV ⟨5, d, n, m, 0, 0, 0, 0, 0, 0, 0⟩ := by
  unfold rightV
  show rightR _ (ruW (shapeV 5))
  rw [show shapeV 5 = 2 by decide, show ruW 2 = { r0U with rd := 1, rn := 1, rm := 1 } from rfl]
  refine ⟨(show (1 : Int) ≤ 5 ∧ (5 : Int) ≤ 100 by decide), (show hasV 1 d from by unfold hasV; omega), (show hasV 1 n from by unfold hasV; omega), (show hasV 1 m from by unfold hasV; omega), (show hasV 0 0 from .inr (.inr (.inr ⟨by decide, by decide, by decide, rfl⟩))), .inl ⟨rfl, rfl⟩, .inl rfl, .inl ⟨rfl, rfl⟩, .inl rfl, .inr ⟨Bool.false_ne_true, rfl, .inl ⟨rfl, rfl⟩⟩, ?_⟩
  refine ⟨fun h => absurd (show (5 : Int) = 1 from h) (by decide), fun h => absurd (show (5 : Int) = 2 ∨ (5 : Int) = 3 from h) (by decide), fun h => absurd (show (5 : Int) = 29 from h) (by decide), fun h => absurd (show (5 : Int) = 95 ∨ (5 : Int) = 96 from h) (by decide), ?_⟩
  show shapeV 5 = 18 ∨ shapeV 5 = 19 ∨ shapeV 5 = 20 → _
  rw [show shapeV 5 = 2 by decide]
  exact fun h => absurd h (by decide)
theorem ri_92 (d n m : Int) (hd : 0 ≤ d ∧ d ≤ 7) (hn : 0 ≤ n ∧ n ≤ 7) (hm : 0 ≤ m ∧ m ≤ 7)  : rightV ⟨92, d, n, m, 0, 0, 0, 0, 0, 0, 0⟩ := by
  unfold rightV
  show rightR _ (ruW (shapeV 92))
  rw [show shapeV 92 = 28 by decide, show ruW 28 = { r0U with rd := 3, rn := 3, rm := 3 } from rfl]
  refine ⟨(show (1 : Int) ≤ 92 ∧ (92 : Int) ≤ 100 by decide), (show hasV 3 d from by unfold hasV; omega), (show hasV 3 n from by unfold hasV; omega), (show hasV 3 m from by unfold hasV; omega), (show hasV 0 0 from .inr (.inr (.inr ⟨by decide, by decide, by decide, rfl⟩))), .inl ⟨rfl, rfl⟩, .inl rfl, .inl ⟨rfl, rfl⟩, .inl rfl, .inr ⟨Bool.false_ne_true, rfl, .inl ⟨rfl, rfl⟩⟩, ?_⟩
  refine ⟨fun h => absurd (show (92 : Int) = 1 from h) (by decide), fun h => absurd (show (92 : Int) = 2 ∨ (92 : Int) = 3 from h) (by decide), fun h => absurd (show (92 : Int) = 29 from h) (by decide), fun h => absurd (show (92 : Int) = 95 ∨ (92 : Int) = 96 from h) (by decide), ?_⟩
  show shapeV 92 = 18 ∨ shapeV 92 = 19 ∨ shapeV 92 = 20 → _
  rw [show shapeV 92 = 28 by decide]
  exact fun h => absurd h (by decide)
theorem ri_97 (d n m : Int) (hd : 0 ≤ d ∧ d ≤ 7) (hn : 0 ≤ n ∧ n ≤ 7) (hm : 0 ≤ m ∧ m ≤ 7)  : rightV ⟨97, d, n, m, 0, 0, 0, 0, 0, 0, 0⟩ := by
  unfold rightV
  show rightR _ (ruW (shapeV 97))
  rw [show shapeV 97 = 28 by decide, show ruW 28 = { r0U with rd := 3, rn := 3, rm := 3 } from rfl]
  refine ⟨(show (1 : Int) ≤ 97 ∧ (97 : Int) ≤ 100 by decide), (show hasV 3 d from by unfold hasV; omega), (show hasV 3 n from by unfold hasV; omega), (show hasV 3 m from by unfold hasV; omega), (show hasV 0 0 from .inr (.inr (.inr ⟨by decide, by decide, by decide, rfl⟩))), .inl ⟨rfl, rfl⟩, .inl rfl, .inl ⟨rfl, rfl⟩, .inl rfl, .inr ⟨Bool.false_ne_true, rfl, .inl ⟨rfl, rfl⟩⟩, ?_⟩
  refine ⟨fun h => absurd (show (97 : Int) = 1 from h) (by decide), fun h => absurd (show (97 : Int) = 2 ∨ (97 : Int) = 3 from h) (by decide), fun h => absurd (show (97 : Int) = 29 from h) (by decide), fun h => absurd (show (97 : Int) = 95 ∨ (97 : Int) = 96 from h) (by decide), ?_⟩
  show shapeV 97 = 18 ∨ shapeV 97 = 19 ∨ shapeV 97 = 20 → _
  rw [show shapeV 97 = 28 by decide]
  exact fun h => absurd h (by decide)
theorem ri_88 (d n m : Int) (hd : 0 ≤ d ∧ d ≤ 7) (hn : 0 ≤ n ∧ n ≤ 7) (hm : 0 ≤ m ∧ m ≤ 7)  : rightV ⟨88, d, n, m, 0, 0, 0, 0, 0, 0, 0⟩ := by
  unfold rightV
  show rightR _ (ruW (shapeV 88))
  rw [show shapeV 88 = 27 by decide, show ruW 27 = { r0U with rd := 3, rn := 3, rm := 3, set := true } from rfl]
  refine ⟨(show (1 : Int) ≤ 88 ∧ (88 : Int) ≤ 100 by decide), (show hasV 3 d from by unfold hasV; omega), (show hasV 3 n from by unfold hasV; omega), (show hasV 3 m from by unfold hasV; omega), (show hasV 0 0 from .inr (.inr (.inr ⟨by decide, by decide, by decide, rfl⟩))), .inl ⟨rfl, rfl⟩, .inl rfl, .inl ⟨rfl, rfl⟩, .inl rfl, .inr ⟨Bool.false_ne_true, rfl, .inl ⟨rfl, rfl⟩⟩, ?_⟩
  refine ⟨fun h => absurd (show (88 : Int) = 1 from h) (by decide), fun h => absurd (show (88 : Int) = 2 ∨ (88 : Int) = 3 from h) (by decide), fun h => absurd (show (88 : Int) = 29 from h) (by decide), fun h => absurd (show (88 : Int) = 95 ∨ (88 : Int) = 96 from h) (by decide), ?_⟩
  show shapeV 88 = 18 ∨ shapeV 88 = 19 ∨ shapeV 88 = 20 → _
  rw [show shapeV 88 = 27 by decide]
  exact fun h => absurd h (by decide)
theorem ri_89 (d n m : Int) (hd : 0 ≤ d ∧ d ≤ 7) (hn : 0 ≤ n ∧ n ≤ 7) (hm : 0 ≤ m ∧ m ≤ 7)  : rightV ⟨89, d, n, m, 0, 0, 0, 0, 0, 0, 0⟩ := by
  unfold rightV
  show rightR _ (ruW (shapeV 89))
  rw [show shapeV 89 = 27 by decide, show ruW 27 = { r0U with rd := 3, rn := 3, rm := 3, set := true } from rfl]
  refine ⟨(show (1 : Int) ≤ 89 ∧ (89 : Int) ≤ 100 by decide), (show hasV 3 d from by unfold hasV; omega), (show hasV 3 n from by unfold hasV; omega), (show hasV 3 m from by unfold hasV; omega), (show hasV 0 0 from .inr (.inr (.inr ⟨by decide, by decide, by decide, rfl⟩))), .inl ⟨rfl, rfl⟩, .inl rfl, .inl ⟨rfl, rfl⟩, .inl rfl, .inr ⟨Bool.false_ne_true, rfl, .inl ⟨rfl, rfl⟩⟩, ?_⟩
  refine ⟨fun h => absurd (show (89 : Int) = 1 from h) (by decide), fun h => absurd (show (89 : Int) = 2 ∨ (89 : Int) = 3 from h) (by decide), fun h => absurd (show (89 : Int) = 29 from h) (by decide), fun h => absurd (show (89 : Int) = 95 ∨ (89 : Int) = 96 from h) (by decide), ?_⟩
  show shapeV 89 = 18 ∨ shapeV 89 = 19 ∨ shapeV 89 = 20 → _
  rw [show shapeV 89 = 27 by decide]
  exact fun h => absurd h (by decide)
theorem ri_91 (d n m : Int) (hd : 0 ≤ d ∧ d ≤ 7) (hn : 0 ≤ n ∧ n ≤ 7) (hm : 0 ≤ m ∧ m ≤ 7)  : rightV ⟨91, d, n, m, 0, 0, 0, 0, 0, 0, 0⟩ := by
  unfold rightV
  show rightR _ (ruW (shapeV 91))
  rw [show shapeV 91 = 27 by decide, show ruW 27 = { r0U with rd := 3, rn := 3, rm := 3, set := true } from rfl]
  refine ⟨(show (1 : Int) ≤ 91 ∧ (91 : Int) ≤ 100 by decide), (show hasV 3 d from by unfold hasV; omega), (show hasV 3 n from by unfold hasV; omega), (show hasV 3 m from by unfold hasV; omega), (show hasV 0 0 from .inr (.inr (.inr ⟨by decide, by decide, by decide, rfl⟩))), .inl ⟨rfl, rfl⟩, .inl rfl, .inl ⟨rfl, rfl⟩, .inl rfl, .inr ⟨Bool.false_ne_true, rfl, .inl ⟨rfl, rfl⟩⟩, ?_⟩
  refine ⟨fun h => absurd (show (91 : Int) = 1 from h) (by decide), fun h => absurd (show (91 : Int) = 2 ∨ (91 : Int) = 3 from h) (by decide), fun h => absurd (show (91 : Int) = 29 from h) (by decide), fun h => absurd (show (91 : Int) = 95 ∨ (91 : Int) = 96 from h) (by decide), ?_⟩
  show shapeV 91 = 18 ∨ shapeV 91 = 19 ∨ shapeV 91 = 20 → _
  rw [show shapeV 91 = 27 by decide]
  exact fun h => absurd h (by decide)
theorem ri_37 (d k : Int) (hd : 0 ≤ d ∧ d ≤ 7) (hk : 0 ≤ k ∧ k ≤ 1020 ∧ k % 4 = 0) : rightV ⟨37, d, 0, 0, 0, k, 0, 0, 0, 0, 0⟩ := by
  unfold rightV
  show rightR _ (ruW (shapeV 37))
  rw [show shapeV 37 = 8 by decide, show ruW 8 = { r0U with rd := 1, i1 := 1020, i2 := 4 } from rfl]
  refine ⟨(show (1 : Int) ≤ 37 ∧ (37 : Int) ≤ 100 by decide), (show hasV 1 d from by unfold hasV; omega), (show hasV 0 0 from .inr (.inr (.inr ⟨by decide, by decide, by decide, rfl⟩))), (show hasV 0 0 from .inr (.inr (.inr ⟨by decide, by decide, by decide, rfl⟩))), (show hasV 0 0 from .inr (.inr (.inr ⟨by decide, by decide, by decide, rfl⟩))), .inl ⟨rfl, rfl⟩, .inl rfl, (show spanV (0) 1020 4 k from .inr ⟨by decide, by omega, by omega, tmod0 (by omega) (by omega)⟩), .inl rfl, .inr ⟨Bool.false_ne_true, rfl, .inl ⟨rfl, rfl⟩⟩, ?_⟩
  refine ⟨fun h => absurd (show (37 : Int) = 1 from h) (by decide), fun h => absurd (show (37 : Int) = 2 ∨ (37 : Int) = 3 from h) (by decide), fun h => absurd (show (37 : Int) = 29 from h) (by decide), fun h => absurd (show (37 : Int) = 95 ∨ (37 : Int) = 96 from h) (by decide), ?_⟩
  show shapeV 37 = 18 ∨ shapeV 37 = 19 ∨ shapeV 37 = 20 → _
  rw [show shapeV 37 = 8 by decide]
  exact fun h => absurd h (by decide)
theorem ri_38 (d k : Int) (hd : 0 ≤ d ∧ d ≤ 7) (hk : 0 ≤ k ∧ k ≤ 1020 ∧ k % 4 = 0) : rightV ⟨38, d, 0, 0, 0, k, 0, 0, 0, 0, 0⟩ := by
  unfold rightV
  show rightR _ (ruW (shapeV 38))
  rw [show shapeV 38 = 8 by decide, show ruW 8 = { r0U with rd := 1, i1 := 1020, i2 := 4 } from rfl]
  refine ⟨(show (1 : Int) ≤ 38 ∧ (38 : Int) ≤ 100 by decide), (show hasV 1 d from by unfold hasV; omega), (show hasV 0 0 from .inr (.inr (.inr ⟨by decide, by decide, by decide, rfl⟩))), (show hasV 0 0 from .inr (.inr (.inr ⟨by decide, by decide, by decide, rfl⟩))), (show hasV 0 0 from .inr (.inr (.inr ⟨by decide, by decide, by decide, rfl⟩))), .inl ⟨rfl, rfl⟩, .inl rfl, (show spanV (0) 1020 4 k from .inr ⟨by decide, by omega, by omega, tmod0 (by omega) (by omega)⟩), .inl rfl, .inr ⟨Bool.false_ne_true, rfl, .inl ⟨rfl, rfl⟩⟩, ?_⟩
  refine ⟨fun h => absurd (show (38 : Int) = 1 from h) (by decide), fun h => absurd (show (38 : Int) = 2 ∨ (38 : Int) = 3 from h) (by decide), fun h => absurd (show (38 : Int) = 29 from h) (by decide), fun h => absurd (show (38 : Int) = 95 ∨ (38 : Int) = 96 from h) (by decide), ?_⟩
  show shapeV 38 = 18 ∨ shapeV 38 = 19 ∨ shapeV 38 = 20 → _
  rw [show shapeV 38 = 8 by decide]
  exact fun h => absurd h (by decide)
theorem ri_39 (d k : Int) (hd : 0 ≤ d ∧ d ≤ 7) (hk : 0 ≤ k ∧ k ≤ 1020 ∧ k % 4 = 0) : rightV ⟨39, d, 0, 0, 0, k, 0, 0, 0, 0, 0⟩ := by
  unfold rightV
  show rightR _ (ruW (shapeV 39))
  rw [show shapeV 39 = 8 by decide, show ruW 8 = { r0U with rd := 1, i1 := 1020, i2 := 4 } from rfl]
  refine ⟨(show (1 : Int) ≤ 39 ∧ (39 : Int) ≤ 100 by decide), (show hasV 1 d from by unfold hasV; omega), (show hasV 0 0 from .inr (.inr (.inr ⟨by decide, by decide, by decide, rfl⟩))), (show hasV 0 0 from .inr (.inr (.inr ⟨by decide, by decide, by decide, rfl⟩))), (show hasV 0 0 from .inr (.inr (.inr ⟨by decide, by decide, by decide, rfl⟩))), .inl ⟨rfl, rfl⟩, .inl rfl, (show spanV (0) 1020 4 k from .inr ⟨by decide, by omega, by omega, tmod0 (by omega) (by omega)⟩), .inl rfl, .inr ⟨Bool.false_ne_true, rfl, .inl ⟨rfl, rfl⟩⟩, ?_⟩
  refine ⟨fun h => absurd (show (39 : Int) = 1 from h) (by decide), fun h => absurd (show (39 : Int) = 2 ∨ (39 : Int) = 3 from h) (by decide), fun h => absurd (show (39 : Int) = 29 from h) (by decide), fun h => absurd (show (39 : Int) = 95 ∨ (39 : Int) = 96 from h) (by decide), ?_⟩
  show shapeV 39 = 18 ∨ shapeV 39 = 19 ∨ shapeV 39 = 20 → _
  rw [show shapeV 39 = 8 by decide]
  exact fun h => absurd h (by decide)
theorem ri_86 (d n m : Int) (hd : 0 ≤ d ∧ d ≤ 7) (hn : 0 ≤ n ∧ n ≤ 7) (hm : 0 ≤ m ∧ m ≤ 7)  : rightV ⟨86, d, n, m, 0, 0, 0, 2, 0, 0, 0⟩ := by
  unfold rightV
  show rightR _ (ruW (shapeV 86))
  rw [show shapeV 86 = 26 by decide, show ruW 26 = { r0U with rd := 3, rn := 2, rm := 3, b1 := 3, b2 := 1 } from rfl]
  refine ⟨(show (1 : Int) ≤ 86 ∧ (86 : Int) ≤ 100 by decide), (show hasV 3 d from by unfold hasV; omega), (show hasV 2 n from by unfold hasV; omega), (show hasV 3 m from by unfold hasV; omega), (show hasV 0 0 from .inr (.inr (.inr ⟨by decide, by decide, by decide, rfl⟩))), .inl ⟨rfl, rfl⟩, .inl rfl, .inl ⟨rfl, rfl⟩, .inl rfl, .inr ⟨Bool.false_ne_true, rfl, (show spanV 0 3 1 2 from .inr ⟨by decide, by decide, by decide, by decide⟩)⟩, ?_⟩
  refine ⟨fun h => absurd (show (86 : Int) = 1 from h) (by decide), fun h => absurd (show (86 : Int) = 2 ∨ (86 : Int) = 3 from h) (by decide), fun h => absurd (show (86 : Int) = 29 from h) (by decide), fun h => absurd (show (86 : Int) = 95 ∨ (86 : Int) = 96 from h) (by decide), ?_⟩
  show shapeV 86 = 18 ∨ shapeV 86 = 19 ∨ shapeV 86 = 20 → _
  rw [show shapeV 86 = 26 by decide]
  exact fun h => absurd h (by decide)
theorem ri_87 (d n m : Int) (hd : 0 ≤ d ∧ d ≤ 7) (hn : 0 ≤ n ∧ n ≤ 7) (hm : 0 ≤ m ∧ m ≤ 7)  : rightV ⟨87, d, n, m, 0, 0, 0, 2, 0, 0, 0⟩ := by
  unfold rightV
  show rightR _ (ruW (shapeV 87))
  rw [show shapeV 87 = 26 by decide, show ruW 26 = { r0U with rd := 3, rn := 2, rm := 3, b1 := 3, b2 := 1 } from rfl]
  refine ⟨(show (1 : Int) ≤ 87 ∧ (87 : Int) ≤ 100 by decide), (show hasV 3 d from by unfold hasV; omega), (show hasV 2 n from by unfold hasV; omega), (show hasV 3 m from by unfold hasV; omega), (show hasV 0 0 from .inr (.inr (.inr ⟨by decide, by decide, by decide, rfl⟩))), .inl ⟨rfl, rfl⟩, .inl rfl, .inl ⟨rfl, rfl⟩, .inl rfl, .inr ⟨Bool.false_ne_true, rfl, (show spanV 0 3 1 2 from .inr ⟨by decide, by decide, by decide, by decide⟩)⟩, ?_⟩
  refine ⟨fun h => absurd (show (87 : Int) = 1 from h) (by decide), fun h => absurd (show (87 : Int) = 2 ∨ (87 : Int) = 3 from h) (by decide), fun h => absurd (show (87 : Int) = 29 from h) (by decide), fun h => absurd (show (87 : Int) = 95 ∨ (87 : Int) = 96 from h) (by decide), ?_⟩
  show shapeV 87 = 18 ∨ shapeV 87 = 19 ∨ shapeV 87 = 20 → _
  rw [show shapeV 87 = 26 by decide]
  exact fun h => absurd h (by decide)
theorem ri_2 (d m k : Int) (hd : 0 ≤ d ∧ d ≤ 7) (hm : 0 ≤ m ∧ m ≤ 7) (hk : 1 ≤ k ∧ k ≤ 31) : rightV ⟨2, d, 0, m, 0, k, 0, 0, 0, 0, 0⟩ := by
  unfold rightV
  show rightR _ (ruW (shapeV 2))
  rw [show shapeV 2 = 1 by decide, show ruW 1 = { r0U with rd := 1, rm := 1, i0 := 0, i1 := 32, i2 := 1 } from rfl]
  refine ⟨(show (1 : Int) ≤ 2 ∧ (2 : Int) ≤ 100 by decide), (show hasV 1 d from by unfold hasV; omega), (show hasV 0 0 from .inr (.inr (.inr ⟨by decide, by decide, by decide, rfl⟩))), (show hasV 1 m from by unfold hasV; omega), (show hasV 0 0 from .inr (.inr (.inr ⟨by decide, by decide, by decide, rfl⟩))), .inl ⟨rfl, rfl⟩, .inl rfl, (show spanV (0) 32 1 k from .inr ⟨by decide, by omega, by omega, tmod0 (by omega) (by omega)⟩), .inl rfl, .inr ⟨Bool.false_ne_true, rfl, .inl ⟨rfl, rfl⟩⟩, ?_⟩
  refine ⟨fun h => absurd (show (2 : Int) = 1 from h) (by decide), fun _ => (show 0 < k by omega), fun h => absurd (show (2 : Int) = 29 from h) (by decide), fun h => absurd (show (2 : Int) = 95 ∨ (2 : Int) = 96 from h) (by decide), ?_⟩
  show shapeV 2 = 18 ∨ shapeV 2 = 19 ∨ shapeV 2 = 20 → _
  rw [show shapeV 2 = 1 by decide]
  exact fun h => absurd h (by decide)
theorem ri_1 (d m k : Int) (hd : 0 ≤ d ∧ d ≤ 7) (hm : 0 ≤ m ∧ m ≤ 7) (hk : 1 ≤ k ∧ k ≤ 31) : rightV ⟨1, d, 0, m, 0, k, 0, 0, 0, 0, 0⟩ := by
  unfold rightV
  show rightR _ (ruW (shapeV 1))
  rw [show shapeV 1 = 1 by decide, show ruW 1 = { r0U with rd := 1, rm := 1, i0 := 0, i1 := 32, i2 := 1 } from rfl]
  refine ⟨(show (1 : Int) ≤ 1 ∧ (1 : Int) ≤ 100 by decide), (show hasV 1 d from by unfold hasV; omega), (show hasV 0 0 from .inr (.inr (.inr ⟨by decide, by decide, by decide, rfl⟩))), (show hasV 1 m from by unfold hasV; omega), (show hasV 0 0 from .inr (.inr (.inr ⟨by decide, by decide, by decide, rfl⟩))), .inl ⟨rfl, rfl⟩, .inl rfl, (show spanV (0) 32 1 k from .inr ⟨by decide, by omega, by omega, tmod0 (by omega) (by omega)⟩), .inl rfl, .inr ⟨Bool.false_ne_true, rfl, .inl ⟨rfl, rfl⟩⟩, ?_⟩
  refine ⟨fun _ => (show k < 32 by omega), fun h => absurd (show (1 : Int) = 2 ∨ (1 : Int) = 3 from h) (by decide), fun h => absurd (show (1 : Int) = 29 from h) (by decide), fun h => absurd (show (1 : Int) = 95 ∨ (1 : Int) = 96 from h) (by decide), ?_⟩
  show shapeV 1 = 18 ∨ shapeV 1 = 19 ∨ shapeV 1 = 20 → _
  rw [show shapeV 1 = 1 by decide]
  exact fun h => absurd h (by decide)
theorem ri_95 (d n m a : Int) (hd : 0 ≤ d ∧ d ≤ 7) (hn : 0 ≤ n ∧ n ≤ 7) (hm : 0 ≤ m ∧ m ≤ 7) (ha : 0 ≤ a ∧ a ≤ 7) (hda : d ≠ a) : rightV ⟨95, d, n, m, a, 0, 0, 0, 0, 0, 0⟩ := by
  unfold rightV
  show rightR _ (ruW (shapeV 95))
  rw [show shapeV 95 = 31 by decide, show ruW 31 = { r0U with rd := 3, rn := 3, rm := 3, ra := 3 } from rfl]
  refine ⟨(show (1 : Int) ≤ 95 ∧ (95 : Int) ≤ 100 by decide), (show hasV 3 d from by unfold hasV; omega), (show hasV 3 n from by unfold hasV; omega), (show hasV 3 m from by unfold hasV; omega), (show hasV 3 a from by unfold hasV; omega), .inl ⟨rfl, rfl⟩, .inl rfl, .inl ⟨rfl, rfl⟩, .inl rfl, .inr ⟨Bool.false_ne_true, rfl, .inl ⟨rfl, rfl⟩⟩, ?_⟩
  refine ⟨fun h => absurd (show (95 : Int) = 1 from h) (by decide), fun h => absurd (show (95 : Int) = 2 ∨ (95 : Int) = 3 from h) (by decide), fun h => absurd (show (95 : Int) = 29 from h) (by decide), fun _ => hda, ?_⟩
  show shapeV 95 = 18 ∨ shapeV 95 = 19 ∨ shapeV 95 = 20 → _
  rw [show shapeV 95 = 31 by decide]
  exact fun h => absurd h (by decide)
theorem ri_8 (d k : Int) (hd : 0 ≤ d ∧ d ≤ 7) (hk : 0 ≤ k ∧ k ≤ 255) : rightV ⟨8, d, 0, 0, 0, k, 0, 0, 0, 0, 0⟩ := by
  unfold rightV
  show rightR _ (ruW (shapeV 8))
  rw [show shapeV 8 = 4 by decide, show ruW 4 = { r0U with rd := 1, i1 := 255, i2 := 1 } from rfl]
  refine ⟨(show (1 : Int) ≤ 8 ∧ (8 : Int) ≤ 100 by decide), (show hasV 1 d from by unfold hasV; omega), (show hasV 0 0 from .inr (.inr (.inr ⟨by decide, by decide, by decide, rfl⟩))), (show hasV 0 0 from .inr (.inr (.inr ⟨by decide, by decide, by decide, rfl⟩))), (show hasV 0 0 from .inr (.inr (.inr ⟨by decide, by decide, by decide, rfl⟩))), .inl ⟨rfl, rfl⟩, .inl rfl, (show spanV (0) 255 1 k from .inr ⟨by decide, by omega, by omega, tmod0 (by omega) (by omega)⟩), .inl rfl, .inr ⟨Bool.false_ne_true, rfl, .inl ⟨rfl, rfl⟩⟩, ?_⟩
  refine ⟨fun h => absurd (show (8 : Int) = 1 from h) (by decide), fun h => absurd (show (8 : Int) = 2 ∨ (8 : Int) = 3 from h) (by decide), fun h => absurd (show (8 : Int) = 29 from h) (by decide), fun h => absurd (show (8 : Int) = 95 ∨ (8 : Int) = 96 from h) (by decide), ?_⟩
  show shapeV 8 = 18 ∨ shapeV 8 = 19 ∨ shapeV 8 = 20 → _
  rw [show shapeV 8 = 4 by decide]
  exact fun h => absurd h (by decide)
theorem ri_9 (d k : Int) (hd : 0 ≤ d ∧ d ≤ 7) (hk : 0 ≤ k ∧ k ≤ 255) : rightV ⟨9, d, 0, 0, 0, k, 0, 0, 0, 0, 0⟩ := by
  unfold rightV
  show rightR _ (ruW (shapeV 9))
  rw [show shapeV 9 = 4 by decide, show ruW 4 = { r0U with rd := 1, i1 := 255, i2 := 1 } from rfl]
  refine ⟨(show (1 : Int) ≤ 9 ∧ (9 : Int) ≤ 100 by decide), (show hasV 1 d from by unfold hasV; omega), (show hasV 0 0 from .inr (.inr (.inr ⟨by decide, by decide, by decide, rfl⟩))), (show hasV 0 0 from .inr (.inr (.inr ⟨by decide, by decide, by decide, rfl⟩))), (show hasV 0 0 from .inr (.inr (.inr ⟨by decide, by decide, by decide, rfl⟩))), .inl ⟨rfl, rfl⟩, .inl rfl, (show spanV (0) 255 1 k from .inr ⟨by decide, by omega, by omega, tmod0 (by omega) (by omega)⟩), .inl rfl, .inr ⟨Bool.false_ne_true, rfl, .inl ⟨rfl, rfl⟩⟩, ?_⟩
  refine ⟨fun h => absurd (show (9 : Int) = 1 from h) (by decide), fun h => absurd (show (9 : Int) = 2 ∨ (9 : Int) = 3 from h) (by decide), fun h => absurd (show (9 : Int) = 29 from h) (by decide), fun h => absurd (show (9 : Int) = 95 ∨ (9 : Int) = 96 from h) (by decide), ?_⟩
  show shapeV 9 = 18 ∨ shapeV 9 = 19 ∨ shapeV 9 = 20 → _
  rw [show shapeV 9 = 4 by decide]
  exact fun h => absurd h (by decide)
theorem ri_11 (d k : Int) (hd : 0 ≤ d ∧ d ≤ 7) (hk : 0 ≤ k ∧ k ≤ 255) : rightV ⟨11, d, 0, 0, 0, k, 0, 0, 0, 0, 0⟩ := by
  unfold rightV
  show rightR _ (ruW (shapeV 11))
  rw [show shapeV 11 = 4 by decide, show ruW 4 = { r0U with rd := 1, i1 := 255, i2 := 1 } from rfl]
  refine ⟨(show (1 : Int) ≤ 11 ∧ (11 : Int) ≤ 100 by decide), (show hasV 1 d from by unfold hasV; omega), (show hasV 0 0 from .inr (.inr (.inr ⟨by decide, by decide, by decide, rfl⟩))), (show hasV 0 0 from .inr (.inr (.inr ⟨by decide, by decide, by decide, rfl⟩))), (show hasV 0 0 from .inr (.inr (.inr ⟨by decide, by decide, by decide, rfl⟩))), .inl ⟨rfl, rfl⟩, .inl rfl, (show spanV (0) 255 1 k from .inr ⟨by decide, by omega, by omega, tmod0 (by omega) (by omega)⟩), .inl rfl, .inr ⟨Bool.false_ne_true, rfl, .inl ⟨rfl, rfl⟩⟩, ?_⟩
  refine ⟨fun h => absurd (show (11 : Int) = 1 from h) (by decide), fun h => absurd (show (11 : Int) = 2 ∨ (11 : Int) = 3 from h) (by decide), fun h => absurd (show (11 : Int) = 29 from h) (by decide), fun h => absurd (show (11 : Int) = 95 ∨ (11 : Int) = 96 from h) (by decide), ?_⟩
  show shapeV 11 = 18 ∨ shapeV 11 = 19 ∨ shapeV 11 = 20 → _
  rw [show shapeV 11 = 4 by decide]
  exact fun h => absurd h (by decide)
theorem ri_60 (d k : Int) (hd : 0 ≤ d ∧ d ≤ 7) (hk : 0 ≤ k ∧ k ≤ 4095) (hw : Rm.wordE k = 0) : rightV ⟨60, d, 0, 0, 0, k, 0, 0, 0, 0, 0⟩ := by
  unfold rightV
  show rightR _ (ruW (shapeV 60))
  rw [show shapeV 60 = 19 by decide, show ruW 19 = { r0U with rd := 3, i1 := 4095, i2 := 1, set := true } from rfl]
  refine ⟨(show (1 : Int) ≤ 60 ∧ (60 : Int) ≤ 100 by decide), (show hasV 3 d from by unfold hasV; omega), (show hasV 0 0 from .inr (.inr (.inr ⟨by decide, by decide, by decide, rfl⟩))), (show hasV 0 0 from .inr (.inr (.inr ⟨by decide, by decide, by decide, rfl⟩))), (show hasV 0 0 from .inr (.inr (.inr ⟨by decide, by decide, by decide, rfl⟩))), .inl ⟨rfl, rfl⟩, .inl rfl, (show spanV (0) 4095 1 k from .inr ⟨by decide, by omega, by omega, tmod0 (by omega) (by omega)⟩), .inl rfl, .inr ⟨Bool.false_ne_true, rfl, .inl ⟨rfl, rfl⟩⟩, ?_⟩
  refine ⟨fun h => absurd (show (60 : Int) = 1 from h) (by decide), fun h => absurd (show (60 : Int) = 2 ∨ (60 : Int) = 3 from h) (by decide), fun h => absurd (show (60 : Int) = 29 from h) (by decide), fun h => absurd (show (60 : Int) = 95 ∨ (60 : Int) = 96 from h) (by decide), ?_⟩
  show shapeV 60 = 18 ∨ shapeV 60 = 19 ∨ shapeV 60 = 20 → _
  rw [show shapeV 60 = 19 by decide]
  exact fun _ => hw
theorem ri_61 (d k : Int) (hd : 0 ≤ d ∧ d ≤ 7) (hk : 0 ≤ k ∧ k ≤ 4095) (hw : Rm.wordE k = 0) : rightV ⟨61, d, 0, 0, 0, k, 0, 0, 0, 0, 0⟩ := by
  unfold rightV
  show rightR _ (ruW (shapeV 61))
  rw [show shapeV 61 = 19 by decide, show ruW 19 = { r0U with rd := 3, i1 := 4095, i2 := 1, set := true } from rfl]
  refine ⟨(show (1 : Int) ≤ 61 ∧ (61 : Int) ≤ 100 by decide), (show hasV 3 d from by unfold hasV; omega), (show hasV 0 0 from .inr (.inr (.inr ⟨by decide, by decide, by decide, rfl⟩))), (show hasV 0 0 from .inr (.inr (.inr ⟨by decide, by decide, by decide, rfl⟩))), (show hasV 0 0 from .inr (.inr (.inr ⟨by decide, by decide, by decide, rfl⟩))), .inl ⟨rfl, rfl⟩, .inl rfl, (show spanV (0) 4095 1 k from .inr ⟨by decide, by omega, by omega, tmod0 (by omega) (by omega)⟩), .inl rfl, .inr ⟨Bool.false_ne_true, rfl, .inl ⟨rfl, rfl⟩⟩, ?_⟩
  refine ⟨fun h => absurd (show (61 : Int) = 1 from h) (by decide), fun h => absurd (show (61 : Int) = 2 ∨ (61 : Int) = 3 from h) (by decide), fun h => absurd (show (61 : Int) = 29 from h) (by decide), fun h => absurd (show (61 : Int) = 95 ∨ (61 : Int) = 96 from h) (by decide), ?_⟩
  show shapeV 61 = 18 ∨ shapeV 61 = 19 ∨ shapeV 61 = 20 → _
  rw [show shapeV 61 = 19 by decide]
  exact fun _ => hw
theorem ri_48 (d k : Int) (hd : 0 ≤ d ∧ d ≤ 7) (hk : 0 ≤ k ∧ k ≤ 65535) : rightV ⟨48, d, 0, 0, 0, k, 0, 0, 0, 0, 0⟩ := by
  unfold rightV
  show rightR _ (ruW (shapeV 48))
  rw [show shapeV 48 = 17 by decide, show ruW 17 = { r0U with rd := 3, i1 := 65535, i2 := 1 } from rfl]
  refine ⟨(show (1 : Int) ≤ 48 ∧ (48 : Int) ≤ 100 by decide), (show hasV 3 d from by unfold hasV; omega), (show hasV 0 0 from .inr (.inr (.inr ⟨by decide, by decide, by decide, rfl⟩))), (show hasV 0 0 from .inr (.inr (.inr ⟨by decide, by decide, by decide, rfl⟩))), (show hasV 0 0 from .inr (.inr (.inr ⟨by decide, by decide, by decide, rfl⟩))), .inl ⟨rfl, rfl⟩, .inl rfl, (show spanV (0) 65535 1 k from .inr ⟨by decide, by omega, by omega, tmod0 (by omega) (by omega)⟩), .inl rfl, .inr ⟨Bool.false_ne_true, rfl, .inl ⟨rfl, rfl⟩⟩, ?_⟩
  refine ⟨fun h => absurd (show (48 : Int) = 1 from h) (by decide), fun h => absurd (show (48 : Int) = 2 ∨ (48 : Int) = 3 from h) (by decide), fun h => absurd (show (48 : Int) = 29 from h) (by decide), fun h => absurd (show (48 : Int) = 95 ∨ (48 : Int) = 96 from h) (by decide), ?_⟩
  show shapeV 48 = 18 ∨ shapeV 48 = 19 ∨ shapeV 48 = 20 → _
  rw [show shapeV 48 = 17 by decide]
  exact fun h => absurd h (by decide)
theorem ri_49 (d k : Int) (hd : 0 ≤ d ∧ d ≤ 7) (hk : 0 ≤ k ∧ k ≤ 65535) : rightV ⟨49, d, 0, 0, 0, k, 0, 0, 0, 0, 0⟩ := by
  unfold rightV
  show rightR _ (ruW (shapeV 49))
  rw [show shapeV 49 = 17 by decide, show ruW 17 = { r0U with rd := 3, i1 := 65535, i2 := 1 } from rfl]
  refine ⟨(show (1 : Int) ≤ 49 ∧ (49 : Int) ≤ 100 by decide), (show hasV 3 d from by unfold hasV; omega), (show hasV 0 0 from .inr (.inr (.inr ⟨by decide, by decide, by decide, rfl⟩))), (show hasV 0 0 from .inr (.inr (.inr ⟨by decide, by decide, by decide, rfl⟩))), (show hasV 0 0 from .inr (.inr (.inr ⟨by decide, by decide, by decide, rfl⟩))), .inl ⟨rfl, rfl⟩, .inl rfl, (show spanV (0) 65535 1 k from .inr ⟨by decide, by omega, by omega, tmod0 (by omega) (by omega)⟩), .inl rfl, .inr ⟨Bool.false_ne_true, rfl, .inl ⟨rfl, rfl⟩⟩, ?_⟩
  refine ⟨fun h => absurd (show (49 : Int) = 1 from h) (by decide), fun h => absurd (show (49 : Int) = 2 ∨ (49 : Int) = 3 from h) (by decide), fun h => absurd (show (49 : Int) = 29 from h) (by decide), fun h => absurd (show (49 : Int) = 95 ∨ (49 : Int) = 96 from h) (by decide), ?_⟩
  show shapeV 49 = 18 ∨ shapeV 49 = 19 ∨ shapeV 49 = 20 → _
  rw [show shapeV 49 = 17 by decide]
  exact fun h => absurd h (by decide)
theorem ri_77 (d m : Int) (hd : 0 ≤ d ∧ d ≤ 7) (hm : 0 ≤ m ∧ m ≤ 7)  : rightV ⟨77, d, 0, m, 0, 0, 0, 0, 0, 0, 0⟩ := by
  unfold rightV
  show rightR _ (ruW (shapeV 77))
  rw [show shapeV 77 = 22 by decide, show ruW 22 = { r0U with rd := 3, rm := 3, kind := true, set := true } from rfl]
  refine ⟨(show (1 : Int) ≤ 77 ∧ (77 : Int) ≤ 100 by decide), (show hasV 3 d from by unfold hasV; omega), (show hasV 0 0 from .inr (.inr (.inr ⟨by decide, by decide, by decide, rfl⟩))), (show hasV 3 m from by unfold hasV; omega), (show hasV 0 0 from .inr (.inr (.inr ⟨by decide, by decide, by decide, rfl⟩))), .inl ⟨rfl, rfl⟩, .inl rfl, .inl ⟨rfl, rfl⟩, .inl rfl, .inl ⟨rfl, .inl ⟨rfl, (show (0 : Int) ≤ 0 ∧ (0 : Int) < 32 by decide)⟩⟩, ?_⟩
  refine ⟨fun h => absurd (show (77 : Int) = 1 from h) (by decide), fun h => absurd (show (77 : Int) = 2 ∨ (77 : Int) = 3 from h) (by decide), fun h => absurd (show (77 : Int) = 29 from h) (by decide), fun h => absurd (show (77 : Int) = 95 ∨ (77 : Int) = 96 from h) (by decide), ?_⟩
  show shapeV 77 = 18 ∨ shapeV 77 = 19 ∨ shapeV 77 = 20 → _
  rw [show shapeV 77 = 22 by decide]
  exact fun h => absurd h (by decide)
theorem ri_76 (d m k : Int) (hd : 0 ≤ d ∧ d ≤ 7) (hm : 0 ≤ m ∧ m ≤ 7) (hk : 1 ≤ k ∧ k ≤ 31) : rightV ⟨76, d, 0, m, 0, 0, 3, k, 0, 0, 0⟩ := by
  unfold rightV
  show rightR _ (ruW (shapeV 76))
  rw [show shapeV 76 = 22 by decide, show ruW 22 = { r0U with rd := 3, rm := 3, kind := true, set := true } from rfl]
  refine ⟨(show (1 : Int) ≤ 76 ∧ (76 : Int) ≤ 100 by decide), (show hasV 3 d from by unfold hasV; omega), (show hasV 0 0 from .inr (.inr (.inr ⟨by decide, by decide, by decide, rfl⟩))), (show hasV 3 m from by unfold hasV; omega), (show hasV 0 0 from .inr (.inr (.inr ⟨by decide, by decide, by decide, rfl⟩))), .inl ⟨rfl, rfl⟩, .inl rfl, .inl ⟨rfl, rfl⟩, .inl rfl, .inl ⟨rfl, .inr (.inr ⟨rfl, (show 1 ≤ k ∧ k < 32 by omega)⟩)⟩, ?_⟩
  refine ⟨fun h => absurd (show (76 : Int) = 1 from h) (by decide), fun h => absurd (show (76 : Int) = 2 ∨ (76 : Int) = 3 from h) (by decide), fun h => absurd (show (76 : Int) = 29 from h) (by decide), fun h => absurd (show (76 : Int) = 95 ∨ (76 : Int) = 96 from h) (by decide), ?_⟩
  show shapeV 76 = 18 ∨ shapeV 76 = 19 ∨ shapeV 76 = 20 → _
  rw [show shapeV 76 = 22 by decide]
  exact fun h => absurd h (by decide)
theorem ri_59 (d n k : Int) (hd : 0 ≤ d ∧ d ≤ 7) (hn : 0 ≤ n ∧ n ≤ 7) (hk : 0 ≤ k ∧ k ≤ 4095) (hw : Rm.wordE k = 0) : rightV ⟨59, d, n, 0, 0, k, 0, 0, 0, 0, 0⟩ := by
  unfold rightV
  show rightR _ (ruW (shapeV 59))
  rw [show shapeV 59 = 18 by decide, show ruW 18 = { r0U with rd := 3, rn := 3, i1 := 4095, i2 := 1, set := true } from rfl]
  refine ⟨(show (1 : Int) ≤ 59 ∧ (59 : Int) ≤ 100 by decide), (show hasV 3 d from by unfold hasV; omega), (show hasV 3 n from by unfold hasV; omega), (show hasV 0 0 from .inr (.inr (.inr ⟨by decide, by decide, by decide, rfl⟩))), (show hasV 0 0 from .inr (.inr (.inr ⟨by decide, by decide, by decide, rfl⟩))), .inl ⟨rfl, rfl⟩, .inl rfl, (show spanV (0) 4095 1 k from .inr ⟨by decide, by omega, by omega, tmod0 (by omega) (by omega)⟩), .inl rfl, .inr ⟨Bool.false_ne_true, rfl, .inl ⟨rfl, rfl⟩⟩, ?_⟩
  refine ⟨fun h => absurd (show (59 : Int) = 1 from h) (by decide), fun h => absurd (show (59 : Int) = 2 ∨ (59 : Int) = 3 from h) (by decide), fun h => absurd (show (59 : Int) = 29 from h) (by decide), fun h => absurd (show (59 : Int) = 95 ∨ (59 : Int) = 96 from h) (by decide), ?_⟩
  show shapeV 59 = 18 ∨ shapeV 59 = 19 ∨ shapeV 59 = 20 → _
  rw [show shapeV 59 = 18 by decide]
  exact fun _ => hw
theorem ri_50 (d n k : Int) (hd : 0 ≤ d ∧ d ≤ 7) (hn : 0 ≤ n ∧ n ≤ 7) (hk : 0 ≤ k ∧ k ≤ 4095) (hw : Rm.wordE k = 0) : rightV ⟨50, d, n, 0, 0, k, 0, 0, 0, 0, 0⟩ := by
  unfold rightV
  show rightR _ (ruW (shapeV 50))
  rw [show shapeV 50 = 18 by decide, show ruW 18 = { r0U with rd := 3, rn := 3, i1 := 4095, i2 := 1, set := true } from rfl]
  refine ⟨(show (1 : Int) ≤ 50 ∧ (50 : Int) ≤ 100 by decide), (show hasV 3 d from by unfold hasV; omega), (show hasV 3 n from by unfold hasV; omega), (show hasV 0 0 from .inr (.inr (.inr ⟨by decide, by decide, by decide, rfl⟩))), (show hasV 0 0 from .inr (.inr (.inr ⟨by decide, by decide, by decide, rfl⟩))), .inl ⟨rfl, rfl⟩, .inl rfl, (show spanV (0) 4095 1 k from .inr ⟨by decide, by omega, by omega, tmod0 (by omega) (by omega)⟩), .inl rfl, .inr ⟨Bool.false_ne_true, rfl, .inl ⟨rfl, rfl⟩⟩, ?_⟩
  refine ⟨fun h => absurd (show (50 : Int) = 1 from h) (by decide), fun h => absurd (show (50 : Int) = 2 ∨ (50 : Int) = 3 from h) (by decide), fun h => absurd (show (50 : Int) = 29 from h) (by decide), fun h => absurd (show (50 : Int) = 95 ∨ (50 : Int) = 96 from h) (by decide), ?_⟩
  show shapeV 50 = 18 ∨ shapeV 50 = 19 ∨ shapeV 50 = 20 → _
  rw [show shapeV 50 = 18 by decide]
  exact fun _ => hw
theorem ri_94 (d n m a : Int) (hd : 0 ≤ d ∧ d ≤ 7) (hn : 0 ≤ n ∧ n ≤ 7) (hm : 0 ≤ m ∧ m ≤ 7) (ha : 0 ≤ a ∧ a ≤ 7)  : rightV ⟨94, d, n, m, a, 0, 0, 0, 0, 0, 0⟩ := by
  unfold rightV
  show rightR _ (ruW (shapeV 94))
  rw [show shapeV 94 = 30 by decide, show ruW 30 = { r0U with rd := 3, rn := 3, rm := 3, ra := 3 } from rfl]
  refine ⟨(show (1 : Int) ≤ 94 ∧ (94 : Int) ≤ 100 by decide), (show hasV 3 d from by unfold hasV; omega), (show hasV 3 n from by unfold hasV; omega), (show hasV 3 m from by unfold hasV; omega), (show hasV 3 a from by unfold hasV; omega), .inl ⟨rfl, rfl⟩, .inl rfl, .inl ⟨rfl, rfl⟩, .inl rfl, .inr ⟨Bool.false_ne_true, rfl, .inl ⟨rfl, rfl⟩⟩, ?_⟩
  refine ⟨fun h => absurd (show (94 : Int) = 1 from h) (by decide), fun h => absurd (show (94 : Int) = 2 ∨ (94 : Int) = 3 from h) (by decide), fun h => absurd (show (94 : Int) = 29 from h) (by decide), fun h => absurd (show (94 : Int) = 95 ∨ (94 : Int) = 96 from h) (by decide), ?_⟩
  show shapeV 94 = 18 ∨ shapeV 94 = 19 ∨ shapeV 94 = 20 → _
  rw [show shapeV 94 = 30 by decide]
  exact fun h => absurd h (by decide)
theorem ri_65 (n k : Int) (hn : 0 ≤ n ∧ n ≤ 7) (hk : 0 ≤ k ∧ k ≤ 4095) (hw : Rm.wordE k = 0) : rightV ⟨65, 0, n, 0, 0, k, 0, 0, 0, 0, 0⟩ := by
  unfold rightV
  show rightR _ (ruW (shapeV 65))
  rw [show shapeV 65 = 20 by decide, show ruW 20 = { r0U with rn := 3, i1 := 4095, i2 := 1 } from rfl]
  refine ⟨(show (1 : Int) ≤ 65 ∧ (65 : Int) ≤ 100 by decide), (show hasV 0 0 from .inr (.inr (.inr ⟨by decide, by decide, by decide, rfl⟩))), (show hasV 3 n from by unfold hasV; omega), (show hasV 0 0 from .inr (.inr (.inr ⟨by decide, by decide, by decide, rfl⟩))), (show hasV 0 0 from .inr (.inr (.inr ⟨by decide, by decide, by decide, rfl⟩))), .inl ⟨rfl, rfl⟩, .inl rfl, (show spanV (0) 4095 1 k from .inr ⟨by decide, by omega, by omega, tmod0 (by omega) (by omega)⟩), .inl rfl, .inr ⟨Bool.false_ne_true, rfl, .inl ⟨rfl, rfl⟩⟩, ?_⟩
  refine ⟨fun h => absurd (show (65 : Int) = 1 from h) (by decide), fun h => absurd (show (65 : Int) = 2 ∨ (65 : Int) = 3 from h) (by decide), fun h => absurd (show (65 : Int) = 29 from h) (by decide), fun h => absurd (show (65 : Int) = 95 ∨ (65 : Int) = 96 from h) (by decide), ?_⟩
  show shapeV 65 = 18 ∨ shapeV 65 = 19 ∨ shapeV 65 = 20 → _
  rw [show shapeV 65 = 20 by decide]
  exact fun _ => hw

end Go.Proofs.YthpkejlmelednaaDoor.Pw

/- Chapter 18 over values: operations, their registers. -/
namespace Go.Proofs.YthpkejlmelednaaDoor.Pw
open Go Go.RowKit

/-- an operation -/
structure VO where
  kind : Int
  t0 : Int
  t1 : Int
  f0 : Int
  f1 : Int
  f2 : Int
  f3 : Int
  n : Int
def voL (o : VO) : List PV := [.int .i64 o.kind, .int .i64 o.t0, .int .i64 o.t1, .int .i64 o.f0, .int .i64 o.f1, .int .i64 o.f2, .int .i64 o.f3, .int .u32 o.n]
def voP (o : VO) : PV := .agg (voL o)
def oB (o : VO) : PBlk := ⟨.loc, 40, 1, .w, true, voL o⟩
def intsP (l : List Int) : List PV := l.map (PV.int .i64)
/-- registers without none -/
def nm (l : List Int) : List Int := l.filter fun r => decide (r ≠ -1)
def VO.to (o : VO) : List Int := [o.t0, o.t1]
def VO.from_ (o : VO) : List Int := [o.f0, o.f1, o.f2, o.f3]
theorem nm_cons (x : Int) (l : List Int) : nm (x :: l) = if x = -1 then nm l else x :: nm l := by
  unfold nm
  by_cases h : x = -1 <;> simp [h]
theorem nm_nil : nm [] = [] := rfl

set_option maxHeartbeats 2000000 in
set_option maxRecDepth 100000 in
theorem named_to (o : VO) : Spec gT 136 [.ref 0 1 2] [oB o] [] fun r S' => r = .sl 1 (intsP (nm o.to)) ∧ S' = [oB o] := by
  refine Spec.leS (Spec.enter gTok P136 100 Tryd.func136 rfl (by kernel_rfl) ?_)
  refine SW.rounds gTok P136 (by kernel_rfl) (N := 60) 3 ?_
  repeat' ((conv => whnf); first | (refine (And.intro (fun _ => ?_) (fun _ => ?_) : (_ → _) ∧ (_ → _)) <;> (first | (exfalso; first | contradiction | omega) | skip)) | refine Or.inl (And.intro (by first | exact inR_i64 (by omega) | exact inR_u32 (by omega) | exact inR_u64 (by omega) | exact inR_u8 (by omega)) ?_) | (refine And.intro (show (_ : Int) ≠ 0 by omega) (Or.inl (And.intro (show (0 : Int) ≤ _ by omega) (And.intro (show (0 : Int) < _ by omega) ?_)))) | (refine And.intro (show (_ : Int) ≠ 0 by omega) (Or.inl (And.intro (show (0 : Int) ≤ _ by omega) (And.intro (by first | exact (show (_ : Int) ≤ 9223372036854775807 by omega) | exact (show (_ : Int) ≤ 4294967295 by omega)) (And.intro (show (0 : Int) < _ by omega) ?_))))) | (refine retS ?_ (by repeat' first | exact trivial | exact rfl | exact Iff.rfl | exact Or.inl rfl | refine And.intro ?_ ?_); show _ = _; (try simp only [Classical.not_not] at *); simp only [VO.to, nm_cons, nm_nil, *, if_true, if_false]; rfl) | (intro _))

set_option maxHeartbeats 4000000 in
set_option maxRecDepth 100000 in
theorem named_from (o : VO) : Spec gT 136 [.ref 0 3 4] [oB o] [] fun r S' => r = .sl 1 (intsP (nm o.from_)) ∧ S' = [oB o] := by
  refine Spec.leS (Spec.enter gTok P136 100 Tryd.func136 rfl (by kernel_rfl) ?_)
  refine SW.rounds gTok P136 (by kernel_rfl) (N := 60) 5 ?_
  repeat' ((conv => whnf); first | (refine (And.intro (fun _ => ?_) (fun _ => ?_) : (_ → _) ∧ (_ → _)) <;> (first | (exfalso; first | contradiction | omega) | skip)) | refine Or.inl (And.intro (by first | exact inR_i64 (by omega) | exact inR_u32 (by omega) | exact inR_u64 (by omega) | exact inR_u8 (by omega)) ?_) | (refine And.intro (show (_ : Int) ≠ 0 by omega) (Or.inl (And.intro (show (0 : Int) ≤ _ by omega) (And.intro (show (0 : Int) < _ by omega) ?_)))) | (refine And.intro (show (_ : Int) ≠ 0 by omega) (Or.inl (And.intro (show (0 : Int) ≤ _ by omega) (And.intro (by first | exact (show (_ : Int) ≤ 9223372036854775807 by omega) | exact (show (_ : Int) ≤ 4294967295 by omega)) (And.intro (show (0 : Int) < _ by omega) ?_))))) | (refine retS ?_ (by repeat' first | exact trivial | exact rfl | exact Iff.rfl | exact Or.inl rfl | refine And.intro ?_ ?_); show _ = _; (try simp only [Classical.not_not] at *); simp only [VO.from_, nm_cons, nm_nil, *, if_true, if_false]; rfl) | (intro _))

theorem uses_pure (o : VO) : PureF gT 106 [voP o] (.sl 1 (intsP (nm o.from_))) := by
  refine Spec.enter gTok P106 100 Tryd.func106 rfl (by kernel_rfl) ?_
  refine ⟨[], no_rl, (named_from o).mono ?_⟩
  rintro r S' ⟨rfl, rfl⟩
  (refine retE ?_; repeat' first | exact trivial | exact rfl | exact Iff.rfl | exact Or.inl rfl | refine And.intro ?_ ?_)
theorem sets_pure (o : VO) : PureF gT 107 [voP o] (.sl 1 (intsP (nm o.to))) := by
  refine Spec.enter gTok P107 100 Tryd.func107 rfl (by kernel_rfl) ?_
  refine ⟨[], no_rl, (named_to o).mono ?_⟩
  rintro r S' ⟨rfl, rfl⟩
  (refine retE ?_; repeat' first | exact trivial | exact rfl | exact Iff.rfl | exact Or.inl rfl | refine And.intro ?_ ?_)

theorem vis_pure (k : Int) : PureF gT 103 [.int .i64 k] (.bool (1 ≤ k ∧ k ≤ 31)) := by
  refine Spec.enter gTok P103 100 Tryd.func103 rfl (by kernel_rfl) ?_
  repeat' ((conv => whnf); first | (refine (And.intro (fun _ => ?_) (fun _ => ?_) : (_ → _) ∧ (_ → _)) <;> (first | (exfalso; first | contradiction | omega) | skip)) | refine Or.inl (And.intro (by first | exact inR_i64 (by omega) | exact inR_u32 (by omega) | exact inR_u64 (by omega) | exact inR_u8 (by omega)) ?_) | (refine And.intro (show (_ : Int) ≠ 0 by omega) (Or.inl (And.intro (show (0 : Int) ≤ _ by omega) (And.intro (show (0 : Int) < _ by omega) ?_)))) | (refine And.intro (show (_ : Int) ≠ 0 by omega) (Or.inl (And.intro (show (0 : Int) ≤ _ by omega) (And.intro (by first | exact (show (_ : Int) ≤ 9223372036854775807 by omega) | exact (show (_ : Int) ≤ 4294967295 by omega)) (And.intro (show (0 : Int) < _ by omega) ?_))))) | (refine retE ?_; show ¬ _; omega) | (refine retE ?_; show _ ↔ _; omega) | (intro _))
/-- may a number be, of a kind? -/
def vnum (k n : Int) : Prop := k = 1 ∨ ((k = 2 ∨ k = 3 ∨ k = 4) ∧ n % 4 = 0 ∧ n ≤ 1020) ∨ ((k = 18 ∨ k = 19 ∨ k = 20) ∧ 1 ≤ n ∧ n ≤ 31) ∨ (k = 30 ∧ ((1 ≤ n ∧ n ≤ 255) ∨ (n % 4 = 0 ∧ 255 < n ∧ n ≤ 1024))) ∨ (¬ (1 ≤ k ∧ k ≤ 4) ∧ ¬ (18 ≤ k ∧ k ≤ 20) ∧ k ≠ 30 ∧ n = 0)
theorem vnumber_pure (k n : Int) (hn : 0 ≤ n ∧ n ≤ 4294967295) : PureF gT 105 [.int .i64 k, .int .u32 n] (.bool (vnum k n)) := by
  refine Spec.enter gTok P105 100 Tryd.func105 rfl (by kernel_rfl) ?_
  unfold vnum
  repeat' ((conv => whnf); first | (refine (And.intro (fun _ => ?_) (fun _ => ?_) : (_ → _) ∧ (_ → _)) <;> (first | (exfalso; first | contradiction | omega) | skip)) | refine Or.inl (And.intro (by first | exact inR_i64 (by omega) | exact inR_u32 (by omega) | exact inR_u64 (by omega) | exact inR_u8 (by omega)) ?_) | (refine And.intro (show (_ : Int) ≠ 0 by omega) (Or.inl (And.intro (show (0 : Int) ≤ _ by omega) (And.intro (show (0 : Int) < _ by omega) ?_)))) | (refine And.intro (show (_ : Int) ≠ 0 by omega) (Or.inl (And.intro (show (0 : Int) ≤ _ by omega) (And.intro (by first | exact (show (_ : Int) ≤ 9223372036854775807 by omega) | exact (show (_ : Int) ≤ 4294967295 by omega)) (And.intro (show (0 : Int) < _ by omega) ?_))))) | (refine retE ?_; show ¬ _; omega) | (refine retE ?_; (show vnum _ _); unfold vnum; omega) | (refine retE ?_; show _ ↔ _; omega) | (intro _))

/-- as many registers as n, the first ones -/
def plc (i n r : Int) : Prop := (i < n → 0 ≤ r ∧ r ≤ 65535) ∧ (¬ i < n → r = -1)
set_option maxHeartbeats 4000000 in
set_option maxRecDepth 100000 in
theorem placed_to (o : VO) (n : Int) : Spec gT 104 [.ref 0 1 2, .int .i64 n] [oB o] [] fun r S' => r = .bool (plc 0 n o.t0 ∧ plc 1 n o.t1) ∧ S' = [oB o] := by
  refine Spec.leS (Spec.enter gTok P104 100 Tryd.func104 rfl (by kernel_rfl) ?_)
  refine SW.rounds gTok P104 (by kernel_rfl) (N := 60) 3 ?_
  repeat' ((conv => whnf); first | (refine (And.intro (fun _ => ?_) (fun _ => ?_) : (_ → _) ∧ (_ → _)) <;> (first | (exfalso; first | contradiction | omega) | skip)) | refine Or.inl (And.intro (by first | exact inR_i64 (by omega) | exact inR_u32 (by omega) | exact inR_u64 (by omega) | exact inR_u8 (by omega)) ?_) | (refine And.intro (show (_ : Int) ≠ 0 by omega) (Or.inl (And.intro (show (0 : Int) ≤ _ by omega) (And.intro (show (0 : Int) < _ by omega) ?_)))) | (refine And.intro (show (_ : Int) ≠ 0 by omega) (Or.inl (And.intro (show (0 : Int) ≤ _ by omega) (And.intro (by first | exact (show (_ : Int) ≤ 9223372036854775807 by omega) | exact (show (_ : Int) ≤ 4294967295 by omega)) (And.intro (show (0 : Int) < _ by omega) ?_))))) | (refine retS ?_ (by repeat' first | exact trivial | exact rfl | exact Iff.rfl | exact Or.inl rfl | refine And.intro ?_ ?_); (show plc _ _ _ ∧ plc _ _ _); (try simp only [Classical.not_not, wr1, wr2, wr3, wr4, wr5, wr6, wr7, wr8, wr9, wr10, wr11] at *); unfold plc; omega) | (refine retS ?_ (by repeat' first | exact trivial | exact rfl | exact Iff.rfl | exact Or.inl rfl | refine And.intro ?_ ?_); show ¬ _; (try simp only [Classical.not_not, wr1, wr2, wr3, wr4, wr5, wr6, wr7, wr8, wr9, wr10, wr11] at *); unfold plc; omega) | (intro _))
set_option maxHeartbeats 8000000 in
set_option maxRecDepth 100000 in
theorem placed_from (o : VO) (n : Int) : Spec gT 104 [.ref 0 3 4, .int .i64 n] [oB o] [] fun r S' => r = .bool (plc 0 n o.f0 ∧ plc 1 n o.f1 ∧ plc 2 n o.f2 ∧ plc 3 n o.f3) ∧ S' = [oB o] := by
  refine Spec.leS (Spec.enter gTok P104 100 Tryd.func104 rfl (by kernel_rfl) ?_)
  refine SW.rounds gTok P104 (by kernel_rfl) (N := 60) 5 ?_
  repeat' ((conv => whnf); first | (refine (And.intro (fun _ => ?_) (fun _ => ?_) : (_ → _) ∧ (_ → _)) <;> (first | (exfalso; first | contradiction | omega) | skip)) | refine Or.inl (And.intro (by first | exact inR_i64 (by omega) | exact inR_u32 (by omega) | exact inR_u64 (by omega) | exact inR_u8 (by omega)) ?_) | (refine And.intro (show (_ : Int) ≠ 0 by omega) (Or.inl (And.intro (show (0 : Int) ≤ _ by omega) (And.intro (show (0 : Int) < _ by omega) ?_)))) | (refine And.intro (show (_ : Int) ≠ 0 by omega) (Or.inl (And.intro (show (0 : Int) ≤ _ by omega) (And.intro (by first | exact (show (_ : Int) ≤ 9223372036854775807 by omega) | exact (show (_ : Int) ≤ 4294967295 by omega)) (And.intro (show (0 : Int) < _ by omega) ?_))))) | (refine retS ?_ (by repeat' first | exact trivial | exact rfl | exact Iff.rfl | exact Or.inl rfl | refine And.intro ?_ ?_); (show plc _ _ _ ∧ plc _ _ _ ∧ plc _ _ _ ∧ plc _ _ _); (try simp only [Classical.not_not, wr1, wr2, wr3, wr4, wr5, wr6, wr7, wr8, wr9, wr10, wr11] at *); unfold plc; omega) | (refine retS ?_ (by repeat' first | exact trivial | exact rfl | exact Iff.rfl | exact Or.inl rfl | refine And.intro ?_ ?_); show ¬ _; (try simp only [Classical.not_not, wr1, wr2, wr3, wr4, wr5, wr6, wr7, wr8, wr9, wr10, wr11] at *); unfold plc; omega) | (intro _))
theorem useO {o : VO} {f : FuncId} {args args' : List PV} {r0 : PV} {st : List PBlk} {K : PV → List PBlk → Prop} (h : Spec gT f args' [oB o] [] fun r S' => r = r0 ∧ S' = [oB o]) (hle : leL leK args args') (hu : (usesL args').all (fun l => Nat.blt l 1) = true) (hr0 : r0.uses.all (fun l => Nat.blt l 1) = true)
    (hK : stLe st [oB o] fun T => frBB [oB o] fun S1 => appK S1 T (K r0)) : Spec gT f args st [] K := Spec.useS h rfl rfl hu hr0 hle hK

def vtoL : List Int := [0, 1, 1, 0, 1, 1, 0, 1, 1, 1, 1, 1, 1, 1, 1, 1, 1, 1, 1, 1, 1, 1, 1, 2, 2, 1, 2, 1, 1, 1, 0, 0]
def vfromL : List Int := [0, 0, 0, 1, 0, 2, 3, 2, 2, 2, 2, 2, 2, 2, 2, 2, 1, 1, 1, 1, 1, 2, 2, 4, 4, 4, 2, 1, 2, 3, 1, 1]
def vto (k : Int) : Int := if 1 ≤ k ∧ k ≤ 31 then vtoL.getD k.toNat 0 else 0
def vfrom (k : Int) : Int := if 1 ≤ k ∧ k ≤ 31 then vfromL.getD k.toNat 0 else 0
theorem kinds {k : Int} (h : 1 ≤ k ∧ k ≤ 31) : k = 1 ∨ k = 2 ∨ k = 3 ∨ k = 4 ∨ k = 5 ∨ k = 6 ∨ k = 7 ∨ k = 8 ∨ k = 9 ∨ k = 10 ∨ k = 11 ∨ k = 12 ∨ k = 13 ∨ k = 14 ∨ k = 15 ∨ k = 16 ∨ k = 17 ∨ k = 18 ∨ k = 19 ∨ k = 20 ∨ k = 21 ∨ k = 22 ∨ k = 23 ∨ k = 24 ∨ k = 25 ∨ k = 26 ∨ k = 27 ∨ k = 28 ∨ k = 29 ∨ k = 30 ∨ k = 31 := by omega
set_option maxRecDepth 100000 in
theorem find_1 : PureF gT 102 [.int .i64 1] (.agg [.int .i64 (vto 1), .int .i64 (vfrom 1)]) := by
  refine Spec.enter gTok P102 100 Tryd.func102 rfl (by kernel_rfl) ?_
  refine ⟨[], no_rl, (vis_pure _).use (by repeat' first | exact trivial | exact rfl | exact Iff.rfl | exact Or.inl rfl | refine And.intro ?_ ?_) rfl rfl ?_⟩
  refine And.intro (fun h => absurd (show (1 : Int) ≤ 1 ∧ (1 : Int) ≤ 31 by decide) h) (fun _ => ?_)
  refine ⟨by decide, by decide, .inl ⟨1, rfl, ?_⟩⟩
  (refine retE ?_; repeat' first | exact trivial | exact rfl | exact Iff.rfl | exact Or.inl rfl | refine And.intro ?_ ?_)
set_option maxRecDepth 100000 in
theorem find_2 : PureF gT 102 [.int .i64 2] (.agg [.int .i64 (vto 2), .int .i64 (vfrom 2)]) := by
  refine Spec.enter gTok P102 100 Tryd.func102 rfl (by kernel_rfl) ?_
  refine ⟨[], no_rl, (vis_pure _).use (by repeat' first | exact trivial | exact rfl | exact Iff.rfl | exact Or.inl rfl | refine And.intro ?_ ?_) rfl rfl ?_⟩
  refine And.intro (fun h => absurd (show (1 : Int) ≤ 2 ∧ (2 : Int) ≤ 31 by decide) h) (fun _ => ?_)
  refine ⟨by decide, by decide, .inl ⟨2, rfl, ?_⟩⟩
  (refine retE ?_; repeat' first | exact trivial | exact rfl | exact Iff.rfl | exact Or.inl rfl | refine And.intro ?_ ?_)
set_option maxRecDepth 100000 in
theorem find_3 : PureF gT 102 [.int .i64 3] (.agg [.int .i64 (vto 3), .int .i64 (vfrom 3)]) := by
  refine Spec.enter gTok P102 100 Tryd.func102 rfl (by kernel_rfl) ?_
  refine ⟨[], no_rl, (vis_pure _).use (by repeat' first | exact trivial | exact rfl | exact Iff.rfl | exact Or.inl rfl | refine And.intro ?_ ?_) rfl rfl ?_⟩
  refine And.intro (fun h => absurd (show (1 : Int) ≤ 3 ∧ (3 : Int) ≤ 31 by decide) h) (fun _ => ?_)
  refine ⟨by decide, by decide, .inl ⟨3, rfl, ?_⟩⟩
  (refine retE ?_; repeat' first | exact trivial | exact rfl | exact Iff.rfl | exact Or.inl rfl | refine And.intro ?_ ?_)
set_option maxRecDepth 100000 in
theorem find_4 : PureF gT 102 [.int .i64 4] (.agg [.int .i64 (vto 4), .int .i64 (vfrom 4)]) := by
  refine Spec.enter gTok P102 100 Tryd.func102 rfl (by kernel_rfl) ?_
  refine ⟨[], no_rl, (vis_pure _).use (by repeat' first | exact trivial | exact rfl | exact Iff.rfl | exact Or.inl rfl | refine And.intro ?_ ?_) rfl rfl ?_⟩
  refine And.intro (fun h => absurd (show (1 : Int) ≤ 4 ∧ (4 : Int) ≤ 31 by decide) h) (fun _ => ?_)
  refine ⟨by decide, by decide, .inl ⟨4, rfl, ?_⟩⟩
  (refine retE ?_; repeat' first | exact trivial | exact rfl | exact Iff.rfl | exact Or.inl rfl | refine And.intro ?_ ?_)
set_option maxRecDepth 100000 in
theorem find_5 : PureF gT 102 [.int .i64 5] (.agg [.int .i64 (vto 5), .int .i64 (vfrom 5)]) := by
  refine Spec.enter gTok P102 100 Tryd.func102 rfl (by kernel_rfl) ?_
  refine ⟨[], no_rl, (vis_pure _).use (by repeat' first | exact trivial | exact rfl | exact Iff.rfl | exact Or.inl rfl | refine And.intro ?_ ?_) rfl rfl ?_⟩
  refine And.intro (fun h => absurd (show (1 : Int) ≤ 5 ∧ (5 : Int) ≤ 31 by decide) h) (fun _ => ?_)
  refine ⟨by decide, by decide, .inl ⟨5, rfl, ?_⟩⟩
  (refine retE ?_; repeat' first | exact trivial | exact rfl | exact Iff.rfl | exact Or.inl rfl | refine And.intro ?_ ?_)
set_option maxRecDepth 100000 in
theorem find_6 : PureF gT 102 [.int .i64 6] (.agg [.int .i64 (vto 6), .int .i64 (vfrom 6)]) := by
  refine Spec.enter gTok P102 100 Tryd.func102 rfl (by kernel_rfl) ?_
  refine ⟨[], no_rl, (vis_pure _).use (by repeat' first | exact trivial | exact rfl | exact Iff.rfl | exact Or.inl rfl | refine And.intro ?_ ?_) rfl rfl ?_⟩
  refine And.intro (fun h => absurd (show (1 : Int) ≤ 6 ∧ (6 : Int) ≤ 31 by decide) h) (fun _ => ?_)
  refine ⟨by decide, by decide, .inl ⟨6, rfl, ?_⟩⟩
  (refine retE ?_; repeat' first | exact trivial | exact rfl | exact Iff.rfl | exact Or.inl rfl | refine And.intro ?_ ?_)
set_option maxRecDepth 100000 in
theorem find_7 : PureF gT 102 [.int .i64 7] (.agg [.int .i64 (vto 7), .int .i64 (vfrom 7)]) := by
  refine Spec.enter gTok P102 100 Tryd.func102 rfl (by kernel_rfl) ?_
  refine ⟨[], no_rl, (vis_pure _).use (by repeat' first | exact trivial | exact rfl | exact Iff.rfl | exact Or.inl rfl | refine And.intro ?_ ?_) rfl rfl ?_⟩
  refine And.intro (fun h => absurd (show (1 : Int) ≤ 7 ∧ (7 : Int) ≤ 31 by decide) h) (fun _ => ?_)
  refine ⟨by decide, by decide, .inl ⟨7, rfl, ?_⟩⟩
  (refine retE ?_; repeat' first | exact trivial | exact rfl | exact Iff.rfl | exact Or.inl rfl | refine And.intro ?_ ?_)
set_option maxRecDepth 100000 in
theorem find_8 : PureF gT 102 [.int .i64 8] (.agg [.int .i64 (vto 8), .int .i64 (vfrom 8)]) := by
  refine Spec.enter gTok P102 100 Tryd.func102 rfl (by kernel_rfl) ?_
  refine ⟨[], no_rl, (vis_pure _).use (by repeat' first | exact trivial | exact rfl | exact Iff.rfl | exact Or.inl rfl | refine And.intro ?_ ?_) rfl rfl ?_⟩
  refine And.intro (fun h => absurd (show (1 : Int) ≤ 8 ∧ (8 : Int) ≤ 31 by decide) h) (fun _ => ?_)
  refine ⟨by decide, by decide, .inl ⟨8, rfl, ?_⟩⟩
  (refine retE ?_; repeat' first | exact trivial | exact rfl | exact Iff.rfl | exact Or.inl rfl | refine And.intro ?_ ?_)
set_option maxRecDepth 100000 in
theorem find_9 : PureF gT 102 [.int .i64 9] (.agg [.int .i64 (vto 9), .int .i64 (vfrom 9)]) := by
  refine Spec.enter gTok P102 100 Tryd.func102 rfl (by kernel_rfl) ?_
  refine ⟨[], no_rl, (vis_pure _).use (by repeat' first | exact trivial | exact rfl | exact Iff.rfl | exact Or.inl rfl | refine And.intro ?_ ?_) rfl rfl ?_⟩
  refine And.intro (fun h => absurd (show (1 : Int) ≤ 9 ∧ (9 : Int) ≤ 31 by decide) h) (fun _ => ?_)
  refine ⟨by decide, by decide, .inl ⟨9, rfl, ?_⟩⟩
  (refine retE ?_; repeat' first | exact trivial | exact rfl | exact Iff.rfl | exact Or.inl rfl | refine And.intro ?_ ?_)
set_option maxRecDepth 100000 in
theorem find_10 : PureF gT 102 [.int .i64 10] (.agg [.int .i64 (vto 10), .int .i64 (vfrom 10)]) := by
  refine Spec.enter gTok P102 100 Tryd.func102 rfl (by kernel_rfl) ?_
  refine ⟨[], no_rl, (vis_pure _).use (by repeat' first | exact trivial | exact rfl | exact Iff.rfl | exact Or.inl rfl | refine And.intro ?_ ?_) rfl rfl ?_⟩
  refine And.intro (fun h => absurd (show (1 : Int) ≤ 10 ∧ (10 : Int) ≤ 31 by decide) h) (fun _ => ?_)
  refine ⟨by decide, by decide, .inl ⟨10, rfl, ?_⟩⟩
  (refine retE ?_; repeat' first | exact trivial | exact rfl | exact Iff.rfl | exact Or.inl rfl | refine And.intro ?_ ?_)
set_option maxRecDepth 100000 in
theorem find_11 : PureF gT 102 [.int .i64 11] (.agg [.int .i64 (vto 11), .int .i64 (vfrom 11)]) := by
  refine Spec.enter gTok P102 100 Tryd.func102 rfl (by kernel_rfl) ?_
  refine ⟨[], no_rl, (vis_pure _).use (by repeat' first | exact trivial | exact rfl | exact Iff.rfl | exact Or.inl rfl | refine And.intro ?_ ?_) rfl rfl ?_⟩
  refine And.intro (fun h => absurd (show (1 : Int) ≤ 11 ∧ (11 : Int) ≤ 31 by decide) h) (fun _ => ?_)
  refine ⟨by decide, by decide, .inl ⟨11, rfl, ?_⟩⟩
  (refine retE ?_; repeat' first | exact trivial | exact rfl | exact Iff.rfl | exact Or.inl rfl | refine And.intro ?_ ?_)
set_option maxRecDepth 100000 in
theorem find_12 : PureF gT 102 [.int .i64 12] (.agg [.int .i64 (vto 12), .int .i64 (vfrom 12)]) := by
  refine Spec.enter gTok P102 100 Tryd.func102 rfl (by kernel_rfl) ?_
  refine ⟨[], no_rl, (vis_pure _).use (by repeat' first | exact trivial | exact rfl | exact Iff.rfl | exact Or.inl rfl | refine And.intro ?_ ?_) rfl rfl ?_⟩
  refine And.intro (fun h => absurd (show (1 : Int) ≤ 12 ∧ (12 : Int) ≤ 31 by decide) h) (fun _ => ?_)
  refine ⟨by decide, by decide, .inl ⟨12, rfl, ?_⟩⟩
  (refine retE ?_; repeat' first | exact trivial | exact rfl | exact Iff.rfl | exact Or.inl rfl | refine And.intro ?_ ?_)
set_option maxRecDepth 100000 in
theorem find_13 : PureF gT 102 [.int .i64 13] (.agg [.int .i64 (vto 13), .int .i64 (vfrom 13)]) := by
  refine Spec.enter gTok P102 100 Tryd.func102 rfl (by kernel_rfl) ?_
  refine ⟨[], no_rl, (vis_pure _).use (by repeat' first | exact trivial | exact rfl | exact Iff.rfl | exact Or.inl rfl | refine And.intro ?_ ?_) rfl rfl ?_⟩
  refine And.intro (fun h => absurd (show (1 : Int) ≤ 13 ∧ (13 : Int) ≤ 31 by decide) h) (fun _ => ?_)
  refine ⟨by decide, by decide, .inl ⟨13, rfl, ?_⟩⟩
  (refine retE ?_; repeat' first | exact trivial | exact rfl | exact Iff.rfl | exact Or.inl rfl | refine And.intro ?_ ?_)
set_option maxRecDepth 100000 in
theorem find_14 : PureF gT 102 [.int .i64 14] (.agg [.int .i64 (vto 14), .int .i64 (vfrom 14)]) := by
  refine Spec.enter gTok P102 100 Tryd.func102 rfl (by kernel_rfl) ?_
  refine ⟨[], no_rl, (vis_pure _).use (by repeat' first | exact trivial | exact rfl | exact Iff.rfl | exact Or.inl rfl | refine And.intro ?_ ?_) rfl rfl ?_⟩
  refine And.intro (fun h => absurd (show (1 : Int) ≤ 14 ∧ (14 : Int) ≤ 31 by decide) h) (fun _ => ?_)
  refine ⟨by decide, by decide, .inl ⟨14, rfl, ?_⟩⟩
  (refine retE ?_; repeat' first | exact trivial | exact rfl | exact Iff.rfl | exact Or.inl rfl | refine And.intro ?_ ?_)
set_option maxRecDepth 100000 in
theorem find_15 : PureF gT 102 [.int .i64 15] (.agg [.int .i64 (vto 15), .int .i64 (vfrom 15)]) := by
  refine Spec.enter gTok P102 100 Tryd.func102 rfl (by kernel_rfl) ?_
  refine ⟨[], no_rl, (vis_pure _).use (by repeat' first | exact trivial | exact rfl | exact Iff.rfl | exact Or.inl rfl | refine And.intro ?_ ?_) rfl rfl ?_⟩
  refine And.intro (fun h => absurd (show (1 : Int) ≤ 15 ∧ (15 : Int) ≤ 31 by decide) h) (fun _ => ?_)
  refine ⟨by decide, by decide, .inl ⟨15, rfl, ?_⟩⟩
  (refine retE ?_; repeat' first | exact trivial | exact rfl | exact Iff.rfl | exact Or.inl rfl | refine And.intro ?_ ?_)
set_option maxRecDepth 100000 in
theorem find_16 : PureF gT 102 [.int .i64 16] (.agg [.int .i64 (vto 16), .int .i64 (vfrom 16)]) := by
  refine Spec.enter gTok P102 100 Tryd.func102 rfl (by kernel_rfl) ?_
  refine ⟨[], no_rl, (vis_pure _).use (by repeat' first | exact trivial | exact rfl | exact Iff.rfl | exact Or.inl rfl | refine And.intro ?_ ?_) rfl rfl ?_⟩
  refine And.intro (fun h => absurd (show (1 : Int) ≤ 16 ∧ (16 : Int) ≤ 31 by decide) h) (fun _ => ?_)
  refine ⟨by decide, by decide, .inl ⟨16, rfl, ?_⟩⟩
  (refine retE ?_; repeat' first | exact trivial | exact rfl | exact Iff.rfl | exact Or.inl rfl | refine And.intro ?_ ?_)
set_option maxRecDepth 100000 in
theorem find_17 : PureF gT 102 [.int .i64 17] (.agg [.int .i64 (vto 17), .int .i64 (vfrom 17)]) := by
  refine Spec.enter gTok P102 100 Tryd.func102 rfl (by kernel_rfl) ?_
  refine ⟨[], no_rl, (vis_pure _).use (by repeat' first | exact trivial | exact rfl | exact Iff.rfl | exact Or.inl rfl | refine And.intro ?_ ?_) rfl rfl ?_⟩
  refine And.intro (fun h => absurd (show (1 : Int) ≤ 17 ∧ (17 : Int) ≤ 31 by decide) h) (fun _ => ?_)
  refine ⟨by decide, by decide, .inl ⟨17, rfl, ?_⟩⟩
  (refine retE ?_; repeat' first | exact trivial | exact rfl | exact Iff.rfl | exact Or.inl rfl | refine And.intro ?_ ?_)
set_option maxRecDepth 100000 in
theorem find_18 : PureF gT 102 [.int .i64 18] (.agg [.int .i64 (vto 18), .int .i64 (vfrom 18)]) := by
  refine Spec.enter gTok P102 100 Tryd.func102 rfl (by kernel_rfl) ?_
  refine ⟨[], no_rl, (vis_pure _).use (by repeat' first | exact trivial | exact rfl | exact Iff.rfl | exact Or.inl rfl | refine And.intro ?_ ?_) rfl rfl ?_⟩
  refine And.intro (fun h => absurd (show (1 : Int) ≤ 18 ∧ (18 : Int) ≤ 31 by decide) h) (fun _ => ?_)
  refine ⟨by decide, by decide, .inl ⟨18, rfl, ?_⟩⟩
  (refine retE ?_; repeat' first | exact trivial | exact rfl | exact Iff.rfl | exact Or.inl rfl | refine And.intro ?_ ?_)
set_option maxRecDepth 100000 in
theorem find_19 : PureF gT 102 [.int .i64 19] (.agg [.int .i64 (vto 19), .int .i64 (vfrom 19)]) := by
  refine Spec.enter gTok P102 100 Tryd.func102 rfl (by kernel_rfl) ?_
  refine ⟨[], no_rl, (vis_pure _).use (by repeat' first | exact trivial | exact rfl | exact Iff.rfl | exact Or.inl rfl | refine And.intro ?_ ?_) rfl rfl ?_⟩
  refine And.intro (fun h => absurd (show (1 : Int) ≤ 19 ∧ (19 : Int) ≤ 31 by decide) h) (fun _ => ?_)
  refine ⟨by decide, by decide, .inl ⟨19, rfl, ?_⟩⟩
  (refine retE ?_; repeat' first | exact trivial | exact rfl | exact Iff.rfl | exact Or.inl rfl | refine And.intro ?_ ?_)
set_option maxRecDepth 100000 in
theorem find_20 : PureF gT 102 [.int .i64 20] (.agg [.int .i64 (vto 20), .int .i64 (vfrom 20)]) := by
  refine Spec.enter gTok P102 100 Tryd.func102 rfl (by kernel_rfl) ?_
  refine ⟨[], no_rl, (vis_pure _).use (by repeat' first | exact trivial | exact rfl | exact Iff.rfl | exact Or.inl rfl | refine And.intro ?_ ?_) rfl rfl ?_⟩
  refine And.intro (fun h => absurd (show (1 : Int) ≤ 20 ∧ (20 : Int) ≤ 31 by decide) h) (fun _ => ?_)
  refine ⟨by decide, by decide, .inl ⟨20, rfl, ?_⟩⟩
  (refine retE ?_; repeat' first | exact trivial | exact rfl | exact Iff.rfl | exact Or.inl rfl | refine And.intro ?_ ?_)
set_option maxRecDepth 100000 in
theorem find_21 : PureF gT 102 [.int .i64 21] (.agg [.int .i64 (vto 21), .int .i64 (vfrom 21)]) := by
  refine Spec.enter gTok P102 100 Tryd.func102 rfl (by kernel_rfl) ?_
  refine ⟨[], no_rl, (vis_pure _).use (by repeat' first | exact trivial | exact rfl | exact Iff.rfl | exact Or.inl rfl | refine And.intro ?_ ?_) rfl rfl ?_⟩
  refine And.intro (fun h => absurd (show (1 : Int) ≤ 21 ∧ (21 : Int) ≤ 31 by decide) h) (fun _ => ?_)
  refine ⟨by decide, by decide, .inl ⟨21, rfl, ?_⟩⟩
  (refine retE ?_; repeat' first | exact trivial | exact rfl | exact Iff.rfl | exact Or.inl rfl | refine And.intro ?_ ?_)
set_option maxRecDepth 100000 in
theorem find_22 : PureF gT 102 [.int .i64 22] (.agg [.int .i64 (vto 22), .int .i64 (vfrom 22)]) := by
  refine Spec.enter gTok P102 100 Tryd.func102 rfl (by kernel_rfl) ?_
  refine ⟨[], no_rl, (vis_pure _).use (by repeat' first | exact trivial | exact rfl | exact Iff.rfl | exact Or.inl rfl | refine And.intro ?_ ?_) rfl rfl ?_⟩
  refine And.intro (fun h => absurd (show (1 : Int) ≤ 22 ∧ (22 : Int) ≤ 31 by decide) h) (fun _ => ?_)
  refine ⟨by decide, by decide, .inl ⟨22, rfl, ?_⟩⟩
  (refine retE ?_; repeat' first | exact trivial | exact rfl | exact Iff.rfl | exact Or.inl rfl | refine And.intro ?_ ?_)
set_option maxRecDepth 100000 in
theorem find_23 : PureF gT 102 [.int .i64 23] (.agg [.int .i64 (vto 23), .int .i64 (vfrom 23)]) := by
  refine Spec.enter gTok P102 100 Tryd.func102 rfl (by kernel_rfl) ?_
  refine ⟨[], no_rl, (vis_pure _).use (by repeat' first | exact trivial | exact rfl | exact Iff.rfl | exact Or.inl rfl | refine And.intro ?_ ?_) rfl rfl ?_⟩
  refine And.intro (fun h => absurd (show (1 : Int) ≤ 23 ∧ (23 : Int) ≤ 31 by decide) h) (fun _ => ?_)
  refine ⟨by decide, by decide, .inl ⟨23, rfl, ?_⟩⟩
  (refine retE ?_; repeat' first | exact trivial | exact rfl | exact Iff.rfl | exact Or.inl rfl | refine And.intro ?_ ?_)
set_option maxRecDepth 100000 in
theorem find_24 : PureF gT 102 [.int .i64 24] (.agg [.int .i64 (vto 24), .int .i64 (vfrom 24)]) := by
  refine Spec.enter gTok P102 100 Tryd.func102 rfl (by kernel_rfl) ?_
  refine ⟨[], no_rl, (vis_pure _).use (by repeat' first | exact trivial | exact rfl | exact Iff.rfl | exact Or.inl rfl | refine And.intro ?_ ?_) rfl rfl ?_⟩
  refine And.intro (fun h => absurd (show (1 : Int) ≤ 24 ∧ (24 : Int) ≤ 31 by decide) h) (fun _ => ?_)
  refine ⟨by decide, by decide, .inl ⟨24, rfl, ?_⟩⟩
  (refine retE ?_; repeat' first | exact trivial | exact rfl | exact Iff.rfl | exact Or.inl rfl | refine And.intro ?_ ?_)
set_option maxRecDepth 100000 in
theorem find_25 : PureF gT 102 [.int .i64 25] (.agg [.int .i64 (vto 25), .int .i64 (vfrom 25)]) := by
  refine Spec.enter gTok P102 100 Tryd.func102 rfl (by kernel_rfl) ?_
  refine ⟨[], no_rl, (vis_pure _).use (by repeat' first | exact trivial | exact rfl | exact Iff.rfl | exact Or.inl rfl | refine And.intro ?_ ?_) rfl rfl ?_⟩
  refine And.intro (fun h => absurd (show (1 : Int) ≤ 25 ∧ (25 : Int) ≤ 31 by decide) h) (fun _ => ?_)
  refine ⟨by decide, by decide, .inl ⟨25, rfl, ?_⟩⟩
  (refine retE ?_; repeat' first | exact trivial | exact rfl | exact Iff.rfl | exact Or.inl rfl | refine And.intro ?_ ?_)
set_option maxRecDepth 100000 in
theorem find_26 : PureF gT 102 [.int .i64 26] (.agg [.int .i64 (vto 26), .int .i64 (vfrom 26)]) := by
  refine Spec.enter gTok P102 100 Tryd.func102 rfl (by kernel_rfl) ?_
  refine ⟨[], no_rl, (vis_pure _).use (by repeat' first | exact trivial | exact rfl | exact Iff.rfl | exact Or.inl rfl | refine And.intro ?_ ?_) rfl rfl ?_⟩
  refine And.intro (fun h => absurd (show (1 : Int) ≤ 26 ∧ (26 : Int) ≤ 31 by decide) h) (fun _ => ?_)
  refine ⟨by decide, by decide, .inl ⟨26, rfl, ?_⟩⟩
  (refine retE ?_; repeat' first | exact trivial | exact rfl | exact Iff.rfl | exact Or.inl rfl | refine And.intro ?_ ?_)
set_option maxRecDepth 100000 in
theorem find_27 : PureF gT 102 [.int .i64 27] (.agg [.int .i64 (vto 27), .int .i64 (vfrom 27)]) := by
  refine Spec.enter gTok P102 100 Tryd.func102 rfl (by kernel_rfl) ?_
  refine ⟨[], no_rl, (vis_pure _).use (by repeat' first | exact trivial | exact rfl | exact Iff.rfl | exact Or.inl rfl | refine And.intro ?_ ?_) rfl rfl ?_⟩
  refine And.intro (fun h => absurd (show (1 : Int) ≤ 27 ∧ (27 : Int) ≤ 31 by decide) h) (fun _ => ?_)
  refine ⟨by decide, by decide, .inl ⟨27, rfl, ?_⟩⟩
  (refine retE ?_; repeat' first | exact trivial | exact rfl | exact Iff.rfl | exact Or.inl rfl | refine And.intro ?_ ?_)
set_option maxRecDepth 100000 in
theorem find_28 : PureF gT 102 [.int .i64 28] (.agg [.int .i64 (vto 28), .int .i64 (vfrom 28)]) := by
  refine Spec.enter gTok P102 100 Tryd.func102 rfl (by kernel_rfl) ?_
  refine ⟨[], no_rl, (vis_pure _).use (by repeat' first | exact trivial | exact rfl | exact Iff.rfl | exact Or.inl rfl | refine And.intro ?_ ?_) rfl rfl ?_⟩
  refine And.intro (fun h => absurd (show (1 : Int) ≤ 28 ∧ (28 : Int) ≤ 31 by decide) h) (fun _ => ?_)
  refine ⟨by decide, by decide, .inl ⟨28, rfl, ?_⟩⟩
  (refine retE ?_; repeat' first | exact trivial | exact rfl | exact Iff.rfl | exact Or.inl rfl | refine And.intro ?_ ?_)
set_option maxRecDepth 100000 in
theorem find_29 : PureF gT 102 [.int .i64 29] (.agg [.int .i64 (vto 29), .int .i64 (vfrom 29)]) := by
  refine Spec.enter gTok P102 100 Tryd.func102 rfl (by kernel_rfl) ?_
  refine ⟨[], no_rl, (vis_pure _).use (by repeat' first | exact trivial | exact rfl | exact Iff.rfl | exact Or.inl rfl | refine And.intro ?_ ?_) rfl rfl ?_⟩
  refine And.intro (fun h => absurd (show (1 : Int) ≤ 29 ∧ (29 : Int) ≤ 31 by decide) h) (fun _ => ?_)
  refine ⟨by decide, by decide, .inl ⟨29, rfl, ?_⟩⟩
  (refine retE ?_; repeat' first | exact trivial | exact rfl | exact Iff.rfl | exact Or.inl rfl | refine And.intro ?_ ?_)
set_option maxRecDepth 100000 in
theorem find_30 : PureF gT 102 [.int .i64 30] (.agg [.int .i64 (vto 30), .int .i64 (vfrom 30)]) := by
  refine Spec.enter gTok P102 100 Tryd.func102 rfl (by kernel_rfl) ?_
  refine ⟨[], no_rl, (vis_pure _).use (by repeat' first | exact trivial | exact rfl | exact Iff.rfl | exact Or.inl rfl | refine And.intro ?_ ?_) rfl rfl ?_⟩
  refine And.intro (fun h => absurd (show (1 : Int) ≤ 30 ∧ (30 : Int) ≤ 31 by decide) h) (fun _ => ?_)
  refine ⟨by decide, by decide, .inl ⟨30, rfl, ?_⟩⟩
  (refine retE ?_; repeat' first | exact trivial | exact rfl | exact Iff.rfl | exact Or.inl rfl | refine And.intro ?_ ?_)
set_option maxRecDepth 100000 in
theorem find_31 : PureF gT 102 [.int .i64 31] (.agg [.int .i64 (vto 31), .int .i64 (vfrom 31)]) := by
  refine Spec.enter gTok P102 100 Tryd.func102 rfl (by kernel_rfl) ?_
  refine ⟨[], no_rl, (vis_pure _).use (by repeat' first | exact trivial | exact rfl | exact Iff.rfl | exact Or.inl rfl | refine And.intro ?_ ?_) rfl rfl ?_⟩
  refine And.intro (fun h => absurd (show (1 : Int) ≤ 31 ∧ (31 : Int) ≤ 31 by decide) h) (fun _ => ?_)
  refine ⟨by decide, by decide, .inl ⟨31, rfl, ?_⟩⟩
  (refine retE ?_; repeat' first | exact trivial | exact rfl | exact Iff.rfl | exact Or.inl rfl | refine And.intro ?_ ?_)
theorem find_no (k : Int) (h : ¬ (1 ≤ k ∧ k ≤ 31)) : PureF gT 102 [.int .i64 k] (.agg [.int .i64 (vto k), .int .i64 (vfrom k)]) := by
  have e1 : vto k = 0 := if_neg h
  have e2 : vfrom k = 0 := if_neg h
  rw [e1, e2]
  refine Spec.enter gTok P102 100 Tryd.func102 rfl (by kernel_rfl) ?_
  refine ⟨[], no_rl, (vis_pure _).use (by repeat' first | exact trivial | exact rfl | exact Iff.rfl | exact Or.inl rfl | refine And.intro ?_ ?_) rfl rfl ?_⟩
  refine And.intro (fun _ => ?_) (fun h' => absurd h h')
  (refine retE ?_; repeat' first | exact trivial | exact rfl | exact Iff.rfl | exact Or.inl rfl | refine And.intro ?_ ?_)
theorem find_pure (k : Int) : PureF gT 102 [.int .i64 k] (.agg [.int .i64 (vto k), .int .i64 (vfrom k)]) := by
  by_cases h : 1 ≤ k ∧ k ≤ 31
  · rcases kinds h with rfl | rfl | rfl | rfl | rfl | rfl | rfl | rfl | rfl | rfl | rfl | rfl | rfl | rfl | rfl | rfl | rfl | rfl | rfl | rfl | rfl | rfl | rfl | rfl | rfl | rfl | rfl | rfl | rfl | rfl | rfl
    · exact find_1
    · exact find_2
    · exact find_3
    · exact find_4
    · exact find_5
    · exact find_6
    · exact find_7
    · exact find_8
    · exact find_9
    · exact find_10
    · exact find_11
    · exact find_12
    · exact find_13
    · exact find_14
    · exact find_15
    · exact find_16
    · exact find_17
    · exact find_18
    · exact find_19
    · exact find_20
    · exact find_21
    · exact find_22
    · exact find_23
    · exact find_24
    · exact find_25
    · exact find_26
    · exact find_27
    · exact find_28
    · exact find_29
    · exact find_30
    · exact find_31
    
  · exact find_no k h

end Go.Proofs.YthpkejlmelednaaDoor.Pw

/- Chapter 18 over values: which operations may be; which registers are small. -/
namespace Go.Proofs.YthpkejlmelednaaDoor.Pw
open Go Go.RowKit

/-- may an operation be? -/
def vright (o : VO) : Prop := (1 ≤ o.kind ∧ o.kind ≤ 31) ∧ (plc 0 (vto o.kind) o.t0 ∧ plc 1 (vto o.kind) o.t1) ∧ (plc 0 (vfrom o.kind) o.f0 ∧ plc 1 (vfrom o.kind) o.f1 ∧ plc 2 (vfrom o.kind) o.f2 ∧ plc 3 (vfrom o.kind) o.f3) ∧ (vto o.kind < 2 ∨ o.t0 ≠ o.t1) ∧ vnum o.kind o.n
set_option maxHeartbeats 4000000 in
set_option maxRecDepth 100000 in
theorem vright_pure (o : VO) (hn : 0 ≤ o.n ∧ o.n ≤ 4294967295) : PureF gT 48 [voP o] (.bool (vright o)) := by
  refine Spec.enter gTok P48 100 Tryd.func48 rfl (by kernel_rfl) ?_
  refine ⟨[], no_rl, (find_pure o.kind).use (by repeat' first | exact trivial | exact rfl | exact Iff.rfl | exact Or.inl rfl | refine And.intro ?_ ?_) rfl rfl ?_⟩
  refine ⟨[], no_rl, (vis_pure o.kind).use (by repeat' first | exact trivial | exact rfl | exact Iff.rfl | exact Or.inl rfl | refine And.intro ?_ ?_) rfl rfl ?_⟩
  refine And.intro (fun h1 => ?_) (fun h1 => ?_)
  · refine ⟨[], no_rl, useO (placed_to o (vto o.kind)) (by repeat' first | exact trivial | exact rfl | exact Iff.rfl | exact Or.inl rfl | refine And.intro ?_ ?_) rfl rfl (And.intro (by repeat' first | exact trivial | exact rfl | exact Iff.rfl | exact Or.inl rfl | refine And.intro ?_ ?_) ?_)⟩
    refine And.intro (fun h2 => ?_) (fun h2 => ?_)
    · refine ⟨[], no_rl, useO (placed_from o (vfrom o.kind)) (by repeat' first | exact trivial | exact rfl | exact Iff.rfl | exact Or.inl rfl | refine And.intro ?_ ?_) rfl rfl (And.intro (by repeat' first | exact trivial | exact rfl | exact Iff.rfl | exact Or.inl rfl | refine And.intro ?_ ?_) ?_)⟩
      refine And.intro (fun h3 => ?_) (fun h3 => ?_)
      · refine And.intro (fun h4 => ?_) (fun h4 => ?_)
        · refine ⟨[], no_rl, (vnumber_pure o.kind o.n hn).use (by repeat' first | exact trivial | exact rfl | exact Iff.rfl | exact Or.inl rfl | refine And.intro ?_ ?_) rfl rfl ?_⟩
          refine retE ?_
          exact (show vnum o.kind o.n ↔ vright o from ⟨fun h => ⟨h1, h2, h3, .inl h4, h⟩, fun h => h.2.2.2.2⟩)
        · refine And.intro (fun h5 => ?_) (fun h5 => ?_)
          · refine ⟨[], no_rl, (vnumber_pure o.kind o.n hn).use (by repeat' first | exact trivial | exact rfl | exact Iff.rfl | exact Or.inl rfl | refine And.intro ?_ ?_) rfl rfl ?_⟩
            refine retE ?_
            exact (show vnum o.kind o.n ↔ vright o from ⟨fun h => ⟨h1, h2, h3, .inr h5, h⟩, fun h => h.2.2.2.2⟩)
          · refine retE ?_
            exact (show ¬ vright o from fun h => h.2.2.2.1.elim h4 h5)
      · refine retE ?_
        exact (show ¬ vright o from fun h => h3 h.2.2.1)
    · refine retE ?_
      exact (show ¬ vright o from fun h => h2 h.2.1)
  · refine retE ?_
    exact (show ¬ vright o from fun h => h1 h.1)

open Classical in
noncomputable def idxG {α : Type} (p : α → Prop) : List α → Nat → Int
  | [], _ => -1
  | x :: l, i => if p x then (i : Int) else idxG p l (i + 1)
theorem idxG_iff {α : Type} {p : α → Prop} : ∀ {l : List α} {i : Nat}, 0 ≤ idxG p l i ↔ ∃ x ∈ l, p x
  | [], i => by simp [idxG]
  | x :: l, i => by
    rw [idxG]
    by_cases h : p x
    · rw [if_pos h]
      exact ⟨fun _ => ⟨x, by simp, h⟩, fun _ => by omega⟩
    · rw [if_neg h, idxG_iff (l := l)]
      refine ⟨fun ⟨y, hy, hp⟩ => ⟨y, by simp [hy], hp⟩, fun ⟨y, hy, hp⟩ => ?_⟩
      rcases List.mem_cons.1 hy with rfl | hy
      · exact absurd hp h
      · exact ⟨y, hy, hp⟩
theorem idxG_step {α : Type} {p : α → Prop} {l : List α} {i : Nat} {x : α} (h : l[i]? = some x) : (p x → idxG p (l.drop i) i = i) ∧ (¬ p x → idxG p (l.drop i) i = idxG p (l.drop (i + 1)) (i + 1)) := by
  obtain ⟨hlt, hx⟩ := List.getElem?_eq_some_iff.1 h
  rw [List.drop_eq_getElem_cons hlt, hx, idxG]
  exact ⟨fun h => if_pos h, fun h => if_neg h⟩
theorem idxG_end {α : Type} {p : α → Prop} {l : List α} {i : Nat} (h : l.length ≤ i) : idxG p (l.drop i) i = -1 := by rw [List.drop_of_length_le h]; rfl

set_option maxRecDepth 10000 in
theorem index_pure (l : List Int) (x : Int) : PureF gT 138 [.sl 1 (intsP l), .int .i64 x] (.int .i64 (idxG (x = ·) l 0)) := by
  refine Spec.enter gTok P138 100 Tryd.func138 rfl (by kernel_rfl) ?_
  intro hm
  obtain ⟨z, hz⟩ : ∃ z, z = idxG (x = ·) l 0 := ⟨_, rfl⟩
  rw [← hz]
  refine SW.loopS gTok P138 (by kernel_rfl) (α := {i : Nat // idxG (x = ·) (l.drop i) i = z}) (fun i => [(8, .int .i64 i.1)]) (fun i => l.length - i.1) ⟨0, hz.symm⟩ 60 ?_ ?_
  · repeat' first | exact trivial | exact rfl | refine And.intro ?_ ?_
  rintro ⟨i, hi⟩
  have el : (intsP l).length = l.length := List.length_map ..
  refine And.intro (fun h => ?_) (fun h => ?_)
  · have h' : (i : Int) < ((intsP l).length : Nat) := h
    refine ⟨Int, l, PV.int .i64, rfl, show (0 : Int) ≤ (i : Int) by omega, show (i : Int) < (l.length : Int) by omega, fun y hy => ?_⟩
    have hy' : l[i]? = some y := hy
    refine And.intro (fun he => ?_) (fun he => ?_)
    · refine retE ?_
      exact (show (i : Int) = z by rw [← hi, (idxG_step hy').1 he])
    · unfold maxLen at hm
      refine .inl ⟨inR_i64 (show _ ≤ (i : Int) + 1 ∧ (i : Int) + 1 ≤ _ by omega), ⟨⟨i + 1, by rw [← hi, (idxG_step hy').2 he]⟩, show l.length - (i + 1) < l.length - i by omega, ?_⟩⟩
      repeat' first | exact trivial | exact rfl | refine And.intro ?_ ?_
  · have h' : ¬ (i : Int) < ((intsP l).length : Nat) := h
    refine retE ?_
    exact (show (-1 : Int) = z by rw [← hi, idxG_end (by omega)])
theorem contains_pure (l : List Int) (x : Int) : PureF gT 110 [.sl 1 (intsP l), .int .i64 x] (.bool (x ∈ l)) := by
  refine Spec.enter gTok P110 100 Tryd.func110 rfl (by kernel_rfl) ?_
  refine ⟨[], no_rl, (index_pure l x).use (by repeat' first | exact trivial | exact rfl | exact Iff.rfl | exact Or.inl rfl | refine And.intro ?_ ?_) rfl rfl ?_⟩
  refine retE ?_
  exact (show 0 ≤ idxG (x = ·) l 0 ↔ x ∈ l by rw [idxG_iff]; exact ⟨fun ⟨y, hy, e⟩ => e ▸ hy, fun h => ⟨x, h, rfl⟩⟩)

theorem small1_spec (o : VO) (x : Int) : Spec gT 109 [.int .i64 x, .ptr 0 0] [oB o] [] fun r S' => r = .bool (x ∈ nm o.from_) ∧ S' = [oB o] := by
  refine Spec.leS (Spec.enter gTok P109 100 Tryd.func109 rfl (by kernel_rfl) ?_)
  refine ⟨[], no_rl, (uses_pure o).use (by repeat' first | exact trivial | exact rfl | exact Iff.rfl | exact Or.inl rfl | refine And.intro ?_ ?_) rfl rfl ?_⟩
  refine ⟨[], no_rl, (contains_pure _ x).use (by repeat' first | exact trivial | exact rfl | exact Iff.rfl | exact Or.inl rfl | refine And.intro ?_ ?_) rfl rfl ?_⟩
  exact retS Iff.rfl (by repeat' first | exact trivial | exact rfl | exact Iff.rfl | exact Or.inl rfl | refine And.intro ?_ ?_)
set_option maxRecDepth 10000 in
theorem indexF_spec (o : VO) (l : List Int) : Spec gT 137 [.sl 1 (intsP l), .clo 109 [.ptr 0 0]] [oB o] [] fun r S' => r = .int .i64 (idxG (· ∈ nm o.from_) l 0) ∧ S' = [oB o] := by
  refine Spec.leS (Spec.enter gTok P137 100 Tryd.func137 rfl (by kernel_rfl) ?_)
  intro hm
  obtain ⟨z, hz⟩ : ∃ z, z = idxG (· ∈ nm o.from_) l 0 := ⟨_, rfl⟩
  rw [← hz]
  refine SW.loopS gTok P137 (by kernel_rfl) (α := {i : Nat // idxG (· ∈ nm o.from_) (l.drop i) i = z}) (fun i => [(8, .int .i64 i.1)]) (fun i => l.length - i.1) ⟨0, hz.symm⟩ 60 ?_ ?_
  · repeat' first | exact trivial | exact rfl | refine And.intro ?_ ?_
  rintro ⟨i, hi⟩
  have el : (intsP l).length = l.length := List.length_map ..
  refine And.intro (fun h => ?_) (fun h => ?_)
  · have h' : (i : Int) < ((intsP l).length : Nat) := h
    refine ⟨Int, l, PV.int .i64, rfl, show (0 : Int) ≤ (i : Int) by omega, show (i : Int) < (l.length : Int) by omega, fun y hy => ?_⟩
    have hy' : l[i]? = some y := hy
    refine ⟨[], no_rl, useO (small1_spec o y) (by repeat' first | exact trivial | exact rfl | exact Iff.rfl | exact Or.inl rfl | refine And.intro ?_ ?_) rfl rfl (And.intro (by repeat' first | exact trivial | exact rfl | exact Iff.rfl | exact Or.inl rfl | refine And.intro ?_ ?_) ?_)⟩
    refine And.intro (fun he => ?_) (fun he => ?_)
    · refine retS ?_ (by repeat' first | exact trivial | exact rfl | exact Iff.rfl | exact Or.inl rfl | refine And.intro ?_ ?_)
      exact (show (i : Int) = z by rw [← hi, (idxG_step hy').1 he])
    · unfold maxLen at hm
      refine .inl ⟨inR_i64 (show _ ≤ (i : Int) + 1 ∧ (i : Int) + 1 ≤ _ by omega), ⟨⟨i + 1, by rw [← hi, (idxG_step hy').2 he]⟩, show l.length - (i + 1) < l.length - i by omega, ?_⟩⟩
      repeat' first | exact trivial | exact rfl | refine And.intro ?_ ?_
  · have h' : ¬ (i : Int) < ((intsP l).length : Nat) := h
    refine retS ?_ (by repeat' first | exact trivial | exact rfl | exact Iff.rfl | exact Or.inl rfl | refine And.intro ?_ ?_)
    exact (show (-1 : Int) = z by rw [← hi, idxG_end (by omega)])
theorem containsF_spec (o : VO) (l : List Int) : Spec gT 108 [.sl 1 (intsP l), .clo 109 [.ptr 0 0]] [oB o] [] fun r S' => r = .bool (∃ x ∈ l, x ∈ nm o.from_) ∧ S' = [oB o] := by
  refine Spec.leS (Spec.enter gTok P108 100 Tryd.func108 rfl (by kernel_rfl) ?_)
  refine ⟨[], no_rl, useO (indexF_spec o l) (by repeat' first | exact trivial | exact rfl | exact Iff.rfl | exact Or.inl rfl | refine And.intro ?_ ?_) rfl rfl (And.intro (by repeat' first | exact trivial | exact rfl | exact Iff.rfl | exact Or.inl rfl | refine And.intro ?_ ?_) ?_)⟩
  refine retS ?_ (by repeat' first | exact trivial | exact rfl | exact Iff.rfl | exact Or.inl rfl | refine And.intro ?_ ?_)
  exact (show 0 ≤ idxG (· ∈ nm o.from_) l 0 ↔ _ from idxG_iff)

/-- registers, as the caller's own -/
def dI (cs : List PV) : PBlk := ⟨.dyn, 3, 1, .w, true, cs⟩
set_option maxHeartbeats 4000000 in
set_option maxRecDepth 100000 in
theorem named_to_new (o : VO) : Spec gT 136 [.ref 0 1 2] [oB o] [] fun r S' => r = .wref 1 ∧ S' = [oB o, dI (intsP (nm o.to))] := by
  refine Spec.enterN gTok P136 100 Tryd.func136 rfl (by kernel_rfl) ?_
  refine SW.rounds gTok P136 (by kernel_rfl) (N := 60) 3 ?_
  repeat' ((conv => whnf); first | (refine (And.intro (fun _ => ?_) (fun _ => ?_) : (_ → _) ∧ (_ → _)) <;> (first | (exfalso; first | contradiction | omega) | skip)) | refine Or.inl (And.intro (by first | exact inR_i64 (by omega) | exact inR_u32 (by omega) | exact inR_u64 (by omega) | exact inR_u8 (by omega)) ?_) | (refine And.intro (show (_ : Int) ≠ 0 by omega) (Or.inl (And.intro (show (0 : Int) ≤ _ by omega) (And.intro (show (0 : Int) < _ by omega) ?_)))) | (refine And.intro (show (_ : Int) ≠ 0 by omega) (Or.inl (And.intro (show (0 : Int) ≤ _ by omega) (And.intro (by first | exact (show (_ : Int) ≤ 9223372036854775807 by omega) | exact (show (_ : Int) ≤ 4294967295 by omega)) (And.intro (show (0 : Int) < _ by omega) ?_))))) | (refine Exists.intro [some 0, some 2] (Exists.intro [(2, .wref 1)] (Exists.intro [oB o, dI (intsP (nm o.to))] (And.intro ?_ (And.intro (Nat.le_of_ble_eq_true rfl) (And.intro rfl rfl))))); (repeat' first | exact trivial | exact rfl | refine And.intro ?_ ?_); show _ = _; (try simp only [Classical.not_not] at *); simp only [VO.to, nm_cons, nm_nil, *, if_true, if_false]; rfl) | (refine Exists.intro [some 0, some 4] (Exists.intro [(2, .wref 1)] (Exists.intro [oB o, dI (intsP (nm o.to))] (And.intro ?_ (And.intro (Nat.le_of_ble_eq_true rfl) (And.intro rfl rfl))))); (repeat' first | exact trivial | exact rfl | refine And.intro ?_ ?_); show _ = _; (try simp only [Classical.not_not] at *); simp only [VO.to, nm_cons, nm_nil, *, if_true, if_false]; rfl) | ((try simp only [Classical.not_not] at *); (rw [show nm o.to = [] by simp only [VO.to, nm_cons, nm_nil, *, if_true, if_false]]); refine Exists.intro [some 0, none] (Exists.intro [(2, .wref 1)] (Exists.intro [oB o, dI []] (And.intro ?_ (And.intro (Nat.le_of_ble_eq_true rfl) (And.intro rfl rfl))))); (repeat' first | exact trivial | exact rfl | refine And.intro ?_ ?_)) | (intro _))
set_option maxHeartbeats 4000000 in
set_option maxRecDepth 100000 in
theorem named_from_new (o : VO) : Spec gT 136 [.ref 0 3 4] [oB o] [] fun r S' => r = .wref 1 ∧ S' = [oB o, dI (intsP (nm o.from_))] := by
  refine Spec.enterN gTok P136 100 Tryd.func136 rfl (by kernel_rfl) ?_
  refine SW.rounds gTok P136 (by kernel_rfl) (N := 60) 5 ?_
  repeat' ((conv => whnf); first | (refine (And.intro (fun _ => ?_) (fun _ => ?_) : (_ → _) ∧ (_ → _)) <;> (first | (exfalso; first | contradiction | omega) | skip)) | refine Or.inl (And.intro (by first | exact inR_i64 (by omega) | exact inR_u32 (by omega) | exact inR_u64 (by omega) | exact inR_u8 (by omega)) ?_) | (refine And.intro (show (_ : Int) ≠ 0 by omega) (Or.inl (And.intro (show (0 : Int) ≤ _ by omega) (And.intro (show (0 : Int) < _ by omega) ?_)))) | (refine And.intro (show (_ : Int) ≠ 0 by omega) (Or.inl (And.intro (show (0 : Int) ≤ _ by omega) (And.intro (by first | exact (show (_ : Int) ≤ 9223372036854775807 by omega) | exact (show (_ : Int) ≤ 4294967295 by omega)) (And.intro (show (0 : Int) < _ by omega) ?_))))) | (refine Exists.intro [some 0, some 2] (Exists.intro [(2, .wref 1)] (Exists.intro [oB o, dI (intsP (nm o.from_))] (And.intro ?_ (And.intro (Nat.le_of_ble_eq_true rfl) (And.intro rfl rfl))))); (repeat' first | exact trivial | exact rfl | refine And.intro ?_ ?_); show _ = _; (try simp only [Classical.not_not] at *); simp only [VO.from_, nm_cons, nm_nil, *, if_true, if_false]; rfl) | (refine Exists.intro [some 0, some 4] (Exists.intro [(2, .wref 1)] (Exists.intro [oB o, dI (intsP (nm o.from_))] (And.intro ?_ (And.intro (Nat.le_of_ble_eq_true rfl) (And.intro rfl rfl))))); (repeat' first | exact trivial | exact rfl | refine And.intro ?_ ?_); show _ = _; (try simp only [Classical.not_not] at *); simp only [VO.from_, nm_cons, nm_nil, *, if_true, if_false]; rfl) | (refine Exists.intro [some 0, some 6] (Exists.intro [(2, .wref 1)] (Exists.intro [oB o, dI (intsP (nm o.from_))] (And.intro ?_ (And.intro (Nat.le_of_ble_eq_true rfl) (And.intro rfl rfl))))); (repeat' first | exact trivial | exact rfl | refine And.intro ?_ ?_); show _ = _; (try simp only [Classical.not_not] at *); simp only [VO.from_, nm_cons, nm_nil, *, if_true, if_false]; rfl) | (refine Exists.intro [some 0, some 8] (Exists.intro [(2, .wref 1)] (Exists.intro [oB o, dI (intsP (nm o.from_))] (And.intro ?_ (And.intro (Nat.le_of_ble_eq_true rfl) (And.intro rfl rfl))))); (repeat' first | exact trivial | exact rfl | refine And.intro ?_ ?_); show _ = _; (try simp only [Classical.not_not] at *); simp only [VO.from_, nm_cons, nm_nil, *, if_true, if_false]; rfl) | ((try simp only [Classical.not_not] at *); (rw [show nm o.from_ = [] by simp only [VO.from_, nm_cons, nm_nil, *, if_true, if_false]]); refine Exists.intro [some 0, none] (Exists.intro [(2, .wref 1)] (Exists.intro [oB o, dI []] (And.intro ?_ (And.intro (Nat.le_of_ble_eq_true rfl) (And.intro rfl rfl))))); (repeat' first | exact trivial | exact rfl | refine And.intro ?_ ?_)) | (intro _))
theorem uses_new (o : VO) : Spec gT 106 [voP o] [] [] fun r S' => r = .wref 0 ∧ S' = [dI (intsP (nm o.from_))] := by
  refine Spec.enterN gTok P106 100 Tryd.func106 rfl (by kernel_rfl) ?_
  refine ⟨[], no_rl, (named_from_new o).mono ?_⟩
  rintro r S' ⟨rfl, rfl⟩
  refine Exists.intro [some 1] (Exists.intro [(2, .wref 0)] (Exists.intro [dI (intsP (nm o.from_))] (And.intro ?_ (And.intro (Nat.le_of_ble_eq_true rfl) (And.intro rfl rfl)))))
  repeat' first | exact trivial | exact rfl | refine And.intro ?_ ?_

/-- all registers of the eight, and those that are set none that is read -/
def vsmall (o : VO) : Prop := (∀ x ∈ nm o.from_ ++ nm o.to, x < 8) ∧ ¬ ∃ x ∈ nm o.to, x ∈ nm o.from_
theorem nm_len (l : List Int) : (nm l).length ≤ l.length := List.length_filter_le ..
set_option maxHeartbeats 4000000 in
set_option maxRecDepth 100000 in
theorem small_pure (o : VO) : PureF gT 49 [voP o] (.bool (vsmall o)) := by
  have l1 : (intsP (nm o.from_)).length ≤ 4 := by rw [intsP, List.length_map]; exact nm_len _
  have l2 : (intsP (nm o.to)).length ≤ 2 := by rw [intsP, List.length_map]; exact nm_len _
  refine Spec.enter gTok P49 100 Tryd.func49 rfl (by kernel_rfl) ?_
  refine ⟨[], no_rl, (uses_new o).useNew rfl rfl rfl (by repeat' first | exact trivial | exact rfl | exact Iff.rfl | exact Or.inl rfl | refine And.intro ?_ ?_) rfl ?_⟩
  refine ⟨[], no_rl, (sets_pure o).use (by repeat' first | exact trivial | exact rfl | exact Iff.rfl | exact Or.inl rfl | refine And.intro ?_ ?_) rfl rfl ?_⟩
  have l3 : (intsP (nm o.from_) ++ intsP (nm o.to)).length = (nm o.from_ ++ nm o.to).length := by simp [intsP]
  have l4 : (nm o.from_ ++ nm o.to).length ≤ 6 := by rw [← l3, List.length_append]; omega
  have e3 : intsP (nm o.from_) ++ intsP (nm o.to) = (nm o.from_ ++ nm o.to).map (PV.int .i64) := by simp [intsP]
  refine ⟨show (intsP (nm o.from_)).length + (intsP (nm o.to)).length ≤ maxLen by unfold maxLen; omega, show ((intsP (nm o.from_)).length + (intsP (nm o.to)).length) * 8 ≤ 140737488355328 by omega, ?_⟩
  intro _
  refine SW.loopS gTok P49 (by kernel_rfl) (α := {i : Nat // ∀ x ∈ (nm o.from_ ++ nm o.to).take i, x < 8}) (fun i => [(11, .int .i64 i.1)]) (fun i => (nm o.from_ ++ nm o.to).length - i.1) ⟨0, by simp⟩ 60 ?_ ?_
  · repeat' first | exact trivial | exact rfl | refine And.intro ?_ ?_
  rintro ⟨i, hi⟩
  refine And.intro (fun h => ?_) (fun h => ?_)
  · have h' : (i : Int) < ((intsP (nm o.from_) ++ intsP (nm o.to)).length : Nat) := h
    refine ⟨show (0 : Int) ≤ (i : Int) by omega, show (i : Int) < ((intsP (nm o.from_) ++ intsP (nm o.to)).length : Nat) by omega, Int, nm o.from_ ++ nm o.to, PV.int .i64, e3, show (i : Int).toNat < (nm o.from_ ++ nm o.to).length by omega, fun x hx => ?_⟩
    have hx' : (nm o.from_ ++ nm o.to)[i]? = some x := hx
    refine And.intro (fun h8 => ?_) (fun h8 => ?_)
    · refine retE ?_
      exact (show ¬ vsmall o from fun hs => by have := hs.1 x (List.mem_of_getElem? hx'); omega)
    · refine .inl ⟨inR_i64 (show _ ≤ (i : Int) + 1 ∧ (i : Int) + 1 ≤ _ by omega), ⟨⟨i + 1, fun y hy => ?_⟩, show (nm o.from_ ++ nm o.to).length - (i + 1) < (nm o.from_ ++ nm o.to).length - i by omega, ?_⟩⟩
      · rw [List.take_add_one, hx', List.mem_append] at hy
        rcases hy with hy | hy
        · exact hi y hy
        · simp at hy; subst hy; omega
      · repeat' first | exact trivial | exact rfl | refine And.intro ?_ ?_
  · have h' : ¬ (i : Int) < ((intsP (nm o.from_) ++ intsP (nm o.to)).length : Nat) := h
    rw [List.take_of_length_le (by omega)] at hi
    refine ⟨[], no_rl, (sets_pure o).use (by repeat' first | exact trivial | exact rfl | exact Iff.rfl | exact Or.inl rfl | refine And.intro ?_ ?_) rfl rfl ?_⟩
    refine ⟨[], no_rl, useO (containsF_spec o (nm o.to)) (by repeat' first | exact trivial | exact rfl | exact Iff.rfl | exact Or.inl rfl | refine And.intro ?_ ?_) rfl rfl (And.intro (by repeat' first | exact trivial | exact rfl | exact Iff.rfl | exact Or.inl rfl | refine And.intro ?_ ?_) ?_)⟩
    refine retE ?_
    exact (show (¬ ∃ x ∈ nm o.to, x ∈ nm o.from_) ↔ vsmall o from ⟨fun h => ⟨hi, h⟩, fun h => h.2⟩)

end Go.Proofs.YthpkejlmelednaaDoor.Pw

/- Chapter 18 over values: slices.Grow, slices.Concat at instructions. -/
namespace Go.Proofs.YthpkejlmelednaaDoor.Pw
open Go Go.RowKit

def zInst : Value := .agg #[.int .i64 0, .int .i64 0, .int .i64 0, .int .i64 0, .int .i64 0, .int .i64 0, .int .i64 0, .int .i64 0, .int .i64 0, .int .i64 0, .int .i64 0]
/-- slices.Grow of nil -/
theorem grow_zero (w : World) : Calls Tryd.prog 111 #[.slice none 0 0, .int .i64 0] w fun e w' => e = .returned (.slice none 0 0) ∧ w' = w := by
  go_enter Tryd.func111, Tryd.ntmps111
  go_wp2
  go_ret
  exact ⟨rfl, rfl⟩
set_option maxHeartbeats 4000000 in
set_option maxRecDepth 100000 in
theorem grow_some (n : Nat) (h0 : 0 < n) (hbig : n * 88 ≤ 140737488355328) (w : World) : Calls Tryd.prog 111 #[.slice none 0 0, .int .i64 n] w fun e w' =>
    ∃ (cs : Array Value), cs.size = grownCap w n 0 24 * 11 ∧ e = .returned (.slice (some ⟨w.heap.size, 0, none⟩) 0 (grownCap w n 0 24)) ∧ w' = w.drew.alloc (.cells cs 24) := by
  have h1 : ¬ ((n : Int) < 0) := by omega
  have h3 : wrap64 (n : Int) = n := by unfold wrap64; omega
  have h4 : (n : Int) > 0 := by omega
  obtain ⟨i0, hi0, hz0, hs0, hb0⟩ : ∃ i, Tryd.prog.info? 24 = some i ∧ i.zero = some zInst ∧ i.size = 11 ∧ i.bytes = 88 := ⟨Tryd.t24, by kernel_rfl, by kernel_rfl, by kernel_rfl, by kernel_rfl⟩
  have hrz : ∀ ty, (Builtin.append_ #[42, 3] ty #[.slice none 0 0, .int .i64 n]).run Tryd.prog w =
      .ok (.slice (some ⟨w.heap.size, 0, none⟩) n (grownCap w n 0 24)) (w.drew.alloc (.cells (#[] ++ Builtin.zeroCells zInst.cells n ++ Builtin.zeroCells zInst.cells (grownCap w n 0 24 - n)) 24)) := fun ty => by
    have h := Lib.run_append_grow_zeros w 42 3 ty 24 i0 zInst .i64 .i64 Tryd.underlying42 Tryd.underlying3 hi0 hz0 none 0 0 [] (run_firstCells_none w.drew i0.size 0 0 0) n h0 (by omega) (by omega) (by omega)
      (by rw [hb0]; omega) (by rw [Nat.zero_add]; exact growslice_fits h0 (by rw [hb0]; exact hbig))
    rw [Nat.zero_add] at h
    exact h
  obtain ⟨C, hC⟩ : ∃ C, C = #[] ++ Builtin.zeroCells zInst.cells n ++ Builtin.zeroCells zInst.cells (grownCap w n 0 24 - n) := ⟨_, rfl⟩
  have hGn : n ≤ grownCap w n 0 24 := grownCap_ge w _ _ _
  have hCs : C.size = grownCap w n 0 24 * 11 := by
    rw [hC]
    simp only [Array.size_append, size_zeroCells, List.size_toArray, List.length_nil, Nat.zero_add]
    rw [show zInst.cells.size = 11 from rfl, ← Nat.add_mul, Nat.add_sub_cancel' hGn]
  rw [← hC] at hrz
  clear hC
  obtain ⟨G, hG⟩ : ∃ G, G = grownCap w n 0 24 := ⟨_, rfl⟩
  have hG63 : G ≤ 9223372036854775807 := by
    have := grownCap_le_maxLen w n 0 24 (by unfold maxLen; omega)
    rw [← hG] at this
    unfold maxLen at this
    omega
  rw [← hG] at hrz hGn hCs ⊢
  clear hG hi0 hz0 hs0 hb0
  go_enter Tryd.func111, Tryd.ntmps111
  go_wp2_with (at_builtin; refine Lib.wpList_append_run _ rfl _ _ _ _ rfl _ _ rfl rfl _ _ (hrz _) ?_)
  all_goals (go_ret; exact ⟨C, hCs, rfl, rfl⟩)

def dIn (cs : List PV) : PBlk := ⟨.dyn, 24, 11, .w, true, cs⟩
theorem grow_new (n : Nat) (hbig : n * 88 ≤ 140737488355328) : Spec gT 111 [.nil, .int .i64 n] [] [] fun r S' => r = .wref 0 ∧ S' = [dIn []] := by
  refine Spec.intro (entersT Tryd.func111 rfl (by kernel_rfl)) fun I β w vals hH hM hA => ?_
  obtain ⟨v, u, rfl, h1, h2⟩ := isL2 hA
  simp only [PV.Is] at h1 h2
  subst h1; subst h2
  rcases Nat.eq_zero_or_pos n with rfl | h0
  · refine (grow_zero w).mono ?_
    rintro e w' ⟨rfl, rfl⟩
    have hadd := hH.add (w' := w') (b := dIn []) (p := ⟨none, 0, 0⟩) (fun _ _ => rfl) (fun g o ha => by cases ha) ⟨_, Places.set_self .., ⟨by decide, rfl, Nat.le_refl _, Nat.zero_le _⟩, .inl ⟨rfl, rfl⟩⟩
    exact ⟨_, .wref 0, [dIn []], I, _, rfl, ⟨rfl, rfl⟩, (by simp only [PV.Is]; exact ⟨_, Places.set_self .., rfl⟩), hadd, hM, Ext.add hH rfl rfl rfl (Nat.le_refl _) (fun _ _ _ => rfl) (fun g o ha => by cases ha), Nat.zero_le _, fun l hl => absurd hl (Nat.not_lt_zero _)⟩
  · refine (grow_some n h0 hbig w).mono ?_
    rintro e w' ⟨cs, hcs, rfl, rfl⟩
    have hH0 : HeapOk I β [] w.drew := hH.ofHeap rfl
    have hcm : grownCap w n 0 24 ≤ maxLen := grownCap_le_maxLen w n 0 24 (by unfold maxLen; omega)
    obtain ⟨G, hG⟩ : ∃ G, G = grownCap w n 0 24 := ⟨_, rfl⟩
    rw [← hG] at hcs hcm ⊢
    have hI : ∀ g, I g → g < w.drew.heap.size := hM.imm
    obtain ⟨hA1, hE⟩ := alloc_new (vs := cs) (t := 24) hH0 hI (b := dIn []) (p := ⟨some (w.heap.size, 0), 0, G⟩) rfl (fun ho =>
      ⟨_, Places.set_self .., ⟨by decide, rfl, Nat.zero_le _, hcm⟩, .inr ⟨w.heap.size, cs, (0, 0), rfl, Ev.heap_new w.drew _, (by simp only [dIn, IsEs]), ho, hcs⟩⟩) rfl
    refine ⟨_, .wref 0, [dIn []], I, _, rfl, ⟨rfl, rfl⟩, (by simp only [PV.Is]; exact ⟨_, Places.set_self .., rfl⟩), hA1, ?_, (show Ext I β [] w I β [] w.drew from Ext.ofHeap rfl rfl rfl rfl).trans hE, Nat.zero_le _, fun l hl => absurd hl (Nat.not_lt_zero _)⟩
    exact hM.below ⟨rfl, rfl, rfl, by simp, fun g hg => Ev.heap_old w.drew _ g hg⟩

set_option maxHeartbeats 4000000 in
set_option maxRecDepth 100000 in
theorem concat_pure (a b c d : List IN) (h : a.length + b.length + c.length + d.length ≤ 1000000) : PureF gT 52 [.sl 1 [.sl 11 (insP a), .sl 11 (insP b), .sl 11 (insP c), .sl 11 (insP d)]] (.sl 11 (insP (a ++ b ++ c ++ d))) := by
  have ha : (insP a).length = a.length := List.length_map ..
  have hb : (insP b).length = b.length := List.length_map ..
  have hc : (insP c).length = c.length := List.length_map ..
  have hd : (insP d).length = d.length := List.length_map ..
  refine Spec.enter gTok P52 100 Tryd.func52 rfl (by kernel_rfl) ?_
  intro _
  refine SW.rounds gTok P52 (by kernel_rfl) (N := 60) 5 ?_
  refine And.intro (fun _ => ?_) (fun h => absurd (show (0 : Int) < 4 by decide) h)
  refine ⟨PV, [.sl 11 (insP a), .sl 11 (insP b), .sl 11 (insP c), .sl 11 (insP d)], id, rfl, by decide, show (_ : Int) < 4 by decide, fun x hx => ?_⟩
  obtain rfl : PV.sl 11 (insP a) = x := Option.some.inj hx
  intro _
  refine .inl ⟨inR_i64 (by omega), ?_⟩
  refine And.intro (fun h => absurd h (by omega)) (fun _ => ?_)
  refine And.intro (fun _ => ?_) (fun h => absurd (show (1 : Int) < 4 by decide) h)
  refine ⟨PV, [.sl 11 (insP a), .sl 11 (insP b), .sl 11 (insP c), .sl 11 (insP d)], id, rfl, by decide, show (_ : Int) < 4 by decide, fun x hx => ?_⟩
  obtain rfl : PV.sl 11 (insP b) = x := Option.some.inj hx
  intro _
  refine .inl ⟨inR_i64 (by omega), ?_⟩
  refine And.intro (fun h => absurd h (by omega)) (fun _ => ?_)
  refine And.intro (fun _ => ?_) (fun h => absurd (show (2 : Int) < 4 by decide) h)
  refine ⟨PV, [.sl 11 (insP a), .sl 11 (insP b), .sl 11 (insP c), .sl 11 (insP d)], id, rfl, by decide, show (_ : Int) < 4 by decide, fun x hx => ?_⟩
  obtain rfl : PV.sl 11 (insP c) = x := Option.some.inj hx
  intro _
  refine .inl ⟨inR_i64 (by omega), ?_⟩
  refine And.intro (fun h => absurd h (by omega)) (fun _ => ?_)
  refine And.intro (fun _ => ?_) (fun h => absurd (show (3 : Int) < 4 by decide) h)
  refine ⟨PV, [.sl 11 (insP a), .sl 11 (insP b), .sl 11 (insP c), .sl 11 (insP d)], id, rfl, by decide, show (_ : Int) < 4 by decide, fun x hx => ?_⟩
  obtain rfl : PV.sl 11 (insP d) = x := Option.some.inj hx
  intro _
  refine .inl ⟨inR_i64 (by omega), ?_⟩
  refine And.intro (fun h => absurd h (by omega)) (fun _ => ?_)
  refine And.intro (fun h => absurd (show (4 : Int) < 4 from h) (by decide)) (fun _ => ?_)
  refine ⟨[], no_rl, (grow_new (a.length + b.length + c.length + d.length) (by omega)).useNew rfl rfl rfl ⟨trivial, (show _ = _ by omega), trivial⟩ rfl ?_⟩
  intro _
  refine SW.rounds gTok P52 (by kernel_rfl) (N := 60) 5 ?_
  refine And.intro (fun _ => ?_) (fun h => absurd (show (0 : Int) < 4 by decide) h)
  refine ⟨PV, [.sl 11 (insP a), .sl 11 (insP b), .sl 11 (insP c), .sl 11 (insP d)], id, rfl, by decide, show (_ : Int) < 4 by decide, fun x hx => ?_⟩
  obtain rfl : PV.sl 11 (insP a) = x := Option.some.inj hx
  refine ⟨show (([] : List PV)).length + (insP a).length ≤ maxLen by simp only [List.length_append, List.length_nil, ha, hb, hc, hd]; unfold maxLen; omega, show ((([] : List PV)).length + (insP a).length) * 88 ≤ 140737488355328 by simp only [List.length_append, List.length_nil, ha, hb, hc, hd]; omega, ?_⟩
  refine And.intro (fun _ => ?_) (fun h => absurd (show (1 : Int) < 4 by decide) h)
  refine ⟨PV, [.sl 11 (insP a), .sl 11 (insP b), .sl 11 (insP c), .sl 11 (insP d)], id, rfl, by decide, show (_ : Int) < 4 by decide, fun x hx => ?_⟩
  obtain rfl : PV.sl 11 (insP b) = x := Option.some.inj hx
  refine ⟨show (([] : List PV) ++ insP a).length + (insP b).length ≤ maxLen by simp only [List.length_append, List.length_nil, ha, hb, hc, hd]; unfold maxLen; omega, show ((([] : List PV) ++ insP a).length + (insP b).length) * 88 ≤ 140737488355328 by simp only [List.length_append, List.length_nil, ha, hb, hc, hd]; omega, ?_⟩
  refine And.intro (fun _ => ?_) (fun h => absurd (show (2 : Int) < 4 by decide) h)
  refine ⟨PV, [.sl 11 (insP a), .sl 11 (insP b), .sl 11 (insP c), .sl 11 (insP d)], id, rfl, by decide, show (_ : Int) < 4 by decide, fun x hx => ?_⟩
  obtain rfl : PV.sl 11 (insP c) = x := Option.some.inj hx
  refine ⟨show (([] : List PV) ++ insP a ++ insP b).length + (insP c).length ≤ maxLen by simp only [List.length_append, List.length_nil, ha, hb, hc, hd]; unfold maxLen; omega, show ((([] : List PV) ++ insP a ++ insP b).length + (insP c).length) * 88 ≤ 140737488355328 by simp only [List.length_append, List.length_nil, ha, hb, hc, hd]; omega, ?_⟩
  refine And.intro (fun _ => ?_) (fun h => absurd (show (3 : Int) < 4 by decide) h)
  refine ⟨PV, [.sl 11 (insP a), .sl 11 (insP b), .sl 11 (insP c), .sl 11 (insP d)], id, rfl, by decide, show (_ : Int) < 4 by decide, fun x hx => ?_⟩
  obtain rfl : PV.sl 11 (insP d) = x := Option.some.inj hx
  refine ⟨show (([] : List PV) ++ insP a ++ insP b ++ insP c).length + (insP d).length ≤ maxLen by simp only [List.length_append, List.length_nil, ha, hb, hc, hd]; unfold maxLen; omega, show ((([] : List PV) ++ insP a ++ insP b ++ insP c).length + (insP d).length) * 88 ≤ 140737488355328 by simp only [List.length_append, List.length_nil, ha, hb, hc, hd]; omega, ?_⟩
  refine And.intro (fun h => absurd (show (4 : Int) < 4 from h) (by decide)) (fun _ => ?_)
  refine retE ?_
  exact (show [] ++ insP a ++ insP b ++ insP c ++ insP d = _ by simp [insP])

end Go.Proofs.YthpkejlmelednaaDoor.Pw

/- Chapter 18 over values: an operation's instructions. -/
namespace Go.Proofs.YthpkejlmelednaaDoor.Pw
open Go Go.RowKit

theorem immof_pure (x : Int) (hx : 0 ≤ x ∧ x ≤ 4294967295) : PureF gT 115 [.int .u32 x] (.tup [.int .i64 (Rm.ofN x), .int .i64 (Rm.ofE x)]) :=
  PureF.of_at (entersT Tryd.func115 rfl (by kernel_rfl)) fun I β w vals hM hA => by
    obtain ⟨v, rfl, h1⟩ := isL1 hA
    simp only [PV.Is] at h1
    subst h1
    refine ⟨.tuple #[.int .i64 (Rm.ofN x), .int .i64 (Rm.ofE x)], is_tup (isLc (is_int ..) (isLc (is_int ..) isLn)), fun _ _ _ => is_tup (isLc (is_int ..) (isLc (is_int ..) isLn)), ?_⟩
    refine (of_any x w (facOf hM) hx.1 hx.2).mono ?_
    rintro e w' ⟨rfl, rfl⟩
    exact ⟨rfl, Below.refl _ _⟩
theorem refof_pure (x : Int) (hx : 0 ≤ x ∧ x ≤ 4294967295) : PureF gT 116 [.int .u32 x] (.int .i64 (Rm.ofM x)) :=
  PureF.of_at (entersT Tryd.func116 rfl (by kernel_rfl)) fun I β w vals hM hA => by
    obtain ⟨v, rfl, h1⟩ := isL1 hA
    simp only [PV.Is] at h1
    subst h1
    refine ⟨.int .i64 (Rm.ofM x), is_int .., fun _ _ _ => is_int .., ?_⟩
    refine (refof_any x w hx.1 hx.2).mono ?_
    rintro e w' ⟨rfl, rfl⟩
    exact ⟨rfl, Below.refl _ _⟩

def iF (f d n m : Int) : IN := { iZ with form := f, rd := d, rn := n, rm := m }
def iM (f d n : Int) : IN := { iZ with form := f, rd := d, imm := n }
def borrowI (t : Int) : IN := iF 73 t t t
def upperI (t : Int) : IN := { iZ with form := 2, rd := t, rm := t, imm := 31 }
set_option maxRecDepth 100000 in
theorem borrow_pure (t : Int) : PureF gT 112 [.int .i64 t] (inP (borrowI t)) := by
  refine Spec.enter gTok P112 100 Tryd.func112 rfl (by kernel_rfl) ?_
  (refine retE ?_; repeat' first | exact trivial | exact rfl | exact Iff.rfl | exact Or.inl rfl | refine And.intro ?_ ?_)
set_option maxRecDepth 100000 in
theorem upper_pure (t : Int) : PureF gT 113 [.int .i64 t] (inP (upperI t)) := by
  refine Spec.enter gTok P113 100 Tryd.func113 rfl (by kernel_rfl) ?_
  (refine retE ?_; repeat' first | exact trivial | exact rfl | exact Iff.rfl | exact Or.inl rfl | refine And.intro ?_ ?_)
/-- a form of three registers, by the kind -/
def threeF (k : Int) : Int := if k = 7 then 66 else if k = 8 then 68 else if k = 9 then 70 else if k = 10 then 4 else if k = 11 then 5 else if k = 12 then 92 else if k = 13 then 88 else if k = 14 then 89 else if k = 15 then 91 else if k = 28 then 97 else 0
theorem three_pure (k : Int) : PureF gT 50 [.int .i64 k] (.int .i64 (threeF k)) := by
  refine Spec.enter gTok P50 100 Tryd.func50 rfl (by kernel_rfl) ?_
  repeat' ((conv => whnf); first | (refine (And.intro (fun _ => ?_) (fun _ => ?_) : (_ → _) ∧ (_ → _)) <;> (first | (exfalso; first | contradiction | omega) | skip)) | refine Or.inl (And.intro (by first | exact inR_i64 (by omega) | exact inR_u32 (by omega) | exact inR_u64 (by omega) | exact inR_u8 (by omega)) ?_) | (refine And.intro (show (_ : Int) ≠ 0 by omega) (Or.inl (And.intro (show (0 : Int) ≤ _ by omega) (And.intro (show (0 : Int) < _ by omega) ?_)))) | (refine And.intro (show (_ : Int) ≠ 0 by omega) (Or.inl (And.intro (show (0 : Int) ≤ _ by omega) (And.intro (by first | exact (show (_ : Int) ≤ 9223372036854775807 by omega) | exact (show (_ : Int) ≤ 4294967295 by omega)) (And.intro (show (0 : Int) < _ by omega) ?_))))) | (refine retE ?_; show _ = _; simp only [threeF, *, if_true, if_false, reduceIte, Int.reduceEq]) | (intro _))
theorem is_pure (f : Int) : PureF gT 51 [.int .i64 f] (.bool (1 ≤ f ∧ f ≤ 100)) := by
  refine Spec.enter gTok P51 100 Tryd.func51 rfl (by kernel_rfl) ?_
  repeat' ((conv => whnf); first | (refine (And.intro (fun _ => ?_) (fun _ => ?_) : (_ → _) ∧ (_ → _)) <;> (first | (exfalso; first | contradiction | omega) | skip)) | refine Or.inl (And.intro (by first | exact inR_i64 (by omega) | exact inR_u32 (by omega) | exact inR_u64 (by omega) | exact inR_u8 (by omega)) ?_) | (refine And.intro (show (_ : Int) ≠ 0 by omega) (Or.inl (And.intro (show (0 : Int) ≤ _ by omega) (And.intro (show (0 : Int) < _ by omega) ?_)))) | (refine And.intro (show (_ : Int) ≠ 0 by omega) (Or.inl (And.intro (show (0 : Int) ≤ _ by omega) (And.intro (by first | exact (show (_ : Int) ≤ 9223372036854775807 by omega) | exact (show (_ : Int) ≤ 4294967295 by omega)) (And.intro (show (0 : Int) < _ by omega) ?_))))) | (refine retE ?_; show _ ↔ _; omega) | (refine retE ?_; show ¬ _; omega) | (intro _))

/-- .. of what loads and stores -/
def memL (o : VO) : List IN := if o.kind = 2 then [iM 38 o.t0 o.n] else if o.kind = 3 then [iM 37 o.f0 o.n] else if o.kind = 4 then [iM 39 o.t0 o.n] else if o.kind = 5 then [{ iF 87 o.t0 o.f0 o.f1 with by_ := 2 }] else if o.kind = 6 then [{ iF 86 o.f2 o.f0 o.f1 with by_ := 2 }] else []
set_option maxHeartbeats 4000000 in
set_option maxRecDepth 100000 in
theorem memory_pure (o : VO) (hn : 0 ≤ o.n ∧ o.n ≤ 4294967295) : PureF gT 53 [voP o] (.sl 11 (insP (memL o))) := by
  refine Spec.enter gTok P53 100 Tryd.func53 rfl (by kernel_rfl) ?_
  repeat' ((conv => whnf); first | (refine (And.intro (fun _ => ?_) (fun _ => ?_) : (_ → _) ∧ (_ → _)) <;> (first | (exfalso; first | contradiction | omega) | skip)) | refine Or.inl (And.intro (by first | exact inR_i64 (by omega) | exact inR_u32 (by omega) | exact inR_u64 (by omega) | exact inR_u8 (by omega)) ?_) | (refine And.intro (show (_ : Int) ≠ 0 by omega) (Or.inl (And.intro (show (0 : Int) ≤ _ by omega) (And.intro (show (0 : Int) < _ by omega) ?_)))) | (refine And.intro (show (_ : Int) ≠ 0 by omega) (Or.inl (And.intro (show (0 : Int) ≤ _ by omega) (And.intro (by first | exact (show (_ : Int) ≤ 9223372036854775807 by omega) | exact (show (_ : Int) ≤ 4294967295 by omega)) (And.intro (show (0 : Int) < _ by omega) ?_))))) | (refine retE ?_; show _ = _; simp only [memL, *, if_true, if_false, reduceIte, Int.reduceEq]; rfl) | (intro _))

/-- .. of pairs -/
def pairL (o : VO) : List IN := if o.kind = 23 then [iF 4 o.t0 o.f0 o.f2, iF 72 o.t1 o.f1 o.f3] else if o.kind = 24 then [iF 5 o.t0 o.f0 o.f2, iF 73 o.t1 o.f1 o.f3] else if o.kind = 25 then [iF 5 o.t0 o.f0 o.f2, { iF 73 o.t0 o.f1 o.f3 with set := 1 }, borrowI o.t0, upperI o.t0] else if o.kind = 26 then [{ iF 95 o.t0 o.f0 o.f1 with ra := o.t1 }] else []
set_option maxHeartbeats 4000000 in
set_option maxRecDepth 100000 in
theorem pairs_pure (o : VO) : PureF gT 54 [voP o] (.sl 11 (insP (pairL o))) := by
  refine Spec.enter gTok P54 100 Tryd.func54 rfl (by kernel_rfl) ?_
  repeat' ((conv => whnf); first | (refine (And.intro (fun _ => ?_) (fun _ => ?_) : (_ → _) ∧ (_ → _)) <;> (first | (exfalso; first | contradiction | omega) | skip)) | refine Or.inl (And.intro (by first | exact inR_i64 (by omega) | exact inR_u32 (by omega) | exact inR_u64 (by omega) | exact inR_u8 (by omega)) ?_) | (refine And.intro (show (_ : Int) ≠ 0 by omega) (Or.inl (And.intro (show (0 : Int) ≤ _ by omega) (And.intro (show (0 : Int) < _ by omega) ?_)))) | (refine And.intro (show (_ : Int) ≠ 0 by omega) (Or.inl (And.intro (show (0 : Int) ≤ _ by omega) (And.intro (by first | exact (show (_ : Int) ≤ 9223372036854775807 by omega) | exact (show (_ : Int) ≤ 4294967295 by omega)) (And.intro (show (0 : Int) < _ by omega) ?_))))) | (refine Exists.intro [] (And.intro no_rl ((borrow_pure o.t0).use (by repeat' first | exact trivial | exact rfl | exact Iff.rfl | exact Or.inl rfl | refine And.intro ?_ ?_) rfl rfl ?_))) | (refine Exists.intro [] (And.intro no_rl ((upper_pure o.t0).use (by repeat' first | exact trivial | exact rfl | exact Iff.rfl | exact Or.inl rfl | refine And.intro ?_ ?_) rfl rfl ?_))) | (refine retE ?_; show _ = _; simp only [pairL, *, if_true, if_false, reduceIte, Int.reduceEq]; rfl) | (intro _))

/-- .. of a number -/
def numL (t n : Int) : List IN := if n ≤ 255 then [iM 8 t n] else if Rm.ofE n = 0 then [iM 60 t (Rm.ofN n)] else if Rm.ofE (4294967295 - n) = 0 then [iM 61 t (Rm.ofN (4294967295 - n))] else if n / 65536 ≠ 0 then [iM 48 t (n % 65536), iM 49 t (n / 65536)] else [iM 48 t (n % 65536)]
theorem m16 (n : Int) (h0 : 0 ≤ n) (h1 : n ≤ 4294967295) : bits .and .u32 n 65535 = n % 65536 := by
  rw [u32_and n 65535 h0 (by omega) (by omega) (by omega)]
  have e : n.toNat &&& (65535 : Int).toNat = n.toNat % 65536 := Nat.and_two_pow_sub_one_eq_mod n.toNat 16
  rw [e]; omega
set_option maxHeartbeats 4000000 in
set_option maxRecDepth 100000 in
theorem number_pure (t n : Int) (hn : 0 ≤ n ∧ n ≤ 4294967295) : PureF gT 114 [.int .i64 t, .int .u32 n] (.sl 11 (insP (numL t n))) := by
  refine Spec.enter gTok P114 100 Tryd.func114 rfl (by kernel_rfl) ?_
  refine And.intro (fun h1 => ?_) (fun h1 => ?_)
  · refine .inl ⟨inR_i64 (by omega), ?_⟩
    refine retE ?_
    show _ = _
    rw [numL, if_pos h1]; rfl
  refine ⟨[], no_rl, (immof_pure n hn).use (by repeat' first | exact trivial | exact rfl | exact Iff.rfl | exact Or.inl rfl | refine And.intro ?_ ?_) rfl rfl ?_⟩
  refine And.intro (fun h2 => ?_) (fun h2 => ?_)
  · refine retE ?_
    show _ = _
    rw [numL, if_neg h1, if_pos h2]; rfl
  refine ⟨[], no_rl, (immof_pure (4294967295 - n) (by omega)).use ⟨Rm.not32 n hn.1 hn.2, trivial⟩ rfl rfl ?_⟩
  refine And.intro (fun h3 => ?_) (fun h3 => ?_)
  · refine retE ?_
    show _ = _
    rw [numL, if_neg h1, if_neg h2, if_pos h3]; rfl
  have e16 := m16 n hn.1 hn.2
  refine .inl ⟨inR_i64 (show _ ≤ bits .and .u32 n 65535 ∧ bits .and .u32 n 65535 ≤ _ by rw [e16]; omega), ?_⟩
  refine ⟨by decide, And.intro (fun h4 => ?_) (fun h4 => ?_)⟩
  · have h4' : ¬ n / 65536 = 0 := h4
    refine ⟨by decide, .inl ⟨inR_i64 (show _ ≤ n / 65536 ∧ n / 65536 ≤ _ by omega), ?_⟩⟩
    refine retE ?_
    show [_, _] = _
    rw [numL, if_neg h1, if_neg h2, if_neg h3, if_pos h4']
    show [inP (iM 48 t (bits .and .u32 n 65535)), inP (iM 49 t (n / 65536))] = _
    rw [e16]; rfl
  · have h4' : ¬ ¬ n / 65536 = 0 := h4
    refine retE ?_
    show [_] = _
    rw [numL, if_neg h1, if_neg h2, if_neg h3, if_neg h4']
    show [inP (iM 48 t (bits .and .u32 n 65535))] = _
    rw [e16]; rfl

/-- .. of what has one operand, or a number -/
def singL (o : VO) : List IN := if o.kind = 1 then numL o.t0 o.n else if o.kind = 16 then [{ iZ with form := 77, rd := o.t0, rm := o.f0 }] else if o.kind = 17 then [{ iZ with form := 59, rd := o.t0, rn := o.f0 }] else if o.kind = 18 then [{ iZ with form := 1, rd := o.t0, rm := o.f0, imm := o.n }] else if o.kind = 19 then [{ iZ with form := 2, rd := o.t0, rm := o.f0, imm := o.n }]
  else if o.kind = 20 then [{ iZ with form := 76, rd := o.t0, rm := o.f0, kind := 3, by_ := o.n }] else if o.kind = 27 then [{ iZ with form := 50, rd := o.t0, rn := o.f0, imm := 1 }, { iZ with form := 59, rd := o.t0, rn := o.t0 }] else []
set_option maxHeartbeats 4000000 in
set_option maxRecDepth 100000 in
theorem single_pure (o : VO) (hn : 0 ≤ o.n ∧ o.n ≤ 4294967295) : PureF gT 55 [voP o] (.sl 11 (insP (singL o))) := by
  refine Spec.enter gTok P55 100 Tryd.func55 rfl (by kernel_rfl) ?_
  repeat' ((conv => whnf); first | (refine (And.intro (fun _ => ?_) (fun _ => ?_) : (_ → _) ∧ (_ → _)) <;> (first | (exfalso; first | contradiction | omega) | skip)) | refine Or.inl (And.intro (by first | exact inR_i64 (by omega) | exact inR_u32 (by omega) | exact inR_u64 (by omega) | exact inR_u8 (by omega)) ?_) | (refine And.intro (show (_ : Int) ≠ 0 by omega) (Or.inl (And.intro (show (0 : Int) ≤ _ by omega) (And.intro (show (0 : Int) < _ by omega) ?_)))) | (refine And.intro (show (_ : Int) ≠ 0 by omega) (Or.inl (And.intro (show (0 : Int) ≤ _ by omega) (And.intro (by first | exact (show (_ : Int) ≤ 9223372036854775807 by omega) | exact (show (_ : Int) ≤ 4294967295 by omega)) (And.intro (show (0 : Int) < _ by omega) ?_))))) | (refine Exists.intro [] (And.intro no_rl ((number_pure o.t0 o.n hn).use (by repeat' first | exact trivial | exact rfl | exact Iff.rfl | exact Or.inl rfl | refine And.intro ?_ ?_) rfl rfl ?_))) | (refine retE ?_; show _ = _; simp only [singL, *, if_true, if_false, reduceIte, Int.reduceEq]; try rfl) | (intro _))

/-- .. of what compares -/
def testL (o : VO) : List IN := if o.kind = 21 then [iF 5 o.t0 o.f0 o.f1, borrowI o.t0, upperI o.t0] else if o.kind = 22 then [iF 70 o.t0 o.f0 o.f1, iM 11 o.t0 1, borrowI o.t0, upperI o.t0] else if o.kind = 29 then [{ iF 94 o.t0 o.f1 o.f2 with ra := o.f0 }] else if o.kind = 31 then [{ iZ with form := 9, rd := o.f0 }]
  else if o.kind = 30 then (if o.n ≤ 255 then [iM 9 o.f0 o.n] else [{ iZ with form := 65, rn := o.f0, imm := Rm.ofN o.n }]) else []
set_option maxHeartbeats 4000000 in
set_option maxRecDepth 100000 in
theorem tests_pure (o : VO) (hn : 0 ≤ o.n ∧ o.n ≤ 4294967295) : PureF gT 56 [voP o] (.sl 11 (insP (testL o))) := by
  refine Spec.enter gTok P56 100 Tryd.func56 rfl (by kernel_rfl) ?_
  repeat' ((conv => whnf); first | (refine (And.intro (fun _ => ?_) (fun _ => ?_) : (_ → _) ∧ (_ → _)) <;> (first | (exfalso; first | contradiction | omega) | skip)) | refine Or.inl (And.intro (by first | exact inR_i64 (by omega) | exact inR_u32 (by omega) | exact inR_u64 (by omega) | exact inR_u8 (by omega)) ?_) | (refine And.intro (show (_ : Int) ≠ 0 by omega) (Or.inl (And.intro (show (0 : Int) ≤ _ by omega) (And.intro (show (0 : Int) < _ by omega) ?_)))) | (refine And.intro (show (_ : Int) ≠ 0 by omega) (Or.inl (And.intro (show (0 : Int) ≤ _ by omega) (And.intro (by first | exact (show (_ : Int) ≤ 9223372036854775807 by omega) | exact (show (_ : Int) ≤ 4294967295 by omega)) (And.intro (show (0 : Int) < _ by omega) ?_))))) | (refine Exists.intro [] (And.intro no_rl ((immof_pure o.n hn).use (by repeat' first | exact trivial | exact rfl | exact Iff.rfl | exact Or.inl rfl | refine And.intro ?_ ?_) rfl rfl ?_))) | (refine Exists.intro [] (And.intro no_rl ((borrow_pure o.t0).use (by repeat' first | exact trivial | exact rfl | exact Iff.rfl | exact Or.inl rfl | refine And.intro ?_ ?_) rfl rfl ?_))) | (refine Exists.intro [] (And.intro no_rl ((upper_pure o.t0).use (by repeat' first | exact trivial | exact rfl | exact Iff.rfl | exact Or.inl rfl | refine And.intro ?_ ?_) rfl rfl ?_))) | (refine retE ?_; show _ = _; simp only [testL, *, if_true, if_false, reduceIte, Int.reduceEq]; try rfl) | (intro _))

/-- an operation's instructions -/
def insL (o : VO) : List IN := if threeF o.kind ≠ 0 then [iF (threeF o.kind) o.t0 o.f0 o.f1] else memL o ++ pairL o ++ singL o ++ testL o
open Classical in
noncomputable def insR (o : VO) : PV := if vright o ∧ vsmall o then .tup [.sl 11 (insP (insL o)), .int .i64 0] else .tup [.sl 11 [], .int .i64 10]
theorem threeF_in (k : Int) : threeF k = 0 ∨ (1 ≤ threeF k ∧ threeF k ≤ 100) := by
  unfold threeF
  repeat' split <;> first | (exact .inl rfl) | (exact .inr (by decide)) | skip
theorem insLen (o : VO) : (memL o).length + (pairL o).length + (singL o).length + (testL o).length ≤ 100 := by
  have h1 : (memL o).length ≤ 10 := by unfold memL; (repeat' split) <;> simp
  have h2 : (pairL o).length ≤ 10 := by unfold pairL; (repeat' split) <;> simp
  have h3 : (singL o).length ≤ 10 := by unfold singL numL; (repeat' split) <;> simp
  have h4 : (testL o).length ≤ 10 := by unfold testL; (repeat' split) <;> simp
  omega
set_option maxHeartbeats 4000000 in
set_option maxRecDepth 100000 in
theorem insts_pure (o : VO) (hn : 0 ≤ o.n ∧ o.n ≤ 4294967295) : PureF gT 22 [voP o] (insR o) := by
  refine Spec.enter gTok P22 100 Tryd.func22 rfl (by kernel_rfl) ?_
  refine ⟨[], no_rl, (vright_pure o hn).use (by repeat' first | exact trivial | exact rfl | exact Iff.rfl | exact Or.inl rfl | refine And.intro ?_ ?_) rfl rfl ?_⟩
  refine And.intro (fun h1 => ?_) (fun h1 => ?_)
  · rw [insR, if_neg (fun h => h1 h.1)]
    (refine retE ?_; repeat' first | exact trivial | exact rfl | exact Iff.rfl | exact Or.inl rfl | refine And.intro ?_ ?_)
  refine ⟨[], no_rl, (small_pure o).use (by repeat' first | exact trivial | exact rfl | exact Iff.rfl | exact Or.inl rfl | refine And.intro ?_ ?_) rfl rfl ?_⟩
  refine And.intro (fun h2 => ?_) (fun h2 => ?_)
  · rw [insR, if_neg (fun h => h2 h.2)]
    (refine retE ?_; repeat' first | exact trivial | exact rfl | exact Iff.rfl | exact Or.inl rfl | refine And.intro ?_ ?_)
  rw [insR, if_pos ⟨Classical.not_not.1 h1, Classical.not_not.1 h2⟩]
  refine ⟨[], no_rl, (three_pure o.kind).use (by repeat' first | exact trivial | exact rfl | exact Iff.rfl | exact Or.inl rfl | refine And.intro ?_ ?_) rfl rfl ?_⟩
  refine ⟨[], no_rl, (is_pure _).use (by repeat' first | exact trivial | exact rfl | exact Iff.rfl | exact Or.inl rfl | refine And.intro ?_ ?_) rfl rfl ?_⟩
  refine And.intro (fun h3 => ?_) (fun h3 => ?_)
  · rw [insL, if_pos (by omega)]
    (refine retE ?_; repeat' first | exact trivial | exact rfl | exact Iff.rfl | exact Or.inl rfl | refine And.intro ?_ ?_)
  · have h0 : ¬ threeF o.kind ≠ 0 := by have := threeF_in o.kind; omega
    rw [insL, if_neg h0]
    refine ⟨[], no_rl, (memory_pure o hn).use (by repeat' first | exact trivial | exact rfl | exact Iff.rfl | exact Or.inl rfl | refine And.intro ?_ ?_) rfl rfl ?_⟩
    refine ⟨[], no_rl, (pairs_pure o).use (by repeat' first | exact trivial | exact rfl | exact Iff.rfl | exact Or.inl rfl | refine And.intro ?_ ?_) rfl rfl ?_⟩
    refine ⟨[], no_rl, (single_pure o hn).use (by repeat' first | exact trivial | exact rfl | exact Iff.rfl | exact Or.inl rfl | refine And.intro ?_ ?_) rfl rfl ?_⟩
    refine ⟨[], no_rl, (tests_pure o hn).use (by repeat' first | exact trivial | exact rfl | exact Iff.rfl | exact Or.inl rfl | refine And.intro ?_ ?_) rfl rfl ?_⟩
    have hl := insLen o
    refine ⟨[], no_rl, (concat_pure (memL o) (pairL o) (singL o) (testL o) (by omega)).useF [1] rfl ⟨.inr ⟨rfl, rfl⟩, trivial⟩ rfl rfl ?_⟩
    (refine retE ?_; repeat' first | exact trivial | exact rfl | exact Iff.rfl | exact Or.inl rfl | refine And.intro ?_ ?_)

end Go.Proofs.YthpkejlmelednaaDoor.Pw

/- Chapter 18 over values: the document's operations that may be, and their instructions. -/
namespace Go.Proofs.YthpkejlmelednaaDoor.Pw
open Go Go.RowKit

/-! ### which operations may be -/
theorem rreg_pure (r i n : Int) : PureF gT 101 [.int .i64 r, .int .i64 i, .int .i64 n] (.bool (plc i n r)) := by
  refine Spec.enter gTok P101 100 Tryd.func101 rfl (by kernel_rfl) ?_
  repeat' ((conv => whnf); first | (refine (And.intro (fun _ => ?_) (fun _ => ?_) : (_ → _) ∧ (_ → _)) <;> (first | (exfalso; first | contradiction | omega) | skip)) | refine Or.inl (And.intro (by first | exact inR_i64 (by omega) | exact inR_u32 (by omega) | exact inR_u64 (by omega) | exact inR_u8 (by omega)) ?_) | (refine And.intro (show (_ : Int) ≠ 0 by omega) (Or.inl (And.intro (show (0 : Int) ≤ _ by omega) (And.intro (show (0 : Int) < _ by omega) ?_)))) | (refine And.intro (show (_ : Int) ≠ 0 by omega) (Or.inl (And.intro (show (0 : Int) ≤ _ by omega) (And.intro (by first | exact (show (_ : Int) ≤ 9223372036854775807 by omega) | exact (show (_ : Int) ≤ 4294967295 by omega)) (And.intro (show (0 : Int) < _ by omega) ?_))))) | (refine retE ?_; show ¬ plc _ _ _; unfold plc; omega) | (refine retE ?_; show _ ↔ plc _ _ _; unfold plc; omega) | (intro _))
set_option maxRecDepth 100000 in
theorem rshape_1 : PureF gT 100 [.int .i64 1] (.tup [.int .i64 (vto 1), .int .i64 (vfrom 1)]) := by
  refine Spec.enter gTok P100 100 Tryd.func100 rfl (by kernel_rfl) ?_
  repeat' ((conv => whnf); first | (refine (And.intro (fun _ => ?_) (fun _ => ?_) : (_ → _) ∧ (_ → _)) <;> (first | (exfalso; first | contradiction | omega) | skip)) | refine Or.inl (And.intro (by first | exact inR_i64 (by omega) | exact inR_u32 (by omega) | exact inR_u64 (by omega) | exact inR_u8 (by omega)) ?_) | (refine And.intro (show (_ : Int) ≠ 0 by omega) (Or.inl (And.intro (show (0 : Int) ≤ _ by omega) (And.intro (show (0 : Int) < _ by omega) ?_)))) | (refine And.intro (show (_ : Int) ≠ 0 by omega) (Or.inl (And.intro (show (0 : Int) ≤ _ by omega) (And.intro (by first | exact (show (_ : Int) ≤ 9223372036854775807 by omega) | exact (show (_ : Int) ≤ 4294967295 by omega)) (And.intro (show (0 : Int) < _ by omega) ?_))))) | (refine Or.inl (Exists.intro 1 (And.intro rfl ?_))) | ((refine retE ?_; repeat' first | exact trivial | exact rfl | exact Iff.rfl | exact Or.inl rfl | refine And.intro ?_ ?_)) | (refine And.intro (show (0 : Int) ≤ _ by omega) (And.intro (show _ < (_ : Int) by omega) ?_)) | (intro _))
set_option maxRecDepth 100000 in
theorem rshape_2 : PureF gT 100 [.int .i64 2] (.tup [.int .i64 (vto 2), .int .i64 (vfrom 2)]) := by
  refine Spec.enter gTok P100 100 Tryd.func100 rfl (by kernel_rfl) ?_
  repeat' ((conv => whnf); first | (refine (And.intro (fun _ => ?_) (fun _ => ?_) : (_ → _) ∧ (_ → _)) <;> (first | (exfalso; first | contradiction | omega) | skip)) | refine Or.inl (And.intro (by first | exact inR_i64 (by omega) | exact inR_u32 (by omega) | exact inR_u64 (by omega) | exact inR_u8 (by omega)) ?_) | (refine And.intro (show (_ : Int) ≠ 0 by omega) (Or.inl (And.intro (show (0 : Int) ≤ _ by omega) (And.intro (show (0 : Int) < _ by omega) ?_)))) | (refine And.intro (show (_ : Int) ≠ 0 by omega) (Or.inl (And.intro (show (0 : Int) ≤ _ by omega) (And.intro (by first | exact (show (_ : Int) ≤ 9223372036854775807 by omega) | exact (show (_ : Int) ≤ 4294967295 by omega)) (And.intro (show (0 : Int) < _ by omega) ?_))))) | (refine Or.inl (Exists.intro 2 (And.intro rfl ?_))) | ((refine retE ?_; repeat' first | exact trivial | exact rfl | exact Iff.rfl | exact Or.inl rfl | refine And.intro ?_ ?_)) | (refine And.intro (show (0 : Int) ≤ _ by omega) (And.intro (show _ < (_ : Int) by omega) ?_)) | (intro _))
set_option maxRecDepth 100000 in
theorem rshape_3 : PureF gT 100 [.int .i64 3] (.tup [.int .i64 (vto 3), .int .i64 (vfrom 3)]) := by
  refine Spec.enter gTok P100 100 Tryd.func100 rfl (by kernel_rfl) ?_
  repeat' ((conv => whnf); first | (refine (And.intro (fun _ => ?_) (fun _ => ?_) : (_ → _) ∧ (_ → _)) <;> (first | (exfalso; first | contradiction | omega) | skip)) | refine Or.inl (And.intro (by first | exact inR_i64 (by omega) | exact inR_u32 (by omega) | exact inR_u64 (by omega) | exact inR_u8 (by omega)) ?_) | (refine And.intro (show (_ : Int) ≠ 0 by omega) (Or.inl (And.intro (show (0 : Int) ≤ _ by omega) (And.intro (show (0 : Int) < _ by omega) ?_)))) | (refine And.intro (show (_ : Int) ≠ 0 by omega) (Or.inl (And.intro (show (0 : Int) ≤ _ by omega) (And.intro (by first | exact (show (_ : Int) ≤ 9223372036854775807 by omega) | exact (show (_ : Int) ≤ 4294967295 by omega)) (And.intro (show (0 : Int) < _ by omega) ?_))))) | (refine Or.inl (Exists.intro 3 (And.intro rfl ?_))) | ((refine retE ?_; repeat' first | exact trivial | exact rfl | exact Iff.rfl | exact Or.inl rfl | refine And.intro ?_ ?_)) | (refine And.intro (show (0 : Int) ≤ _ by omega) (And.intro (show _ < (_ : Int) by omega) ?_)) | (intro _))
set_option maxRecDepth 100000 in
theorem rshape_4 : PureF gT 100 [.int .i64 4] (.tup [.int .i64 (vto 4), .int .i64 (vfrom 4)]) := by
  refine Spec.enter gTok P100 100 Tryd.func100 rfl (by kernel_rfl) ?_
  repeat' ((conv => whnf); first | (refine (And.intro (fun _ => ?_) (fun _ => ?_) : (_ → _) ∧ (_ → _)) <;> (first | (exfalso; first | contradiction | omega) | skip)) | refine Or.inl (And.intro (by first | exact inR_i64 (by omega) | exact inR_u32 (by omega) | exact inR_u64 (by omega) | exact inR_u8 (by omega)) ?_) | (refine And.intro (show (_ : Int) ≠ 0 by omega) (Or.inl (And.intro (show (0 : Int) ≤ _ by omega) (And.intro (show (0 : Int) < _ by omega) ?_)))) | (refine And.intro (show (_ : Int) ≠ 0 by omega) (Or.inl (And.intro (show (0 : Int) ≤ _ by omega) (And.intro (by first | exact (show (_ : Int) ≤ 9223372036854775807 by omega) | exact (show (_ : Int) ≤ 4294967295 by omega)) (And.intro (show (0 : Int) < _ by omega) ?_))))) | (refine Or.inl (Exists.intro 4 (And.intro rfl ?_))) | ((refine retE ?_; repeat' first | exact trivial | exact rfl | exact Iff.rfl | exact Or.inl rfl | refine And.intro ?_ ?_)) | (refine And.intro (show (0 : Int) ≤ _ by omega) (And.intro (show _ < (_ : Int) by omega) ?_)) | (intro _))
set_option maxRecDepth 100000 in
theorem rshape_5 : PureF gT 100 [.int .i64 5] (.tup [.int .i64 (vto 5), .int .i64 (vfrom 5)]) := by
  refine Spec.enter gTok P100 100 Tryd.func100 rfl (by kernel_rfl) ?_
  repeat' ((conv => whnf); first | (refine (And.intro (fun _ => ?_) (fun _ => ?_) : (_ → _) ∧ (_ → _)) <;> (first | (exfalso; first | contradiction | omega) | skip)) | refine Or.inl (And.intro (by first | exact inR_i64 (by omega) | exact inR_u32 (by omega) | exact inR_u64 (by omega) | exact inR_u8 (by omega)) ?_) | (refine And.intro (show (_ : Int) ≠ 0 by omega) (Or.inl (And.intro (show (0 : Int) ≤ _ by omega) (And.intro (show (0 : Int) < _ by omega) ?_)))) | (refine And.intro (show (_ : Int) ≠ 0 by omega) (Or.inl (And.intro (show (0 : Int) ≤ _ by omega) (And.intro (by first | exact (show (_ : Int) ≤ 9223372036854775807 by omega) | exact (show (_ : Int) ≤ 4294967295 by omega)) (And.intro (show (0 : Int) < _ by omega) ?_))))) | (refine Or.inl (Exists.intro 5 (And.intro rfl ?_))) | ((refine retE ?_; repeat' first | exact trivial | exact rfl | exact Iff.rfl | exact Or.inl rfl | refine And.intro ?_ ?_)) | (refine And.intro (show (0 : Int) ≤ _ by omega) (And.intro (show _ < (_ : Int) by omega) ?_)) | (intro _))
set_option maxRecDepth 100000 in
theorem rshape_6 : PureF gT 100 [.int .i64 6] (.tup [.int .i64 (vto 6), .int .i64 (vfrom 6)]) := by
  refine Spec.enter gTok P100 100 Tryd.func100 rfl (by kernel_rfl) ?_
  repeat' ((conv => whnf); first | (refine (And.intro (fun _ => ?_) (fun _ => ?_) : (_ → _) ∧ (_ → _)) <;> (first | (exfalso; first | contradiction | omega) | skip)) | refine Or.inl (And.intro (by first | exact inR_i64 (by omega) | exact inR_u32 (by omega) | exact inR_u64 (by omega) | exact inR_u8 (by omega)) ?_) | (refine And.intro (show (_ : Int) ≠ 0 by omega) (Or.inl (And.intro (show (0 : Int) ≤ _ by omega) (And.intro (show (0 : Int) < _ by omega) ?_)))) | (refine And.intro (show (_ : Int) ≠ 0 by omega) (Or.inl (And.intro (show (0 : Int) ≤ _ by omega) (And.intro (by first | exact (show (_ : Int) ≤ 9223372036854775807 by omega) | exact (show (_ : Int) ≤ 4294967295 by omega)) (And.intro (show (0 : Int) < _ by omega) ?_))))) | (refine Or.inl (Exists.intro 6 (And.intro rfl ?_))) | ((refine retE ?_; repeat' first | exact trivial | exact rfl | exact Iff.rfl | exact Or.inl rfl | refine And.intro ?_ ?_)) | (refine And.intro (show (0 : Int) ≤ _ by omega) (And.intro (show _ < (_ : Int) by omega) ?_)) | (intro _))
set_option maxRecDepth 100000 in
theorem rshape_7 : PureF gT 100 [.int .i64 7] (.tup [.int .i64 (vto 7), .int .i64 (vfrom 7)]) := by
  refine Spec.enter gTok P100 100 Tryd.func100 rfl (by kernel_rfl) ?_
  repeat' ((conv => whnf); first | (refine (And.intro (fun _ => ?_) (fun _ => ?_) : (_ → _) ∧ (_ → _)) <;> (first | (exfalso; first | contradiction | omega) | skip)) | refine Or.inl (And.intro (by first | exact inR_i64 (by omega) | exact inR_u32 (by omega) | exact inR_u64 (by omega) | exact inR_u8 (by omega)) ?_) | (refine And.intro (show (_ : Int) ≠ 0 by omega) (Or.inl (And.intro (show (0 : Int) ≤ _ by omega) (And.intro (show (0 : Int) < _ by omega) ?_)))) | (refine And.intro (show (_ : Int) ≠ 0 by omega) (Or.inl (And.intro (show (0 : Int) ≤ _ by omega) (And.intro (by first | exact (show (_ : Int) ≤ 9223372036854775807 by omega) | exact (show (_ : Int) ≤ 4294967295 by omega)) (And.intro (show (0 : Int) < _ by omega) ?_))))) | (refine Or.inl (Exists.intro 7 (And.intro rfl ?_))) | ((refine retE ?_; repeat' first | exact trivial | exact rfl | exact Iff.rfl | exact Or.inl rfl | refine And.intro ?_ ?_)) | (refine And.intro (show (0 : Int) ≤ _ by omega) (And.intro (show _ < (_ : Int) by omega) ?_)) | (intro _))
set_option maxRecDepth 100000 in
theorem rshape_8 : PureF gT 100 [.int .i64 8] (.tup [.int .i64 (vto 8), .int .i64 (vfrom 8)]) := by
  refine Spec.enter gTok P100 100 Tryd.func100 rfl (by kernel_rfl) ?_
  repeat' ((conv => whnf); first | (refine (And.intro (fun _ => ?_) (fun _ => ?_) : (_ → _) ∧ (_ → _)) <;> (first | (exfalso; first | contradiction | omega) | skip)) | refine Or.inl (And.intro (by first | exact inR_i64 (by omega) | exact inR_u32 (by omega) | exact inR_u64 (by omega) | exact inR_u8 (by omega)) ?_) | (refine And.intro (show (_ : Int) ≠ 0 by omega) (Or.inl (And.intro (show (0 : Int) ≤ _ by omega) (And.intro (show (0 : Int) < _ by omega) ?_)))) | (refine And.intro (show (_ : Int) ≠ 0 by omega) (Or.inl (And.intro (show (0 : Int) ≤ _ by omega) (And.intro (by first | exact (show (_ : Int) ≤ 9223372036854775807 by omega) | exact (show (_ : Int) ≤ 4294967295 by omega)) (And.intro (show (0 : Int) < _ by omega) ?_))))) | (refine Or.inl (Exists.intro 8 (And.intro rfl ?_))) | ((refine retE ?_; repeat' first | exact trivial | exact rfl | exact Iff.rfl | exact Or.inl rfl | refine And.intro ?_ ?_)) | (refine And.intro (show (0 : Int) ≤ _ by omega) (And.intro (show _ < (_ : Int) by omega) ?_)) | (intro _))
set_option maxRecDepth 100000 in
theorem rshape_9 : PureF gT 100 [.int .i64 9] (.tup [.int .i64 (vto 9), .int .i64 (vfrom 9)]) := by
  refine Spec.enter gTok P100 100 Tryd.func100 rfl (by kernel_rfl) ?_
  repeat' ((conv => whnf); first | (refine (And.intro (fun _ => ?_) (fun _ => ?_) : (_ → _) ∧ (_ → _)) <;> (first | (exfalso; first | contradiction | omega) | skip)) | refine Or.inl (And.intro (by first | exact inR_i64 (by omega) | exact inR_u32 (by omega) | exact inR_u64 (by omega) | exact inR_u8 (by omega)) ?_) | (refine And.intro (show (_ : Int) ≠ 0 by omega) (Or.inl (And.intro (show (0 : Int) ≤ _ by omega) (And.intro (show (0 : Int) < _ by omega) ?_)))) | (refine And.intro (show (_ : Int) ≠ 0 by omega) (Or.inl (And.intro (show (0 : Int) ≤ _ by omega) (And.intro (by first | exact (show (_ : Int) ≤ 9223372036854775807 by omega) | exact (show (_ : Int) ≤ 4294967295 by omega)) (And.intro (show (0 : Int) < _ by omega) ?_))))) | (refine Or.inl (Exists.intro 9 (And.intro rfl ?_))) | ((refine retE ?_; repeat' first | exact trivial | exact rfl | exact Iff.rfl | exact Or.inl rfl | refine And.intro ?_ ?_)) | (refine And.intro (show (0 : Int) ≤ _ by omega) (And.intro (show _ < (_ : Int) by omega) ?_)) | (intro _))
set_option maxRecDepth 100000 in
theorem rshape_10 : PureF gT 100 [.int .i64 10] (.tup [.int .i64 (vto 10), .int .i64 (vfrom 10)]) := by
  refine Spec.enter gTok P100 100 Tryd.func100 rfl (by kernel_rfl) ?_
  repeat' ((conv => whnf); first | (refine (And.intro (fun _ => ?_) (fun _ => ?_) : (_ → _) ∧ (_ → _)) <;> (first | (exfalso; first | contradiction | omega) | skip)) | refine Or.inl (And.intro (by first | exact inR_i64 (by omega) | exact inR_u32 (by omega) | exact inR_u64 (by omega) | exact inR_u8 (by omega)) ?_) | (refine And.intro (show (_ : Int) ≠ 0 by omega) (Or.inl (And.intro (show (0 : Int) ≤ _ by omega) (And.intro (show (0 : Int) < _ by omega) ?_)))) | (refine And.intro (show (_ : Int) ≠ 0 by omega) (Or.inl (And.intro (show (0 : Int) ≤ _ by omega) (And.intro (by first | exact (show (_ : Int) ≤ 9223372036854775807 by omega) | exact (show (_ : Int) ≤ 4294967295 by omega)) (And.intro (show (0 : Int) < _ by omega) ?_))))) | (refine Or.inl (Exists.intro 10 (And.intro rfl ?_))) | ((refine retE ?_; repeat' first | exact trivial | exact rfl | exact Iff.rfl | exact Or.inl rfl | refine And.intro ?_ ?_)) | (refine And.intro (show (0 : Int) ≤ _ by omega) (And.intro (show _ < (_ : Int) by omega) ?_)) | (intro _))
set_option maxRecDepth 100000 in
theorem rshape_11 : PureF gT 100 [.int .i64 11] (.tup [.int .i64 (vto 11), .int .i64 (vfrom 11)]) := by
  refine Spec.enter gTok P100 100 Tryd.func100 rfl (by kernel_rfl) ?_
  repeat' ((conv => whnf); first | (refine (And.intro (fun _ => ?_) (fun _ => ?_) : (_ → _) ∧ (_ → _)) <;> (first | (exfalso; first | contradiction | omega) | skip)) | refine Or.inl (And.intro (by first | exact inR_i64 (by omega) | exact inR_u32 (by omega) | exact inR_u64 (by omega) | exact inR_u8 (by omega)) ?_) | (refine And.intro (show (_ : Int) ≠ 0 by omega) (Or.inl (And.intro (show (0 : Int) ≤ _ by omega) (And.intro (show (0 : Int) < _ by omega) ?_)))) | (refine And.intro (show (_ : Int) ≠ 0 by omega) (Or.inl (And.intro (show (0 : Int) ≤ _ by omega) (And.intro (by first | exact (show (_ : Int) ≤ 9223372036854775807 by omega) | exact (show (_ : Int) ≤ 4294967295 by omega)) (And.intro (show (0 : Int) < _ by omega) ?_))))) | (refine Or.inl (Exists.intro 11 (And.intro rfl ?_))) | ((refine retE ?_; repeat' first | exact trivial | exact rfl | exact Iff.rfl | exact Or.inl rfl | refine And.intro ?_ ?_)) | (refine And.intro (show (0 : Int) ≤ _ by omega) (And.intro (show _ < (_ : Int) by omega) ?_)) | (intro _))
set_option maxRecDepth 100000 in
theorem rshape_12 : PureF gT 100 [.int .i64 12] (.tup [.int .i64 (vto 12), .int .i64 (vfrom 12)]) := by
  refine Spec.enter gTok P100 100 Tryd.func100 rfl (by kernel_rfl) ?_
  repeat' ((conv => whnf); first | (refine (And.intro (fun _ => ?_) (fun _ => ?_) : (_ → _) ∧ (_ → _)) <;> (first | (exfalso; first | contradiction | omega) | skip)) | refine Or.inl (And.intro (by first | exact inR_i64 (by omega) | exact inR_u32 (by omega) | exact inR_u64 (by omega) | exact inR_u8 (by omega)) ?_) | (refine And.intro (show (_ : Int) ≠ 0 by omega) (Or.inl (And.intro (show (0 : Int) ≤ _ by omega) (And.intro (show (0 : Int) < _ by omega) ?_)))) | (refine And.intro (show (_ : Int) ≠ 0 by omega) (Or.inl (And.intro (show (0 : Int) ≤ _ by omega) (And.intro (by first | exact (show (_ : Int) ≤ 9223372036854775807 by omega) | exact (show (_ : Int) ≤ 4294967295 by omega)) (And.intro (show (0 : Int) < _ by omega) ?_))))) | (refine Or.inl (Exists.intro 12 (And.intro rfl ?_))) | ((refine retE ?_; repeat' first | exact trivial | exact rfl | exact Iff.rfl | exact Or.inl rfl | refine And.intro ?_ ?_)) | (refine And.intro (show (0 : Int) ≤ _ by omega) (And.intro (show _ < (_ : Int) by omega) ?_)) | (intro _))
set_option maxRecDepth 100000 in
theorem rshape_13 : PureF gT 100 [.int .i64 13] (.tup [.int .i64 (vto 13), .int .i64 (vfrom 13)]) := by
  refine Spec.enter gTok P100 100 Tryd.func100 rfl (by kernel_rfl) ?_
  repeat' ((conv => whnf); first | (refine (And.intro (fun _ => ?_) (fun _ => ?_) : (_ → _) ∧ (_ → _)) <;> (first | (exfalso; first | contradiction | omega) | skip)) | refine Or.inl (And.intro (by first | exact inR_i64 (by omega) | exact inR_u32 (by omega) | exact inR_u64 (by omega) | exact inR_u8 (by omega)) ?_) | (refine And.intro (show (_ : Int) ≠ 0 by omega) (Or.inl (And.intro (show (0 : Int) ≤ _ by omega) (And.intro (show (0 : Int) < _ by omega) ?_)))) | (refine And.intro (show (_ : Int) ≠ 0 by omega) (Or.inl (And.intro (show (0 : Int) ≤ _ by omega) (And.intro (by first | exact (show (_ : Int) ≤ 9223372036854775807 by omega) | exact (show (_ : Int) ≤ 4294967295 by omega)) (And.intro (show (0 : Int) < _ by omega) ?_))))) | (refine Or.inl (Exists.intro 13 (And.intro rfl ?_))) | ((refine retE ?_; repeat' first | exact trivial | exact rfl | exact Iff.rfl | exact Or.inl rfl | refine And.intro ?_ ?_)) | (refine And.intro (show (0 : Int) ≤ _ by omega) (And.intro (show _ < (_ : Int) by omega) ?_)) | (intro _))
set_option maxRecDepth 100000 in
theorem rshape_14 : PureF gT 100 [.int .i64 14] (.tup [.int .i64 (vto 14), .int .i64 (vfrom 14)]) := by
  refine Spec.enter gTok P100 100 Tryd.func100 rfl (by kernel_rfl) ?_
  repeat' ((conv => whnf); first | (refine (And.intro (fun _ => ?_) (fun _ => ?_) : (_ → _) ∧ (_ → _)) <;> (first | (exfalso; first | contradiction | omega) | skip)) | refine Or.inl (And.intro (by first | exact inR_i64 (by omega) | exact inR_u32 (by omega) | exact inR_u64 (by omega) | exact inR_u8 (by omega)) ?_) | (refine And.intro (show (_ : Int) ≠ 0 by omega) (Or.inl (And.intro (show (0 : Int) ≤ _ by omega) (And.intro (show (0 : Int) < _ by omega) ?_)))) | (refine And.intro (show (_ : Int) ≠ 0 by omega) (Or.inl (And.intro (show (0 : Int) ≤ _ by omega) (And.intro (by first | exact (show (_ : Int) ≤ 9223372036854775807 by omega) | exact (show (_ : Int) ≤ 4294967295 by omega)) (And.intro (show (0 : Int) < _ by omega) ?_))))) | (refine Or.inl (Exists.intro 14 (And.intro rfl ?_))) | ((refine retE ?_; repeat' first | exact trivial | exact rfl | exact Iff.rfl | exact Or.inl rfl | refine And.intro ?_ ?_)) | (refine And.intro (show (0 : Int) ≤ _ by omega) (And.intro (show _ < (_ : Int) by omega) ?_)) | (intro _))
set_option maxRecDepth 100000 in
theorem rshape_15 : PureF gT 100 [.int .i64 15] (.tup [.int .i64 (vto 15), .int .i64 (vfrom 15)]) := by
  refine Spec.enter gTok P100 100 Tryd.func100 rfl (by kernel_rfl) ?_
  repeat' ((conv => whnf); first | (refine (And.intro (fun _ => ?_) (fun _ => ?_) : (_ → _) ∧ (_ → _)) <;> (first | (exfalso; first | contradiction | omega) | skip)) | refine Or.inl (And.intro (by first | exact inR_i64 (by omega) | exact inR_u32 (by omega) | exact inR_u64 (by omega) | exact inR_u8 (by omega)) ?_) | (refine And.intro (show (_ : Int) ≠ 0 by omega) (Or.inl (And.intro (show (0 : Int) ≤ _ by omega) (And.intro (show (0 : Int) < _ by omega) ?_)))) | (refine And.intro (show (_ : Int) ≠ 0 by omega) (Or.inl (And.intro (show (0 : Int) ≤ _ by omega) (And.intro (by first | exact (show (_ : Int) ≤ 9223372036854775807 by omega) | exact (show (_ : Int) ≤ 4294967295 by omega)) (And.intro (show (0 : Int) < _ by omega) ?_))))) | (refine Or.inl (Exists.intro 15 (And.intro rfl ?_))) | ((refine retE ?_; repeat' first | exact trivial | exact rfl | exact Iff.rfl | exact Or.inl rfl | refine And.intro ?_ ?_)) | (refine And.intro (show (0 : Int) ≤ _ by omega) (And.intro (show _ < (_ : Int) by omega) ?_)) | (intro _))
set_option maxRecDepth 100000 in
theorem rshape_16 : PureF gT 100 [.int .i64 16] (.tup [.int .i64 (vto 16), .int .i64 (vfrom 16)]) := by
  refine Spec.enter gTok P100 100 Tryd.func100 rfl (by kernel_rfl) ?_
  repeat' ((conv => whnf); first | (refine (And.intro (fun _ => ?_) (fun _ => ?_) : (_ → _) ∧ (_ → _)) <;> (first | (exfalso; first | contradiction | omega) | skip)) | refine Or.inl (And.intro (by first | exact inR_i64 (by omega) | exact inR_u32 (by omega) | exact inR_u64 (by omega) | exact inR_u8 (by omega)) ?_) | (refine And.intro (show (_ : Int) ≠ 0 by omega) (Or.inl (And.intro (show (0 : Int) ≤ _ by omega) (And.intro (show (0 : Int) < _ by omega) ?_)))) | (refine And.intro (show (_ : Int) ≠ 0 by omega) (Or.inl (And.intro (show (0 : Int) ≤ _ by omega) (And.intro (by first | exact (show (_ : Int) ≤ 9223372036854775807 by omega) | exact (show (_ : Int) ≤ 4294967295 by omega)) (And.intro (show (0 : Int) < _ by omega) ?_))))) | (refine Or.inl (Exists.intro 16 (And.intro rfl ?_))) | ((refine retE ?_; repeat' first | exact trivial | exact rfl | exact Iff.rfl | exact Or.inl rfl | refine And.intro ?_ ?_)) | (refine And.intro (show (0 : Int) ≤ _ by omega) (And.intro (show _ < (_ : Int) by omega) ?_)) | (intro _))
set_option maxRecDepth 100000 in
theorem rshape_17 : PureF gT 100 [.int .i64 17] (.tup [.int .i64 (vto 17), .int .i64 (vfrom 17)]) := by
  refine Spec.enter gTok P100 100 Tryd.func100 rfl (by kernel_rfl) ?_
  repeat' ((conv => whnf); first | (refine (And.intro (fun _ => ?_) (fun _ => ?_) : (_ → _) ∧ (_ → _)) <;> (first | (exfalso; first | contradiction | omega) | skip)) | refine Or.inl (And.intro (by first | exact inR_i64 (by omega) | exact inR_u32 (by omega) | exact inR_u64 (by omega) | exact inR_u8 (by omega)) ?_) | (refine And.intro (show (_ : Int) ≠ 0 by omega) (Or.inl (And.intro (show (0 : Int) ≤ _ by omega) (And.intro (show (0 : Int) < _ by omega) ?_)))) | (refine And.intro (show (_ : Int) ≠ 0 by omega) (Or.inl (And.intro (show (0 : Int) ≤ _ by omega) (And.intro (by first | exact (show (_ : Int) ≤ 9223372036854775807 by omega) | exact (show (_ : Int) ≤ 4294967295 by omega)) (And.intro (show (0 : Int) < _ by omega) ?_))))) | (refine Or.inl (Exists.intro 17 (And.intro rfl ?_))) | ((refine retE ?_; repeat' first | exact trivial | exact rfl | exact Iff.rfl | exact Or.inl rfl | refine And.intro ?_ ?_)) | (refine And.intro (show (0 : Int) ≤ _ by omega) (And.intro (show _ < (_ : Int) by omega) ?_)) | (intro _))
set_option maxRecDepth 100000 in
theorem rshape_18 : PureF gT 100 [.int .i64 18] (.tup [.int .i64 (vto 18), .int .i64 (vfrom 18)]) := by
  refine Spec.enter gTok P100 100 Tryd.func100 rfl (by kernel_rfl) ?_
  repeat' ((conv => whnf); first | (refine (And.intro (fun _ => ?_) (fun _ => ?_) : (_ → _) ∧ (_ → _)) <;> (first | (exfalso; first | contradiction | omega) | skip)) | refine Or.inl (And.intro (by first | exact inR_i64 (by omega) | exact inR_u32 (by omega) | exact inR_u64 (by omega) | exact inR_u8 (by omega)) ?_) | (refine And.intro (show (_ : Int) ≠ 0 by omega) (Or.inl (And.intro (show (0 : Int) ≤ _ by omega) (And.intro (show (0 : Int) < _ by omega) ?_)))) | (refine And.intro (show (_ : Int) ≠ 0 by omega) (Or.inl (And.intro (show (0 : Int) ≤ _ by omega) (And.intro (by first | exact (show (_ : Int) ≤ 9223372036854775807 by omega) | exact (show (_ : Int) ≤ 4294967295 by omega)) (And.intro (show (0 : Int) < _ by omega) ?_))))) | (refine Or.inl (Exists.intro 18 (And.intro rfl ?_))) | ((refine retE ?_; repeat' first | exact trivial | exact rfl | exact Iff.rfl | exact Or.inl rfl | refine And.intro ?_ ?_)) | (refine And.intro (show (0 : Int) ≤ _ by omega) (And.intro (show _ < (_ : Int) by omega) ?_)) | (intro _))
set_option maxRecDepth 100000 in
theorem rshape_19 : PureF gT 100 [.int .i64 19] (.tup [.int .i64 (vto 19), .int .i64 (vfrom 19)]) := by
  refine Spec.enter gTok P100 100 Tryd.func100 rfl (by kernel_rfl) ?_
  repeat' ((conv => whnf); first | (refine (And.intro (fun _ => ?_) (fun _ => ?_) : (_ → _) ∧ (_ → _)) <;> (first | (exfalso; first | contradiction | omega) | skip)) | refine Or.inl (And.intro (by first | exact inR_i64 (by omega) | exact inR_u32 (by omega) | exact inR_u64 (by omega) | exact inR_u8 (by omega)) ?_) | (refine And.intro (show (_ : Int) ≠ 0 by omega) (Or.inl (And.intro (show (0 : Int) ≤ _ by omega) (And.intro (show (0 : Int) < _ by omega) ?_)))) | (refine And.intro (show (_ : Int) ≠ 0 by omega) (Or.inl (And.intro (show (0 : Int) ≤ _ by omega) (And.intro (by first | exact (show (_ : Int) ≤ 9223372036854775807 by omega) | exact (show (_ : Int) ≤ 4294967295 by omega)) (And.intro (show (0 : Int) < _ by omega) ?_))))) | (refine Or.inl (Exists.intro 19 (And.intro rfl ?_))) | ((refine retE ?_; repeat' first | exact trivial | exact rfl | exact Iff.rfl | exact Or.inl rfl | refine And.intro ?_ ?_)) | (refine And.intro (show (0 : Int) ≤ _ by omega) (And.intro (show _ < (_ : Int) by omega) ?_)) | (intro _))
set_option maxRecDepth 100000 in
theorem rshape_20 : PureF gT 100 [.int .i64 20] (.tup [.int .i64 (vto 20), .int .i64 (vfrom 20)]) := by
  refine Spec.enter gTok P100 100 Tryd.func100 rfl (by kernel_rfl) ?_
  repeat' ((conv => whnf); first | (refine (And.intro (fun _ => ?_) (fun _ => ?_) : (_ → _) ∧ (_ → _)) <;> (first | (exfalso; first | contradiction | omega) | skip)) | refine Or.inl (And.intro (by first | exact inR_i64 (by omega) | exact inR_u32 (by omega) | exact inR_u64 (by omega) | exact inR_u8 (by omega)) ?_) | (refine And.intro (show (_ : Int) ≠ 0 by omega) (Or.inl (And.intro (show (0 : Int) ≤ _ by omega) (And.intro (show (0 : Int) < _ by omega) ?_)))) | (refine And.intro (show (_ : Int) ≠ 0 by omega) (Or.inl (And.intro (show (0 : Int) ≤ _ by omega) (And.intro (by first | exact (show (_ : Int) ≤ 9223372036854775807 by omega) | exact (show (_ : Int) ≤ 4294967295 by omega)) (And.intro (show (0 : Int) < _ by omega) ?_))))) | (refine Or.inl (Exists.intro 20 (And.intro rfl ?_))) | ((refine retE ?_; repeat' first | exact trivial | exact rfl | exact Iff.rfl | exact Or.inl rfl | refine And.intro ?_ ?_)) | (refine And.intro (show (0 : Int) ≤ _ by omega) (And.intro (show _ < (_ : Int) by omega) ?_)) | (intro _))
set_option maxRecDepth 100000 in
theorem rshape_21 : PureF gT 100 [.int .i64 21] (.tup [.int .i64 (vto 21), .int .i64 (vfrom 21)]) := by
  refine Spec.enter gTok P100 100 Tryd.func100 rfl (by kernel_rfl) ?_
  repeat' ((conv => whnf); first | (refine (And.intro (fun _ => ?_) (fun _ => ?_) : (_ → _) ∧ (_ → _)) <;> (first | (exfalso; first | contradiction | omega) | skip)) | refine Or.inl (And.intro (by first | exact inR_i64 (by omega) | exact inR_u32 (by omega) | exact inR_u64 (by omega) | exact inR_u8 (by omega)) ?_) | (refine And.intro (show (_ : Int) ≠ 0 by omega) (Or.inl (And.intro (show (0 : Int) ≤ _ by omega) (And.intro (show (0 : Int) < _ by omega) ?_)))) | (refine And.intro (show (_ : Int) ≠ 0 by omega) (Or.inl (And.intro (show (0 : Int) ≤ _ by omega) (And.intro (by first | exact (show (_ : Int) ≤ 9223372036854775807 by omega) | exact (show (_ : Int) ≤ 4294967295 by omega)) (And.intro (show (0 : Int) < _ by omega) ?_))))) | (refine Or.inl (Exists.intro 21 (And.intro rfl ?_))) | ((refine retE ?_; repeat' first | exact trivial | exact rfl | exact Iff.rfl | exact Or.inl rfl | refine And.intro ?_ ?_)) | (refine And.intro (show (0 : Int) ≤ _ by omega) (And.intro (show _ < (_ : Int) by omega) ?_)) | (intro _))
set_option maxRecDepth 100000 in
theorem rshape_22 : PureF gT 100 [.int .i64 22] (.tup [.int .i64 (vto 22), .int .i64 (vfrom 22)]) := by
  refine Spec.enter gTok P100 100 Tryd.func100 rfl (by kernel_rfl) ?_
  repeat' ((conv => whnf); first | (refine (And.intro (fun _ => ?_) (fun _ => ?_) : (_ → _) ∧ (_ → _)) <;> (first | (exfalso; first | contradiction | omega) | skip)) | refine Or.inl (And.intro (by first | exact inR_i64 (by omega) | exact inR_u32 (by omega) | exact inR_u64 (by omega) | exact inR_u8 (by omega)) ?_) | (refine And.intro (show (_ : Int) ≠ 0 by omega) (Or.inl (And.intro (show (0 : Int) ≤ _ by omega) (And.intro (show (0 : Int) < _ by omega) ?_)))) | (refine And.intro (show (_ : Int) ≠ 0 by omega) (Or.inl (And.intro (show (0 : Int) ≤ _ by omega) (And.intro (by first | exact (show (_ : Int) ≤ 9223372036854775807 by omega) | exact (show (_ : Int) ≤ 4294967295 by omega)) (And.intro (show (0 : Int) < _ by omega) ?_))))) | (refine Or.inl (Exists.intro 22 (And.intro rfl ?_))) | ((refine retE ?_; repeat' first | exact trivial | exact rfl | exact Iff.rfl | exact Or.inl rfl | refine And.intro ?_ ?_)) | (refine And.intro (show (0 : Int) ≤ _ by omega) (And.intro (show _ < (_ : Int) by omega) ?_)) | (intro _))
set_option maxRecDepth 100000 in
theorem rshape_23 : PureF gT 100 [.int .i64 23] (.tup [.int .i64 (vto 23), .int .i64 (vfrom 23)]) := by
  refine Spec.enter gTok P100 100 Tryd.func100 rfl (by kernel_rfl) ?_
  repeat' ((conv => whnf); first | (refine (And.intro (fun _ => ?_) (fun _ => ?_) : (_ → _) ∧ (_ → _)) <;> (first | (exfalso; first | contradiction | omega) | skip)) | refine Or.inl (And.intro (by first | exact inR_i64 (by omega) | exact inR_u32 (by omega) | exact inR_u64 (by omega) | exact inR_u8 (by omega)) ?_) | (refine And.intro (show (_ : Int) ≠ 0 by omega) (Or.inl (And.intro (show (0 : Int) ≤ _ by omega) (And.intro (show (0 : Int) < _ by omega) ?_)))) | (refine And.intro (show (_ : Int) ≠ 0 by omega) (Or.inl (And.intro (show (0 : Int) ≤ _ by omega) (And.intro (by first | exact (show (_ : Int) ≤ 9223372036854775807 by omega) | exact (show (_ : Int) ≤ 4294967295 by omega)) (And.intro (show (0 : Int) < _ by omega) ?_))))) | (refine Or.inl (Exists.intro 23 (And.intro rfl ?_))) | ((refine retE ?_; repeat' first | exact trivial | exact rfl | exact Iff.rfl | exact Or.inl rfl | refine And.intro ?_ ?_)) | (refine And.intro (show (0 : Int) ≤ _ by omega) (And.intro (show _ < (_ : Int) by omega) ?_)) | (intro _))
set_option maxRecDepth 100000 in
theorem rshape_24 : PureF gT 100 [.int .i64 24] (.tup [.int .i64 (vto 24), .int .i64 (vfrom 24)]) := by
  refine Spec.enter gTok P100 100 Tryd.func100 rfl (by kernel_rfl) ?_
  repeat' ((conv => whnf); first | (refine (And.intro (fun _ => ?_) (fun _ => ?_) : (_ → _) ∧ (_ → _)) <;> (first | (exfalso; first | contradiction | omega) | skip)) | refine Or.inl (And.intro (by first | exact inR_i64 (by omega) | exact inR_u32 (by omega) | exact inR_u64 (by omega) | exact inR_u8 (by omega)) ?_) | (refine And.intro (show (_ : Int) ≠ 0 by omega) (Or.inl (And.intro (show (0 : Int) ≤ _ by omega) (And.intro (show (0 : Int) < _ by omega) ?_)))) | (refine And.intro (show (_ : Int) ≠ 0 by omega) (Or.inl (And.intro (show (0 : Int) ≤ _ by omega) (And.intro (by first | exact (show (_ : Int) ≤ 9223372036854775807 by omega) | exact (show (_ : Int) ≤ 4294967295 by omega)) (And.intro (show (0 : Int) < _ by omega) ?_))))) | (refine Or.inl (Exists.intro 24 (And.intro rfl ?_))) | ((refine retE ?_; repeat' first | exact trivial | exact rfl | exact Iff.rfl | exact Or.inl rfl | refine And.intro ?_ ?_)) | (refine And.intro (show (0 : Int) ≤ _ by omega) (And.intro (show _ < (_ : Int) by omega) ?_)) | (intro _))
set_option maxRecDepth 100000 in
theorem rshape_25 : PureF gT 100 [.int .i64 25] (.tup [.int .i64 (vto 25), .int .i64 (vfrom 25)]) := by
  refine Spec.enter gTok P100 100 Tryd.func100 rfl (by kernel_rfl) ?_
  repeat' ((conv => whnf); first | (refine (And.intro (fun _ => ?_) (fun _ => ?_) : (_ → _) ∧ (_ → _)) <;> (first | (exfalso; first | contradiction | omega) | skip)) | refine Or.inl (And.intro (by first | exact inR_i64 (by omega) | exact inR_u32 (by omega) | exact inR_u64 (by omega) | exact inR_u8 (by omega)) ?_) | (refine And.intro (show (_ : Int) ≠ 0 by omega) (Or.inl (And.intro (show (0 : Int) ≤ _ by omega) (And.intro (show (0 : Int) < _ by omega) ?_)))) | (refine And.intro (show (_ : Int) ≠ 0 by omega) (Or.inl (And.intro (show (0 : Int) ≤ _ by omega) (And.intro (by first | exact (show (_ : Int) ≤ 9223372036854775807 by omega) | exact (show (_ : Int) ≤ 4294967295 by omega)) (And.intro (show (0 : Int) < _ by omega) ?_))))) | (refine Or.inl (Exists.intro 25 (And.intro rfl ?_))) | ((refine retE ?_; repeat' first | exact trivial | exact rfl | exact Iff.rfl | exact Or.inl rfl | refine And.intro ?_ ?_)) | (refine And.intro (show (0 : Int) ≤ _ by omega) (And.intro (show _ < (_ : Int) by omega) ?_)) | (intro _))
set_option maxRecDepth 100000 in
theorem rshape_26 : PureF gT 100 [.int .i64 26] (.tup [.int .i64 (vto 26), .int .i64 (vfrom 26)]) := by
  refine Spec.enter gTok P100 100 Tryd.func100 rfl (by kernel_rfl) ?_
  repeat' ((conv => whnf); first | (refine (And.intro (fun _ => ?_) (fun _ => ?_) : (_ → _) ∧ (_ → _)) <;> (first | (exfalso; first | contradiction | omega) | skip)) | refine Or.inl (And.intro (by first | exact inR_i64 (by omega) | exact inR_u32 (by omega) | exact inR_u64 (by omega) | exact inR_u8 (by omega)) ?_) | (refine And.intro (show (_ : Int) ≠ 0 by omega) (Or.inl (And.intro (show (0 : Int) ≤ _ by omega) (And.intro (show (0 : Int) < _ by omega) ?_)))) | (refine And.intro (show (_ : Int) ≠ 0 by omega) (Or.inl (And.intro (show (0 : Int) ≤ _ by omega) (And.intro (by first | exact (show (_ : Int) ≤ 9223372036854775807 by omega) | exact (show (_ : Int) ≤ 4294967295 by omega)) (And.intro (show (0 : Int) < _ by omega) ?_))))) | (refine Or.inl (Exists.intro 26 (And.intro rfl ?_))) | ((refine retE ?_; repeat' first | exact trivial | exact rfl | exact Iff.rfl | exact Or.inl rfl | refine And.intro ?_ ?_)) | (refine And.intro (show (0 : Int) ≤ _ by omega) (And.intro (show _ < (_ : Int) by omega) ?_)) | (intro _))
set_option maxRecDepth 100000 in
theorem rshape_27 : PureF gT 100 [.int .i64 27] (.tup [.int .i64 (vto 27), .int .i64 (vfrom 27)]) := by
  refine Spec.enter gTok P100 100 Tryd.func100 rfl (by kernel_rfl) ?_
  repeat' ((conv => whnf); first | (refine (And.intro (fun _ => ?_) (fun _ => ?_) : (_ → _) ∧ (_ → _)) <;> (first | (exfalso; first | contradiction | omega) | skip)) | refine Or.inl (And.intro (by first | exact inR_i64 (by omega) | exact inR_u32 (by omega) | exact inR_u64 (by omega) | exact inR_u8 (by omega)) ?_) | (refine And.intro (show (_ : Int) ≠ 0 by omega) (Or.inl (And.intro (show (0 : Int) ≤ _ by omega) (And.intro (show (0 : Int) < _ by omega) ?_)))) | (refine And.intro (show (_ : Int) ≠ 0 by omega) (Or.inl (And.intro (show (0 : Int) ≤ _ by omega) (And.intro (by first | exact (show (_ : Int) ≤ 9223372036854775807 by omega) | exact (show (_ : Int) ≤ 4294967295 by omega)) (And.intro (show (0 : Int) < _ by omega) ?_))))) | (refine Or.inl (Exists.intro 27 (And.intro rfl ?_))) | ((refine retE ?_; repeat' first | exact trivial | exact rfl | exact Iff.rfl | exact Or.inl rfl | refine And.intro ?_ ?_)) | (refine And.intro (show (0 : Int) ≤ _ by omega) (And.intro (show _ < (_ : Int) by omega) ?_)) | (intro _))
set_option maxRecDepth 100000 in
theorem rshape_28 : PureF gT 100 [.int .i64 28] (.tup [.int .i64 (vto 28), .int .i64 (vfrom 28)]) := by
  refine Spec.enter gTok P100 100 Tryd.func100 rfl (by kernel_rfl) ?_
  repeat' ((conv => whnf); first | (refine (And.intro (fun _ => ?_) (fun _ => ?_) : (_ → _) ∧ (_ → _)) <;> (first | (exfalso; first | contradiction | omega) | skip)) | refine Or.inl (And.intro (by first | exact inR_i64 (by omega) | exact inR_u32 (by omega) | exact inR_u64 (by omega) | exact inR_u8 (by omega)) ?_) | (refine And.intro (show (_ : Int) ≠ 0 by omega) (Or.inl (And.intro (show (0 : Int) ≤ _ by omega) (And.intro (show (0 : Int) < _ by omega) ?_)))) | (refine And.intro (show (_ : Int) ≠ 0 by omega) (Or.inl (And.intro (show (0 : Int) ≤ _ by omega) (And.intro (by first | exact (show (_ : Int) ≤ 9223372036854775807 by omega) | exact (show (_ : Int) ≤ 4294967295 by omega)) (And.intro (show (0 : Int) < _ by omega) ?_))))) | (refine Or.inl (Exists.intro 28 (And.intro rfl ?_))) | ((refine retE ?_; repeat' first | exact trivial | exact rfl | exact Iff.rfl | exact Or.inl rfl | refine And.intro ?_ ?_)) | (refine And.intro (show (0 : Int) ≤ _ by omega) (And.intro (show _ < (_ : Int) by omega) ?_)) | (intro _))
set_option maxRecDepth 100000 in
theorem rshape_29 : PureF gT 100 [.int .i64 29] (.tup [.int .i64 (vto 29), .int .i64 (vfrom 29)]) := by
  refine Spec.enter gTok P100 100 Tryd.func100 rfl (by kernel_rfl) ?_
  repeat' ((conv => whnf); first | (refine (And.intro (fun _ => ?_) (fun _ => ?_) : (_ → _) ∧ (_ → _)) <;> (first | (exfalso; first | contradiction | omega) | skip)) | refine Or.inl (And.intro (by first | exact inR_i64 (by omega) | exact inR_u32 (by omega) | exact inR_u64 (by omega) | exact inR_u8 (by omega)) ?_) | (refine And.intro (show (_ : Int) ≠ 0 by omega) (Or.inl (And.intro (show (0 : Int) ≤ _ by omega) (And.intro (show (0 : Int) < _ by omega) ?_)))) | (refine And.intro (show (_ : Int) ≠ 0 by omega) (Or.inl (And.intro (show (0 : Int) ≤ _ by omega) (And.intro (by first | exact (show (_ : Int) ≤ 9223372036854775807 by omega) | exact (show (_ : Int) ≤ 4294967295 by omega)) (And.intro (show (0 : Int) < _ by omega) ?_))))) | (refine Or.inl (Exists.intro 29 (And.intro rfl ?_))) | ((refine retE ?_; repeat' first | exact trivial | exact rfl | exact Iff.rfl | exact Or.inl rfl | refine And.intro ?_ ?_)) | (refine And.intro (show (0 : Int) ≤ _ by omega) (And.intro (show _ < (_ : Int) by omega) ?_)) | (intro _))
set_option maxRecDepth 100000 in
theorem rshape_30 : PureF gT 100 [.int .i64 30] (.tup [.int .i64 (vto 30), .int .i64 (vfrom 30)]) := by
  refine Spec.enter gTok P100 100 Tryd.func100 rfl (by kernel_rfl) ?_
  repeat' ((conv => whnf); first | (refine (And.intro (fun _ => ?_) (fun _ => ?_) : (_ → _) ∧ (_ → _)) <;> (first | (exfalso; first | contradiction | omega) | skip)) | refine Or.inl (And.intro (by first | exact inR_i64 (by omega) | exact inR_u32 (by omega) | exact inR_u64 (by omega) | exact inR_u8 (by omega)) ?_) | (refine And.intro (show (_ : Int) ≠ 0 by omega) (Or.inl (And.intro (show (0 : Int) ≤ _ by omega) (And.intro (show (0 : Int) < _ by omega) ?_)))) | (refine And.intro (show (_ : Int) ≠ 0 by omega) (Or.inl (And.intro (show (0 : Int) ≤ _ by omega) (And.intro (by first | exact (show (_ : Int) ≤ 9223372036854775807 by omega) | exact (show (_ : Int) ≤ 4294967295 by omega)) (And.intro (show (0 : Int) < _ by omega) ?_))))) | (refine Or.inl (Exists.intro 30 (And.intro rfl ?_))) | ((refine retE ?_; repeat' first | exact trivial | exact rfl | exact Iff.rfl | exact Or.inl rfl | refine And.intro ?_ ?_)) | (refine And.intro (show (0 : Int) ≤ _ by omega) (And.intro (show _ < (_ : Int) by omega) ?_)) | (intro _))
set_option maxRecDepth 100000 in
theorem rshape_31 : PureF gT 100 [.int .i64 31] (.tup [.int .i64 (vto 31), .int .i64 (vfrom 31)]) := by
  refine Spec.enter gTok P100 100 Tryd.func100 rfl (by kernel_rfl) ?_
  repeat' ((conv => whnf); first | (refine (And.intro (fun _ => ?_) (fun _ => ?_) : (_ → _) ∧ (_ → _)) <;> (first | (exfalso; first | contradiction | omega) | skip)) | refine Or.inl (And.intro (by first | exact inR_i64 (by omega) | exact inR_u32 (by omega) | exact inR_u64 (by omega) | exact inR_u8 (by omega)) ?_) | (refine And.intro (show (_ : Int) ≠ 0 by omega) (Or.inl (And.intro (show (0 : Int) ≤ _ by omega) (And.intro (show (0 : Int) < _ by omega) ?_)))) | (refine And.intro (show (_ : Int) ≠ 0 by omega) (Or.inl (And.intro (show (0 : Int) ≤ _ by omega) (And.intro (by first | exact (show (_ : Int) ≤ 9223372036854775807 by omega) | exact (show (_ : Int) ≤ 4294967295 by omega)) (And.intro (show (0 : Int) < _ by omega) ?_))))) | (refine Or.inl (Exists.intro 31 (And.intro rfl ?_))) | ((refine retE ?_; repeat' first | exact trivial | exact rfl | exact Iff.rfl | exact Or.inl rfl | refine And.intro ?_ ?_)) | (refine And.intro (show (0 : Int) ≤ _ by omega) (And.intro (show _ < (_ : Int) by omega) ?_)) | (intro _))
set_option maxRecDepth 100000 in
theorem rshape_no (k : Int) (h : ¬ (1 ≤ k ∧ k ≤ 31)) : PureF gT 100 [.int .i64 k] (.tup [.int .i64 (-1), .int .i64 (-1)]) := by
  refine Spec.enter gTok P100 100 Tryd.func100 rfl (by kernel_rfl) ?_
  repeat' ((conv => whnf); first | (refine (And.intro (fun _ => ?_) (fun _ => ?_) : (_ → _) ∧ (_ → _)) <;> (first | (exfalso; first | contradiction | omega) | skip)) | refine Or.inl (And.intro (by first | exact inR_i64 (by omega) | exact inR_u32 (by omega) | exact inR_u64 (by omega) | exact inR_u8 (by omega)) ?_) | (refine And.intro (show (_ : Int) ≠ 0 by omega) (Or.inl (And.intro (show (0 : Int) ≤ _ by omega) (And.intro (show (0 : Int) < _ by omega) ?_)))) | (refine And.intro (show (_ : Int) ≠ 0 by omega) (Or.inl (And.intro (show (0 : Int) ≤ _ by omega) (And.intro (by first | exact (show (_ : Int) ≤ 9223372036854775807 by omega) | exact (show (_ : Int) ≤ 4294967295 by omega)) (And.intro (show (0 : Int) < _ by omega) ?_))))) | ((refine retE ?_; repeat' first | exact trivial | exact rfl | exact Iff.rfl | exact Or.inl rfl | refine And.intro ?_ ?_)) | (intro _))
theorem rshape_pure (k : Int) (h : 1 ≤ k ∧ k ≤ 31) : PureF gT 100 [.int .i64 k] (.tup [.int .i64 (vto k), .int .i64 (vfrom k)]) := by
  rcases kinds h with rfl | rfl | rfl | rfl | rfl | rfl | rfl | rfl | rfl | rfl | rfl | rfl | rfl | rfl | rfl | rfl | rfl | rfl | rfl | rfl | rfl | rfl | rfl | rfl | rfl | rfl | rfl | rfl | rfl | rfl | rfl
  · exact rshape_1
  · exact rshape_2
  · exact rshape_3
  · exact rshape_4
  · exact rshape_5
  · exact rshape_6
  · exact rshape_7
  · exact rshape_8
  · exact rshape_9
  · exact rshape_10
  · exact rshape_11
  · exact rshape_12
  · exact rshape_13
  · exact rshape_14
  · exact rshape_15
  · exact rshape_16
  · exact rshape_17
  · exact rshape_18
  · exact rshape_19
  · exact rshape_20
  · exact rshape_21
  · exact rshape_22
  · exact rshape_23
  · exact rshape_24
  · exact rshape_25
  · exact rshape_26
  · exact rshape_27
  · exact rshape_28
  · exact rshape_29
  · exact rshape_30
  · exact rshape_31
  

end Go.Proofs.YthpkejlmelednaaDoor.Pw

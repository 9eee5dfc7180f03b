/- What the laws of this claim are proved with, joined (join.py) of 29 texts: no condition. -/
import Derived.Test.YtfnjlkmhnhojpaaDoorJcTermF
import Derived.Test.YtfnjlkmhnhojpaaDoorJcTermO
import Derived.Test.YtfnjlkmhnhojpaaDoorJcTermP
import Derived.Test.YtfnjlkmhnhojpaaDoorJc4
import Derived.Test.YtfnjlkmhnhojpaaDoorJc5
import Derived.Test.YtfnjlkmhnhojpaaDoorJcTermM
import Derived.Test.YtfnjlkmhnhojpaaDoorJcTermH
import Derived.Test.YtfnjlkmhnhojpaaDoorJcAluA
import Derived.Laws.Externs
import Derived.Lib.ItoaNum
set_option linter.unusedVariables false
set_option linter.unusedSimpArgs false

/- Plain lemmas on terms that nodes make. -/
namespace Go.Proofs.YtfnjlkmhnhojpaaDoor.Pw
open Go Go.RowKit

theorem builtT_wf : ∀ (k : Nat) (l : List (Int × Int)) (i : Nat), (∀ y ∈ l, 0 ≤ y.2 ∧ y.2 ≤ 4294967295) → (builtT k l i).1.Wf
  | 0, l, i, _ => by simp only [builtT, T.Wf]; omega
  | k + 1, l, i, h => by
    unfold builtT
    cases hx : l[i]? with
    | none => simp only [T.Wf]; omega
    | some x =>
      have h1 := builtT_wf k l (i + 1) h
      have h2 := builtT_wf k l (builtT k l (i + 1)).2 h
      dsimp only
      split
      · exact ⟨by omega, h1, h2⟩
      · split
        · exact ⟨by omega, h1⟩
        · exact h x (List.mem_of_getElem? hx)
theorem ofX_wf (l : List (Int × Int)) (h : ∀ y ∈ l, 0 ≤ y.2 ∧ y.2 ≤ 4294967295) : (ofX l).Wf := by
  unfold ofX
  split
  · exact builtT_wf 41 l 0 h
  · simp only [T.Wf]; omega
theorem ofOk_shaped {l : List (Int × Int)} (h : ofOk l = true) : l.length ≤ 60 ∧ (ofX l).shaped = true := by
  unfold ofOk at h
  simp only [Bool.and_eq_true, decide_eq_true_eq] at h
  refine ⟨h.1, ?_⟩
  have := h.2
  unfold ofB at this
  rw [T.shaped_nodes] at this
  unfold ofX; rw [if_pos h.1]; exact this
theorem ofOk_not {l : List (Int × Int)} (h : ofOk l = false) (hl : l.length ≤ 60) : (ofX l).shaped = false := by
  unfold ofOk at h
  rw [decide_eq_true hl, Bool.true_and] at h
  unfold ofB at h
  rw [T.shaped_nodes] at h
  unfold ofX; rw [if_pos hl]; exact h
theorem shaped_one {o n : Int} {a : T} (h : (T.one o n a).shaped = true) : (3 ≤ o ∧ o ≤ 4) ∧ a.shaped = true := by
  simp only [T.shaped, goodN, Bool.and_eq_true, decide_eq_true_eq] at h
  refine ⟨?_, h.2⟩
  have h1 := h.1.2.2.1
  unfold needsN at h1
  (repeat' split at h1) <;> omega
theorem shaped_two {o n : Int} {a b : T} (h : (T.two o n a b).shaped = true) : (5 ≤ o ∧ o ≤ 17) ∧ a.shaped = true ∧ b.shaped = true := by
  simp only [T.shaped, goodN, Bool.and_eq_true, decide_eq_true_eq] at h
  refine ⟨?_, h.2⟩
  have h1 := h.1.2.2.1
  have h2 := h.1.2.1
  unfold needsN at h1
  (repeat' split at h1) <;> omega

theorem shaped_leaf' {o n : Int} (h : (T.leaf o n).shaped = true) : o = 1 ∨ o = 2 := by
  simp only [T.shaped, goodN, decide_eq_true_eq] at h
  have h1 := h.2.2.1
  unfold needsN at h1
  (repeat' split at h1) <;> omega

end Go.Proofs.YtfnjlkmhnhojpaaDoor.Pw

/- Trial. -/
namespace Go.Proofs.YtfnjlkmhnhojpaaDoor.Pw
open Go Go.RowKit

def needsT (op : Int) : Int := if op ≤ 2 then 0 else if op ≤ 4 then 1 else 2
theorem needs_pure (op : Int) : PureF gx 74 [.int .i64 op] (.int .i64 (needsT op)) := by
  refine Spec.enter gxok [] 100 Tryd.func74 rfl (by kernel_rfl) ?_
  repeat' refine And.intro (fun _ => ?_) (fun _ => ?_)
  all_goals (refine retE ?_; unfold needsT; show _ = _; (repeat' split) <;> omega)

/-- a term's list -/
def kidsP : T → List PV
  | .leaf .. => []
  | .one _ _ a => [.agg [.int .i64 a.op, .int .u32 a.num, .sl 3 (kidsP a)]]
  | .two _ _ a b => [.agg [.int .i64 a.op, .int .u32 a.num, .sl 3 (kidsP a)], .agg [.int .i64 b.op, .int .u32 b.num, .sl 3 (kidsP b)]]
def tpv (t : T) : PV := .agg [.int .i64 t.op, .int .u32 t.num, .sl 3 (kidsP t)]
def kidsL : T → List T
  | .leaf .. => []
  | .one _ _ a => [a]
  | .two _ _ a b => [a, b]
theorem kidsP_eq (t : T) : kidsP t = (kidsL t).map tpv := by cases t <;> rfl
def wordsP (ws : List Int) : List PV := ws.map (PV.int .u32)

set_option maxRecDepth 10000 in
theorem leaf_pure (t : T) (ws : List Int) (hn : 0 ≤ t.num ∧ t.num ≤ 4294967295) : PureF gx 62 [tpv t, .sl 1 (wordsP ws)] (.int .u32 (leafV t.op t.num ws)) := by
  refine Spec.enter gxok [] 100 Tryd.func62 rfl (by kernel_rfl) ?_
  refine And.intro (fun h1 => ?_) (fun h1 => ?_)
  · refine retE ?_
    show _ = _
    unfold leafV
    rw [if_pos h1]
  · refine .inl ⟨inR_i64 (by omega), fun hm => And.intro (fun h2 => ?_) (fun h2 => ?_)⟩
    · refine ⟨_, ws, PV.int .u32, rfl, hn.1, by rw [wordsP, List.length_map] at h2; exact h2, fun x hx => retE ?_⟩
      show _ = _
      unfold leafV
      rw [if_neg h1, hx]; rfl
    · refine retE ?_
      show _ = _
      rw [wordsP, List.length_map] at h2
      unfold leafV
      rw [if_neg h1, List.getElem?_eq_none (by omega)]; rfl

end Go.Proofs.YtfnjlkmhnhojpaaDoor.Pw

/- Chapter 11 over values: what comes in, what 'of' makes, values of terms. -/
namespace Go.Proofs.YtfnjlkmhnhojpaaDoor.Pw
open Go Go.RowKit

theorem entersT {f : FuncId} {fn : Func} {c : Code} (hf : Tryd.prog.funcs[f]? = some fn) (hb : fn.body = some c) (hn : (fn.name == "runtime.NumGoroutine") = false) : Ev.Enters gT.cx.P f := Ev.enters_of hf hb hn

theorem isLn {w : World} {I : Nat → Prop} {β : Places} : IsL w I [] β [] := by simp only [IsL]
theorem isLc {w : World} {I : Nat → Prop} {β : Places} {x : PV} {v : Value} {xs : List PV} {vs : List Value} (h : x.Is w I β v) (h' : IsL w I xs β vs) : IsL w I (x :: xs) β (v :: vs) := by simp only [IsL]; exact ⟨h, h'⟩
theorem is_bool {w : World} {I : Nat → Prop} {β : Places} (b : Bool) : (PV.bool (b = true)).Is w I β (.bool b) := by simp only [PV.Is]; rw [pb_dec]; simp
theorem is_int {w : World} {I : Nat → Prop} {β : Places} (k : IntKind) (n : Int) : (PV.int k n).Is w I β (.int k n) := by simp only [PV.Is]
theorem is_tup {w : World} {I : Nat → Prop} {β : Places} {xs : List PV} {vs : Array Value} (h : IsL w I xs β vs.toList) : (PV.tup xs).Is w I β (.tuple vs) := by simp only [PV.Is]; exact ⟨vs, rfl, h⟩
theorem is_agg {w : World} {I : Nat → Prop} {β : Places} {xs : List PV} {vs : Array Value} (h : IsL w I xs β vs.toList) : (PV.agg xs).Is w I β (.agg vs) := by simp only [PV.Is]; exact ⟨vs, rfl, h⟩

/-! ### scalars -/
theorem isL1 {w : World} {I : Nat → Prop} {β : Places} {x : PV} {vals : List Value} (h : IsL w I [x] β vals) : ∃ v, vals = [v] ∧ x.Is w I β v := by
  match vals, h with
  | [v], h => exact ⟨v, rfl, by simpa only [IsL, and_true] using h⟩
theorem isL2 {w : World} {I : Nat → Prop} {β : Places} {x y : PV} {vals : List Value} (h : IsL w I [x, y] β vals) : ∃ v u, vals = [v, u] ∧ x.Is w I β v ∧ y.Is w I β u := by
  match vals, h with
  | [v, u], h => exact ⟨v, u, rfl, by simpa only [IsL, and_true] using h⟩
theorem isL3 {w : World} {I : Nat → Prop} {β : Places} {x y z : PV} {vals : List Value} (h : IsL w I [x, y, z] β vals) : ∃ v u t, vals = [v, u, t] ∧ x.Is w I β v ∧ y.Is w I β u ∧ z.Is w I β t := by
  match vals, h with
  | [v, u, t], h => exact ⟨v, u, t, rfl, by simpa only [IsL, and_true] using h⟩
theorem one_pure (op x : Int) (h0 : 0 ≤ x) (h1 : x ≤ 4294967295) : PureF gT 64 [.int .i64 op, .int .u32 x] (.int .u32 (oneV op x)) :=
  PureF.of_same (entersT Tryd.func64 rfl (by kernel_rfl)) [.int .i64 op, .int .u32 x] _ (fun w I β vals h => by obtain ⟨v, u, rfl, h1, h2⟩ := isL2 h; simp only [PV.Is] at h1 h2; rw [h1, h2]) (fun w I β => by simp only [PV.Is]) (fun w => tone_any op x w h0 h1)
def optP (o : Option Int) : PV := .tup [.int .u32 (o.getD 0), .bool (o.isSome = true)]
theorem optP_is (o : Option Int) (w : World) (I : Nat → Prop) (β : Places) : (optP o).Is w I β (optV o) := by
  unfold optP optV
  exact is_tup (isLc (is_int ..) (isLc (is_bool _) isLn))
theorem two_pure (op x y : Int) (h0 : 0 ≤ x) (h1 : x ≤ 4294967295) (k0 : 0 ≤ y) (k1 : y ≤ 4294967295) : PureF gT 65 [.int .i64 op, .int .u32 x, .int .u32 y] (optP (twoV op x y)) :=
  PureF.of_same (entersT Tryd.func65 rfl (by kernel_rfl)) [.int .i64 op, .int .u32 x, .int .u32 y] (optV (twoV op x y)) (fun w I β vals h => by obtain ⟨v, u, t, rfl, h1, h2, h3⟩ := isL3 h; simp only [PV.Is] at h1 h2 h3; rw [h1, h2, h3]) (optP_is _) (fun w => two_any op x y w h0 h1 k0 k1)
theorem truth_pure (b : Prop) : PureF gT 63 [.bool b] (.int .u32 (if pb b then 1 else 0)) :=
  PureF.of_same (entersT Tryd.func63 rfl (by kernel_rfl)) [.bool (pb b)] _ (fun w I β vals h => by obtain ⟨v, rfl, h1⟩ := isL1 h; simp only [PV.Is] at h1; rw [h1]) (fun w I β => by simp only [PV.Is]) (fun w => ttruth_any _ w)

/-! ### nodes, terms -/
def nodeP (y : Int × Int) : PV := .agg [.int .i64 y.1, .int .u32 y.2]
theorem isS_is {w : World} {I : Nat → Prop} {β : Places} : ∀ {t : T} {s : Value} {bl : List Nat}, t.IsS w s bl → (∀ b ∈ bl, I b) → (PV.sl 3 (kidsP t)).Is w I β s
  | .leaf .., s, bl, h, _ => by
    obtain ⟨rfl, _⟩ := h
    simp only [kidsP, PV.Is]
    exact ⟨none, 0, rfl, Nat.le_refl _, by simp, nofun, fun h => absurd rfl h⟩
  | .one _ _ a, s, bl, h, hI => by
    obtain ⟨g, cap, cur, fr, sa, bla, rfl, h2, h3, h4, h5, h6, h7, rfl⟩ := h
    have ia := isS_is (β := no) (I := I) h7 fun b hb => hI b (by simp [hb])
    have ca : ∀ j, w.cell? ⟨g, j, none⟩ = cur[j]? := fun j => by simp [World.cell?, h3]
    simp only [kidsP, PV.Is, IsEs, IsAt, List.length_cons, List.length_nil]
    exact ⟨_, cap, rfl, h2, by unfold maxLen; omega, fun g' o' e => by
      cases e
      exact ⟨⟨trivial, ⟨_, by rw [ca]; exact h4, rfl, rfl⟩, ⟨_, by rw [ca]; exact h5, rfl, rfl⟩, ⟨sa, by rw [ca]; exact h6, by simpa only [PV.Is] using ia, h7.one⟩, trivial⟩, trivial⟩, fun _ => ⟨g, 0, rfl, hI g (by simp), by omega⟩⟩
  | .two _ _ a b, s, bl, h, hI => by
    obtain ⟨g, cap, cur, fr, sa, bla, sb, blb, rfl, h2, h3, h4, h5, h6, h4', h5', h6', h7, h8, rfl⟩ := h
    have ia := isS_is (β := no) (I := I) h7 fun b hb => hI b (by simp [hb])
    have ib := isS_is (β := no) (I := I) h8 fun b hb => hI b (by simp [hb])
    have ca : ∀ j, w.cell? ⟨g, j, none⟩ = cur[j]? := fun j => by simp [World.cell?, h3]
    simp only [kidsP, PV.Is, IsEs, IsAt, List.length_cons, List.length_nil]
    exact ⟨_, cap, rfl, h2, by unfold maxLen; omega, fun g' o' e => by
      cases e
      exact ⟨⟨trivial, ⟨_, by rw [ca]; exact h4, rfl, rfl⟩, ⟨_, by rw [ca]; exact h5, rfl, rfl⟩, ⟨sa, by rw [ca]; exact h6, by simpa only [PV.Is] using ia, h7.one⟩, trivial⟩, ⟨trivial, ⟨_, by rw [ca]; exact h4', rfl, rfl⟩, ⟨_, by rw [ca]; exact h5', rfl, rfl⟩, ⟨sb, by rw [ca]; exact h6', by simpa only [PV.Is] using ib, h8.one⟩, trivial⟩, trivial⟩, fun _ => ⟨g, 0, rfl, hI g (by simp), by omega⟩⟩
theorem nodesAt_of {w : World} {I : Nat → Prop} {β : Places} {l : List (Int × Int)} {v : Value} (hI : ∀ g, I g → g < w.heap.size) (h : (PV.sl 2 (l.map nodeP)).Is w I β v) : ∃ a cap, v = .slice a l.length cap ∧ NodesAt w a l w.heap.size := by
  simp only [PV.Is] at h
  obtain ⟨a, cap, rfl, _, _, h1, h2⟩ := h
  refine ⟨a, cap, by rw [List.length_map], fun i x hx => ?_⟩
  have hlt : i < l.length := (List.getElem?_eq_some_iff.1 hx).1
  obtain ⟨g, o, rfl, hg, _⟩ := h2 (by rw [List.length_map]; omega)
  have he := (h1 g o rfl).get (i := i) (e := nodeP x) (by simp [hx])
  obtain ⟨_, he⟩ := he
  obtain ⟨v0, c0, i0, _⟩ := he.get (i := 0) rfl
  obtain ⟨v1, c1, i1, _⟩ := he.get (i := 1) rfl
  simp only [PV.Is] at i0 i1
  subst i0; subst i1
  exact ⟨g, o, rfl, hI g hg, hI g hg, c0, c1⟩

end Go.Proofs.YtfnjlkmhnhojpaaDoor.Pw

/- Chapter 11 over values: Eval. -/
namespace Go.Proofs.YtfnjlkmhnhojpaaDoor.Pw
open Go Go.RowKit

theorem leaf_pureT (t : T) (ws : List Int) (hn : 0 ≤ t.num ∧ t.num ≤ 4294967295) : PureF gT 62 [tpv t, .sl 1 (wordsP ws)] (.int .u32 (leafV t.op t.num ws)) := by
  refine Spec.enter gTok [] 100 Tryd.func62 rfl (by kernel_rfl) ?_
  refine And.intro (fun h1 => ?_) (fun h1 => ?_)
  · refine retE ?_
    show _ = _
    unfold leafV
    rw [if_pos h1]
  · refine .inl ⟨inR_i64 (by omega), fun hm => And.intro (fun h2 => ?_) (fun h2 => ?_)⟩
    · refine ⟨_, ws, PV.int .u32, rfl, hn.1, by rw [wordsP, List.length_map] at h2; exact h2, fun x hx => retE ?_⟩
      show _ = _
      unfold leafV
      rw [if_neg h1, hx]; rfl
    · refine retE ?_
      show _ = _
      rw [wordsP, List.length_map] at h2
      unfold leafV
      rw [if_neg h1, List.getElem?_eq_none (by omega)]; rfl

theorem truth_tt : PureF gT 63 [.tt] (.int .u32 1) :=
  PureF.of_same (entersT Tryd.func63 rfl (by kernel_rfl)) [.bool true] _ (fun w I β vals h => by obtain ⟨v, rfl, h1⟩ := isL1 h; simp only [PV.Is] at h1; rw [h1]) (fun w I β => is_int ..) (fun w => ttruth_any true w)
theorem truth_ff : PureF gT 63 [.ff] (.int .u32 0) :=
  PureF.of_same (entersT Tryd.func63 rfl (by kernel_rfl)) [.bool false] _ (fun w I β vals h => by obtain ⟨v, rfl, h1⟩ := isL1 h; simp only [PV.Is] at h1; rw [h1]) (fun w I β => is_int ..) (fun w => ttruth_any false w)

set_option maxRecDepth 10000 in
theorem eval_pure (ws : List Int) (hw : WordsOk ws) : ∀ t : T, t.Wf → PureF gT 45 [tpv t, .sl 1 (wordsP ws)] (optP (t.evalT ws))
  | .leaf o n, hwf => by
    refine Spec.enter gTok P45 100 Tryd.func45 rfl (by kernel_rfl) ?_
    refine fun _ => And.intro (fun _ => ?_) (fun h => absurd rfl h)
    refine ⟨[], nofun, (leaf_pureT (.leaf o n) ws hwf).use ⟨⟨rfl, rfl, rfl, trivial⟩, rfl, trivial⟩ rfl rfl ?_⟩
    exact retE ⟨rfl, rfl, trivial⟩
  | .one o n a, hwf => by
    have iha := eval_pure ws hw a hwf.2
    refine Spec.enter gTok P45 100 Tryd.func45 rfl (by kernel_rfl) ?_
    refine fun _ => And.intro (fun h => absurd h (by simp [kidsP])) (fun _ => ?_)
    refine ⟨T, [a], tpv, rfl, Int.le_refl 0, Int.zero_lt_one, fun x hx => ?_⟩
    obtain rfl : a = x := by simpa using hx
    refine ⟨[], nofun, iha.use ⟨⟨rfl, rfl, rfl, trivial⟩, rfl, trivial⟩ rfl rfl ?_⟩
    have he : (T.one o n a).evalT ws = (a.evalT ws).map (oneV o) := rfl
    have hb : ∀ v, a.evalT ws = some v → 0 ≤ v ∧ v ≤ 4294967295 := fun v h => T.evalT_bd hw hwf.2 h
    rw [he]
    generalize a.evalT ws = q at hb ⊢
    cases q with
    | none =>
      refine And.intro (fun _ => ?_) (fun h => absurd nofun h)
      refine ⟨[], nofun, truth_ff.use ⟨nofun, trivial⟩ rfl rfl ?_⟩
      refine ⟨[], nofun, (one_pure o 0 (by omega) (by omega)).use ⟨rfl, rfl, trivial⟩ rfl rfl ?_⟩
      refine .inl ⟨inR_u32 (by simp), ?_⟩
      exact retE ⟨Int.zero_mul _, Iff.rfl, trivial⟩
    | some v =>
      obtain ⟨h0, h1⟩ := hb v rfl
      have h2 := oneV_bd (op := o) h0 h1
      refine And.intro (fun h => absurd rfl h) (fun _ => ?_)
      refine fun _ => And.intro (fun _ => ?_) (fun h => absurd rfl h)
      refine ⟨[], nofun, truth_tt.use ⟨rfl, trivial⟩ rfl rfl ?_⟩
      refine ⟨[], nofun, (one_pure o v h0 h1).use ⟨rfl, rfl, trivial⟩ rfl rfl ?_⟩
      refine .inl ⟨inR_u32 (by rw [Int.one_mul]; exact h2), ?_⟩
      exact retE ⟨Int.one_mul _, Iff.rfl, trivial⟩
  | .two o n a b, hwf => by
    have iha := eval_pure ws hw a hwf.2.1
    have ihb := eval_pure ws hw b hwf.2.2
    refine Spec.enter gTok P45 100 Tryd.func45 rfl (by kernel_rfl) ?_
    refine fun _ => And.intro (fun h => absurd h (by simp [kidsP])) (fun _ => ?_)
    refine ⟨T, [a, b], tpv, rfl, Int.le_refl 0, by simp, fun x hx => ?_⟩
    obtain rfl : a = x := by simpa using hx
    refine ⟨[], nofun, iha.use ⟨⟨rfl, rfl, rfl, trivial⟩, rfl, trivial⟩ rfl rfl ?_⟩
    have he : (T.two o n a b).evalT ws = (a.evalT ws).bind fun x => (b.evalT ws).bind fun y => twoV o x y := rfl
    have hba : ∀ v, a.evalT ws = some v → 0 ≤ v ∧ v ≤ 4294967295 := fun v h => T.evalT_bd hw hwf.2.1 h
    have hbb : ∀ v, b.evalT ws = some v → 0 ≤ v ∧ v ≤ 4294967295 := fun v h => T.evalT_bd hw hwf.2.2 h
    rw [he]
    generalize a.evalT ws = q at hba ⊢
    cases q with
    | none =>
      refine And.intro (fun _ => ?_) (fun h => absurd nofun h)
      refine ⟨[], nofun, truth_ff.use ⟨nofun, trivial⟩ rfl rfl ?_⟩
      refine ⟨[], nofun, (one_pure o 0 (by omega) (by omega)).use ⟨rfl, rfl, trivial⟩ rfl rfl ?_⟩
      refine .inl ⟨inR_u32 (by simp), ?_⟩
      exact retE ⟨Int.zero_mul _, Iff.rfl, trivial⟩
    | some v =>
      obtain ⟨h0, h1⟩ := hba v rfl
      refine And.intro (fun h => absurd rfl h) (fun _ => ?_)
      refine fun _ => And.intro (fun h => absurd h (by simp [kidsP])) (fun _ => ?_)
      refine ⟨T, [a, b], tpv, rfl, by decide, by simp, fun x hx => ?_⟩
      obtain rfl : b = x := by simpa using hx
      refine ⟨[], nofun, ihb.use ⟨⟨rfl, rfl, rfl, trivial⟩, rfl, trivial⟩ rfl rfl ?_⟩
      generalize b.evalT ws = q at hbb ⊢
      cases q with
      | none =>
        refine And.intro (fun _ => ?_) (fun h => absurd nofun h)
        exact retE ⟨rfl, nofun, trivial⟩
      | some u =>
        obtain ⟨k0, k1⟩ := hbb u rfl
        refine And.intro (fun h => absurd rfl h) (fun _ => ?_)
        refine ⟨[], nofun, (two_pure o v u h0 h1 k0 k1).use ⟨rfl, rfl, rfl, trivial⟩ rfl rfl ?_⟩
        exact retE ⟨rfl, Iff.rfl, trivial⟩

end Go.Proofs.YtfnjlkmhnhojpaaDoor.Pw

/- Chapter 21 over values: costs, what reckons them. -/
namespace Go.Proofs.YtfnjlkmhnhojpaaDoor.Pw
open Go Go.RowKit

/-- a cost -/
inductive C where
  | mk (kind cyc mis word size : Int) (a b : T) (l : List C)
namespace C
def kind : C → Int | .mk k _ _ _ _ _ _ _ => k
def cyc : C → Int | .mk _ c _ _ _ _ _ _ => c
def mis : C → Int | .mk _ _ m _ _ _ _ _ => m
def word : C → Int | .mk _ _ _ w _ _ _ _ => w
def size : C → Int | .mk _ _ _ _ s _ _ _ => s
def a : C → T | .mk _ _ _ _ _ a _ _ => a
def b : C → T | .mk _ _ _ _ _ _ b _ => b
def l : C → List C | .mk _ _ _ _ _ _ _ l => l
end C
theorem C.ind {p : C → Prop} (h : ∀ k cy mi wo si a b l, (∀ x ∈ l, p x) → p (.mk k cy mi wo si a b l)) : ∀ c, p c
  | .mk k cy mi wo si a b l => h k cy mi wo si a b l fun x _ => C.ind h x

mutual
def kidsC : C → List PV
  | .mk _ _ _ _ _ _ _ l => kidsCL l
def kidsCL : List C → List PV
  | [] => []
  | c :: l => .agg [.int .i64 c.kind, .int .i64 c.cyc, .int .i64 c.mis, .int .i64 c.word, .int .i64 c.size, .int .i64 c.a.op, .int .u32 c.a.num, .sl 3 (kidsP c.a), .int .i64 c.b.op, .int .u32 c.b.num, .sl 3 (kidsP c.b), .sl 12 (kidsC c)] :: kidsCL l
end
def cpvL (c : C) : List PV := [.int .i64 c.kind, .int .i64 c.cyc, .int .i64 c.mis, .int .i64 c.word, .int .i64 c.size, .int .i64 c.a.op, .int .u32 c.a.num, .sl 3 (kidsP c.a), .int .i64 c.b.op, .int .u32 c.b.num, .sl 3 (kidsP c.b), .sl 12 (kidsC c)]
def cpv (c : C) : PV := .agg (cpvL c)
theorem kidsCL_eq : ∀ l : List C, kidsCL l = l.map cpv
  | [] => rfl
  | c :: l => by rw [kidsCL, kidsCL_eq l]; rfl
theorem kidsC_eq (c : C) : kidsC c = c.l.map cpv := by cases c; exact kidsCL_eq _

/-- what reckons -/
structure R where
  ws : List Int
  fuel : Int
  sum : Int
  trap : Int
  e : Int
namespace R
structure Ok (r : R) : Prop where
  len : r.ws.length = 254
  ws : ∀ v ∈ r.ws, 0 ≤ v ∧ v ≤ 4294967295
  fuel : -9223372036854775808 ≤ r.fuel ∧ r.fuel ≤ 9223372036854775807
  sum : 0 ≤ r.sum ∧ r.sum ≤ 18446744073709551615
def fin (r : R) : Bool := decide (r.trap ≠ 0 ∨ r.e ≠ 0)
def add (r : R) (n : Int) : R := { r with sum := min (r.sum + n) 18446744073709551615 }
def val (r : R) (t : T) : Int := (t.evalT r.ws).getD 0
def evl (r : R) (t : T) : R := { r with trap := if (t.evalT r.ws).isSome then r.trap else 2 }
theorem Ok.words {r : R} (h : r.Ok) : WordsOk r.ws := ⟨by rw [h.len]; omega, h.ws⟩
theorem Ok.add {r : R} (h : r.Ok) {n : Int} (hn : 0 ≤ n) : (r.add n).Ok := ⟨h.len, h.ws, h.fuel, by have := h.sum; simp only [R.add]; omega⟩
theorem Ok.evl {r : R} (h : r.Ok) (t : T) : (r.evl t).Ok := ⟨h.len, h.ws, h.fuel, h.sum⟩
theorem Ok.val {r : R} (h : r.Ok) {t : T} (ht : t.Wf) : 0 ≤ r.val t ∧ r.val t ≤ 4294967295 := by
  unfold R.val
  cases hv : t.evalT r.ws with
  | none => simp
  | some v => exact T.evalT_bd h.words ht hv
end R

def wB (ws : List Int) : PBlk := ⟨.dyn, 25, 1, .w, true, wordsP ws⟩
def rB (wt : Int) (r : R) : PBlk := ⟨.loc, 53, 1, .w, true, [.wref 1, .int .i64 wt, .int .i64 r.fuel, .int .u64 r.sum, .int .i64 r.trap, .int .i64 r.e]⟩
def xB (c0 : C) : PBlk := ⟨.loc, 31, 1, .w, true, cpvL c0⟩
def sR (c0 : C) (wt : Int) (r : R) : List PBlk := [xB c0, wB r.ws, rB wt r]
/-- a function of the reckoner's: it leaves it as r', and yields res -/
def Runs (f : FuncId) (args : List PV) (c0 : C) (wt : Int) (r : R) (res : PV) (r' : R) : Prop := Spec gT f args (sR c0 wt r) [] fun x S' => x = res ∧ S' = sR c0 wt r'
theorem stLe_app {S T : List PBlk} {k : List PBlk → Prop} (hl : S.all (fun b => b.live) = true) (hr : ∀ b ∈ S, leL le1 b.cs b.cs) (h : k T) : stLe (S ++ T) S k := by
  unfold stLe
  induction S with
  | nil => exact h
  | cons b S ih =>
    rw [List.all_cons, Bool.and_eq_true] at hl
    refine ⟨?_, ih hl.2 fun b hb => hr b (by simp [hb])⟩
    obtain ⟨k, ty, n, m, live, cs⟩ := b
    have hlv : live = true := hl.1
    subst hlv
    have h1 : ∀ n : Nat, Nat.beq n n = true := fun n => Nat.beq_refl n
    have h2 : Md.beq m m = true := by cases m <;> rfl
    have h3 : BK.beq k k = true := by cases k <;> rfl
    unfold leBlk
    simp only [h1, h2, h3, Bool.and_self, cond_true]
    have := hr ⟨k, ty, n, m, true, cs⟩ (by simp)
    cases k <;> first | exact this | exact trivial | rfl
theorem Runs.go {f : FuncId} {args args' : List PV} {c0 : C} {wt : Int} {r r' : R} {res : PV} {T : List PBlk} {K : PV → List PBlk → Prop} (h : Runs f args' c0 wt r res r') (hle : leL leK args args') (hu : (usesL args').all (fun l => Nat.blt l 3) = true) (hr0 : res.uses.all (fun l => Nat.blt l 3) = true)
    (hK : frBB (sR c0 wt r') fun S1 => appK S1 T (K res)) : Spec gT f args (sR c0 wt r ++ T) [] K := by
  refine Spec.useS h rfl rfl hu hr0 hle (stLe_app rfl (fun b hb => ?_) hK)
  simp only [sR, List.mem_cons, List.not_mem_nil, or_false] at hb
  rcases hb with rfl | rfl | rfl
  · repeat' first | exact trivial | exact rfl | refine And.intro ?_ ?_
  · show leL le1 (wordsP r.ws) (wordsP r.ws)
    induction r.ws with
    | nil => trivial
    | cons x l ih => exact ⟨rfl, ih⟩
  · repeat' first | exact trivial | exact rfl | refine And.intro ?_ ?_

theorem add64_px (x y : Int) (hx : 0 ≤ x) (hy : 0 ≤ y) : PureX gT 44 [.int .u64 x, .int .u64 y, .lit .u64 0] (.tup [.int .u64 ((x + y) % 18446744073709551616), .int .u64 ((x + y) / 18446744073709551616)]) := fun I β w vals h => by
  match vals, h with
  | [v, u, t], h =>
    simp only [IsL, PV.Is, and_true] at h
    obtain ⟨rfl, rfl, rfl⟩ := h
    refine ⟨.tuple #[.int .u64 ((x + y) % 18446744073709551616), .int .u64 ((x + y) / 18446744073709551616)], ?_, is_tup (isLc (is_int ..) (isLc (is_int ..) isLn))⟩
    rw [run_callFunc_extern (show gT.cx.P.funcs[44]? = some _ from Tryd.func44) (by kernel_rfl) (by kernel_rfl) (by kernel_rfl) (e := add64Entry) (by kernel_rfl), run_add64 x y 0 hx hy (by omega) (by omega), Int.add_zero]
    rfl

set_option maxRecDepth 10000 in
theorem add_runs {c0 : C} {wt : Int} {r : R} (hr : r.Ok) (n : Int) (hn : 0 ≤ n ∧ n ≤ 18446744073709551615) : Runs 30 [.ptr 2 0, .int .u64 n] c0 wt r (.tup []) (r.add n) := by
  refine Spec.leS (Spec.enter gTok P30 100 Tryd.func30 rfl (by kernel_rfl) ?_)
  have h0 := hr.sum
  refine pext_ok (f := 44) ?_
  refine ⟨_, add64_px _ _ h0.1 hn.1, ?_⟩
  refine And.intro (fun h => ?_) (fun h => ?_)
  · refine retS trivial ?_
    repeat' first | exact trivial | exact rfl | refine And.intro ?_ ?_
    exact (show (18446744073709551615 : Int) = min (r.sum + n) 18446744073709551615 by omega)
  · refine retS trivial ?_
    repeat' first | exact trivial | exact rfl | refine And.intro ?_ ?_
    exact (show (r.sum + n) % 18446744073709551616 = min (r.sum + n) 18446744073709551615 by omega)

theorem ended_runs {c0 : C} {wt : Int} {r : R} : Runs 33 [.ptr 2 0] c0 wt r (.bool (r.fin = true)) r := by
  refine Spec.leS (Spec.enter gTok P33 100 Tryd.func33 rfl (by kernel_rfl) ?_)
  refine And.intro (fun h => ?_) (fun h => ?_)
  · refine retS (show r.fin = true from decide_eq_true (.inl h)) (by repeat' first | exact trivial | exact rfl | exact Iff.rfl | exact Or.inl rfl | refine And.intro ?_ ?_)
  · refine retS (show (¬ r.e = 0) ↔ r.fin = true from ?_) (by repeat' first | exact trivial | exact rfl | exact Iff.rfl | exact Or.inl rfl | refine And.intro ?_ ?_)
    unfold R.fin
    rw [decide_eq_true_iff]
    omega

set_option maxRecDepth 10000 in
theorem eval_runs {c0 : C} {wt : Int} {r : R} (hr : r.Ok) (t : T) (ht : t.Wf) : Runs 32 [.ptr 2 0, tpv t] c0 wt r (.int .u32 (r.val t)) (r.evl t) := by
  refine Spec.leS (Spec.enter gTok P32 100 Tryd.func32 rfl (by kernel_rfl) ?_)
  refine ⟨[], nofun, (eval_pure r.ws hr.words t ht).useB [1] (by repeat' first | exact trivial | exact rfl | exact Iff.rfl | exact Or.inl rfl | refine And.intro ?_ ?_) rfl rfl ?_⟩
  unfold R.val R.evl
  generalize t.evalT r.ws = o
  cases o with
  | none =>
    refine And.intro (fun h => ?_) (fun h => absurd (show ¬ (none : Option Int).isSome = true by simp) h)
    (refine retS (by repeat' first | exact trivial | exact rfl | exact Iff.rfl | refine And.intro ?_ ?_) ?_; repeat' first | exact trivial | exact rfl | exact Iff.rfl | exact Or.inl rfl | refine And.intro ?_ ?_)
  | some v =>
    refine And.intro (fun h => absurd (show (some v).isSome = true from rfl) h) (fun h => ?_)
    (refine retS (by repeat' first | exact trivial | exact rfl | exact Iff.rfl | refine And.intro ?_ ?_) ?_; repeat' first | exact trivial | exact rfl | exact Iff.rfl | exact Or.inl rfl | refine And.intro ?_ ?_)

end Go.Proofs.YtfnjlkmhnhojpaaDoor.Pw

/- Chapter 21 over values: what a cost costs; lists of costs. -/
namespace Go.Proofs.YtfnjlkmhnhojpaaDoor.Pw
open Go Go.RowKit

/-- a division's cycles -/
def divV (a b : Int) : Int := if b = 0 ∨ (Lib.bitLen a.toNat : Int) - Lib.bitLen b.toNat < 0 then 2 else 3 + ((Lib.bitLen a.toNat : Int) - Lib.bitLen b.toNat) / 4
theorem bitLen_u32 {x : Int} (h : x ≤ 4294967295) : Lib.bitLen x.toNat ≤ 32 := by
  by_cases h0 : x.toNat = 0
  · rw [h0]; unfold Lib.bitLen; rw [Lib.bitLenAux_zero]; omega
  · obtain ⟨h1, h2, _⟩ := Lib.bitLenAux_bounds 64 x.toNat (by omega) h0
    unfold Lib.bitLen
    rcases Nat.lt_or_ge 32 (Lib.bitLenAux 64 x.toNat) with hlt | hge
    · have := Nat.pow_le_pow_right (n := 2) (by omega) (show 32 ≤ Lib.bitLenAux 64 x.toNat - 1 by omega)
      omega
    · exact hge
theorem divV_bd {a b : Int} (ha : a ≤ 4294967295) : 2 ≤ divV a b ∧ divV a b ≤ 11 := by
  have := bitLen_u32 ha
  unfold divV
  split <;> omega

/-- rounds of a sum -/
def rndR (f : R → R) (wo : Nat) : Nat → Int → R → R
  | 0, _, r => r
  | n + 1, i, r => if r.fin then r else rndR f wo n (i + 1) (f { r with ws := r.ws.set wo i })
mutual
/-- a cost is reckoned -/
def oneR (wt : Int) : C → R → R
  | .mk k cy mi wo si a b l, r =>
    if r.fuel ≤ 0 then { r with e := 70 } else
    let r := { r with fuel := r.fuel - 1 }
    if k = 1 then r.add (cy + mi * wt)
    else if k = 2 then allR wt l r
    else if k = 3 then
      if (r.evl a).fin then r.evl a else if r.val a ≠ 0 then nthR wt l 0 (r.evl a) else nthR wt l 1 (r.evl a)
    else if k = 4 then
      if (r.evl a).fin then r.evl a else
        let r2 := (r.evl a).evl b
        let r3 := rndR (fun r => allR wt l r) wo.toNat (((r.evl a).val b) - r.val a).toNat (r.val a) r2
        { r3 with ws := r3.ws.set wo.toNat ((r2.ws[wo.toNat]?).getD 0) }
    else if k = 5 then
      if 0 < si ∧ ¬ (a.evalT r.ws).isSome = true then { r with trap := 2 }
      else if (0 < si ∧ r.val a < si) ∨ (si = 0 ∧ (a.evalT r.ws).isSome = true ∧ r.val a ≠ 0) then r
      else
        let r2 := allR wt l r
        if r2.fin then r2 else { r2 with trap := if 0 < si then 1 else 2 }
    else if k = 6 then
      if (r.evl a).fin then r.evl a else
        let r2 := (r.evl a).evl b
        if r2.fin then r2 else r2.add (divV (r.val a) ((r.evl a).val b) - 2)
    else r
def allR (wt : Int) : List C → R → R
  | [], r => r
  | c :: l, r => if r.fin then r else allR wt l (oneR wt c r)
def nthR (wt : Int) : List C → Nat → R → R
  | [], _, r => r
  | c :: _, 0, r => oneR wt c r
  | _ :: l, n + 1, r => nthR wt l n r
end

theorem len_pure (x : Int) (hx : 0 ≤ x ∧ x ≤ 4294967295) : PureF gT 66 [.int .u32 x] (.int .i64 (Lib.bitLen x.toNat)) :=
  PureF.of_same (entersT Tryd.func66 rfl (by kernel_rfl)) [.int .u32 x] (.int .i64 (Lib.bitLen x.toNat)) (fun w I β vals h => by
    obtain ⟨v, rfl, h1⟩ := isL1 h
    simp only [PV.Is] at h1; rw [h1]) (fun w I β => is_int ..) (fun w => (len_any x w hx.1 hx.2).mono fun e w' ⟨h1, h2⟩ => ⟨h1, h2.symm⟩)
theorem div_pure (a b : Int) (ha : 0 ≤ a ∧ a ≤ 4294967295) (hb : 0 ≤ b ∧ b ≤ 4294967295) : PureF gT 46 [.int .u32 a, .int .u32 b] (.int .i64 (divV a b)) := by
  have h1 := bitLen_u32 ha.2
  have h2 := bitLen_u32 hb.2
  refine Spec.enter gTok P46 100 Tryd.func46 rfl (by kernel_rfl) ?_
  refine ⟨[], nofun, (len_pure a ha).use (by repeat' first | exact trivial | exact rfl | exact Iff.rfl | exact Or.inl rfl | refine And.intro ?_ ?_) rfl rfl ?_⟩
  refine ⟨[], nofun, (len_pure b hb).use (by repeat' first | exact trivial | exact rfl | exact Iff.rfl | exact Or.inl rfl | refine And.intro ?_ ?_) rfl rfl ?_⟩
  refine .inl ⟨inR_i64 (by omega), ?_⟩
  refine And.intro (fun h => ?_) (fun h => And.intro (fun h3 => ?_) (fun h3 => ?_))
  · refine retE ?_
    exact (show (2 : Int) = divV a b by unfold divV; rw [if_pos (.inl h)])
  · refine retE ?_
    exact (show (2 : Int) = divV a b by unfold divV; rw [if_pos (.inr h3)])
  · refine ⟨by decide, .inl ⟨by omega, show (Lib.bitLen a.toNat : Int) - Lib.bitLen b.toNat ≤ 9223372036854775807 by omega, by decide, ?_⟩⟩
    refine .inl ⟨inR_i64 (by omega), ?_⟩
    refine retE ?_
    exact (show (3 : Int) + _ = divV a b by unfold divV; rw [if_neg (by omega)])

set_option maxRecDepth 10000 in
theorem divide_runs {c0 : C} {wt : Int} {r : R} (hr : r.Ok) (c : C) (ha : c.a.Wf) (hb : c.b.Wf) : Runs 36 [.ptr 2 0, cpv c] c0 wt r (.tup []) (if (r.evl c.a).fin then r.evl c.a else if ((r.evl c.a).evl c.b).fin then (r.evl c.a).evl c.b else ((r.evl c.a).evl c.b).add (divV (r.val c.a) ((r.evl c.a).val c.b) - 2)) := by
  refine Spec.leS (Spec.enter gTok P36 100 Tryd.func36 rfl (by kernel_rfl) ?_)
  refine ⟨[], nofun, (eval_runs hr c.a ha).go (by repeat' first | exact trivial | exact rfl | exact Iff.rfl | exact Or.inl rfl | refine And.intro ?_ ?_) rfl rfl ?_⟩
  refine ⟨[], nofun, ended_runs.go (by repeat' first | exact trivial | exact rfl | exact Iff.rfl | exact Or.inl rfl | refine And.intro ?_ ?_) rfl rfl ?_⟩
  refine And.intro (fun h => ?_) (fun h => ?_)
  · rw [if_pos h]
    (refine retS (by repeat' first | exact trivial | exact rfl | exact Iff.rfl | refine And.intro ?_ ?_) ?_; repeat' first | exact trivial | exact rfl | exact Iff.rfl | exact Or.inl rfl | refine And.intro ?_ ?_)
  rw [if_neg h]
  refine ⟨[], nofun, (eval_runs (hr.evl c.a) c.b hb).go (by repeat' first | exact trivial | exact rfl | exact Iff.rfl | exact Or.inl rfl | refine And.intro ?_ ?_) rfl rfl ?_⟩
  refine ⟨[], nofun, ended_runs.go (by repeat' first | exact trivial | exact rfl | exact Iff.rfl | exact Or.inl rfl | refine And.intro ?_ ?_) rfl rfl ?_⟩
  refine And.intro (fun h => ?_) (fun h => ?_)
  · rw [if_neg h]
    have h1 := hr.val ha
    have h2 := (hr.evl c.a).val hb
    have hd := divV_bd (b := (r.evl c.a).val c.b) h1.2
    refine ⟨[], nofun, (div_pure _ _ h1 h2).use (by repeat' first | exact trivial | exact rfl | exact Iff.rfl | exact Or.inl rfl | refine And.intro ?_ ?_) rfl rfl ?_⟩
    refine .inl ⟨inR_i64 (by omega), ?_⟩
    refine .inl ⟨inR_u64 (by omega), ?_⟩
    refine ⟨[], nofun, (add_runs ((hr.evl c.a).evl c.b) (divV (r.val c.a) ((r.evl c.a).val c.b) - 2) (by omega)).go (by repeat' first | exact trivial | exact rfl | exact Iff.rfl | exact Or.inl rfl | refine And.intro ?_ ?_) rfl rfl ?_⟩
    (refine retS (by repeat' first | exact trivial | exact rfl | exact Iff.rfl | refine And.intro ?_ ?_) ?_; repeat' first | exact trivial | exact rfl | exact Iff.rfl | exact Or.inl rfl | refine And.intro ?_ ?_)
  · rw [if_pos (Classical.not_not.1 h)]
    (refine retS (by repeat' first | exact trivial | exact rfl | exact Iff.rfl | refine And.intro ?_ ?_) ?_; repeat' first | exact trivial | exact rfl | exact Iff.rfl | exact Or.inl rfl | refine And.intro ?_ ?_)

set_option maxRecDepth 10000 in
theorem all_runs {c0 : C} {wt : Int} (l : List C) (hone : ∀ c ∈ l, ∀ r : R, r.Ok → Runs 19 [.ptr 2 0, cpv c] c0 wt r (.tup []) (oneR wt c r) ∧ (oneR wt c r).Ok) (r : R) (hr : r.Ok) :
    Runs 31 [.ptr 2 0, .sl 12 (l.map cpv)] c0 wt r (.tup []) (allR wt l r) := by
  refine Spec.leS (Spec.enter gTok P31 100 Tryd.func31 rfl (by kernel_rfl) ?_)
  intro hm
  rw [List.length_map] at hm
  obtain ⟨r1, hr1⟩ : ∃ r1, r1 = allR wt l r := ⟨_, rfl⟩
  rw [← hr1]
  refine SW.loopW gTok P31 (by kernel_rfl) (α := {p : Nat × R // p.2.Ok ∧ allR wt (l.drop p.1) p.2 = r1 ∧ p.1 ≤ l.length}) (fun x => [(8, .int .i64 x.1.1)]) (fun x => sR c0 wt x.1.2) (fun x => l.length - x.1.1) ⟨(0, r), hr, hr1.symm, Nat.zero_le _⟩ 60 [some 0, some 1, some 2] ?_ ?_
  · repeat' first | exact trivial | exact rfl | refine And.intro ?_ ?_
  rintro ⟨⟨i, q⟩, hq, hall, hi⟩
  dsimp only at hq hall hi
  have cons : ∀ {x : C}, l[i]? = some x → r1 = if q.fin then q else allR wt (l.drop (i + 1)) (oneR wt x q) := fun {x} hx => by
    obtain ⟨hlt, hx⟩ := List.getElem?_eq_some_iff.1 hx
    rw [← hall, List.drop_eq_getElem_cons hlt, hx, allR]
  refine And.intro (fun h => ?_) (fun h => ?_)
  · have hlt : i < l.length := by
      have h' : (i : Int) < ((l.map cpv).length : Nat) := h
      rw [List.length_map] at h'; omega
    refine ⟨C, l, cpv, rfl, show (0 : Int) ≤ (i : Int) by omega, show (i : Int) < (l.length : Int) by omega, fun x hx => ?_⟩
    have hx' : l[i]? = some x := hx
    refine ⟨[], nofun, ended_runs.go (by repeat' first | exact trivial | exact rfl | exact Iff.rfl | exact Or.inl rfl | refine And.intro ?_ ?_) rfl rfl ?_⟩
    refine And.intro (fun hf => ?_) (fun hf => ?_)
    · have e := cons hx'
      rw [if_pos hf] at e
      subst e
      (refine retS (by repeat' first | exact trivial | exact rfl | exact Iff.rfl | refine And.intro ?_ ?_) ?_; repeat' first | exact trivial | exact rfl | exact Iff.rfl | exact Or.inl rfl | refine And.intro ?_ ?_)
    · obtain ⟨h1, h2⟩ := hone x (List.mem_of_getElem? hx') q hq
      refine ⟨[], nofun, h1.go (by repeat' first | exact trivial | exact rfl | exact Iff.rfl | exact Or.inl rfl | refine And.intro ?_ ?_) rfl rfl ?_⟩
      unfold maxLen at hm
      refine .inl ⟨inR_i64 (show _ ≤ (i : Int) + 1 ∧ (i : Int) + 1 ≤ _ by omega), ⟨(i + 1, oneR wt x q), h2, by rw [cons hx', if_neg hf], hlt⟩, [some 0, some 1, some 2], show l.length - (i + 1) < l.length - i by omega, ?_⟩
      repeat' first | exact trivial | exact rfl | refine And.intro ?_ ?_
  · have hge : l.length ≤ i := by
      have h' : ¬ (i : Int) < ((l.map cpv).length : Nat) := h
      rw [List.length_map] at h'; omega
    have e : r1 = q := by rw [← hall, List.drop_of_length_le hge, allR]
    subst e
    (refine retS (by repeat' first | exact trivial | exact rfl | exact Iff.rfl | refine And.intro ?_ ?_) ?_; repeat' first | exact trivial | exact rfl | exact Iff.rfl | exact Or.inl rfl | refine And.intro ?_ ?_)

end Go.Proofs.YtfnjlkmhnhojpaaDoor.Pw

/- Chapter 21 over values: which costs may be; stop, rounds. -/
namespace Go.Proofs.YtfnjlkmhnhojpaaDoor.Pw
open Go Go.RowKit

def wtnB (n lo hi : Int) (t : Bool) : Bool := if t then decide (lo ≤ n ∧ n ≤ hi) else decide (n = 0)
def lowT : T → Bool
  | .leaf o n => decide (o ≠ 2 ∨ n < 254)
  | .one o n a => decide (o ≠ 2 ∨ n < 254) && lowT a
  | .two o n a b => decide (o ≠ 2 ∨ n < 254) && (lowT a && lowT b)
def termB (t : T) (there : Bool) : Bool := if there then t.shaped && lowT t else decide (t.op = 0 ∧ t.num = 0 ∧ t.kids = 0)
def leastN (k : Int) : Int := if k = 3 then 2 else if k = 4 ∨ k = 5 then 1 else 0
def mostN (k : Int) : Int := if k = 2 then 2147483647 else if k = 3 then 2 else if k = 4 ∨ k = 5 then 1 else 0
def numsB (k cy mi wo si : Int) : Bool := wtnB cy 0 2147483647 (decide (k = 1)) && (wtnB mi 0 2147483647 (decide (k = 1)) && (wtnB wo 4 253 (decide (k = 4)) && wtnB si 0 1024 (decide (k = 5))))
mutual
/-- a cost's nodes may be -/
def shC : C → Bool
  | .mk k cy mi wo si a b l => decide (1 ≤ k ∧ k ≤ 6) && (numsB k cy mi wo si && (decide (leastN k ≤ (l.length : Nat) ∧ ((l.length : Nat) : Int) ≤ mostN k) && (termB a (decide (3 ≤ k)) && (termB b (decide (k = 4 ∨ k = 6)) && shL l))))
def shL : List C → Bool
  | [] => true
  | c :: l => shC c && shL l
end
mutual
def C.Wf : C → Prop
  | .mk _ _ _ _ _ a b l => a.Wf ∧ b.Wf ∧ wfL l
def wfL : List C → Prop
  | [] => True
  | c :: l => c.Wf ∧ wfL l
end
theorem shL_all : ∀ {l : List C}, shL l = true → ∀ c ∈ l, shC c = true
  | c :: l, h, x, hx => by
    simp only [shL, Bool.and_eq_true] at h
    rcases List.mem_cons.1 hx with rfl | hx
    · exact h.1
    · exact shL_all h.2 x hx
theorem wfL_all : ∀ {l : List C}, wfL l → ∀ c ∈ l, c.Wf
  | c :: l, h, x, hx => by
    simp only [wfL] at h
    rcases List.mem_cons.1 hx with rfl | hx
    · exact h.1
    · exact wfL_all h.2 x hx

theorem wordsP_set (ws : List Int) (n : Nat) (v : Int) : (wordsP ws).set n (.int .u32 v) = wordsP (ws.set n v) := by unfold wordsP; rw [List.map_set]
namespace R
def fuelMore (r : R) : R := { r with fuel := r.fuel - 1 }
theorem Ok.trap {r : R} (h : r.Ok) (t : Int) : ({ r with trap := t } : R).Ok := ⟨h.len, h.ws, h.fuel, h.sum⟩
theorem Ok.err {r : R} (h : r.Ok) (t : Int) : ({ r with e := t } : R).Ok := ⟨h.len, h.ws, h.fuel, h.sum⟩
theorem Ok.set {r : R} (h : r.Ok) (n : Nat) {v : Int} (hv : 0 ≤ v ∧ v ≤ 4294967295) : ({ r with ws := r.ws.set n v } : R).Ok := ⟨by simp [h.len], fun x hx => by
  rcases List.mem_or_eq_of_mem_set hx with hx | rfl
  · exact h.ws x hx
  · exact hv, h.fuel, h.sum⟩
end R
theorem Runs.use {f : FuncId} {args args' : List PV} {c0 : C} {wt : Int} {r r' : R} {res : PV} {st : List PBlk} {K : PV → List PBlk → Prop} (h : Runs f args' c0 wt r res r') (hle : leL leK args args') (hu : (usesL args').all (fun l => Nat.blt l 3) = true) (hr0 : res.uses.all (fun l => Nat.blt l 3) = true)
    (hK : stLe st (sR c0 wt r) fun T => frBB (sR c0 wt r') fun S1 => appK S1 T (K res)) : Spec gT f args st [] K := Spec.useS h rfl rfl hu hr0 hle hK

/-- a stop -/
def stopR (wt : Int) (c : C) (r : R) : R :=
  if 0 < c.size ∧ ¬ (c.a.evalT r.ws).isSome = true then { r with trap := 2 }
  else if (0 < c.size ∧ r.val c.a < c.size) ∨ (c.size = 0 ∧ (c.a.evalT r.ws).isSome = true ∧ r.val c.a ≠ 0) then r
  else if (allR wt c.l r).fin then allR wt c.l r else { allR wt c.l r with trap := if 0 < c.size then 1 else 2 }
def AllRuns (c0 : C) (wt : Int) (c : C) : Prop := ∀ r : R, r.Ok → Runs 31 [.ptr 2 0, .sl 12 (kidsC c)] c0 wt r (.tup []) (allR wt c.l r) ∧ (allR wt c.l r).Ok

set_option maxRecDepth 10000 in
theorem stop_runs {c0 : C} {wt : Int} (c : C) (ha : c.a.Wf) (hs : 0 ≤ c.size ∧ c.size ≤ 1024) (hall : AllRuns c0 wt c) {r : R} (hr : r.Ok) : Runs 35 [.ptr 2 0, cpv c] c0 wt r (.tup []) (stopR wt c r) := by
  have hv := hr.val ha
  refine Spec.leS (Spec.enter gTok P35 100 Tryd.func35 rfl (by kernel_rfl) ?_)
  refine ⟨[], nofun, (eval_pure r.ws hr.words c.a ha).useB [1] (by repeat' first | exact trivial | exact rfl | exact Iff.rfl | exact Or.inl rfl | refine And.intro ?_ ?_) rfl rfl ?_⟩
  unfold stopR
  unfold R.val at hv ⊢
  generalize c.a.evalT r.ws = o at hv ⊢
  refine And.intro (fun h1 => And.intro (fun h2 => ?_) (fun h2 => ?_)) (fun h1 => ?_)
  · rw [if_pos ⟨h1, h2⟩]
    (refine retS (by repeat' first | exact trivial | exact rfl | exact Iff.rfl | refine And.intro ?_ ?_) ?_; repeat' first | exact trivial | exact rfl | exact Iff.rfl | exact Or.inl rfl | refine And.intro ?_ ?_)
  · rw [if_neg (fun h => h2 h.2)]
    refine And.intro (fun h3 => ?_) (fun h3 => absurd h1 h3)
    refine .inl ⟨inR_u32 (by omega), ?_⟩
    refine And.intro (fun h4 => ?_) (fun h4 => ?_)
    · rw [if_pos (.inl ⟨h1, h4⟩)]
      (refine retS (by repeat' first | exact trivial | exact rfl | exact Iff.rfl | refine And.intro ?_ ?_) ?_; repeat' first | exact trivial | exact rfl | exact Iff.rfl | exact Or.inl rfl | refine And.intro ?_ ?_)
    · refine And.intro (fun h5 => ?_) (fun h5 => ?_)
      · exact absurd h1 (by omega)
      rw [if_neg (fun h => h.elim (fun h => h4 h.2) (fun h => h5 h.1))]
      refine ⟨[], nofun, (hall r hr).1.go (by repeat' first | exact trivial | exact rfl | exact Iff.rfl | exact Or.inl rfl | refine And.intro ?_ ?_) rfl rfl ?_⟩
      refine ⟨[], nofun, ended_runs.go (by repeat' first | exact trivial | exact rfl | exact Iff.rfl | exact Or.inl rfl | refine And.intro ?_ ?_) rfl rfl ?_⟩
      refine And.intro (fun hf => ?_) (fun hf => And.intro (fun h6 => ?_) (fun h6 => ?_))
      · rw [if_pos hf]
        (refine retS (by repeat' first | exact trivial | exact rfl | exact Iff.rfl | refine And.intro ?_ ?_) ?_; repeat' first | exact trivial | exact rfl | exact Iff.rfl | exact Or.inl rfl | refine And.intro ?_ ?_)
      · rw [if_neg hf, if_pos h1]
        (refine retS (by repeat' first | exact trivial | exact rfl | exact Iff.rfl | refine And.intro ?_ ?_) ?_; repeat' first | exact trivial | exact rfl | exact Iff.rfl | exact Or.inl rfl | refine And.intro ?_ ?_)
      · exact absurd h1 h6
  · rw [if_neg (fun h => h1 h.1)]
    have h0 : c.size = 0 := by omega
    refine And.intro (fun h3 => absurd h3 h1) (fun h3 => And.intro (fun h5 => And.intro (fun h6 => And.intro (fun h7 => ?_) (fun h7 => ?_)) (fun h6 => ?_)) (fun h5 => absurd h0 h5))
    · rw [if_pos (.inr ⟨h0, h6, h7⟩)]
      (refine retS (by repeat' first | exact trivial | exact rfl | exact Iff.rfl | refine And.intro ?_ ?_) ?_; repeat' first | exact trivial | exact rfl | exact Iff.rfl | exact Or.inl rfl | refine And.intro ?_ ?_)
    · rw [if_neg (fun h => h.elim (fun h => h1 h.1) (fun h => h7 h.2.2))]
      refine ⟨[], nofun, (hall r hr).1.go (by repeat' first | exact trivial | exact rfl | exact Iff.rfl | exact Or.inl rfl | refine And.intro ?_ ?_) rfl rfl ?_⟩
      refine ⟨[], nofun, ended_runs.go (by repeat' first | exact trivial | exact rfl | exact Iff.rfl | exact Or.inl rfl | refine And.intro ?_ ?_) rfl rfl ?_⟩
      refine And.intro (fun hf => ?_) (fun hf => And.intro (fun h6 => absurd h6 h1) (fun h6 => ?_))
      · rw [if_pos hf]
        (refine retS (by repeat' first | exact trivial | exact rfl | exact Iff.rfl | refine And.intro ?_ ?_) ?_; repeat' first | exact trivial | exact rfl | exact Iff.rfl | exact Or.inl rfl | refine And.intro ?_ ?_)
      · rw [if_neg hf, if_neg h1]
        (refine retS (by repeat' first | exact trivial | exact rfl | exact Iff.rfl | refine And.intro ?_ ?_) ?_; repeat' first | exact trivial | exact rfl | exact Iff.rfl | exact Or.inl rfl | refine And.intro ?_ ?_)
    · rw [if_neg (fun h => h.elim (fun h => h1 h.1) (fun h => h6 h.2.1))]
      refine ⟨[], nofun, (hall r hr).1.go (by repeat' first | exact trivial | exact rfl | exact Iff.rfl | exact Or.inl rfl | refine And.intro ?_ ?_) rfl rfl ?_⟩
      refine ⟨[], nofun, ended_runs.go (by repeat' first | exact trivial | exact rfl | exact Iff.rfl | exact Or.inl rfl | refine And.intro ?_ ?_) rfl rfl ?_⟩
      refine And.intro (fun hf => ?_) (fun hf => And.intro (fun h6 => absurd h6 h1) (fun h6 => ?_))
      · rw [if_pos hf]
        (refine retS (by repeat' first | exact trivial | exact rfl | exact Iff.rfl | refine And.intro ?_ ?_) ?_; repeat' first | exact trivial | exact rfl | exact Iff.rfl | exact Or.inl rfl | refine And.intro ?_ ?_)
      · rw [if_neg hf, if_neg h1]
        (refine retS (by repeat' first | exact trivial | exact rfl | exact Iff.rfl | refine And.intro ?_ ?_) ?_; repeat' first | exact trivial | exact rfl | exact Iff.rfl | exact Or.inl rfl | refine And.intro ?_ ?_)

/-- rounds -/
def R.put (r : R) (n : Nat) (v : Int) : R := { r with ws := r.ws.set n v }
def roundsR (wt : Int) (c : C) (r : R) : R :=
  if (r.evl c.a).fin then r.evl c.a else (rndR (fun r => allR wt c.l r) c.word.toNat (((r.evl c.a).val c.b) - r.val c.a).toNat (r.val c.a) ((r.evl c.a).evl c.b)).put c.word.toNat ((((r.evl c.a).evl c.b).ws[c.word.toNat]?).getD 0)

set_option maxRecDepth 10000 in
theorem rounds_runs {c0 : C} {wt : Int} (c : C) (ha : c.a.Wf) (hb : c.b.Wf) (hs : 4 ≤ c.word ∧ c.word ≤ 253) (hall : AllRuns c0 wt c) {r : R} (hr : r.Ok) : Runs 34 [.ptr 2 0, cpv c] c0 wt r (.tup []) (roundsR wt c r) := by
  refine Spec.leS (Spec.enter gTok P34 100 Tryd.func34 rfl (by kernel_rfl) ?_)
  unfold roundsR
  refine ⟨[], nofun, (eval_runs hr c.a ha).go (by repeat' first | exact trivial | exact rfl | exact Iff.rfl | exact Or.inl rfl | refine And.intro ?_ ?_) rfl rfl ?_⟩
  refine ⟨[], nofun, ended_runs.go (by repeat' first | exact trivial | exact rfl | exact Iff.rfl | exact Or.inl rfl | refine And.intro ?_ ?_) rfl rfl ?_⟩
  refine And.intro (fun hf => ?_) (fun hf => ?_)
  · rw [if_pos hf]
    (refine retS (by repeat' first | exact trivial | exact rfl | exact Iff.rfl | refine And.intro ?_ ?_) ?_; repeat' first | exact trivial | exact rfl | exact Iff.rfl | exact Or.inl rfl | refine And.intro ?_ ?_)
  rw [if_neg hf]
  have h1 := hr.val ha
  have hr1 := hr.evl c.a
  have h2 := hr1.val hb
  refine ⟨[], nofun, (eval_runs hr1 c.b hb).go (by repeat' first | exact trivial | exact rfl | exact Iff.rfl | exact Or.inl rfl | refine And.intro ?_ ?_) rfl rfl ?_⟩
  have hr2 := hr1.evl c.b
  have hlen := hr2.len
  generalize ((r.evl c.a).val c.b) = hi at h2 ⊢
  generalize r.val c.a = lo at h1 ⊢
  generalize (r.evl c.a).evl c.b = r2 at hr2 hlen ⊢
  refine ⟨by omega, show c.word < ((wordsP r2.ws).length : Nat) by rw [wordsP, List.length_map]; omega, ?_⟩
  refine ⟨Int, r2.ws, PV.int .u32, rfl, by omega, fun was hwas => ?_⟩
  rw [hwas]
  have hwb := hr2.ws was (List.mem_of_getElem? hwas)
  obtain ⟨r1, hr1⟩ : ∃ q, q = rndR (fun r => allR wt c.l r) c.word.toNat (hi - lo).toNat lo r2 := ⟨_, rfl⟩
  rw [← hr1]
  have e1 : Option.getD (some was) 0 = was := rfl
  rw [e1]
  refine SW.loopW gTok P34 (by kernel_rfl) (α := {p : Int × R // p.2.Ok ∧ rndR (fun r => allR wt c.l r) c.word.toNat (hi - p.1).toNat p.1 p.2 = r1 ∧ 0 ≤ p.1 ∧ p.1 ≤ 4294967295}) (fun x => [(7, .int .u32 x.1.1)]) (fun x => sR c0 wt x.1.2 ++ [xB c]) (fun x => (hi - x.1.1).toNat) ⟨(lo, r2), hr2, hr1.symm, h1⟩ 60 [some 0, some 1, some 2, some 3] ?_ ?_
  · repeat' first | exact trivial | exact rfl | refine And.intro ?_ ?_
  rintro ⟨⟨i, q⟩, hq, hall2, hi0, hi1⟩
  dsimp only at hq hall2 hi0 hi1
  have hql := hq.len
  have fin_ : r1 = q → leSt [xB c0, ⟨.dyn, 25, 1, .w, true, (wordsP q.ws).set c.word.toNat (.int .u32 was)⟩, rB wt q] (sR c0 wt (r1.put c.word.toNat was)) := fun e => by
    subst e
    refine ⟨(by repeat' first | exact trivial | exact rfl | exact Iff.rfl | exact Or.inl rfl | refine And.intro ?_ ?_), wordsP_set .., (by repeat' first | exact trivial | exact rfl | exact Iff.rfl | exact Or.inl rfl | refine And.intro ?_ ?_)⟩
  refine And.intro (fun h => ?_) (fun h => ?_)
  · have h' : i < hi := h
    have step : r1 = if q.fin then q else rndR (fun r => allR wt c.l r) c.word.toNat (hi - (i + 1)).toNat (i + 1) (allR wt c.l (q.put c.word.toNat i)) := by
      rw [← hall2, show (hi - i).toNat = (hi - (i + 1)).toNat + 1 by omega, rndR]; rfl
    refine ⟨[], nofun, ended_runs.go (by repeat' first | exact trivial | exact rfl | exact Iff.rfl | exact Or.inl rfl | refine And.intro ?_ ?_) rfl rfl ?_⟩
    refine And.intro (fun hf => ?_) (fun hf => ?_)
    · rw [if_neg hf] at step
      refine ⟨by omega, show c.word < ((wordsP q.ws).length : Nat) by rw [wordsP, List.length_map]; omega, show c.word.toNat < (wordsP q.ws).length by rw [wordsP, List.length_map]; omega, ?_⟩
      obtain ⟨k1, k2⟩ := hall (q.put c.word.toNat i) (hq.set _ ⟨hi0, hi1⟩)
      refine ⟨[], nofun, k1.use (by repeat' first | exact trivial | exact rfl | exact Iff.rfl | exact Or.inl rfl | refine And.intro ?_ ?_) rfl rfl ?_⟩
      refine And.intro (by repeat' first | exact trivial | exact rfl | exact Iff.rfl | exact Or.inl rfl | refine And.intro ?_ ?_) (And.intro (wordsP_set ..) (And.intro (by repeat' first | exact trivial | exact rfl | exact Iff.rfl | exact Or.inl rfl | refine And.intro ?_ ?_) ?_))
      refine .inl ⟨inR_u32 (show 0 ≤ i + 1 ∧ i + 1 ≤ 4294967295 by omega), ⟨(i + 1, allR wt c.l (q.put c.word.toNat i)), k2, step.symm, show 0 ≤ i + 1 by omega, show i + 1 ≤ 4294967295 by omega⟩, [some 0, some 1, some 2, some 3], show (hi - (i + 1)).toNat < (hi - i).toNat by omega, ?_⟩
      repeat' first | exact trivial | exact rfl | refine And.intro ?_ ?_
    · rw [if_pos (Classical.not_not.1 hf)] at step
      refine ⟨by omega, show c.word < ((wordsP q.ws).length : Nat) by rw [wordsP, List.length_map]; omega, show c.word.toNat < (wordsP q.ws).length by rw [wordsP, List.length_map]; omega, ?_⟩
      exact retS (by repeat' first | exact trivial | exact rfl | exact Iff.rfl | exact Or.inl rfl | refine And.intro ?_ ?_) (fin_ step)
  · have h' : ¬ i < hi := h
    have step : r1 = q := by rw [← hall2, show (hi - i).toNat = 0 by omega, rndR]
    refine ⟨by omega, show c.word < ((wordsP q.ws).length : Nat) by rw [wordsP, List.length_map]; omega, show c.word.toNat < (wordsP q.ws).length by rw [wordsP, List.length_map]; omega, ?_⟩
    exact retS (by repeat' first | exact trivial | exact rfl | exact Iff.rfl | exact Or.inl rfl | refine And.intro ?_ ?_) (fin_ step)

end Go.Proofs.YtfnjlkmhnhojpaaDoor.Pw

/- Chapter 11 over values: Fold. -/
namespace Go.Proofs.YtfnjlkmhnhojpaaDoor.Pw
open Go Go.RowKit

/-- a node whose terms are folded -/
def foldN (t : T) (c : Bool) : T := if c then (match t.evalT [] with
  | some v => .leaf 1 v
  | none => t) else t
def foldT : T → T
  | .leaf o n => foldN (.leaf o n) (decide (o ≠ 2))
  | .one o n a => foldN (.one o n (foldT a)) (decide (o ≠ 2) && decide ((foldT a).op = 1))
  | .two o n a b => foldN (.two o n (foldT a) (foldT b)) ((decide (o ≠ 2) && decide ((foldT a).op = 1)) && decide ((foldT b).op = 1))
theorem wordsOk_nil : WordsOk [] := ⟨by simp, by simp⟩
theorem foldN_wf {t : T} {c : Bool} (h : t.Wf) : (foldN t c).Wf := by
  unfold foldN
  split
  · split
    · rename_i v hv
      exact T.evalT_bd wordsOk_nil h hv
    · exact h
  · exact h
theorem foldT_wf : ∀ {t : T}, t.Wf → (foldT t).Wf
  | .leaf o n, h => foldN_wf h
  | .one o n a, h => by unfold foldT; exact foldN_wf ⟨h.1, foldT_wf h.2⟩
  | .two o n a b, h => by unfold foldT; exact foldN_wf ⟨h.1, foldT_wf h.2.1, foldT_wf h.2.2⟩
theorem of_pureT (n : Int) : PureF gT 11 [.int .u32 n] (tpv (.leaf 1 n)) := by
  refine Spec.enter gTok P11 100 Tryd.func11 rfl (by kernel_rfl) ?_
  exact retE ⟨rfl, rfl, rfl, trivial⟩

end Go.Proofs.YtfnjlkmhnhojpaaDoor.Pw

/- Chapter 21 over values: a cost is reckoned; Eval. -/
namespace Go.Proofs.YtfnjlkmhnhojpaaDoor.Pw
open Go Go.RowKit

theorem C.ind' {p : C → Prop} (h : ∀ c : C, (∀ x ∈ c.l, p x) → p c) : ∀ c, p c := C.ind fun k cy mi wo si a b l ih => h (.mk k cy mi wo si a b l) ih
theorem shC_iff (c : C) : shC c = true ↔ (1 ≤ c.kind ∧ c.kind ≤ 6) ∧ numsB c.kind c.cyc c.mis c.word c.size = true ∧ (leastN c.kind ≤ (c.l.length : Nat) ∧ ((c.l.length : Nat) : Int) ≤ mostN c.kind) ∧ termB c.a (decide (3 ≤ c.kind)) = true ∧ termB c.b (decide (c.kind = 4 ∨ c.kind = 6)) = true ∧ shL c.l = true := by
  cases c with
  | mk k cy mi wo si a b l => simp only [shC, Bool.and_eq_true, decide_eq_true_eq, C.kind, C.cyc, C.mis, C.word, C.size, C.a, C.b, C.l]; exact Iff.rfl
theorem C.wf_iff (c : C) : c.Wf ↔ c.a.Wf ∧ c.b.Wf ∧ wfL c.l := by cases c; rfl
theorem wtnB_in {n lo hi : Int} (h : wtnB n lo hi true = true) : lo ≤ n ∧ n ≤ hi := by simpa [wtnB] using h
theorem wtnB_out {n lo hi : Int} (h : wtnB n lo hi false = true) : n = 0 := by simpa [wtnB] using h
structure Nums (c : C) : Prop where
  cyc : 0 ≤ c.cyc ∧ c.cyc ≤ 2147483647
  mis : 0 ≤ c.mis ∧ c.mis ≤ 2147483647
  word : c.kind = 4 → 4 ≤ c.word ∧ c.word ≤ 253
  size : 0 ≤ c.size ∧ c.size ≤ 1024
theorem wtnB_or {n lo hi : Int} {t : Bool} (h0 : lo ≤ 0) (h1 : 0 ≤ hi) (h : wtnB n lo hi t = true) : lo ≤ n ∧ n ≤ hi := by
  cases t with
  | true => exact wtnB_in h
  | false => rw [wtnB_out h]; exact ⟨h0, h1⟩
theorem nums_of {c : C} (h : numsB c.kind c.cyc c.mis c.word c.size = true) : Nums c := by
  simp only [numsB, Bool.and_eq_true] at h
  obtain ⟨h1, h2, h3, h4⟩ := h
  refine ⟨wtnB_or (by omega) (by omega) h1, wtnB_or (by omega) (by omega) h2, fun hk => ?_, wtnB_or (by omega) (by omega) h4⟩
  rw [decide_eq_true hk] at h3
  exact wtnB_in h3

def condR (wt : Int) (c : C) (r : R) : R := if (r.evl c.a).fin then r.evl c.a else if r.val c.a ≠ 0 then nthR wt c.l 0 (r.evl c.a) else nthR wt c.l 1 (r.evl c.a)
def divR (c : C) (r : R) : R := if (r.evl c.a).fin then r.evl c.a else if ((r.evl c.a).evl c.b).fin then (r.evl c.a).evl c.b else ((r.evl c.a).evl c.b).add (divV (r.val c.a) ((r.evl c.a).val c.b) - 2)
theorem oneR_eq (wt : Int) (c : C) (r : R) : oneR wt c r = if r.fuel ≤ 0 then { r with e := 70 } else if c.kind = 1 then r.fuelMore.add (c.cyc + c.mis * wt) else if c.kind = 2 then allR wt c.l r.fuelMore else if c.kind = 3 then condR wt c r.fuelMore
    else if c.kind = 4 then roundsR wt c r.fuelMore else if c.kind = 5 then stopR wt c r.fuelMore else if c.kind = 6 then divR c r.fuelMore else r.fuelMore := by cases c; rfl
theorem nthR_eq (wt : Int) : ∀ {l : List C} {n : Nat} {x : C} (r : R), l[n]? = some x → nthR wt l n r = oneR wt x r
  | c :: l, 0, x, r, h => by simp at h; subst h; rw [nthR]
  | c :: l, n + 1, x, r, h => by rw [nthR]; exact nthR_eq wt r (by simpa using h)
theorem allR_ok {wt : Int} : ∀ {l : List C}, (∀ c ∈ l, ∀ r : R, r.Ok → (oneR wt c r).Ok) → ∀ r : R, r.Ok → (allR wt l r).Ok
  | [], _, r, hr => by rw [allR]; exact hr
  | c :: l, h, r, hr => by
    rw [allR]
    split
    · exact hr
    · exact allR_ok (fun x hx => h x (by simp [hx])) _ (h c (by simp) r hr)
theorem rndR_ok {f : R → R} (hf : ∀ r : R, r.Ok → (f r).Ok) {wo : Nat} : ∀ (n : Nat) (i : Int) (r : R), 0 ≤ i → i + n ≤ 4294967296 → r.Ok → (rndR f wo n i r).Ok
  | 0, i, r, _, _, hr => by rw [rndR]; exact hr
  | n + 1, i, r, h0, h1, hr => by
    rw [rndR]
    split
    · exact hr
    · exact rndR_ok hf n (i + 1) _ (by omega) (by omega) (hf _ (hr.set wo ⟨h0, by omega⟩))
theorem R.Ok.fuelMore {r : R} (h : r.Ok) (h0 : ¬ r.fuel ≤ 0) : r.fuelMore.Ok := ⟨h.len, h.ws, by have := h.fuel; simp only [R.fuelMore]; omega, h.sum⟩
theorem getD_bd {ws : List Int} (h : ∀ v ∈ ws, 0 ≤ v ∧ v ≤ 4294967295) (n : Nat) : 0 ≤ (ws[n]?).getD 0 ∧ (ws[n]?).getD 0 ≤ 4294967295 := by
  cases hv : ws[n]? with
  | none => simp
  | some v => exact h v (List.mem_of_getElem? hv)
theorem oneR_ok {wt : Int} (hwt : 0 ≤ wt ∧ wt ≤ 7) : ∀ c : C, c.Wf → shC c = true → ∀ r : R, r.Ok → (oneR wt c r).Ok := C.ind' fun c ih hw hs r hr => by
  obtain ⟨hk, hn, hl, hta, htb, hsl⟩ := (shC_iff c).1 hs
  obtain ⟨ha, hb, hwl⟩ := (C.wf_iff c).1 hw
  have N := nums_of hn
  have hone : ∀ x ∈ c.l, ∀ r : R, r.Ok → (oneR wt x r).Ok := fun x hx => ih x hx (wfL_all hwl x hx) (shL_all hsl x hx)
  rw [oneR_eq]
  split
  · exact hr.err 70
  rename_i hf
  have hr1 := hr.fuelMore hf
  split
  · refine hr1.add ?_
    have := Int.mul_nonneg N.mis.1 hwt.1
    have := N.cyc.1
    omega
  split
  · exact allR_ok hone _ hr1
  split
  · unfold condR
    have nth : ∀ n (r : R), r.Ok → (nthR wt c.l n r).Ok := fun n r hr => by
      cases hx : c.l[n]? with
      | some x => rw [nthR_eq wt r hx]; exact hone x (List.mem_of_getElem? hx) r hr
      | none =>
        have key : ∀ (l : List C) (n : Nat), l[n]? = none → nthR wt l n r = r := fun l => by
          induction l with
          | nil => intro n _; rw [nthR]
          | cons c l ih => intro n h; cases n with
            | zero => simp at h
            | succ n => rw [nthR]; exact ih n (by simpa using h)
        rw [key _ _ hx]; exact hr
    split
    · exact hr1.evl _
    split
    · exact nth 0 _ (hr1.evl _)
    · exact nth 1 _ (hr1.evl _)
  split
  · unfold roundsR
    split
    · exact hr1.evl _
    · have b1 := hr1.val ha
      have b2 := (hr1.evl c.a).val hb
      exact (rndR_ok (fun r hr => allR_ok hone r hr) _ _ _ b1.1 (by omega) ((hr1.evl c.a).evl c.b)).set _ (getD_bd ((hr1.evl c.a).evl c.b).ws _)
  split
  · unfold stopR
    split
    · exact hr1.trap 2
    split
    · exact hr1
    split
    · exact allR_ok hone _ hr1
    · exact (allR_ok hone _ hr1).trap _
  split
  · unfold divR
    split
    · exact hr1.evl _
    split
    · exact (hr1.evl _).evl _
    · have := divV_bd (b := (r.fuelMore.evl c.a).val c.b) (hr1.val ha).2
      exact ((hr1.evl _).evl _).add (by omega)
  · exact hr1

set_option maxRecDepth 10000 in
theorem one_runs {c0 : C} {wt : Int} (hwt : 0 ≤ wt ∧ wt ≤ 7) : ∀ c : C, c.Wf → shC c = true → ∀ r : R, r.Ok → Runs 19 [.ptr 2 0, cpv c] c0 wt r (.tup []) (oneR wt c r) := C.ind' fun c ih hw hs r hr => by
  obtain ⟨hk, hn, hl, hta, htb, hsl⟩ := (shC_iff c).1 hs
  obtain ⟨ha, hb, hwl⟩ := (C.wf_iff c).1 hw
  have N := nums_of hn
  have hone : ∀ x ∈ c.l, ∀ r : R, r.Ok → Runs 19 [.ptr 2 0, cpv x] c0 wt r (.tup []) (oneR wt x r) ∧ (oneR wt x r).Ok := fun x hx r hr => ⟨ih x hx (wfL_all hwl x hx) (shL_all hsl x hx) r hr, oneR_ok hwt x (wfL_all hwl x hx) (shL_all hsl x hx) r hr⟩
  have hall : AllRuns c0 wt c := fun r hr => ⟨by rw [kidsC_eq]; exact all_runs c.l hone r hr, allR_ok (fun x hx r hr => (hone x hx r hr).2) r hr⟩
  rw [oneR_eq]
  refine Spec.leS (Spec.enter gTok P19 100 Tryd.func19 rfl (by kernel_rfl) ?_)
  refine And.intro (fun h0 => ?_) (fun h0 => ?_)
  · rw [if_pos h0]
    (refine retS (by repeat' first | exact trivial | exact rfl | exact Iff.rfl | refine And.intro ?_ ?_) ?_; repeat' first | exact trivial | exact rfl | exact Iff.rfl | exact Or.inl rfl | refine And.intro ?_ ?_)
  rw [if_neg h0]
  have hfu := hr.fuel
  have hr1 := hr.fuelMore h0
  refine .inl ⟨inR_i64 (by omega), ?_⟩
  refine And.intro (fun h1 => ?_) (fun h1 => And.intro (fun h2 => ?_) (fun h2 => And.intro (fun h3 => ?_) (fun h3 => And.intro (fun h4 => ?_) (fun h4 => And.intro (fun h5 => ?_) (fun h5 => And.intro (fun h6 => ?_) (fun h6 => ?_))))))
  · rw [if_pos h1]
    have hm := Int.mul_le_mul N.mis.2 hwt.2 hwt.1 (by omega)
    have hm0 := Int.mul_nonneg N.mis.1 hwt.1
    have c1 := N.cyc
    have m1 := N.mis
    refine .inl ⟨inR_u64 (by omega), .inl ⟨inR_u64 (by omega), .inl ⟨inR_u64 (by omega), .inl ⟨inR_u64 (by omega), .inl ⟨inR_u64 (by omega), ?_⟩⟩⟩⟩⟩
    refine ⟨[], nofun, (add_runs hr1 (c.cyc + c.mis * wt) (by omega)).go (by repeat' first | exact trivial | exact rfl | exact Iff.rfl | exact Or.inl rfl | refine And.intro ?_ ?_) rfl rfl ?_⟩
    (refine retS (by repeat' first | exact trivial | exact rfl | exact Iff.rfl | refine And.intro ?_ ?_) ?_; repeat' first | exact trivial | exact rfl | exact Iff.rfl | exact Or.inl rfl | refine And.intro ?_ ?_)
  · rw [if_neg h1, if_pos h2]
    refine ⟨[], nofun, (hall _ hr1).1.go (by repeat' first | exact trivial | exact rfl | exact Iff.rfl | exact Or.inl rfl | refine And.intro ?_ ?_) rfl rfl ?_⟩
    (refine retS (by repeat' first | exact trivial | exact rfl | exact Iff.rfl | refine And.intro ?_ ?_) ?_; repeat' first | exact trivial | exact rfl | exact Iff.rfl | exact Or.inl rfl | refine And.intro ?_ ?_)
  · rw [if_neg h1, if_neg h2, if_pos h3]
    have hlen : c.l.length = 2 := by
      have h7 := hl
      rw [h3] at h7
      have e1 : leastN 3 = 2 := by decide
      have e2 : mostN 3 = 2 := by decide
      omega
    unfold condR
    refine ⟨[], nofun, (eval_runs hr1 c.a ha).go (by repeat' first | exact trivial | exact rfl | exact Iff.rfl | exact Or.inl rfl | refine And.intro ?_ ?_) rfl rfl ?_⟩
    refine ⟨[], nofun, ended_runs.go (by repeat' first | exact trivial | exact rfl | exact Iff.rfl | exact Or.inl rfl | refine And.intro ?_ ?_) rfl rfl ?_⟩
    refine And.intro (fun hf => ?_) (fun hf => ?_)
    · rw [if_pos hf]
      (refine retS (by repeat' first | exact trivial | exact rfl | exact Iff.rfl | refine And.intro ?_ ?_) ?_; repeat' first | exact trivial | exact rfl | exact Iff.rfl | exact Or.inl rfl | refine And.intro ?_ ?_)
    rw [if_neg hf]
    refine And.intro (fun hv => ?_) (fun hv => ?_)
    · rw [if_pos hv]
      refine ⟨C, c.l, cpv, kidsC_eq c, by decide, show (0 : Int) < (c.l.length : Int) by omega, fun x hx => ?_⟩
      have hx' : c.l[0]? = some x := hx
      rw [nthR_eq wt _ hx']
      refine ⟨[], nofun, (hone x (List.mem_of_getElem? hx') _ (hr1.evl _)).1.go (by repeat' first | exact trivial | exact rfl | exact Iff.rfl | exact Or.inl rfl | refine And.intro ?_ ?_) rfl rfl ?_⟩
      (refine retS (by repeat' first | exact trivial | exact rfl | exact Iff.rfl | refine And.intro ?_ ?_) ?_; repeat' first | exact trivial | exact rfl | exact Iff.rfl | exact Or.inl rfl | refine And.intro ?_ ?_)
    · rw [if_neg hv]
      refine ⟨C, c.l, cpv, kidsC_eq c, by decide, show (1 : Int) < (c.l.length : Int) by omega, fun x hx => ?_⟩
      have hx' : c.l[1]? = some x := hx
      rw [nthR_eq wt _ hx']
      refine ⟨[], nofun, (hone x (List.mem_of_getElem? hx') _ (hr1.evl _)).1.go (by repeat' first | exact trivial | exact rfl | exact Iff.rfl | exact Or.inl rfl | refine And.intro ?_ ?_) rfl rfl ?_⟩
      (refine retS (by repeat' first | exact trivial | exact rfl | exact Iff.rfl | refine And.intro ?_ ?_) ?_; repeat' first | exact trivial | exact rfl | exact Iff.rfl | exact Or.inl rfl | refine And.intro ?_ ?_)
  · rw [if_neg h1, if_neg h2, if_neg h3, if_pos h4]
    refine ⟨[], nofun, (rounds_runs c ha hb (N.word h4) hall hr1).go (by repeat' first | exact trivial | exact rfl | exact Iff.rfl | exact Or.inl rfl | refine And.intro ?_ ?_) rfl rfl ?_⟩
    (refine retS (by repeat' first | exact trivial | exact rfl | exact Iff.rfl | refine And.intro ?_ ?_) ?_; repeat' first | exact trivial | exact rfl | exact Iff.rfl | exact Or.inl rfl | refine And.intro ?_ ?_)
  · rw [if_neg h1, if_neg h2, if_neg h3, if_neg h4, if_pos h5]
    refine ⟨[], nofun, (stop_runs c ha N.size hall hr1).go (by repeat' first | exact trivial | exact rfl | exact Iff.rfl | exact Or.inl rfl | refine And.intro ?_ ?_) rfl rfl ?_⟩
    (refine retS (by repeat' first | exact trivial | exact rfl | exact Iff.rfl | refine And.intro ?_ ?_) ?_; repeat' first | exact trivial | exact rfl | exact Iff.rfl | exact Or.inl rfl | refine And.intro ?_ ?_)
  · rw [if_neg h1, if_neg h2, if_neg h3, if_neg h4, if_neg h5, if_pos h6]
    refine ⟨[], nofun, (divide_runs hr1 c ha hb).go (by repeat' first | exact trivial | exact rfl | exact Iff.rfl | exact Or.inl rfl | refine And.intro ?_ ?_) rfl rfl ?_⟩
    (refine retS (by repeat' first | exact trivial | exact rfl | exact Iff.rfl | refine And.intro ?_ ?_) ?_; repeat' first | exact trivial | exact rfl | exact Iff.rfl | exact Or.inl rfl | refine And.intro ?_ ?_)
  · exact absurd hk (by omega)

end Go.Proofs.YtfnjlkmhnhojpaaDoor.Pw

/- Chapter 21 over values: Eval, the document's example. -/
namespace Go.Proofs.YtfnjlkmhnhojpaaDoor.Pw
open Go Go.RowKit

def fillW (ws : List Int) : List Int := ws.take 254 ++ List.replicate (254 - ws.length) 0
def r0 (ws : List Int) (fuel : Int) : R := ⟨fillW ws, fuel, 0, 0, 0⟩
theorem r0_ok {ws : List Int} {fuel : Int} (hw : ∀ v ∈ ws, 0 ≤ v ∧ v ≤ 4294967295) (hf : -9223372036854775808 ≤ fuel ∧ fuel ≤ 9223372036854775807) : (r0 ws fuel).Ok := by
  refine ⟨?_, fun v hv => ?_, hf, by simp [r0]⟩
  · simp only [r0, fillW, List.length_append, List.length_take, List.length_replicate]; omega
  · simp only [r0, fillW, List.mem_append] at hv
    rcases hv with hv | hv
    · exact hw v (List.mem_of_mem_take hv)
    · rw [(List.mem_replicate.1 hv).2]; omega
theorem fillW_eq (ws : List Int) : (wordsP ws).take (List.replicate 254 (PV.int .u32 0)).length ++ (List.replicate 254 (PV.int .u32 0)).drop (wordsP ws).length = wordsP (fillW ws) := by
  unfold wordsP fillW
  rw [List.length_replicate, List.length_map, List.drop_replicate, List.map_append, List.map_take, List.map_replicate]
def EvR (q : R) : Int × Int × Int := if q.e = 0 then (q.sum, q.trap, 0) else (0, 0, q.e)
/-- a cost's value, its trap, an error -/
def evC (c : C) (ws : List Int) (wait fuel : Int) : Int × Int × Int := if wait < 0 ∨ 7 < wait then (0, 0, 11) else EvR (oneR wait c (r0 ws fuel))
def triP (x : Int × Int × Int) : PV := .tup [.int .u64 x.1, .int .i64 x.2.1, .int .i64 x.2.2]

set_option maxRecDepth 10000 in
theorem evalC_pure (c : C) (hw : c.Wf) (hs : shC c = true) (ws : List Int) (hws : ∀ v ∈ ws, 0 ≤ v ∧ v ≤ 4294967295) (wait fuel : Int) (hf : -9223372036854775808 ≤ fuel ∧ fuel ≤ 9223372036854775807) : PureF gT 9 [cpv c, .sl 1 (wordsP ws), .int .i64 wait, .int .i64 fuel] (triP (evC c ws wait fuel)) := by
  refine Spec.enter gTok P9 100 Tryd.func9 rfl (by kernel_rfl) ?_
  unfold evC
  refine And.intro (fun h1 => ?_) (fun h1 => And.intro (fun h2 => ?_) (fun h2 => ?_))
  · rw [if_pos (.inl h1)]
    (refine retE ?_; repeat' first | exact trivial | exact rfl | exact Iff.rfl | exact Or.inl rfl | refine And.intro ?_ ?_)
  · rw [if_pos (.inr h2)]
    (refine retE ?_; repeat' first | exact trivial | exact rfl | exact Iff.rfl | exact Or.inl rfl | refine And.intro ?_ ?_)
  rw [if_neg (by omega)]
  refine pmake_ok gTok ?_
  refine pcopy_ok gTok ?_
  refine ⟨show 254 ≠ 0 by decide, ?_⟩
  have hr := r0_ok hws hf
  refine ⟨[], nofun, (one_runs (c0 := c) (wt := wait) (by omega) c hw hs (r0 ws fuel) hr).use (by repeat' first | exact trivial | exact rfl | exact Iff.rfl | exact Or.inl rfl | refine And.intro ?_ ?_) rfl rfl ?_⟩
  refine And.intro (by repeat' first | exact trivial | exact rfl | exact Iff.rfl | exact Or.inl rfl | refine And.intro ?_ ?_) (And.intro (fillW_eq ws) (And.intro (by repeat' first | exact trivial | exact rfl | exact Iff.rfl | exact Or.inl rfl | refine And.intro ?_ ?_) ?_))
  generalize oneR wait c (r0 ws fuel) = q
  unfold EvR
  refine And.intro (fun h => ?_) (fun h => ?_)
  · rw [if_neg h]
    (refine retE ?_; repeat' first | exact trivial | exact rfl | exact Iff.rfl | exact Or.inl rfl | refine And.intro ?_ ?_)
  · rw [if_pos (Classical.not_not.1 h)]
    (refine retE ?_; repeat' first | exact trivial | exact rfl | exact Iff.rfl | exact Or.inl rfl | refine And.intro ?_ ?_)

def leaf0 : T := .leaf 0 0
def flatC (cy mi : Int) : C := .mk 1 cy mi 0 0 leaf0 leaf0 []
set_option maxRecDepth 10000 in
theorem fixed_pure (cy mi : Int) : PureF gT 12 [.int .i64 cy, .int .i64 mi] (cpv (flatC cy mi)) := by
  refine Spec.enter gTok P12 100 Tryd.func12 rfl (by kernel_rfl) ?_
  (refine retE ?_; repeat' first | exact trivial | exact rfl | exact Iff.rfl | exact Or.inl rfl | refine And.intro ?_ ?_)
def anchorC : C := .mk 4 0 0 4 0 (.leaf 1 0) (.leaf 1 10) [flatC 3 1]

set_option maxRecDepth 10000 in
theorem anchor21_pure : PureF gT 5 [] .tt := by
  refine Spec.enter gTok P5 100 Tryd.func5 rfl (by kernel_rfl) ?_
  refine ⟨[], nofun, (of_pureT 0).use (by repeat' first | exact trivial | exact rfl | exact Iff.rfl | exact Or.inl rfl | refine And.intro ?_ ?_) rfl rfl ?_⟩
  refine ⟨[], nofun, (of_pureT 10).use (by repeat' first | exact trivial | exact rfl | exact Iff.rfl | exact Or.inl rfl | refine And.intro ?_ ?_) rfl rfl ?_⟩
  refine ⟨[], nofun, (fixed_pure 3 1).use (by repeat' first | exact trivial | exact rfl | exact Iff.rfl | exact Or.inl rfl | refine And.intro ?_ ?_) rfl rfl ?_⟩
  have he : evC anchorC [] 1 100 = (40, 0, 0) := by kernel_rfl
  have hp := evalC_pure anchorC (by refine ⟨⟨?_, ?_⟩, ⟨?_, ?_⟩, ⟨⟨?_, ?_⟩, ⟨?_, ?_⟩, trivial⟩, trivial⟩ <;> decide) (by kernel_rfl) [] (by simp) 1 100 (by omega)
  rw [he] at hp
  refine ⟨[], nofun, hp.useB [0] (by repeat' first | exact trivial | exact rfl | exact Iff.rfl | exact Or.inl rfl | refine And.intro ?_ ?_) rfl rfl ?_⟩
  refine And.intro (fun _ => And.intro (fun _ => ?_) (fun h => absurd rfl h)) (fun h => absurd rfl h)
  (refine retE ?_; repeat' first | exact trivial | exact rfl | exact Iff.rfl | exact Or.inl rfl | refine And.intro ?_ ?_)

end Go.Proofs.YtfnjlkmhnhojpaaDoor.Pw

/- Chapter 21, plain: costs are reckoned without fuel. -/
set_option linter.unusedVariables false
namespace Go.Proofs.YtfnjlkmhnhojpaaDoor.Pw
open Go Go.RowKit

/-- what reckons, its fuel and its error put away -/
def R.er (r : R) : R := { r with fuel := 0, e := 0 }
mutual
/-- a cost is reckoned, without fuel -/
def oneN (wt : Int) : C → R → R
  | .mk k cy mi wo si a b l, r =>
    if k = 1 then r.add (cy + mi * wt)
    else if k = 2 then allN wt l r
    else if k = 3 then
      if (r.evl a).fin then r.evl a else if r.val a ≠ 0 then nthN wt l 0 (r.evl a) else nthN wt l 1 (r.evl a)
    else if k = 4 then
      if (r.evl a).fin then r.evl a else
        let r2 := (r.evl a).evl b
        let r3 := rndR (fun r => allN wt l r) wo.toNat (((r.evl a).val b) - r.val a).toNat (r.val a) r2
        { r3 with ws := r3.ws.set wo.toNat ((r2.ws[wo.toNat]?).getD 0) }
    else if k = 5 then
      if 0 < si ∧ ¬ (a.evalT r.ws).isSome = true then { r with trap := 2 }
      else if (0 < si ∧ r.val a < si) ∨ (si = 0 ∧ (a.evalT r.ws).isSome = true ∧ r.val a ≠ 0) then r
      else
        let r2 := allN wt l r
        if r2.fin then r2 else { r2 with trap := if 0 < si then 1 else 2 }
    else if k = 6 then
      if (r.evl a).fin then r.evl a else
        let r2 := (r.evl a).evl b
        if r2.fin then r2 else r2.add (divV (r.val a) ((r.evl a).val b) - 2)
    else r
def allN (wt : Int) : List C → R → R
  | [], r => r
  | c :: l, r => if r.fin then r else allN wt l (oneN wt c r)
def nthN (wt : Int) : List C → Nat → R → R
  | [], _, r => r
  | c :: _, 0, r => oneN wt c r
  | _ :: l, n + 1, r => nthN wt l n r
end
def condN (wt : Int) (c : C) (r : R) : R := if (r.evl c.a).fin then r.evl c.a else if r.val c.a ≠ 0 then nthN wt c.l 0 (r.evl c.a) else nthN wt c.l 1 (r.evl c.a)
def roundsN (wt : Int) (c : C) (r : R) : R :=
  if (r.evl c.a).fin then r.evl c.a else (rndR (fun r => allN wt c.l r) c.word.toNat (((r.evl c.a).val c.b) - r.val c.a).toNat (r.val c.a) ((r.evl c.a).evl c.b)).put c.word.toNat ((((r.evl c.a).evl c.b).ws[c.word.toNat]?).getD 0)
def stopN (wt : Int) (c : C) (r : R) : R :=
  if 0 < c.size ∧ ¬ (c.a.evalT r.ws).isSome = true then { r with trap := 2 }
  else if (0 < c.size ∧ r.val c.a < c.size) ∨ (c.size = 0 ∧ (c.a.evalT r.ws).isSome = true ∧ r.val c.a ≠ 0) then r
  else if (allN wt c.l r).fin then allN wt c.l r else { allN wt c.l r with trap := if 0 < c.size then 1 else 2 }
theorem oneN_eq (wt : Int) (c : C) (r : R) : oneN wt c r = if c.kind = 1 then r.add (c.cyc + c.mis * wt) else if c.kind = 2 then allN wt c.l r else if c.kind = 3 then condN wt c r
    else if c.kind = 4 then roundsN wt c r else if c.kind = 5 then stopN wt c r else if c.kind = 6 then divR c r else r := by cases c; rfl
/-- what ends without error is what is reckoned without fuel -/
def Ners (f g : R → R) : Prop := ∀ r : R, (f r).e = 0 → r.e = 0 ∧ (f r).er = g r.er
theorem er_fin {r : R} (h : r.e = 0) : r.er.fin = r.fin := by simp [R.fin, R.er, h]
theorem ners_all {wt : Int} : ∀ {l : List C}, (∀ c ∈ l, Ners (oneR wt c) (oneN wt c)) → Ners (allR wt l) (allN wt l)
  | [], _, r, h => by rw [allR] at h; rw [allR, allN]; exact ⟨h, rfl⟩
  | c :: l, hl, r, h => by
    rw [allR] at h ⊢
    rw [allN]
    by_cases hf : r.fin = true
    · rw [if_pos hf] at h ⊢
      rw [er_fin h, if_pos hf]
      exact ⟨h, rfl⟩
    · rw [if_neg hf] at h ⊢
      obtain ⟨h1, h2⟩ := ners_all (fun x hx => hl x (by simp [hx])) _ h
      obtain ⟨h3, h4⟩ := hl c (by simp) r h1
      rw [er_fin h3, if_neg hf, h2, h4]
      exact ⟨h3, rfl⟩
theorem ners_nth {wt : Int} : ∀ {l : List C}, (∀ c ∈ l, Ners (oneR wt c) (oneN wt c)) → ∀ n, Ners (nthR wt l n) (nthN wt l n)
  | [], _, n, r, h => by rw [nthR] at h; rw [nthR, nthN]; exact ⟨h, rfl⟩
  | c :: l, hl, 0, r, h => by rw [nthR] at h; rw [nthR, nthN]; exact hl c (by simp) r h
  | c :: l, hl, n + 1, r, h => by rw [nthR] at h; rw [nthR, nthN]; exact ners_nth (fun x hx => hl x (by simp [hx])) n r h
theorem ners_rnd {f g : R → R} (hf : Ners f g) (wo : Nat) : ∀ (n : Nat) (i : Int), Ners (rndR f wo n i) (rndR g wo n i)
  | 0, i, r, h => by rw [rndR] at h; rw [rndR, rndR]; exact ⟨h, rfl⟩
  | n + 1, i, r, h => by
    rw [rndR] at h
    rw [rndR, rndR]
    by_cases hn : r.fin = true
    · rw [if_pos hn] at h ⊢
      rw [er_fin h, if_pos hn]
      exact ⟨h, rfl⟩
    · rw [if_neg hn] at h ⊢
      obtain ⟨h1, h2⟩ := ners_rnd hf wo n (i + 1) _ h
      obtain ⟨h3, h4⟩ := hf _ h1
      have h3' : r.e = 0 := h3
      rw [er_fin h3', if_neg hn, h2, h4]
      exact ⟨h3', rfl⟩
theorem ners_one {wt : Int} : ∀ c : C, Ners (oneR wt c) (oneN wt c) := C.ind' fun c ih r h => by
  have hA := ners_all (wt := wt) (l := c.l) ih
  rw [oneR_eq] at h ⊢
  rw [oneN_eq]
  by_cases h0 : r.fuel ≤ 0
  · rw [if_pos h0] at h
    exact absurd (show (70 : Int) = 0 from h) (by decide)
  rw [if_neg h0] at h ⊢
  have key : ∀ {f g : R → R}, Ners f g → (f r.fuelMore).e = 0 → r.e = 0 ∧ (f r.fuelMore).er = g r.er := fun hfg hh => hfg r.fuelMore hh
  have evl0 : ∀ (q : R) (t : T), (q.evl t).e = q.e := fun _ _ => rfl
  by_cases k1 : c.kind = 1
  · rw [if_pos k1] at h ⊢; rw [if_pos k1]
    exact key (f := fun r => r.add (c.cyc + c.mis * wt)) (g := fun r => r.add (c.cyc + c.mis * wt)) (fun q hq => ⟨hq, rfl⟩) h
  rw [if_neg k1] at h ⊢; rw [if_neg k1]
  by_cases k2 : c.kind = 2
  · rw [if_pos k2] at h ⊢; rw [if_pos k2]; exact key hA h
  rw [if_neg k2] at h ⊢; rw [if_neg k2]
  by_cases k3 : c.kind = 3
  · rw [if_pos k3] at h ⊢; rw [if_pos k3]
    refine key (f := condR wt c) (g := condN wt c) (fun q hq => ?_) h
    unfold condR at hq ⊢
    unfold condN
    by_cases hf : (q.evl c.a).fin = true
    · rw [if_pos hf] at hq ⊢
      have hq' : q.e = 0 := hq
      have e1 : (q.er.evl c.a).fin = true := (er_fin (r := q.evl c.a) hq).trans hf
      rw [if_pos e1]
      exact ⟨hq', rfl⟩
    · rw [if_neg hf] at hq ⊢
      have nn : ∀ n, (nthR wt c.l n (q.evl c.a)).e = 0 → q.e = 0 ∧ (nthR wt c.l n (q.evl c.a)).er = nthN wt c.l n (q.er.evl c.a) := fun n hn => ners_nth ih n _ hn
      have e2 : q.er.val c.a = q.val c.a := rfl
      by_cases hv : q.val c.a ≠ 0
      · rw [if_pos hv] at hq ⊢
        obtain ⟨h1, h2⟩ := nn 0 hq
        have e1 : ¬ (q.er.evl c.a).fin = true := fun e => hf ((er_fin (r := q.evl c.a) h1).symm.trans e)
        rw [if_neg e1, e2, if_pos hv]
        exact ⟨h1, h2⟩
      · rw [if_neg hv] at hq ⊢
        obtain ⟨h1, h2⟩ := nn 1 hq
        have e1 : ¬ (q.er.evl c.a).fin = true := fun e => hf ((er_fin (r := q.evl c.a) h1).symm.trans e)
        rw [if_neg e1, e2, if_neg hv]
        exact ⟨h1, h2⟩
  rw [if_neg k3] at h ⊢; rw [if_neg k3]
  by_cases k4 : c.kind = 4
  · rw [if_pos k4] at h ⊢; rw [if_pos k4]
    refine key (f := roundsR wt c) (g := roundsN wt c) (fun q hq => ?_) h
    unfold roundsR at hq ⊢
    unfold roundsN
    by_cases hf : (q.evl c.a).fin = true
    · rw [if_pos hf] at hq ⊢
      have e1 : (q.er.evl c.a).fin = true := (er_fin (r := q.evl c.a) hq).trans hf
      rw [if_pos e1]
      exact ⟨hq, rfl⟩
    · rw [if_neg hf] at hq ⊢
      obtain ⟨h1, h2⟩ := ners_rnd hA c.word.toNat (((q.evl c.a).val c.b) - q.val c.a).toNat (q.val c.a) ((q.evl c.a).evl c.b) hq
      have h1' : q.e = 0 := h1
      have e1 : ¬ (q.er.evl c.a).fin = true := fun e => hf ((er_fin (r := q.evl c.a) h1').symm.trans e)
      rw [if_neg e1]
      exact ⟨h1', congrArg (fun z : R => z.put c.word.toNat ((((q.evl c.a).evl c.b).ws[c.word.toNat]?).getD 0)) h2⟩
  rw [if_neg k4] at h ⊢; rw [if_neg k4]
  by_cases k5 : c.kind = 5
  · rw [if_pos k5] at h ⊢; rw [if_pos k5]
    refine key (f := stopR wt c) (g := stopN wt c) (fun q hq => ?_) h
    unfold stopR at hq ⊢
    unfold stopN
    by_cases x1 : 0 < c.size ∧ ¬ (c.a.evalT q.ws).isSome = true
    · rw [if_pos x1] at hq ⊢
      rw [if_pos (show 0 < c.size ∧ ¬ (c.a.evalT q.er.ws).isSome = true from x1)]
      exact ⟨hq, rfl⟩
    rw [if_neg x1] at hq ⊢
    rw [if_neg (show ¬ (0 < c.size ∧ ¬ (c.a.evalT q.er.ws).isSome = true) from x1)]
    by_cases x2 : (0 < c.size ∧ q.val c.a < c.size) ∨ (c.size = 0 ∧ (c.a.evalT q.ws).isSome = true ∧ q.val c.a ≠ 0)
    · rw [if_pos x2] at hq ⊢
      rw [if_pos (show (0 < c.size ∧ q.er.val c.a < c.size) ∨ (c.size = 0 ∧ (c.a.evalT q.er.ws).isSome = true ∧ q.er.val c.a ≠ 0) from x2)]
      exact ⟨hq, rfl⟩
    rw [if_neg x2] at hq ⊢
    rw [if_neg (show ¬ ((0 < c.size ∧ q.er.val c.a < c.size) ∨ (c.size = 0 ∧ (c.a.evalT q.er.ws).isSome = true ∧ q.er.val c.a ≠ 0)) from x2)]
    by_cases x3 : (allR wt c.l q).fin = true
    · rw [if_pos x3] at hq ⊢
      obtain ⟨h1, h2⟩ := hA q hq
      rw [← h2, er_fin hq, if_pos x3]
      exact ⟨h1, rfl⟩
    · rw [if_neg x3] at hq ⊢
      have hq' : (allR wt c.l q).e = 0 := hq
      obtain ⟨h1, h2⟩ := hA q hq'
      rw [← h2, er_fin hq', if_neg x3]
      exact ⟨h1, rfl⟩
  rw [if_neg k5] at h ⊢; rw [if_neg k5]
  by_cases k6 : c.kind = 6
  · rw [if_pos k6] at h ⊢; rw [if_pos k6]
    refine key (f := divR c) (g := divR c) (fun q hq => ?_) h
    have hq0 : q.e = 0 := by
      unfold divR at hq
      by_cases y1 : (q.evl c.a).fin = true
      · rw [if_pos y1] at hq; exact hq
      rw [if_neg y1] at hq
      by_cases y2 : ((q.evl c.a).evl c.b).fin = true
      · rw [if_pos y2] at hq; exact hq
      rw [if_neg y2] at hq; exact hq
    refine ⟨hq0, ?_⟩
    unfold divR
    have e1 : (q.er.evl c.a).fin = (q.evl c.a).fin := er_fin (r := q.evl c.a) hq0
    have e2 : ((q.er.evl c.a).evl c.b).fin = ((q.evl c.a).evl c.b).fin := er_fin (r := (q.evl c.a).evl c.b) hq0
    rw [e1, e2]
    split
    · rfl
    · split <;> rfl
  rw [if_neg k6] at h ⊢; rw [if_neg k6]
  exact ⟨h, rfl⟩

end Go.Proofs.YtfnjlkmhnhojpaaDoor.Pw

/- Chapter 21, plain: costs that are joined. -/
set_option linter.unusedVariables false
namespace Go.Proofs.YtfnjlkmhnhojpaaDoor.Pw
open Go Go.RowKit

theorem allN_fin {wt : Int} {l : List C} {r : R} (h : r.fin = true) : allN wt l r = r := by
  cases l with
  | nil => rw [allN]
  | cons c l => rw [allN, if_pos h]
theorem allN_append (wt : Int) : ∀ (l m : List C) (r : R), allN wt (l ++ m) r = allN wt m (allN wt l r)
  | [], m, r => by rw [allN, List.nil_append]
  | c :: l, m, r => by
    rw [List.cons_append, allN, allN]
    by_cases h : r.fin = true
    · rw [if_pos h, if_pos h, allN_fin h]
    · rw [if_neg h, if_neg h, allN_append wt l m]
mutual
/-- with the lists of sequences in their places -/
def spC : C → List C
  | .mk k cy mi wo si a b l => if k = 2 then spL l else [.mk k cy mi wo si a b l]
def spL : List C → List C
  | [] => []
  | c :: l => spC c ++ spL l
end
theorem spC_eq (c : C) : spC c = if c.kind = 2 then spL c.l else [c] := by cases c; rfl
theorem allN_spL {wt : Int} : ∀ {l : List C}, (∀ c ∈ l, ∀ r, allN wt (spC c) r = allN wt [c] r) → ∀ r, allN wt (spL l) r = allN wt l r
  | [], _, r => rfl
  | c :: l, h, r => by
    rw [spL, allN_append, h c (by simp), allN_spL fun x hx => h x (by simp [hx]), ← allN_append]
    rfl
theorem allN_spC {wt : Int} : ∀ (c : C) (r : R), allN wt (spC c) r = allN wt [c] r := C.ind' fun c ih r => by
  rw [spC_eq]
  by_cases h : c.kind = 2
  · rw [if_pos h, allN_spL ih, allN, allN]
    by_cases hf : r.fin = true
    · rw [if_pos hf, allN_fin hf]
    · rw [if_neg hf, oneN_eq, if_neg (show ¬ c.kind = 1 by omega), if_pos h]
  · rw [if_neg h]
/-- a sequence's parts are none -/
theorem spL_kind : ∀ {l : List C}, (∀ c ∈ l, ∀ x ∈ spC c, x.kind ≠ 2) → ∀ x ∈ spL l, x.kind ≠ 2
  | [], _, x, hx => by simp [spL] at hx
  | c :: l, h, x, hx => by
    rw [spL] at hx
    rcases List.mem_append.1 hx with hx | hx
    · exact h c (by simp) x hx
    · exact spL_kind (fun y hy => h y (by simp [hy])) x hx
theorem spC_kind : ∀ c : C, ∀ x ∈ spC c, x.kind ≠ 2 := C.ind' fun c ih x hx => by
  rw [spC_eq] at hx
  split at hx
  · exact spL_kind ih x hx
  · rename_i h
    rw [List.mem_singleton] at hx
    rw [hx]; exact h
/-- what holds of right costs and of the parts of what it holds of, holds of all parts -/
theorem spL_all {p : C → Prop} (hp : ∀ c, p c → ∀ x ∈ c.l, p x) : ∀ {l : List C}, (∀ c ∈ l, p c → ∀ x ∈ spC c, p x) → (∀ c ∈ l, p c) → ∀ x ∈ spL l, p x
  | [], _, _, x, hx => by simp [spL] at hx
  | c :: l, h, hl, x, hx => by
    rw [spL] at hx
    rcases List.mem_append.1 hx with hx | hx
    · exact h c (by simp) (hl c (by simp)) x hx
    · exact spL_all hp (fun y hy => h y (by simp [hy])) (fun y hy => hl y (by simp [hy])) x hx
theorem spC_all {p : C → Prop} (hp : ∀ c, p c → ∀ x ∈ c.l, p x) : ∀ c : C, p c → ∀ x ∈ spC c, p x := C.ind' fun c ih h x hx => by
  rw [spC_eq] at hx
  split at hx
  · exact spL_all hp ih (hp c h) x hx
  · rw [List.mem_singleton] at hx
    rw [hx]; exact h
/-- the next one behind those that are joined -/
def joinS (out : List C) (c : C) : List C :=
  match out.getLast? with
  | some d => if c.kind = 1 ∧ d.kind = 1 then out.dropLast ++ [flatC (d.cyc + c.cyc) (d.mis + c.mis)] else out ++ [c]
  | none => out ++ [c]
def keepB (c : C) : Bool := !(decide (c.kind = 1) && (decide (c.cyc = 0) && decide (c.mis = 0)))
def outC (l : List C) : List C := ((spL l).foldl joinS []).filter keepB
def joinC (l : List C) : C := match outC l with
  | [c] => c
  | o => .mk 2 0 0 0 0 leaf0 leaf0 o
/-- a flat's numbers are none below nought -/
def FlatOk (c : C) : Prop := c.kind = 1 → 0 ≤ c.cyc ∧ 0 ≤ c.mis
theorem oneN_flat {wt : Int} {c : C} (h : c.kind = 1) (r : R) : oneN wt c r = r.add (c.cyc + c.mis * wt) := by rw [oneN_eq, if_pos h]
theorem two_flats {wt : Int} (hwt : 0 ≤ wt) {c d : C} (hc : c.kind = 1) (hd : d.kind = 1) (h1 : FlatOk c) (r : R) : allN wt [d, c] r = allN wt [flatC (d.cyc + c.cyc) (d.mis + c.mis)] r := by
  have hm := Int.mul_nonneg (h1 hc).2 hwt
  have hk := (h1 hc).1
  by_cases hf : r.fin = true
  · rw [allN_fin hf, allN_fin hf]
  have hf2 : ∀ n, ¬ (r.add n).fin = true := fun n => hf
  rw [allN, if_neg hf, allN, oneN_flat hd, if_neg (hf2 _), allN, oneN_flat hc, allN, if_neg hf, allN, oneN_flat (show (flatC (d.cyc + c.cyc) (d.mis + c.mis)).kind = 1 from rfl)]
  show ({ r with sum := min (min (r.sum + (d.cyc + d.mis * wt)) 18446744073709551615 + (c.cyc + c.mis * wt)) 18446744073709551615 } : R) = { r with sum := min (r.sum + ((d.cyc + c.cyc) + (d.mis + c.mis) * wt)) 18446744073709551615 }
  rw [Int.add_mul]
  congr 1
  omega
theorem joinS_all {wt : Int} (hwt : 0 ≤ wt) {out : List C} {c : C} (h1 : FlatOk c) (r : R) : allN wt (joinS out c) r = allN wt (out ++ [c]) r := by
  unfold joinS
  cases he : out.getLast? with
  | none => rfl
  | some d =>
    simp only
    by_cases hk : c.kind = 1 ∧ d.kind = 1
    · rw [if_pos hk]
      obtain ⟨pre, hpre⟩ := List.getLast?_eq_some_iff.1 he
      rw [hpre, List.dropLast_concat, List.append_assoc, allN_append, allN_append, List.singleton_append, two_flats hwt hk.1 hk.2 h1]
    · rw [if_neg hk]
theorem foldS_all {wt : Int} (hwt : 0 ≤ wt) : ∀ (l out : List C), (∀ c ∈ l, FlatOk c) → ∀ r, allN wt (l.foldl joinS out) r = allN wt (out ++ l) r
  | [], out, _, r => by simp
  | c :: l, out, h, r => by
    rw [List.foldl_cons, foldS_all hwt l _ (fun x hx => h x (by simp [hx])), allN_append, joinS_all hwt (h c (by simp)), ← allN_append, List.append_assoc]
    rfl
theorem joinS_mem {out : List C} {c : C} {p : C → Prop} (ho : ∀ x ∈ out, p x) (hc : p c) (hf : ∀ d ∈ out, c.kind = 1 → d.kind = 1 → p (flatC (d.cyc + c.cyc) (d.mis + c.mis))) : ∀ x ∈ joinS out c, p x := by
  have app : ∀ x ∈ out ++ [c], p x := fun x hx => by
    rcases List.mem_append.1 hx with hx | hx
    · exact ho x hx
    · rw [List.mem_singleton] at hx; rw [hx]; exact hc
  unfold joinS
  cases he : out.getLast? with
  | none => exact app
  | some d =>
    simp only
    by_cases hk : c.kind = 1 ∧ d.kind = 1
    · rw [if_pos hk]
      intro x hx
      rcases List.mem_append.1 hx with hx | hx
      · exact ho x (List.dropLast_subset _ hx)
      · rw [List.mem_singleton] at hx; rw [hx]
        exact hf d (List.mem_of_getLast? he) hk.1 hk.2
    · rw [if_neg hk]; exact app
theorem joinS_len (out : List C) (c : C) : (joinS out c).length ≤ out.length + 1 := by
  unfold joinS
  split
  · split
    · simp only [List.length_append, List.length_dropLast, List.length_cons, List.length_nil]; omega
    · simp
  · simp
/-- no two flats are neighbours -/
def nfL : Bool → List C → Prop
  | _, [] => True
  | p, c :: l => (p = true → c.kind ≠ 1) ∧ nfL (decide (c.kind = 1)) l
theorem nfL_weak {p : Bool} : ∀ {l : List C}, nfL p l → nfL false l
  | [], _ => trivial
  | c :: l, h => ⟨nofun, h.2⟩
theorem nfL_snoc {c : C} : ∀ {p : Bool} {l : List C}, nfL p l → (∀ d, l.getLast? = some d → d.kind = 1 → c.kind ≠ 1) → (l = [] → p = true → c.kind ≠ 1) → nfL p (l ++ [c])
  | p, [], _, _, h => ⟨h rfl, trivial⟩
  | p, d :: l, h, hl, _ => ⟨h.1, nfL_snoc h.2 (fun x hx => hl x (by
      rw [List.getLast?_cons, hx]; rfl)) fun e hd => by
        subst e
        exact hl d rfl (by simpa using hd)⟩
theorem nfL_last {x d : C} (hk : x.kind = d.kind) : ∀ {p : Bool} {l : List C}, nfL p (l ++ [d]) → nfL p (l ++ [x])
  | p, [], h => ⟨fun e => by rw [hk]; exact h.1 e, trivial⟩
  | p, c :: l, h => ⟨h.1, nfL_last hk h.2⟩
theorem nfL_joinS {out : List C} {c : C} (h : nfL false out) : nfL false (joinS out c) := by
  unfold joinS
  cases he : out.getLast? with
  | none => exact nfL_snoc h (fun d hd => by rw [he] at hd; cases hd) (fun _ => nofun)
  | some d =>
    simp only
    by_cases hk : c.kind = 1 ∧ d.kind = 1
    · rw [if_pos hk]
      obtain ⟨pre, hpre⟩ := List.getLast?_eq_some_iff.1 he
      rw [hpre, List.dropLast_concat]
      exact nfL_last (d := d) (by rw [hk.2]; rfl) (hpre ▸ h)
    · rw [if_neg hk]
      exact nfL_snoc h (fun x hx hx1 hc => by rw [he] at hx; cases hx; exact hk ⟨hc, hx1⟩) (fun _ => nofun)
theorem nfL_foldS : ∀ (l out : List C), nfL false out → nfL false (l.foldl joinS out)
  | [], out, h => h
  | c :: l, out, h => nfL_foldS l _ (nfL_joinS h)
theorem nfL_filter : ∀ {p : Bool} {l : List C}, nfL p l → nfL p (l.filter keepB)
  | p, [], _ => trivial
  | p, c :: l, h => by
    by_cases hk : keepB c = true
    · rw [List.filter_cons_of_pos hk]; exact ⟨h.1, nfL_filter h.2⟩
    · rw [List.filter_cons_of_neg hk]
      have h1 : c.kind = 1 := by
        unfold keepB at hk
        by_cases e : c.kind = 1
        · exact e
        · simp [e] at hk
      cases p with
      | true => exact absurd h1 (h.1 rfl)
      | false => exact nfL_weak (nfL_filter h.2)
theorem nfL_at : ∀ {p : Bool} {l : List C}, nfL p l → ∀ (i : Nat) (c d : C), l[i]? = some c → l[i + 1]? = some d → c.kind = 1 → d.kind ≠ 1
  | p, c :: [], h, i, x, d, h1, h2, _ => by simp at h2
  | p, c :: y :: l, h, 0, x, d, h1, h2, hx => by
    simp at h1 h2
    subst h1 h2
    exact h.2.1 (by simpa using hx)
  | p, c :: y :: l, h, i + 1, x, d, h1, h2, hx => nfL_at h.2 i x d (by simpa using h1) (by simpa using h2) hx

end Go.Proofs.YtfnjlkmhnhojpaaDoor.Pw

/- Chapter 21, plain: a joined cost costs what its parts cost. -/
set_option linter.unusedVariables false
namespace Go.Proofs.YtfnjlkmhnhojpaaDoor.Pw
open Go Go.RowKit

def Cap (f : R → R) : Prop := ∀ r : R, r.sum ≤ 18446744073709551615 → (f r).sum ≤ 18446744073709551615
theorem cap_add (r : R) (n : Int) : (r.add n).sum ≤ 18446744073709551615 := by simp only [R.add]; omega
theorem cap_all {wt : Int} : ∀ {l : List C}, (∀ c ∈ l, Cap (oneN wt c)) → Cap (allN wt l)
  | [], _, r, h => by rw [allN]; exact h
  | c :: l, hl, r, h => by
    rw [allN]
    split
    · exact h
    · exact cap_all (fun x hx => hl x (by simp [hx])) _ (hl c (by simp) r h)
theorem cap_nth {wt : Int} : ∀ {l : List C}, (∀ c ∈ l, Cap (oneN wt c)) → ∀ n, Cap (nthN wt l n)
  | [], _, n, r, h => by rw [nthN]; exact h
  | c :: l, hl, 0, r, h => by rw [nthN]; exact hl c (by simp) r h
  | c :: l, hl, n + 1, r, h => by rw [nthN]; exact cap_nth (fun x hx => hl x (by simp [hx])) n r h
theorem cap_rnd {f : R → R} (hf : Cap f) (wo : Nat) : ∀ (n : Nat) (i : Int), Cap (rndR f wo n i)
  | 0, _, r, h => by rw [rndR]; exact h
  | n + 1, i, r, h => by
    rw [rndR]
    split
    · exact h
    · exact cap_rnd hf wo n (i + 1) _ (hf _ h)
theorem cap_one {wt : Int} : ∀ c : C, Cap (oneN wt c) := C.ind' fun c ih r h => by
  rw [oneN_eq]
  split
  · exact cap_add _ _
  split
  · exact cap_all ih r h
  split
  · unfold condN
    split
    · exact h
    · split
      · exact cap_nth ih 0 _ h
      · exact cap_nth ih 1 _ h
  split
  · unfold roundsN
    split
    · exact h
    · exact cap_rnd (cap_all ih) _ _ _ _ h
  split
  · unfold stopN
    split
    · exact h
    split
    · exact h
    split
    · exact cap_all ih r h
    · exact cap_all ih r h
  split
  · unfold divR
    split
    · exact h
    split
    · exact h
    · exact cap_add _ _
  · exact h
theorem keep_all {wt : Int} : ∀ (l : List C) (r : R), r.sum ≤ 18446744073709551615 → allN wt (l.filter keepB) r = allN wt l r
  | [], _, _ => rfl
  | c :: l, r, h => by
    by_cases hk : keepB c = true
    · rw [List.filter_cons_of_pos hk, allN, allN]
      split
      · rfl
      · exact keep_all l _ (cap_one c r h)
    · rw [List.filter_cons_of_neg hk, keep_all l r h]
      have hc : c.kind = 1 ∧ c.cyc = 0 ∧ c.mis = 0 := by
        unfold keepB at hk
        simpa using hk
      rw [allN]
      by_cases hf : r.fin = true
      · rw [if_pos hf, allN_fin hf]
      · rw [if_neg hf, oneN_flat hc.1, hc.2.1, hc.2.2]
        have e : r.add (0 + 0 * wt) = r := by
          show ({ r with sum := min (r.sum + (0 + 0 * wt)) 18446744073709551615 } : R) = r
          rw [Int.zero_mul, Int.zero_add, Int.add_zero, Int.min_eq_left h]
        rw [e]
theorem outC_all {wt : Int} (hwt : 0 ≤ wt) {l : List C} (h : ∀ c ∈ spL l, FlatOk c) (r : R) (hr : r.sum ≤ 18446744073709551615) : allN wt (outC l) r = allN wt l r := by
  unfold outC
  rw [keep_all _ _ hr, foldS_all hwt _ _ h, List.nil_append, allN_spL fun c _ => allN_spC c]
/-- costs that are joined cost what they cost one behind the other -/
theorem joinC_one {wt : Int} (hwt : 0 ≤ wt) {l : List C} (h : ∀ c ∈ spL l, FlatOk c) (r : R) (hr : r.sum ≤ 18446744073709551615) (hf : ¬ r.fin = true) : oneN wt (joinC l) r = oneN wt (.mk 2 0 0 0 0 leaf0 leaf0 l) r := by
  have e2 : ∀ m : List C, oneN wt (.mk 2 0 0 0 0 leaf0 leaf0 m) r = allN wt m r := fun m => by
    rw [oneN_eq]; rfl
  rw [e2, ← outC_all hwt h r hr]
  unfold joinC
  split
  · rename_i c he
    rw [he, allN, if_neg hf, allN]
  · exact e2 _
theorem EvR_ok {q : R} (h : (EvR q).2.2 = 0) : q.e = 0 ∧ EvR q = (q.sum, q.trap, 0) := by
  unfold EvR at h ⊢
  by_cases e : q.e = 0
  · rw [if_pos e]; exact ⟨e, rfl⟩
  · rw [if_neg e] at h; exact absurd h e
theorem evC_ok {c : C} {ws : List Int} {wait fuel : Int} (h : (evC c ws wait fuel).2.2 = 0) : 0 ≤ wait ∧ evC c ws wait fuel = ((oneN wait c (r0 ws fuel).er).sum, (oneN wait c (r0 ws fuel).er).trap, 0) := by
  unfold evC at h ⊢
  by_cases hw : wait < 0 ∨ 7 < wait
  · rw [if_pos hw] at h; exact absurd (show (11 : Int) = 0 from h) (by decide)
  · rw [if_neg hw] at h ⊢
    obtain ⟨h1, h2⟩ := EvR_ok h
    obtain ⟨_, h3⟩ := ners_one c _ h1
    rw [h2, ← h3]
    exact ⟨by omega, rfl⟩
theorem join_evC {l : List C} (h : ∀ c ∈ spL l, FlatOk c) {ws : List Int} {wait fuel : Int} (h1 : (evC (joinC l) ws wait fuel).2.2 = 0) (h2 : (evC (.mk 2 0 0 0 0 leaf0 leaf0 l) ws wait fuel).2.2 = 0) :
    evC (joinC l) ws wait fuel = evC (.mk 2 0 0 0 0 leaf0 leaf0 l) ws wait fuel := by
  obtain ⟨hw, e1⟩ := evC_ok h1
  obtain ⟨_, e2⟩ := evC_ok h2
  rw [e1, e2, joinC_one hw h _ (by show (0 : Int) ≤ _; omega) (by simp [R.fin, R.er, r0])]
/-- a joined cost's own list -/
theorem outC_kind {l : List C} : ∀ c ∈ outC l, c.kind ≠ 2 := by
  have hm : ∀ (m out : List C), (∀ c ∈ m, c.kind ≠ 2) → (∀ c ∈ out, c.kind ≠ 2) → ∀ c ∈ m.foldl joinS out, c.kind ≠ 2 := by
    intro m
    induction m with
    | nil => intro out _ h; exact h
    | cons x m ih => intro out h1 h2; exact ih _ (fun c hc => h1 c (by simp [hc])) (joinS_mem h2 (h1 x (by simp)) fun d _ _ _ => by show (1 : Int) ≠ 2; decide)
  intro c hc
  exact hm _ [] (spL_kind fun c _ => spC_kind c) (by simp) c (List.mem_filter.1 hc).1
theorem outC_nf (l : List C) : nfL false (outC l) := nfL_filter (nfL_foldS _ _ trivial)
theorem joinC_seq {l : List C} (h : (joinC l).kind = 2) : (joinC l).l = outC l := by
  unfold joinC at h ⊢
  split
  · rename_i c he
    rw [he] at h
    exact absurd h (outC_kind c (by rw [he]; simp))
  · rfl
/-- in a joined sequence no sequence stands, no two flats are neighbours -/
theorem joinC_apart {l : List C} (h : (joinC l).kind = 2) (i : Nat) (c : C) (hc : (joinC l).l[i]? = some c) : c.kind ≠ 2 ∧ ∀ b, 0 < i → (joinC l).l[i - 1]? = some b → c.kind = 1 → b.kind ≠ 1 := by
  rw [joinC_seq h] at hc ⊢
  refine ⟨outC_kind c (List.mem_of_getElem? hc), fun b hi hb h1 h2 => ?_⟩
  exact nfL_at (outC_nf l) (i - 1) b c hb (by rw [show i - 1 + 1 = i by omega]; exact hc) h2 h1

end Go.Proofs.YtfnjlkmhnhojpaaDoor.Pw

/- Chapter 21 over values: the library's IndexFunc, ContainsFunc, EqualFunc at terms and at costs. Written by gen_tci.py. -/
namespace Go.Proofs.YtfnjlkmhnhojpaaDoor.Pw
open Go Go.RowKit

open Classical in
noncomputable def idxL {α : Type} (p : α → Prop) : List α → Nat → Int
  | [], _ => -1
  | x :: l, i => if p x then (i : Int) else idxL p l (i + 1)
theorem idxL_iff {α : Type} {p : α → Prop} : ∀ {l : List α} {i : Nat}, 0 ≤ idxL p l i ↔ ∃ x ∈ l, p x
  | [], i => by simp [idxL]
  | x :: l, i => by
    rw [idxL]
    by_cases h : p x
    · rw [if_pos h]
      exact ⟨fun _ => ⟨x, by simp, h⟩, fun _ => by omega⟩
    · rw [if_neg h, idxL_iff (l := l)]
      refine ⟨fun ⟨y, hy, hp⟩ => ⟨y, by simp [hy], hp⟩, fun ⟨y, hy, hp⟩ => ?_⟩
      rcases List.mem_cons.1 hy with rfl | hy
      · exact absurd hp h
      · exact ⟨y, hy, hp⟩
theorem idxL_step {α : Type} {p : α → Prop} {l : List α} {i : Nat} {x : α} (h : l[i]? = some x) : (p x → idxL p (l.drop i) i = i) ∧ (¬ p x → idxL p (l.drop i) i = idxL p (l.drop (i + 1)) (i + 1)) := by
  obtain ⟨hlt, hx⟩ := List.getElem?_eq_some_iff.1 h
  rw [List.drop_eq_getElem_cons hlt, hx, idxL]
  exact ⟨fun h => if_pos h, fun h => if_neg h⟩

set_option maxRecDepth 10000 in
theorem idx_low (L : List T) (p : T → Prop) (hp : ∀ x ∈ L, PureF gT 61 [tpv x] (.bool (p x))) : PureF gT 76 [.sl 3 (L.map tpv), .clo 61 []] (.int .i64 (idxL p L 0)) := by
  refine Spec.enter gTok P76 100 Tryd.func76 rfl (by kernel_rfl) ?_
  intro hm
  rw [List.length_map] at hm
  obtain ⟨z, hz⟩ : ∃ z, z = idxL p L 0 := ⟨_, rfl⟩
  rw [← hz]
  refine SW.loopS gTok P76 (by kernel_rfl) (α := {i : Nat // z = idxL p (L.drop i) i}) (fun i => [(8, .int .i64 i.1)]) (fun i => L.length - i.1) ⟨0, hz⟩ 60 ?_ ?_
  · repeat' first | exact trivial | exact rfl | refine And.intro ?_ ?_
  rintro ⟨i, hi⟩
  refine And.intro (fun h => ?_) (fun h => ?_)
  · have h' : (i : Int) < ((L.map tpv).length : Nat) := h
    rw [List.length_map] at h'
    refine ⟨T, L, tpv, rfl, show (0 : Int) ≤ (i : Int) by omega, show (i : Int) < (L.length : Int) by omega, fun x hx => ?_⟩
    have hx' : L[i]? = some x := hx
    obtain ⟨s1, s2⟩ := idxL_step (p := p) hx'
    refine ⟨[], no_rl, (hp x (List.mem_of_getElem? hx')).use (by repeat' first | exact trivial | exact rfl | exact Iff.rfl | exact Or.inl rfl | refine And.intro ?_ ?_) rfl rfl ?_⟩
    refine And.intro (fun hpx => ?_) (fun hpx => ?_)
    · refine retE ?_
      exact (show (i : Int) = z by rw [hi, s1 hpx])
    · unfold maxLen at hm
      refine .inl ⟨inR_i64 (show _ ≤ (i : Int) + 1 ∧ (i : Int) + 1 ≤ _ by omega), ⟨⟨i + 1, by rw [hi, s2 hpx]⟩, show L.length - (i + 1) < L.length - i by omega, ?_⟩⟩
      repeat' first | exact trivial | exact rfl | refine And.intro ?_ ?_
  · have h' : ¬ (i : Int) < ((L.map tpv).length : Nat) := h
    rw [List.length_map] at h'
    refine retE ?_
    exact (show (-1 : Int) = z by rw [hi, List.drop_of_length_le (by omega), idxL])
theorem has_low (L : List T) (p : T → Prop) (hp : ∀ x ∈ L, PureF gT 61 [tpv x] (.bool (p x))) : PureF gT 60 [.sl 3 (L.map tpv), .clo 61 []] (.bool (∃ x ∈ L, p x)) := by
  refine Spec.enter gTok P60 100 Tryd.func60 rfl (by kernel_rfl) ?_
  refine ⟨[], no_rl, (idx_low L p hp).use (by repeat' first | exact trivial | exact rfl | exact Iff.rfl | exact Or.inl rfl | refine And.intro ?_ ?_) rfl rfl ?_⟩
  exact retE idxL_iff

set_option maxRecDepth 10000 in
theorem idx_shp (L : List C) (p : C → Prop) (hp : ∀ x ∈ L, PureF gT 28 [cpv x] (.bool (p x))) : PureF gT 29 [.sl 12 (L.map cpv), .clo 28 []] (.int .i64 (idxL p L 0)) := by
  refine Spec.enter gTok P29 100 Tryd.func29 rfl (by kernel_rfl) ?_
  intro hm
  rw [List.length_map] at hm
  obtain ⟨z, hz⟩ : ∃ z, z = idxL p L 0 := ⟨_, rfl⟩
  rw [← hz]
  refine SW.loopS gTok P29 (by kernel_rfl) (α := {i : Nat // z = idxL p (L.drop i) i}) (fun i => [(8, .int .i64 i.1)]) (fun i => L.length - i.1) ⟨0, hz⟩ 60 ?_ ?_
  · repeat' first | exact trivial | exact rfl | refine And.intro ?_ ?_
  rintro ⟨i, hi⟩
  refine And.intro (fun h => ?_) (fun h => ?_)
  · have h' : (i : Int) < ((L.map cpv).length : Nat) := h
    rw [List.length_map] at h'
    refine ⟨C, L, cpv, rfl, show (0 : Int) ≤ (i : Int) by omega, show (i : Int) < (L.length : Int) by omega, fun x hx => ?_⟩
    have hx' : L[i]? = some x := hx
    obtain ⟨s1, s2⟩ := idxL_step (p := p) hx'
    refine ⟨[], no_rl, (hp x (List.mem_of_getElem? hx')).use (by repeat' first | exact trivial | exact rfl | exact Iff.rfl | exact Or.inl rfl | refine And.intro ?_ ?_) rfl rfl ?_⟩
    refine And.intro (fun hpx => ?_) (fun hpx => ?_)
    · refine retE ?_
      exact (show (i : Int) = z by rw [hi, s1 hpx])
    · unfold maxLen at hm
      refine .inl ⟨inR_i64 (show _ ≤ (i : Int) + 1 ∧ (i : Int) + 1 ≤ _ by omega), ⟨⟨i + 1, by rw [hi, s2 hpx]⟩, show L.length - (i + 1) < L.length - i by omega, ?_⟩⟩
      repeat' first | exact trivial | exact rfl | refine And.intro ?_ ?_
  · have h' : ¬ (i : Int) < ((L.map cpv).length : Nat) := h
    rw [List.length_map] at h'
    refine retE ?_
    exact (show (-1 : Int) = z by rw [hi, List.drop_of_length_le (by omega), idxL])
theorem has_shp (L : List C) (p : C → Prop) (hp : ∀ x ∈ L, PureF gT 28 [cpv x] (.bool (p x))) : PureF gT 27 [.sl 12 (L.map cpv), .clo 28 []] (.bool (∃ x ∈ L, p x)) := by
  refine Spec.enter gTok P27 100 Tryd.func27 rfl (by kernel_rfl) ?_
  refine ⟨[], no_rl, (idx_shp L p hp).use (by repeat' first | exact trivial | exact rfl | exact Iff.rfl | exact Or.inl rfl | refine And.intro ?_ ?_) rfl rfl ?_⟩
  exact retE idxL_iff

theorem T.ind' {p : T → Prop} (h : ∀ t : T, (∀ x ∈ kidsL t, p x) → p t) : ∀ t, p t
  | .leaf o n => h _ (by simp [kidsL])
  | .one o n a => h _ (by simp only [kidsL, List.mem_singleton]; rintro x rfl; exact T.ind' h x)
  | .two o n a b => h _ (by
    simp only [kidsL, List.mem_cons, List.not_mem_nil, or_false]
    rintro x (rfl | rfl)
    · exact T.ind' h _
    · exact T.ind' h _)
theorem T.eq_iff (a b : T) : a = b ↔ a.op = b.op ∧ a.num = b.num ∧ kidsL a = kidsL b := by
  cases a <;> cases b <;> simp [T.op, T.num, kidsL]
theorem C.eq_iff (a b : C) : a = b ↔ (a.kind = b.kind ∧ a.cyc = b.cyc ∧ a.mis = b.mis ∧ a.word = b.word ∧ a.size = b.size) ∧ a.a = b.a ∧ a.b = b.b ∧ a.l = b.l := by
  cases a; cases b; simp only [C.mk.injEq, C.kind, C.cyc, C.mis, C.word, C.size, C.a, C.b, C.l]
  exact ⟨fun ⟨a, b, c, d, e, f, g, h⟩ => ⟨⟨a, b, c, d, e⟩, f, g, h⟩, fun ⟨⟨a, b, c, d, e⟩, f, g, h⟩ => ⟨a, b, c, d, e, f, g, h⟩⟩

end Go.Proofs.YtfnjlkmhnhojpaaDoor.Pw

/- Chapter 21 over values: costs that are joined. -/
set_option linter.unusedVariables false
namespace Go.Proofs.YtfnjlkmhnhojpaaDoor.Pw
open Go Go.RowKit

theorem spL_append (l m : List C) : spL (l ++ m) = spL l ++ spL m := by
  induction l with
  | nil => rfl
  | cons c l ih => rw [List.cons_append, spL, spL, ih, List.append_assoc]
theorem spL_take {l : List C} {i : Nat} {c : C} (h : l[i]? = some c) : spL (l.take (i + 1)) = spL (l.take i) ++ spC c := by
  rw [List.take_add_one, h, spL_append]
  show _ ++ (spC c ++ []) = _
  rw [List.append_nil]
theorem spL_take_le (l : List C) (i : Nat) : (spL (l.take i)).length ≤ (spL l).length := by
  have h := spL_append (l.take i) (l.drop i)
  rw [List.take_append_drop] at h
  rw [h, List.length_append]; omega
def SpreadOk (l : List C) : Prop := (spL l).length ≤ 1000000 → PureF gT 16 [.sl 12 (l.map cpv)] (.sl 12 ((spL l).map cpv))
set_option maxRecDepth 10000 in
theorem spread_list (l : List C) (hk : ∀ c ∈ l, c.kind = 2 → SpreadOk c.l) : SpreadOk l := fun hn => by
  refine Spec.enter gTok P16 100 Tryd.func16 rfl (by kernel_rfl) ?_
  intro hm
  refine SW.loopD gTok P16 (by kernel_rfl) (fun i : Nat => [(8, .int .i64 i), (3, .wref 0)]) (fun i => [⟨.dyn, 31, 12, .w, true, (spL (l.take i)).map cpv⟩]) (fun i => l.length - i) 0 60 [none] ?_ fun i => ?_
  · repeat' first | exact trivial | exact rfl | exact Iff.rfl | refine And.intro ?_ ?_
  have hle := spL_take_le l i
  refine And.intro (fun h => ?_) (fun h => ?_)
  · have h' : (i : Int) < ((l.map cpv).length : Nat) := h
    rw [List.length_map] at h'
    refine ⟨C, l, cpv, rfl, show (0 : Int) ≤ (i : Int) by omega, show (i : Int) < (l.length : Int) by omega, fun x hx => ?_⟩
    have hx' : l[i]? = some x := hx
    have e1 := spL_take hx'
    have hle2 := spL_take_le l (i + 1)
    rw [e1, List.length_append, spC_eq] at hle2
    unfold maxLen at hm
    have el : (((spL (l.take i)).map cpv).length : Nat) = (spL (l.take i)).length := List.length_map ..
    refine And.intro (fun hk2 => ?_) (fun hk2 => ?_)
    · have hk2' : x.kind = 2 := hk2
      rw [if_pos hk2'] at hle2
      have hm' := List.mem_of_getElem? hx'
      have hp := hk x hm' hk2' (by omega)
      rw [← kidsC_eq] at hp
      have el2 : (((spL x.l).map cpv).length : Nat) = (spL x.l).length := List.length_map ..
      refine ⟨[], no_rl, hp.use (by repeat' first | exact trivial | exact rfl | exact Iff.rfl | exact Or.inl rfl | refine And.intro ?_ ?_) rfl rfl ?_⟩
      refine ⟨show ((spL (l.take i)).map cpv).length + ((spL x.l).map cpv).length ≤ maxLen by unfold maxLen; omega, show (((spL (l.take i)).map cpv).length + ((spL x.l).map cpv).length) * 144 ≤ 140737488355328 by omega, ?_⟩
      refine .inl ⟨inR_i64 (show _ ≤ (i : Int) + 1 ∧ (i : Int) + 1 ≤ _ by omega), ⟨i + 1, [some 2], by omega, ?_⟩⟩
      repeat' first | exact trivial | exact rfl | exact Iff.rfl | refine And.intro ?_ ?_
      exact (show (spL (l.take i)).map cpv ++ (spL x.l).map cpv = (spL (l.take (i + 1))).map cpv by rw [e1, spC_eq, if_pos hk2', List.map_append])
    · have hk2' : ¬ x.kind = 2 := hk2
      rw [if_neg hk2'] at hle2
      refine ⟨show ((spL (l.take i)).map cpv).length + 1 ≤ maxLen by unfold maxLen; simp at hle2; omega, show (((spL (l.take i)).map cpv).length + 1) * 144 ≤ 140737488355328 by simp at hle2; omega, ?_⟩
      refine .inl ⟨inR_i64 (show _ ≤ (i : Int) + 1 ∧ (i : Int) + 1 ≤ _ by omega), ⟨i + 1, [some 3], by omega, ?_⟩⟩
      repeat' first | exact trivial | exact rfl | exact Iff.rfl | refine And.intro ?_ ?_
      exact (show (spL (l.take i)).map cpv ++ [cpv x] = (spL (l.take (i + 1))).map cpv by rw [e1, spC_eq, if_neg hk2', List.map_append]; rfl)
  · have h' : ¬ (i : Int) < ((l.map cpv).length : Nat) := h
    rw [List.length_map] at h'
    refine retE ?_
    rw [List.take_of_length_le (by omega)]
    exact (show (spL l).map cpv = (spL l).map cpv from rfl)
theorem spread_all : ∀ c : C, SpreadOk c.l := C.ind' fun c ih => spread_list c.l fun x hx _ => ih x hx
theorem spread_pure (l : List C) : SpreadOk l := spread_list l fun c _ _ => spread_all c

theorem join1_pure (c : C) : PureF gT 18 [cpv c] (.bool (¬ keepB c = true)) := by
  have e : (¬ keepB c = true) ↔ (c.kind = 1 ∧ c.cyc = 0) ∧ c.mis = 0 := by
    unfold keepB; simp [and_assoc]
  refine Spec.enter gTok P18 100 Tryd.func18 rfl (by kernel_rfl) ?_
  refine And.intro (fun h1 => And.intro (fun h2 => ?_) (fun h2 => ?_)) (fun h1 => ?_)
  · refine retE ?_
    have h1' : c.kind = 1 := h1
    have h2' : c.cyc = 0 := h2
    exact (show c.mis = 0 ↔ ¬ keepB c = true from ⟨fun h => e.2 ⟨⟨h1', h2'⟩, h⟩, fun h => (e.1 h).2⟩)
  · refine retE ?_
    have h2' : ¬ c.cyc = 0 := h2
    exact (show ¬ ¬ keepB c = true from fun h => h2' (e.1 h).1.2)
  · refine retE ?_
    have h1' : ¬ c.kind = 1 := h1
    exact (show ¬ ¬ keepB c = true from fun h => h1' (e.1 h).1.1)
set_option maxRecDepth 10000 in
theorem idx_del (L : List C) (p : C → Prop) (hp : ∀ x ∈ L, PureF gT 18 [cpv x] (.bool (p x))) : PureF gT 29 [.sl 12 (L.map cpv), .clo 18 []] (.int .i64 (idxL p L 0)) := by
  refine Spec.enter gTok P29 100 Tryd.func29 rfl (by kernel_rfl) ?_
  intro hm
  rw [List.length_map] at hm
  obtain ⟨z, hz⟩ : ∃ z, z = idxL p L 0 := ⟨_, rfl⟩
  rw [← hz]
  refine SW.loopS gTok P29 (by kernel_rfl) (α := {i : Nat // z = idxL p (L.drop i) i}) (fun i => [(8, .int .i64 i.1)]) (fun i => L.length - i.1) ⟨0, hz⟩ 60 ?_ ?_
  · repeat' first | exact trivial | exact rfl | refine And.intro ?_ ?_
  rintro ⟨i, hi⟩
  refine And.intro (fun h => ?_) (fun h => ?_)
  · have h' : (i : Int) < ((L.map cpv).length : Nat) := h
    rw [List.length_map] at h'
    refine ⟨C, L, cpv, rfl, show (0 : Int) ≤ (i : Int) by omega, show (i : Int) < (L.length : Int) by omega, fun x hx => ?_⟩
    have hx' : L[i]? = some x := hx
    obtain ⟨s1, s2⟩ := idxL_step (p := p) hx'
    refine ⟨[], no_rl, (hp x (List.mem_of_getElem? hx')).use (by repeat' first | exact trivial | exact rfl | exact Iff.rfl | exact Or.inl rfl | refine And.intro ?_ ?_) rfl rfl ?_⟩
    refine And.intro (fun hpx => ?_) (fun hpx => ?_)
    · refine retE ?_
      exact (show (i : Int) = z by rw [hi, s1 hpx])
    · unfold maxLen at hm
      refine .inl ⟨inR_i64 (show _ ≤ (i : Int) + 1 ∧ (i : Int) + 1 ≤ _ by omega), ⟨⟨i + 1, by rw [hi, s2 hpx]⟩, show L.length - (i + 1) < L.length - i by omega, ?_⟩⟩
      repeat' first | exact trivial | exact rfl | refine And.intro ?_ ?_
  · have h' : ¬ (i : Int) < ((L.map cpv).length : Nat) := h
    rw [List.length_map] at h'
    refine retE ?_
    exact (show (-1 : Int) = z by rw [hi, List.drop_of_length_le (by omega), idxL])

/-- what is behind the first that goes -/
theorem idxL_none {α : Type} {p : α → Prop} : ∀ {l : List α} {i : Nat}, idxL p l i = -1 → ∀ x ∈ l, ¬ p x
  | [], _, _, x, hx => by simp at hx
  | y :: l, i, h, x, hx => by
    rw [idxL] at h
    by_cases hy : p y
    · rw [if_pos hy] at h; omega
    · rw [if_neg hy] at h
      rcases List.mem_cons.1 hx with rfl | hx
      · exact hy
      · exact idxL_none h x hx
theorem idxL_first {α : Type} {p : α → Prop} : ∀ {l : List α} {i : Nat}, ¬ idxL p l i = -1 → ∃ k : Nat, idxL p l i = ((i + k : Nat) : Int) ∧ (∃ x, l[k]? = some x ∧ p x) ∧ ∀ x ∈ l.take k, ¬ p x
  | [], _, h => absurd rfl h
  | y :: l, i, h => by
    rw [idxL] at h ⊢
    by_cases hy : p y
    · rw [if_pos hy]
      exact ⟨0, rfl, ⟨y, rfl, hy⟩, by simp⟩
    · rw [if_neg hy] at h ⊢
      obtain ⟨k, h1, ⟨x, h2, h3⟩, h4⟩ := idxL_first h
      refine ⟨k + 1, by rw [h1]; congr 1; omega, ⟨x, h2, h3⟩, fun z hz => ?_⟩
      rw [List.take_succ_cons] at hz
      rcases List.mem_cons.1 hz with rfl | hz
      · exact hy
      · exact h4 z hz
def dB (l : List C) : PBlk := ⟨.dyn, 31, 12, .w, true, l.map cpv⟩
/-- the list's cells, j having been looked at -/
structure DelOk (L : List C) (x : Nat × List C) : Prop where
  le : x.1 ≤ L.length
  len : x.2.length = L.length
  got : x.2.take ((L.take x.1).filter keepB).length = (L.take x.1).filter keepB
  rest : x.2.drop x.1 = L.drop x.1
  lt : ((L.take x.1).filter keepB).length < x.1
theorem DelOk.at {L cs : List C} {j : Nat} {y : C} (h : DelOk L (j, cs)) (hj : (j : Int) < L.length) (hy : cs[j]? = some y) : L[j]? = some y := by
  have h1 := congrArg (fun l => l[0]?) h.rest
  simpa [List.getElem?_drop, hy] using h1.symm
theorem DelOk.step {L cs : List C} {j : Nat} {y : C} (h : DelOk L (j, cs)) (hj : (j : Int) < L.length) (hy : cs[j]? = some y) : (L.take (j + 1)).filter keepB = (L.take j).filter keepB ++ [y].filter keepB := by
  rw [List.take_add_one, h.at hj hy, List.filter_append]; rfl
theorem DelOk.restS {L cs : List C} {j : Nat} (h : cs.drop j = L.drop j) : cs.drop (j + 1) = L.drop (j + 1) := by
  rw [← List.drop_drop, ← List.drop_drop, h]
theorem del_drop_len {L cs : List C} {j : Nat} {y : C} (h : DelOk L (j, cs)) (hj : (j : Int) < L.length) (hy : cs[j]? = some y) (hk : ¬ keepB y = true) : (L.take (j + 1)).filter keepB = (L.take j).filter keepB := by
  rw [h.step hj hy, List.filter_cons_of_neg hk]; simp
theorem del_drop {L cs : List C} {j : Nat} {y : C} (h : DelOk L (j, cs)) (hj : (j : Int) < L.length) (hy : cs[j]? = some y) (hk : ¬ keepB y = true) : DelOk L (j + 1, cs) := by
  have e := del_drop_len h hj hy hk
  have h1 := h.lt
  have h2 := h.got
  simp only at h1 h2
  exact ⟨by show j + 1 ≤ _; omega, h.len, by simp only; rw [e]; exact h2, DelOk.restS h.rest, by simp only; rw [e]; omega⟩
theorem del_keep_len {L cs : List C} {j : Nat} {y : C} (h : DelOk L (j, cs)) (hj : (j : Int) < L.length) (hy : cs[j]? = some y) (hk : keepB y = true) : (L.take (j + 1)).filter keepB = (L.take j).filter keepB ++ [y] := by
  rw [h.step hj hy, List.filter_cons_of_pos hk]; simp
theorem del_keep {L cs : List C} {j : Nat} {y : C} (h : DelOk L (j, cs)) (hj : (j : Int) < L.length) (hy : cs[j]? = some y) (hk : keepB y = true) : DelOk L (j + 1, cs.set ((L.take j).filter keepB).length y) := by
  have e := del_keep_len h hj hy hk
  have h1 := h.lt
  have h2 := h.got
  have h3 := h.len
  simp only at h1 h2 h3
  obtain ⟨K, hK⟩ : ∃ K, (L.take j).filter keepB = K := ⟨_, rfl⟩
  rw [hK] at e h1 h2 ⊢
  have hlt : K.length < cs.length := by omega
  refine ⟨by show j + 1 ≤ _; omega, by simp only; rw [List.length_set]; exact h3, ?_, ?_, ?_⟩
  · simp only
    rw [e, List.length_append, List.length_singleton, List.take_add_one, List.getElem?_set_self hlt, List.take_set_of_le (Nat.le_refl _), h2]
    rfl
  · simp only
    rw [List.drop_set_of_lt (by omega)]
    exact DelOk.restS h.rest
  · simp only
    rw [e, List.length_append, List.length_singleton]; omega
def zC : PBlk := ⟨.loc, 31, 1, .w, true, [.lit .i64 0, .lit .i64 0, .lit .i64 0, .lit .i64 0, .lit .i64 0, .lit .i64 0, .lit .u32 0, .nil, .lit .i64 0, .lit .u32 0, .nil, .nil]⟩
set_option maxRecDepth 10000 in
theorem delete_spec (L : List C) (hL : L.length ≤ 1000000) : Spec gT 17 [.wref 1, .clo 18 []] [zC, dB L] [] fun r S' => ∃ b : PBlk, S' = [zC, b] ∧ b.k = .dyn ∧ b.live = true ∧ b.m = .w ∧ b.size = 12 ∧ ((r = .wref 1 ∧ b.cs = (L.filter keepB).map cpv) ∨ (r = .ref 1 0 ((L.filter keepB).map cpv).length ∧ b.cs.take ((L.filter keepB).map cpv).length = (L.filter keepB).map cpv)) := by
  have hi := idx_del L (fun x => ¬ keepB x = true) fun x _ => join1_pure x
  obtain ⟨z, hz⟩ : ∃ z, idxL (fun x => ¬ keepB x = true) L 0 = z := ⟨_, rfl⟩
  rw [hz] at hi
  unfold dB zC
  refine Spec.enter gTok P17 100 Tryd.func17 rfl (by kernel_rfl) ?_
  refine ⟨[], no_rl, hi.useB [1] (by repeat' first | exact trivial | exact rfl | exact Iff.rfl | exact Or.inl rfl | refine And.intro ?_ ?_) rfl rfl ?_⟩
  refine And.intro (fun h1 => ?_) (fun h1 => ?_)
  · have h1' : z = -1 := h1
    have hall := idxL_none (hz.trans h1')
    have hf : L.filter keepB = L := List.filter_eq_self.2 fun x hx => Classical.not_not.1 (hall x hx)
    rw [hf]
    refine Exists.intro (.wref 1) (And.intro (PLe.refl _) ?_)
    exact ⟨⟨.dyn, 31, 12, .w, true, L.map cpv⟩, rfl, rfl, rfl, rfl, rfl, .inl ⟨rfl, rfl⟩⟩
  · have h1' : ¬ z = -1 := h1
    obtain ⟨k, hk, ⟨x0, hx0, hp0⟩, hbef⟩ := idxL_first (fun e => h1' (hz.symm.trans e))
    rw [hz, Nat.zero_add] at hk
    subst hk
    have hkl : k < L.length := (List.getElem?_eq_some_iff.1 hx0).1
    have hK0 : (L.take (k + 1)).filter keepB = L.take k := by
      rw [List.take_add_one, hx0, List.filter_append, List.filter_eq_self.2 fun x hx => Classical.not_not.1 (hbef x hx)]
      show L.take k ++ [x0].filter keepB = _
      rw [List.filter_cons_of_neg hp0]; simp
    have hKl : ((L.take (k + 1)).filter keepB).length = k := by rw [hK0, List.length_take]; omega
    refine .inl ⟨inR_i64 (show _ ≤ (k : Int) + 1 ∧ (k : Int) + 1 ≤ _ by omega), ?_⟩
    refine SW.loop gTok P17 (by kernel_rfl) (α := {x : Nat × List C // DelOk L x}) (fun x => [(5, .int .i64 ((L.take x.1.1).filter keepB).length), (6, .int .i64 x.1.1)]) (fun x => [⟨.loc, 31, 1, .w, true, [.lit .i64 0, .lit .i64 0, .lit .i64 0, .lit .i64 0, .lit .i64 0, .lit .i64 0, .lit .u32 0, .nil, .lit .i64 0, .lit .u32 0, .nil, .nil]⟩, ⟨.dyn, 31, 12, .w, true, x.1.2.map cpv⟩]) (fun x => L.length - x.1.1) ⟨(k + 1, L), ⟨by omega, rfl, by rw [hK0, List.length_take, Nat.min_eq_left (by omega)], rfl, by show _ < k + 1; rw [hKl]; omega⟩⟩ 60 [some 0, some 1] ?_ fun x => ?_
    · repeat' first | exact trivial | exact rfl | exact Iff.rfl | refine And.intro ?_ ?_
      all_goals exact (show (k : Int) = (((L.take (k + 1)).filter keepB).length : Int) by rw [hKl])
    obtain ⟨⟨j, cs⟩, hx⟩ := x
    have hx2 := hx.len
    have hx1 := hx.le
    have hx3 := hx.lt
    simp only at hx2 hx1 hx3
    have ecs : (((cs.map cpv).length : Nat) : Int) = L.length := by rw [List.length_map, hx2]
    intro hm
    refine And.intro (fun h => ?_) (fun h => ?_)
    · have h' : (j : Int) < ((cs.map cpv).length : Nat) := h
      rw [ecs] at h'
      refine ⟨show (0 : Int) ≤ (j : Int) by omega, show (j : Int) < ((cs.map cpv).length : Nat) by omega, C, cs, cpv, rfl, show (j : Int).toNat < cs.length by omega, fun y hy => ?_⟩
      have hy' : cs[j]? = some y := hy
      refine ⟨[], no_rl, (join1_pure y).use (by repeat' first | exact trivial | exact rfl | exact Iff.rfl | exact Or.inl rfl | refine And.intro ?_ ?_) rfl rfl ?_⟩
      refine And.intro (fun hk2 => ?_) (fun hk2 => ?_)
      · have hyk : keepB y = true := Classical.not_not.1 hk2
        refine ⟨show (0 : Int) ≤ (((L.take j).filter keepB).length : Int) by omega, show (((L.take j).filter keepB).length : Int) < ((cs.map cpv).length : Nat) by omega, ?_⟩
        refine And.intro (show (((L.take j).filter keepB).length : Int).toNat < (cs.map cpv).length by omega) ?_
        refine .inl ⟨inR_i64 (show _ ≤ (((L.take j).filter keepB).length : Int) + 1 ∧ (((L.take j).filter keepB).length : Int) + 1 ≤ _ by omega), ?_⟩
        refine .inl ⟨inR_i64 (show _ ≤ (j : Int) + 1 ∧ (j : Int) + 1 ≤ _ by omega), ⟨⟨(j + 1, cs.set ((L.take j).filter keepB).length y), del_keep hx h' hy' hyk⟩, [some 0, some 1], show L.length - (j + 1) < L.length - j by omega, ?_⟩⟩
        repeat' first | exact trivial | exact rfl | exact Iff.rfl | refine And.intro ?_ ?_
        all_goals first | exact (show (((L.take j).filter keepB).length : Int) + 1 = (((L.take (j + 1)).filter keepB).length : Int) by rw [del_keep_len hx h' hy' hyk, List.length_append]; simp) | exact (show (cs.map cpv).set (((L.take j).filter keepB).length : Int).toNat (cpv y) = (cs.set ((L.take j).filter keepB).length y).map cpv by rw [Int.toNat_natCast, List.map_set])
      · have hyk : ¬ keepB y = true := fun h => hk2 (fun h2 => h2 h)
        refine .inl ⟨inR_i64 (show _ ≤ (j : Int) + 1 ∧ (j : Int) + 1 ≤ _ by omega), ⟨⟨(j + 1, cs), del_drop hx h' hy' hyk⟩, [some 0, some 1], show L.length - (j + 1) < L.length - j by omega, ?_⟩⟩
        repeat' first | exact trivial | exact rfl | exact Iff.rfl | refine And.intro ?_ ?_
        all_goals exact (show (((L.take j).filter keepB).length : Int) = (((L.take (j + 1)).filter keepB).length : Int) by rw [del_drop_len hx h' hy' hyk])
    · have h' : ¬ (j : Int) < ((cs.map cpv).length : Nat) := h
      rw [ecs] at h'
      have hj : j = L.length := by omega
      subst hj
      obtain ⟨n, hn⟩ : ∃ n, ((L.take L.length).filter keepB).length = n := ⟨_, rfl⟩
      have hcl : (cs.map cpv).length = L.length := by rw [List.length_map, hx2]
      refine ⟨n, L.length, show ((((L.take L.length).filter keepB).length : Nat) : Int) = n by rw [hn], show (((cs.map cpv).length : Nat) : Int) = (L.length : Nat) by rw [hcl], by omega, show L.length ≤ (cs.map cpv).length by omega, show n < (cs.map cpv).length by omega, ?_⟩
      refine pclear_ok gTok ?_
      refine ⟨n, rfl, show n + (L.length - n) = (cs.map cpv).length by omega, by omega, ?_⟩
      refine ⟨0, n, rfl, show ((((L.take L.length).filter keepB).length : Nat) : Int) = n by rw [hn], by omega, ?_⟩
      have hl2 : ∀ e : PV, ((cs.map cpv).take n ++ List.replicate (L.length - n) e).length = L.length := fun e => by
        rw [List.length_append, List.length_take, List.length_replicate, hcl]; omega
      have hg := hx.got
      simp only at hg
      rw [hn] at hg
      refine And.intro (show n ≤ ((cs.map cpv).take n ++ List.replicate (L.length - n) _).length by rw [hl2]; omega) (And.intro (show 0 < ((cs.map cpv).take n ++ List.replicate (L.length - n) _).length by rw [hl2]; omega) ?_)
      have hfl : (L.filter keepB).length = n := by rw [← hn, List.take_length]
      have htk : cs.take n = L.filter keepB := by rw [hg, List.take_length]
      refine Exists.intro (.ref 1 (0 * 12) (n - 0)) (And.intro (PLe.refl _) ?_)
      refine ⟨_, rfl, rfl, rfl, rfl, rfl, .inr ⟨?_, ?_⟩⟩
      · show PV.ref 1 (0 * 12) (n - 0) = _
        rw [List.length_map, hfl, Nat.zero_mul, Nat.sub_zero]
      · show ((cs.map cpv).take n ++ List.replicate (L.length - n) _).take ((L.filter keepB).map cpv).length = _
        rw [List.length_map, hfl, List.take_append_of_le_length (by rw [List.length_take, hcl]; omega), List.take_take, Nat.min_self, ← List.map_take, htk]

end Go.Proofs.YtfnjlkmhnhojpaaDoor.Pw

/- Chapter 21 over values: Join. -/
set_option linter.unusedVariables false
namespace Go.Proofs.YtfnjlkmhnhojpaaDoor.Pw
open Go Go.RowKit

theorem delete_cut (L : List C) (hL : L.length ≤ 1000000) : Spec gT 17 [.wref 1, .clo 18 []] [zC, dB L] [] fun r S' => r = .sl 12 ((L.filter keepB).map cpv) ∧ S' = [zC, ⟨.dyn, (dB L).ty, 12, .w, false, []⟩] :=
  (delete_spec L hL).cut1 rfl rfl rfl
/-- how many flats' cycles there may be together -/
def FlatTo (B : Int) (c : C) : Prop := c.kind = 1 → (0 ≤ c.cyc ∧ c.cyc ≤ B) ∧ (0 ≤ c.mis ∧ c.mis ≤ B)
theorem FlatTo.more {B B' : Int} {c : C} (h : FlatTo B c) (hB : B ≤ B') : FlatTo B' c := fun k => by have := h k; omega
theorem fold_step {S : List C} {i : Nat} {c : C} (h : S[i]? = some c) : (S.take (i + 1)).foldl joinS [] = joinS ((S.take i).foldl joinS []) c := by
  rw [List.take_add_one, h, List.foldl_append]; rfl
theorem fold_bd {S : List C} (hS : ∀ c ∈ S, FlatTo 2147483647 c) : ∀ i : Nat, ∀ x ∈ (S.take i).foldl joinS [], FlatTo (i * 2147483647) x
  | 0, x, hx => by simp at hx
  | i + 1, x, hx => by
    cases hc : S[i]? with
    | none =>
      have hl : S.length ≤ i := List.getElem?_eq_none_iff.1 hc
      rw [List.take_of_length_le (by omega), ← List.take_of_length_le (i := i) hl] at hx
      exact (fold_bd hS i x hx).more (by omega)
    | some c =>
      rw [fold_step hc] at hx
      have hcb := hS c (List.mem_of_getElem? hc)
      refine joinS_mem (p := FlatTo ((i + 1 : Nat) * 2147483647)) (fun y hy => (fold_bd hS i y hy).more (by omega)) (hcb.more (by omega)) (fun d hd k1 k2 _ => ?_) x hx
      have h1 := fold_bd hS i d hd k2
      have h2 := hcb k1
      show (0 ≤ d.cyc + c.cyc ∧ d.cyc + c.cyc ≤ _) ∧ (0 ≤ d.mis + c.mis ∧ d.mis + c.mis ≤ _)
      omega
theorem fold_len (S : List C) : ∀ i : Nat, ((S.take i).foldl joinS []).length ≤ i
  | 0 => by simp
  | i + 1 => by
    cases hc : S[i]? with
    | none =>
      have hl : S.length ≤ i := List.getElem?_eq_none_iff.1 hc
      rw [List.take_of_length_le (by omega), ← List.take_of_length_le (i := i) hl]
      have := fold_len S i; omega
    | some c =>
      rw [fold_step hc]
      have := fold_len S i; have := joinS_len ((S.take i).foldl joinS []) c; omega
theorem joinS_app {out : List C} {c : C} (h : ∀ d, out[out.length - 1]? = some d → ¬ (c.kind = 1 ∧ d.kind = 1)) : joinS out c = out ++ [c] := by
  unfold joinS
  cases he : out.getLast? with
  | none => rfl
  | some d =>
    simp only
    rw [if_neg (h d (by rw [← List.getLast?_eq_getElem?]; exact he))]
theorem joinS_set {out : List C} {c d : C} (hd : out[out.length - 1]? = some d) (h1 : c.kind = 1) (h2 : d.kind = 1) : joinS out c = out.set (out.length - 1) (flatC (d.cyc + c.cyc) (d.mis + c.mis)) := by
  have he : out.getLast? = some d := by rw [List.getLast?_eq_getElem?]; exact hd
  unfold joinS
  rw [he]
  simp only
  rw [if_pos ⟨h1, h2⟩]
  obtain ⟨pre, hpre⟩ := List.getLast?_eq_some_iff.1 he
  rw [hpre, List.dropLast_concat]
  simp
set_option maxRecDepth 10000 in
theorem join_pure (l : List C) (hn : (spL l).length ≤ 1000000) (hS : ∀ c ∈ spL l, FlatTo 2147483647 c) : PureF gT 8 [.sl 12 (l.map cpv)] (cpv (joinC l)) := by
  have hs := spread_pure l hn
  obtain ⟨S, hSe⟩ : ∃ S, spL l = S := ⟨_, rfl⟩
  rw [hSe] at hs hn hS
  refine Spec.enter gTok P8 100 Tryd.func8 rfl (by kernel_rfl) ?_
  refine ⟨[], no_rl, hs.use (by repeat' first | exact trivial | exact rfl | exact Iff.rfl | exact Or.inl rfl | refine And.intro ?_ ?_) rfl rfl ?_⟩
  intro hm
  have el : (((S.map cpv).length : Nat) : Int) = S.length := by rw [List.length_map]
  refine SW.loopD gTok P8 (by kernel_rfl) (fun i : Nat => [(10, .int .i64 i), (3, .wref 1)]) (fun i => [⟨.dyn, 31, 12, .w, true, ((S.take i).foldl joinS []).map cpv⟩]) (fun i => S.length - i) 0 60 [none] ?_ fun i => ?_
  · repeat' first | exact trivial | exact rfl | exact Iff.rfl | refine And.intro ?_ ?_
  have hle := fold_len S i
  have hbd := fold_bd hS i
  obtain ⟨out, hout⟩ : ∃ out, (S.take i).foldl joinS [] = out := ⟨_, rfl⟩
  rw [hout] at hle hbd ⊢
  have eo : (((out.map cpv).length : Nat) : Int) = out.length := by rw [List.length_map]
  refine And.intro (fun h => ?_) (fun h => ?_)
  · have h' : (i : Int) < ((S.map cpv).length : Nat) := h
    rw [el] at h'
    refine ⟨C, S, cpv, rfl, show (0 : Int) ≤ (i : Int) by omega, show (i : Int) < (S.length : Int) by omega, fun c hc => ?_⟩
    have hc' : S[i]? = some c := hc
    have hcb := hS c (List.mem_of_getElem? hc')
    have e1 := fold_step hc'
    rw [hout] at e1
    refine fun hm2 => ?_
    refine And.intro (fun hk => ?_) (fun hk => ?_)
    · refine And.intro (fun h0 => ?_) (fun h0 => ?_)
      · have h0' : (0 : Int) < ((out.map cpv).length : Nat) := h0
        refine .inl ⟨inR_i64 (show _ ≤ (((out.map cpv).length : Nat) : Int) - 1 ∧ (((out.map cpv).length : Nat) : Int) - 1 ≤ _ by omega), ?_⟩
        refine ⟨show (0 : Int) ≤ (((out.map cpv).length : Nat) : Int) - 1 by omega, show (((out.map cpv).length : Nat) : Int) - 1 < ((out.map cpv).length : Nat) by omega, ?_⟩
        refine ⟨C, out, cpv, rfl, show ((((out.map cpv).length : Nat) : Int) - 1).toNat < out.length by omega, fun d hd => ?_⟩
        have hd' : out[out.length - 1]? = some d := by
          rw [← show ((((out.map cpv).length : Nat) : Int) - 1).toNat = out.length - 1 by omega]; exact hd
        refine And.intro (fun hdk => ?_) (fun hdk => ?_)
        · have hk' : c.kind = 1 := hk
          have hdk' : d.kind = 1 := hdk
          have b1 := hcb hk'
          have b2 := hbd d (List.mem_of_getElem? hd') hdk'
          have hi6 : (i : Int) ≤ 1000000 := by omega
          have hlt : ((((out.map cpv).length : Nat) : Int) - 1).toNat < out.length := by omega
          have hlt2 : ((((out.map cpv).length : Nat) : Int) - 1).toNat < (out.map cpv).length := by omega
          have r6 : -9223372036854775808 ≤ (i : Int) + 1 ∧ (i : Int) + 1 ≤ 9223372036854775807 := by omega
          have r7 : S.length - (i + 1) < S.length - i := by omega
          have r1 : -9223372036854775808 ≤ (((out.map cpv).length : Nat) : Int) - 1 ∧ (((out.map cpv).length : Nat) : Int) - 1 ≤ 9223372036854775807 := by omega
          have r2 : (0 : Int) ≤ (((out.map cpv).length : Nat) : Int) - 1 := by omega
          have r3 : (((out.map cpv).length : Nat) : Int) - 1 < ((out.map cpv).length : Nat) := by omega
          have r4 : -9223372036854775808 ≤ d.cyc + c.cyc ∧ d.cyc + c.cyc ≤ 9223372036854775807 := by omega
          have r5 : -9223372036854775808 ≤ d.mis + c.mis ∧ d.mis + c.mis ≤ 9223372036854775807 := by omega
          have hdd : ∀ d2, out[((((out.map cpv).length : Nat) : Int) - 1).toNat]? = some d2 → d = d2 := fun d2 h2 => Option.some.inj (hd.symm.trans h2)
          repeat' first
            | refine .inl ⟨inR_i64 r1, ?_⟩
            | refine ⟨r2, r3, ?_⟩
            | (refine ⟨C, out, cpv, rfl, hlt, fun d2 hd2 => ?_⟩; have e9 := hdd d2 hd2; subst e9)
            | refine .inl ⟨inR_i64 r4, ?_⟩
            | refine .inl ⟨inR_i64 r5, ?_⟩
            | refine ⟨[], no_rl, (fixed_pure (d.cyc + c.cyc) (d.mis + c.mis)).use (And.intro rfl (And.intro rfl trivial)) rfl rfl ?_⟩
            | refine And.intro hlt2 ?_
            | refine .inl ⟨inR_i64 r6, ⟨i + 1, [some 1], r7, ?_⟩⟩
            | fail
          all_goals repeat' first | exact trivial | exact rfl | exact Iff.rfl | refine And.intro ?_ ?_
          all_goals exact (show (out.map cpv).set ((((out.map cpv).length : Nat) : Int) - 1).toNat (cpv (flatC (d.cyc + c.cyc) (d.mis + c.mis))) = ((S.take (i + 1)).foldl joinS []).map cpv by rw [e1, joinS_set hd' hk' hdk', List.map_set, show ((((out.map cpv).length : Nat) : Int) - 1).toNat = out.length - 1 by omega])
        · refine ⟨show (out.map cpv).length + 1 ≤ maxLen by unfold maxLen; omega, show ((out.map cpv).length + 1) * 144 ≤ 140737488355328 by omega, ?_⟩
          refine .inl ⟨inR_i64 (show _ ≤ (i : Int) + 1 ∧ (i : Int) + 1 ≤ _ by omega), ⟨i + 1, [some 4], by omega, ?_⟩⟩
          repeat' first | exact trivial | exact rfl | exact Iff.rfl | refine And.intro ?_ ?_
          exact (show out.map cpv ++ [cpv c] = ((S.take (i + 1)).foldl joinS []).map cpv by rw [e1, joinS_app (fun d2 hd2 ⟨_, h3⟩ => by rw [hd'] at hd2; cases hd2; exact hdk h3), List.map_append]; rfl)
      · refine ⟨show (out.map cpv).length + 1 ≤ maxLen by unfold maxLen; omega, show ((out.map cpv).length + 1) * 144 ≤ 140737488355328 by omega, ?_⟩
        refine .inl ⟨inR_i64 (show _ ≤ (i : Int) + 1 ∧ (i : Int) + 1 ≤ _ by omega), ⟨i + 1, [some 4], by omega, ?_⟩⟩
        repeat' first | exact trivial | exact rfl | exact Iff.rfl | refine And.intro ?_ ?_
        exact (show out.map cpv ++ [cpv c] = ((S.take (i + 1)).foldl joinS []).map cpv by rw [e1, joinS_app (fun d2 hd2 _ => by have h3 := (List.getElem?_eq_some_iff.1 hd2).1; exact h0 (show (0 : Int) < ((out.map cpv).length : Nat) by omega)), List.map_append]; rfl)
    · refine ⟨show (out.map cpv).length + 1 ≤ maxLen by unfold maxLen; omega, show ((out.map cpv).length + 1) * 144 ≤ 140737488355328 by omega, ?_⟩
      refine .inl ⟨inR_i64 (show _ ≤ (i : Int) + 1 ∧ (i : Int) + 1 ≤ _ by omega), ⟨i + 1, [some 4], by omega, ?_⟩⟩
      repeat' first | exact trivial | exact rfl | exact Iff.rfl | refine And.intro ?_ ?_
      exact (show out.map cpv ++ [cpv c] = ((S.take (i + 1)).foldl joinS []).map cpv by rw [e1, joinS_app (fun d2 hd2 ⟨h3, _⟩ => hk h3), List.map_append]; rfl)
  · have h' : ¬ (i : Int) < ((S.map cpv).length : Nat) := h
    rw [el] at h'
    have hS' : S.take i = S := List.take_of_length_le (by omega)
    rw [hS'] at hout
    have hle2 := fold_len S S.length
    rw [List.take_length, hout] at hle2
    have hdc := delete_cut out (by omega)
    have hoc : out.filter keepB = outC l := by rw [← hout, ← hSe]; rfl
    rw [hoc] at hdc
    unfold zC dB at hdc
    refine ⟨[], no_rl, Spec.useS hdc rfl rfl rfl rfl (by repeat' first | exact trivial | exact rfl | exact Iff.rfl | exact Or.inl rfl | refine And.intro ?_ ?_) ?_⟩
    refine And.intro (by repeat' first | exact trivial | exact rfl | exact Iff.rfl | refine And.intro ?_ ?_) (And.intro (by repeat' first | exact trivial | exact rfl | exact Iff.rfl | refine And.intro ?_ ?_) ?_)
    refine fun hm3 => ?_
    have ec : ((((outC l).map cpv).length : Nat) : Int) = (outC l).length := by rw [List.length_map]
    refine And.intro (fun h1 => ?_) (fun h1 => ?_)
    · have h1' : ((((outC l).map cpv).length : Nat) : Int) = 1 := h1
      rw [ec] at h1'
      obtain ⟨c, hc⟩ : ∃ c, outC l = [c] := List.length_eq_one_iff.1 (by omega)
      refine ⟨C, outC l, cpv, rfl, show (0 : Int) ≤ 0 by decide, show (0 : Int) < ((outC l).length : Int) by omega, fun x hx => ?_⟩
      have hx' : (outC l)[0]? = some x := hx
      rw [hc] at hx'
      cases hx'
      refine retE ?_
      have ej : joinC l = c := by unfold joinC; rw [hc]
      rw [ej]
      repeat' first | exact trivial | exact rfl | exact Iff.rfl | refine And.intro ?_ ?_
    · have h1' : ¬ ((((outC l).map cpv).length : Nat) : Int) = 1 := h1
      rw [ec] at h1'
      have ej : joinC l = .mk 2 0 0 0 0 leaf0 leaf0 (outC l) := by
        unfold joinC
        split
        · rename_i c hc; rw [hc] at h1'; exact absurd rfl h1'
        · rfl
      rw [ej]
      have ek : kidsC (.mk 2 0 0 0 0 leaf0 leaf0 (outC l)) = (outC l).map cpv := kidsCL_eq _
      refine retE ?_
      repeat' first | exact trivial | exact rfl | exact Iff.rfl | refine And.intro ?_ ?_
      all_goals exact ek.symm

end Go.Proofs.YtfnjlkmhnhojpaaDoor.Pw

/- Chapter 21 over values: the costs that items make. -/
namespace Go.Proofs.YtfnjlkmhnhojpaaDoor.Pw
open Go Go.RowKit

/-- an item -/
structure IT where
  kind : Int
  cyc : Int
  mis : Int
  word : Int
  size : Int
  aop : Int
  au : Int
  aw : Int
  bop : Int
  bu : Int
  bw : Int
  kids : Int
def itP (x : IT) : PV := .agg [.int .i64 x.kind, .int .i64 x.cyc, .int .i64 x.mis, .int .i64 x.word, .int .i64 x.size, .int .i64 x.aop, .int .u32 x.au, .int .i64 x.aw, .int .i64 x.bop, .int .u32 x.bu, .int .i64 x.bw, .int .i64 x.kids]
structure IT.Ok (x : IT) : Prop where
  au : 0 ≤ x.au ∧ x.au ≤ 4294967295
  bu : 0 ≤ x.bu ∧ x.bu ≤ 4294967295
def termOfT (op u w : Int) : T := if op = 1 then .leaf 1 u else if op = 2 then .leaf 2 (IntKind.u32.wrap w) else if op = 3 ∨ op = 4 then .one op 0 (.leaf 2 (IntKind.u32.wrap w)) else if 5 ≤ op ∧ op ≤ 17 then .two op 0 (.leaf 2 (IntKind.u32.wrap w)) (.leaf 1 u) else .leaf op 0
theorem wrap32 (w : Int) : 0 ≤ IntKind.u32.wrap w ∧ IntKind.u32.wrap w ≤ 4294967295 := by rw [IntKind.wrap_u32']; omega
theorem termOfT_wf {op u w : Int} (h : 0 ≤ u ∧ u ≤ 4294967295) : (termOfT op u w).Wf := by
  have := wrap32 w
  unfold termOfT
  repeat' split
  · exact h
  · exact this
  · exact ⟨by omega, this⟩
  · exact ⟨by omega, this, h⟩
  · exact ⟨by omega, by omega⟩

theorem nil_sl {w : World} {I : Nat → Prop} {β : Places} {n : Nat} {v : Value} (h : (PV.nil).Is w I β v) : (PV.sl n []).Is w I β v := by
  simp only [PV.Is] at h ⊢
  subst h
  exact ⟨none, 0, rfl, Nat.le_refl _, by simp, nofun, fun h => absurd rfl h⟩
theorem sl_ple {n : Nat} {es es' : List PV} (hl : es.length = es'.length) (h : ∀ w I g o, IsEs w I es n g o → IsEs w I es' n g o) : PLe (.sl n es) (.sl n es') := fun w I β v hv => by
  simp only [PV.Is] at hv ⊢
  obtain ⟨a, cap, h1, h2, h3, h4, h5⟩ := hv
  exact ⟨a, cap, by rw [← hl]; exact h1, by rw [← hl]; exact h2, by rw [← hl]; exact h3, fun g o e => h w I g o (h4 g o e), fun h0 => h5 (by rw [hl]; exact h0)⟩
theorem agg3_ple {a b : Int} {s s' : PV} (h : PLe s s') : PLe (.agg [.int .i64 a, .lit .u32 b, s]) (.agg [.int .i64 a, .int .u32 b, s']) := fun w I β v hv => by
  simp only [PV.Is] at hv ⊢
  obtain ⟨vs, rfl, hv⟩ := hv
  refine ⟨vs, rfl, ?_⟩
  match hvs : vs.toList, hv with
  | [x, y, z], hv =>
    simp only [IsL, PV.Is] at hv ⊢
    exact ⟨hv.1, hv.2.1, h w I β z hv.2.2.1, trivial⟩
theorem at_nil {w : World} {I : Nat → Prop} {g o : Nat} {a b : PV} (h : IsAt w I [a, b, .nil] g o) : IsAt w I [a, b, .sl 3 []] g o := by
  simp only [IsAt] at h ⊢
  obtain ⟨h1, h2, ⟨v, h3, h4, h5⟩, _⟩ := h
  exact ⟨h1, h2, ⟨v, h3, nil_sl h4, h5⟩, trivial⟩

theorem one_ple (op w : Int) : PLe (.agg [.int .i64 op, .lit .u32 0, .sl 3 [.agg [.int .i64 2, .int .u32 w, .nil]]]) (tpv (.one op 0 (.leaf 2 w))) :=
  agg3_ple (sl_ple rfl fun w I g o h => by
    rw [IsEs.cons] at h
    refine IsEs.cons.2 ⟨⟨rfl, at_nil h.1.2⟩, by simp only [IsEs]⟩)
theorem two_ple (op w u : Int) : PLe (.agg [.int .i64 op, .lit .u32 0, .sl 3 [.agg [.int .i64 2, .int .u32 w, .nil], .agg [.int .i64 1, .int .u32 u, .sl 3 []]]]) (tpv (.two op 0 (.leaf 2 w) (.leaf 1 u))) :=
  agg3_ple (sl_ple rfl fun w I g o h => by
    rw [IsEs.cons] at h
    refine IsEs.cons.2 ⟨⟨rfl, at_nil h.1.2⟩, h.2⟩)

set_option maxRecDepth 10000 in
theorem termOf_pure (op u w : Int) : PureF gT 23 [.agg [.int .i64 op, .int .u32 u, .int .i64 w]] (tpv (termOfT op u w)) := by
  refine Spec.enter gTok P23 100 Tryd.func23 rfl (by kernel_rfl) ?_
  unfold termOfT
  refine And.intro (fun h1 => ?_) (fun h1 => And.intro (fun h2 => ?_) (fun h2 => And.intro (fun h3 => ?_) (fun h3 => And.intro (fun h4 => ?_) (fun h4 => And.intro (fun h5 => And.intro (fun h6 => ?_) (fun h6 => ?_)) (fun h5 => ?_)))))
  · rw [if_pos h1]
    refine ⟨[], no_rl, (of_pureT u).use (by repeat' first | exact trivial | exact rfl | exact Iff.rfl | exact Or.inl rfl | refine And.intro ?_ ?_) rfl rfl ?_⟩
    (refine retE ?_; repeat' first | exact trivial | exact rfl | exact Iff.rfl | exact Or.inl rfl | refine And.intro ?_ ?_)
  · rw [if_neg h1, if_pos h2]
    refine .inr ?_
    (refine retE ?_; repeat' first | exact trivial | exact rfl | exact Iff.rfl | exact Or.inl rfl | refine And.intro ?_ ?_)
  · rw [if_neg h1, if_neg h2, if_pos (.inl h3)]
    refine .inr ?_
    exact ⟨_, one_ple op (IntKind.u32.wrap w), rfl⟩
  · rw [if_neg h1, if_neg h2, if_pos (.inr h4)]
    refine .inr ?_
    exact ⟨_, one_ple op (IntKind.u32.wrap w), rfl⟩
  · rw [if_neg h1, if_neg h2, if_neg (by omega), if_pos ⟨h5, h6⟩]
    refine .inr ?_
    refine ⟨[], no_rl, (of_pureT u).use (by repeat' first | exact trivial | exact rfl | exact Iff.rfl | exact Or.inl rfl | refine And.intro ?_ ?_) rfl rfl ?_⟩
    exact ⟨_, two_ple op (IntKind.u32.wrap w) u, rfl⟩
  · rw [if_neg h1, if_neg h2, if_neg (by omega), if_neg (fun h => h6 h.2)]
    (refine retE ?_; repeat' first | exact trivial | exact rfl | exact Iff.rfl | exact Or.inl rfl | refine And.intro ?_ ?_)
  · rw [if_neg h1, if_neg h2, if_neg (by omega), if_neg (fun h => h5 h.1)]
    (refine retE ?_; repeat' first | exact trivial | exact rfl | exact Iff.rfl | exact Or.inl rfl | refine And.intro ?_ ?_)

/-- kids, one behind the other -/
def kidsN (f : Nat → C × Nat) : Nat → Nat → List C × Nat
  | 0, i => ([], i)
  | n + 1, i => ((kidsN f n i).1 ++ [(f (kidsN f n i).2).1], (f (kidsN f n i).2).2)
/-- the cost that a list's items make, from the i-th on -/
def builtC (l : List IT) : Nat → Nat → C × Nat
  | 0, i => (flatC 1 0, i)
  | k + 1, i => match l[i]? with
    | none => (flatC 1 0, i)
    | some x => (.mk x.kind x.cyc x.mis x.word x.size (termOfT x.aop x.au x.aw) (termOfT x.bop x.bu x.bw) (kidsN (builtC l k) (max (min x.kids 4) 0).toNat (i + 1)).1, (kidsN (builtC l k) (max (min x.kids 4) 0).toNat (i + 1)).2)

theorem kidsN_le {f : Nat → C × Nat} {m : Nat} (hf : ∀ j, j ≤ m → (f j).2 ≤ m) : ∀ n i, i ≤ m → (kidsN f n i).2 ≤ m
  | 0, i, h => h
  | n + 1, i, h => hf _ (kidsN_le hf n i h)
theorem builtC_le {l : List IT} : ∀ (k i : Nat), i ≤ l.length → (builtC l k i).2 ≤ l.length
  | 0, i, h => h
  | k + 1, i, h => by
    rw [builtC]
    split
    · exact h
    · rename_i x hx
      exact kidsN_le (fun j hj => builtC_le k j hj) _ _ (List.getElem?_eq_some_iff.1 hx).1

def zB : PBlk := ⟨.loc, 31, 1, .w, true, [.lit .i64 0, .lit .i64 0, .lit .i64 0, .lit .i64 0, .lit .i64 0, .lit .i64 0, .lit .u32 0, .nil, .lit .i64 0, .lit .u32 0, .nil, .nil]⟩
def aB (i : Nat) : PBlk := ⟨.loc, 3, 1, .w, true, [.int .i64 i]⟩
def Bld (l : List IT) (k i : Nat) : Prop := Spec gT 13 [.sl 12 (l.map itP), .ptr 1 0, .int .i64 (13 - (k : Int))] [zB, aB i] [] fun x S' => x = cpv (builtC l k i).1 ∧ S' = [zB, aB (builtC l k i).2]
theorem Bld.go {l : List IT} {k i : Nat} {args : List PV} {T : List PBlk} {K : PV → List PBlk → Prop} (h : Bld l k i) (hle : leL leK args [.sl 12 (l.map itP), .ptr 1 0, .int .i64 (13 - (k : Int))])
    (hK : frBB [zB, aB (builtC l k i).2] fun S1 => appK S1 T (K (cpv (builtC l k i).1))) : Spec gT 13 args ([zB, aB i] ++ T) [] K := by
  refine Spec.useS h rfl rfl rfl rfl hle (stLe_app rfl (fun b hb => ?_) hK)
  simp only [List.mem_cons, List.not_mem_nil, or_false] at hb
  rcases hb with rfl | rfl
  · exact (by repeat' first | exact trivial | exact rfl | exact Iff.rfl | exact Or.inl rfl | refine And.intro ?_ ?_)
  · exact (by repeat' first | exact trivial | exact rfl | exact Iff.rfl | exact Or.inl rfl | refine And.intro ?_ ?_)

theorem Bld.use2 {l : List IT} {k i : Nat} {args : List PV} {st : List PBlk} {K : PV → List PBlk → Prop} (h : Bld l k i) (hle : leL leK args [.sl 12 (l.map itP), .ptr 1 0, .int .i64 (13 - (k : Int))])
    (hK : stLe st [zB, aB i] fun T => frBB [zB, aB (builtC l k i).2] fun S1 => appK S1 T (K (cpv (builtC l k i).1))) : Spec gT 13 args st [] K := Spec.useS h rfl rfl rfl rfl hle hK

set_option maxHeartbeats 4000000 in
set_option maxRecDepth 10000 in
theorem built_spec {l : List IT} (hl : l.length ≤ maxLen) : ∀ (k i : Nat), k ≤ 13 → i ≤ l.length → Bld l k i := by
  have hl0 : l.length ≤ 9223372036854775807 := by unfold maxLen at hl; omega
  intro k
  induction k with
  | zero =>
    intro i hk hi
    refine Spec.leS (Spec.enter gTok P13 100 Tryd.func13 rfl (by kernel_rfl) ?_)
    intro hm
    rw [List.length_map] at hm
    refine And.intro (fun h => ?_) (fun h => And.intro (fun h2 => ?_) (fun h2 => absurd (show (12 : Int) < 13 - ((0 : Nat) : Int) by omega) h2))
    · refine ⟨[], no_rl, (fixed_pure 1 0).use (by repeat' first | exact trivial | exact rfl | exact Iff.rfl | exact Or.inl rfl | refine And.intro ?_ ?_) rfl rfl ?_⟩
      (refine retS (by repeat' first | exact trivial | exact rfl | exact Iff.rfl | refine And.intro ?_ ?_) ?_; repeat' first | exact trivial | exact rfl | exact Iff.rfl | exact Or.inl rfl | refine And.intro ?_ ?_)
    · refine ⟨[], no_rl, (fixed_pure 1 0).use (by repeat' first | exact trivial | exact rfl | exact Iff.rfl | exact Or.inl rfl | refine And.intro ?_ ?_) rfl rfl ?_⟩
      (refine retS (by repeat' first | exact trivial | exact rfl | exact Iff.rfl | refine And.intro ?_ ?_) ?_; repeat' first | exact trivial | exact rfl | exact Iff.rfl | exact Or.inl rfl | refine And.intro ?_ ?_)
  | succ k ih =>
    intro i hk hi
    refine Spec.leS (Spec.enter gTok P13 100 Tryd.func13 rfl (by kernel_rfl) ?_)
    intro hm
    rw [List.length_map] at hm
    refine And.intro (fun h => ?_) (fun h => And.intro (fun h2 => absurd (show (12 : Int) < 13 - ((k + 1 : Nat) : Int) from h2) (by omega)) (fun h2 => ?_))
    · have h' : ((l.map itP).length : Int) ≤ (i : Int) := h
      rw [List.length_map] at h'
      have e : builtC l (k + 1) i = (flatC 1 0, i) := by rw [builtC, List.getElem?_eq_none (by omega)]
      rw [e]
      refine ⟨[], no_rl, (fixed_pure 1 0).use (by repeat' first | exact trivial | exact rfl | exact Iff.rfl | exact Or.inl rfl | refine And.intro ?_ ?_) rfl rfl ?_⟩
      (refine retS (by repeat' first | exact trivial | exact rfl | exact Iff.rfl | refine And.intro ?_ ?_) ?_; repeat' first | exact trivial | exact rfl | exact Iff.rfl | exact Or.inl rfl | refine And.intro ?_ ?_)
    have h' : ¬ ((l.map itP).length : Int) ≤ (i : Int) := h
    rw [List.length_map] at h'
    refine ⟨IT, l, itP, rfl, show (0 : Int) ≤ (i : Int) by omega, show (i : Int) < (l.length : Int) by omega, fun x hx => ?_⟩
    have hx' : l[i]? = some x := hx
    refine .inl ⟨inR_i64 (by omega), ?_⟩
    refine ⟨[], no_rl, (termOf_pure x.aop x.au x.aw).use (by repeat' first | exact trivial | exact rfl | exact Iff.rfl | exact Or.inl rfl | refine And.intro ?_ ?_) rfl rfl ?_⟩
    refine ⟨[], no_rl, (termOf_pure x.bop x.bu x.bw).use (by repeat' first | exact trivial | exact rfl | exact Iff.rfl | exact Or.inl rfl | refine And.intro ?_ ?_) rfl rfl ?_⟩
    have pos : ∀ n, (kidsN (builtC l k) n (i + 1)).2 ≤ l.length := fun n => kidsN_le (fun j hj => builtC_le k j hj) n (i + 1) (by omega)
    have sp : ∀ n, Bld l k (kidsN (builtC l k) n (i + 1)).2 := fun n => ih _ (by omega) (pos n)
    have e : ∀ n : Nat, max (min x.kids 4) 0 = (n : Int) → builtC l (k + 1) i = (.mk x.kind x.cyc x.mis x.word x.size (termOfT x.aop x.au x.aw) (termOfT x.bop x.bu x.bw) (kidsN (builtC l k) n (i + 1)).1, (kidsN (builtC l k) n (i + 1)).2) := fun n hn => by
      rw [builtC, hx']; dsimp only; rw [hn]; rfl
    refine And.intro (And.intro ?_ (And.intro ?_ trivial)) (And.intro ?_ trivial)
    rotate_left 1
    · refine Exists.intro [] (And.intro no_rl ?_)
      refine (termOf_pure x.aop x.au x.aw).use (by repeat' first | exact trivial | exact rfl | exact Iff.rfl | exact Or.inl rfl | refine And.intro ?_ ?_) rfl rfl ?_
      refine Exists.intro [] (And.intro no_rl ?_)
      refine (termOf_pure x.bop x.bu x.bw).use (by repeat' first | exact trivial | exact rfl | exact Iff.rfl | exact Or.inl rfl | refine And.intro ?_ ?_) rfl rfl ?_
      exact rfl
    · refine Exists.intro [] (And.intro no_rl ?_)
      refine (termOf_pure x.bop x.bu x.bw).use (by repeat' first | exact trivial | exact rfl | exact Iff.rfl | exact Or.inl rfl | refine And.intro ?_ ?_) rfl rfl ?_
      exact rfl
    refine SW.rounds gTok P13 (by kernel_rfl) (N := 60) 6 ?_
    refine And.intro (fun g0 => ?_) (fun g0 => ?_)
    rotate_left 1
    · rw [e 0 (by have q0 : ¬ ((0 : Nat) : Int) < max (min x.kids 4) 0 := g0; omega)]
      (refine retS (by repeat' first | exact trivial | exact rfl | exact Iff.rfl | refine And.intro ?_ ?_) ?_; repeat' first | exact trivial | exact rfl | exact Iff.rfl | exact Or.inl rfl | refine And.intro ?_ ?_)
    refine .inl ⟨inR_i64 (by omega), ?_⟩
    refine ⟨[], no_rl, (sp 0).go (by repeat' first | exact trivial | exact rfl | exact Or.inl rfl | (show (_ : Int) = _; omega) | refine And.intro ?_ ?_) ?_⟩
    refine And.intro (fun g1 => ?_) (fun g1 => ?_)
    rotate_left 1
    · rw [e 1 (by have q0 : ((0 : Nat) : Int) < max (min x.kids 4) 0 := g0; have q1 : ¬ ((1 : Nat) : Int) < max (min x.kids 4) 0 := g1; omega)]
      (refine retS (by repeat' first | exact trivial | exact rfl | exact Iff.rfl | refine And.intro ?_ ?_) ?_; repeat' first | exact trivial | exact rfl | exact Iff.rfl | exact Or.inl rfl | refine And.intro ?_ ?_)
    refine .inl ⟨inR_i64 (by omega), ?_⟩
    refine ⟨[], no_rl, (sp 1).go (by repeat' first | exact trivial | exact rfl | exact Or.inl rfl | (show (_ : Int) = _; omega) | refine And.intro ?_ ?_) ?_⟩
    refine And.intro (fun g2 => ?_) (fun g2 => ?_)
    rotate_left 1
    · rw [e 2 (by have q0 : ((0 : Nat) : Int) < max (min x.kids 4) 0 := g0; have q1 : ((1 : Nat) : Int) < max (min x.kids 4) 0 := g1; have q2 : ¬ ((2 : Nat) : Int) < max (min x.kids 4) 0 := g2; omega)]
      (refine retS (by repeat' first | exact trivial | exact rfl | exact Iff.rfl | refine And.intro ?_ ?_) ?_; repeat' first | exact trivial | exact rfl | exact Iff.rfl | exact Or.inl rfl | refine And.intro ?_ ?_)
    refine .inl ⟨inR_i64 (by omega), ?_⟩
    refine ⟨[], no_rl, (sp 2).go (by repeat' first | exact trivial | exact rfl | exact Or.inl rfl | (show (_ : Int) = _; omega) | refine And.intro ?_ ?_) ?_⟩
    refine And.intro (fun g3 => ?_) (fun g3 => ?_)
    rotate_left 1
    · rw [e 3 (by have q0 : ((0 : Nat) : Int) < max (min x.kids 4) 0 := g0; have q1 : ((1 : Nat) : Int) < max (min x.kids 4) 0 := g1; have q2 : ((2 : Nat) : Int) < max (min x.kids 4) 0 := g2; have q3 : ¬ ((3 : Nat) : Int) < max (min x.kids 4) 0 := g3; omega)]
      (refine retS (by repeat' first | exact trivial | exact rfl | exact Iff.rfl | refine And.intro ?_ ?_) ?_; repeat' first | exact trivial | exact rfl | exact Iff.rfl | exact Or.inl rfl | refine And.intro ?_ ?_)
    refine .inl ⟨inR_i64 (by omega), ?_⟩
    refine ⟨[], no_rl, (sp 3).go (by repeat' first | exact trivial | exact rfl | exact Or.inl rfl | (show (_ : Int) = _; omega) | refine And.intro ?_ ?_) ?_⟩
    refine And.intro (fun g4 => ?_) (fun g4 => ?_)
    rotate_left 1
    · rw [e 4 (by have q0 : ((0 : Nat) : Int) < max (min x.kids 4) 0 := g0; have q1 : ((1 : Nat) : Int) < max (min x.kids 4) 0 := g1; have q2 : ((2 : Nat) : Int) < max (min x.kids 4) 0 := g2; have q3 : ((3 : Nat) : Int) < max (min x.kids 4) 0 := g3; have q4 : ¬ ((4 : Nat) : Int) < max (min x.kids 4) 0 := g4; omega)]
      (refine retS (by repeat' first | exact trivial | exact rfl | exact Iff.rfl | refine And.intro ?_ ?_) ?_; repeat' first | exact trivial | exact rfl | exact Iff.rfl | exact Or.inl rfl | refine And.intro ?_ ?_)
    exact absurd (show ((4 : Nat) : Int) < max (min x.kids 4) 0 from g4) (by omega)

end Go.Proofs.YtfnjlkmhnhojpaaDoor.Pw

/- Chapter 11 over values: flat, Count. -/
namespace Go.Proofs.YtfnjlkmhnhojpaaDoor.Pw
open Go Go.RowKit

def nP (x : Int × Int × Int) : PV := .agg [.int .i64 x.1, .int .u32 x.2.1, .int .i64 x.2.2]

set_option maxRecDepth 10000 in
theorem count_pure : ∀ t : T, t.size ≤ 1000000 → PureF gT 41 [tpv t] (.int .i64 t.size)
  | .leaf o n, hs => by
    refine Spec.enter gTok P41 100 Tryd.func41 rfl (by kernel_rfl) ?_
    refine fun _ => SW.rounds gTok P41 (by kernel_rfl) (N := 60) 3 ?_
    refine And.intro (fun h => absurd (show (0 : Int) < 0 from h) (by decide)) (fun _ => ?_)
    exact retE rfl
  | .one o n a, hs => by
    have sz : (T.one o n a).size = 1 + a.size := rfl
    have iha := count_pure a (by omega)
    refine Spec.enter gTok P41 100 Tryd.func41 rfl (by kernel_rfl) ?_
    refine fun _ => SW.rounds gTok P41 (by kernel_rfl) (N := 60) 3 ?_
    refine And.intro (fun _ => ?_) (fun h => absurd (show (0 : Int) < 1 by decide) h)
    refine ⟨T, [a], tpv, rfl, (show (0 : Int) ≤ 0 by decide), (show (0 : Int) < 1 by decide), fun x hx => ?_⟩
    obtain rfl : a = x := Option.some.inj hx
    refine ⟨[], nofun, iha.use ⟨⟨rfl, rfl, rfl, trivial⟩, trivial⟩ rfl rfl ?_⟩
    refine .inl ⟨inR_i64 (by omega), ?_⟩
    refine And.intro (fun h => absurd (show (1 : Int) < 1 from h) (by decide)) (fun _ => ?_)
    refine retE ?_
    exact (show (1 : Int) + a.size = ((T.one o n a).size : Nat) by omega)
  | .two o n a b, hs => by
    have sz : (T.two o n a b).size = 1 + a.size + b.size := rfl
    have iha := count_pure a (by omega)
    have ihb := count_pure b (by omega)
    refine Spec.enter gTok P41 100 Tryd.func41 rfl (by kernel_rfl) ?_
    refine fun _ => SW.rounds gTok P41 (by kernel_rfl) (N := 60) 3 ?_
    refine And.intro (fun _ => ?_) (fun h => absurd (show (0 : Int) < 2 by decide) h)
    refine ⟨T, [a, b], tpv, rfl, (show (0 : Int) ≤ 0 by decide), (show (0 : Int) < 2 by decide), fun x hx => ?_⟩
    obtain rfl : a = x := Option.some.inj hx
    refine ⟨[], nofun, iha.use ⟨⟨rfl, rfl, rfl, trivial⟩, trivial⟩ rfl rfl ?_⟩
    refine .inl ⟨inR_i64 (by omega), ?_⟩
    refine And.intro (fun _ => ?_) (fun h => absurd (show (1 : Int) < 2 by decide) h)
    refine ⟨T, [a, b], tpv, rfl, (show (0 : Int) ≤ 1 by decide), (show (1 : Int) < 2 by decide), fun x hx => ?_⟩
    obtain rfl : b = x := Option.some.inj hx
    refine ⟨[], nofun, ihb.use ⟨⟨rfl, rfl, rfl, trivial⟩, trivial⟩ rfl rfl ?_⟩
    refine .inl ⟨inR_i64 (by omega), ?_⟩
    refine And.intro (fun h => absurd (show (2 : Int) < 2 from h) (by decide)) (fun _ => ?_)
    refine retE ?_
    exact (show (1 : Int) + a.size + b.size = ((T.two o n a b).size : Nat) by omega)

end Go.Proofs.YtfnjlkmhnhojpaaDoor.Pw

/- Chapter 21 over values: what a list of items makes; the document's form of it. -/
namespace Go.Proofs.YtfnjlkmhnhojpaaDoor.Pw
open Go Go.RowKit

def madeC (l : List IT) : C := (builtC l 13 0).1
set_option maxRecDepth 10000 in
theorem made_pure (l : List IT) (hl : l.length ≤ maxLen) : PureF gT 6 [.sl 12 (l.map itP)] (.tup [cpv (madeC l), .bool (l.length ≤ 30)]) := by
  refine Spec.enter gTok P6 100 Tryd.func6 rfl (by kernel_rfl) ?_
  refine ⟨[], no_rl, (built_spec hl 13 0 (Nat.le_refl _) (Nat.zero_le _)).use2 (by repeat' first | exact trivial | exact rfl | exact Iff.rfl | exact Or.inl rfl | refine And.intro ?_ ?_) ?_⟩
  refine And.intro (by repeat' first | exact trivial | exact rfl | exact Iff.rfl | exact Or.inl rfl | refine And.intro ?_ ?_) (And.intro (by repeat' first | exact trivial | exact rfl | exact Iff.rfl | exact Or.inl rfl | refine And.intro ?_ ?_) ?_)
  intro _
  refine retE ?_
  repeat' first | exact trivial | exact rfl | refine And.intro ?_ ?_
  refine (show ((l.map itP).length : Int) ≤ 30 ↔ l.length ≤ 30 from ?_)
  rw [List.length_map]; omega

def flatT : T → List (Int × Int × Int)
  | .leaf o n => if o = 0 ∧ n = 0 then [] else [(o, n, 0)]
  | .one o n a => (o, n, 1) :: flatT a
  | .two o n a b => (o, n, 2) :: (flatT a ++ flatT b)
theorem flatT_len : ∀ t : T, (flatT t).length ≤ t.size
  | .leaf o n => by unfold flatT; split <;> simp [T.size]
  | .one o n a => by have := flatT_len a; simp only [flatT, T.size, List.length_cons]; omega
  | .two o n a b => by have := flatT_len a; have := flatT_len b; simp only [flatT, T.size, List.length_cons, List.length_append]; omega

end Go.Proofs.YtfnjlkmhnhojpaaDoor.Pw

/- Chapter 21 over values: the document's form of a cost. -/
namespace Go.Proofs.YtfnjlkmhnhojpaaDoor.Pw
open Go Go.RowKit

mutual
def kidsD : C → List PV
  | .mk _ _ _ _ _ _ _ l => kidsDL l
def kidsDL : List C → List PV
  | [] => []
  | c :: l => .agg [.int .i64 c.kind, .int .i64 c.cyc, .int .i64 c.mis, .int .i64 c.word, .int .i64 c.size, .sl 3 ((flatT c.a).map nP), .sl 3 ((flatT c.b).map nP), .sl 8 (kidsD c)] :: kidsDL l
end
def dcv (c : C) : PV := .agg [.int .i64 c.kind, .int .i64 c.cyc, .int .i64 c.mis, .int .i64 c.word, .int .i64 c.size, .sl 3 ((flatT c.a).map nP), .sl 3 ((flatT c.b).map nP), .sl 8 (kidsD c)]
theorem kidsDL_eq : ∀ l : List C, kidsDL l = l.map dcv
  | [] => rfl
  | c :: l => by rw [kidsDL, kidsDL_eq l]; rfl
theorem kidsD_eq (c : C) : kidsD c = c.l.map dcv := by cases c; exact kidsDL_eq _
mutual
def C.AllT (p : T → Prop) : C → Prop
  | .mk _ _ _ _ _ a b l => p a ∧ p b ∧ allTL p l
def allTL (p : T → Prop) : List C → Prop
  | [] => True
  | c :: l => c.AllT p ∧ allTL p l
end
theorem allTL_all {p : T → Prop} : ∀ {l : List C}, allTL p l → ∀ c ∈ l, c.AllT p
  | c :: l, h, x, hx => by
    simp only [allTL] at h
    rcases List.mem_cons.1 hx with rfl | hx
    · exact h.1
    · exact allTL_all h.2 x hx
theorem C.allT_iff {p : T → Prop} (c : C) : c.AllT p ↔ p c.a ∧ p c.b ∧ allTL p c.l := by cases c; rfl
mutual
/-- lists that a machine bears -/
def C.Sm : C → Prop
  | .mk _ _ _ _ _ _ _ l => l.length ≤ 1000000 ∧ smL l
def smL : List C → Prop
  | [] => True
  | c :: l => c.Sm ∧ smL l
end
theorem smL_all : ∀ {l : List C}, smL l → ∀ c ∈ l, c.Sm
  | c :: l, h, x, hx => by
    simp only [smL] at h
    rcases List.mem_cons.1 hx with rfl | hx
    · exact h.1
    · exact smL_all h.2 x hx
theorem C.sm_iff (c : C) : c.Sm ↔ c.l.length ≤ 1000000 ∧ smL c.l := by cases c; rfl

end Go.Proofs.YtfnjlkmhnhojpaaDoor.Pw

/- Chapter 21, plain: what items make. -/
namespace Go.Proofs.YtfnjlkmhnhojpaaDoor.Pw
open Go Go.RowKit

def szT (t : T) : Nat := if t.op = 0 then 0 else t.size
mutual
/-- how many nodes a cost has -/
def cN : C → Nat
  | .mk _ _ _ _ _ a b l => 1 + szT a + szT b + cNL l
def cNL : List C → Nat
  | [] => 0
  | c :: l => cN c + cNL l
end
theorem cN_eq (c : C) : cN c = 1 + szT c.a + szT c.b + cNL c.l := by cases c; rfl
theorem cNL_append : ∀ (l m : List C), cNL (l ++ m) = cNL l + cNL m
  | [], m => by simp [cNL]
  | c :: l, m => by rw [List.cons_append, cNL, cNL, cNL_append l m]; omega
theorem cN_pos (c : C) : 1 ≤ cN c := by rw [cN_eq]; omega
theorem cNL_len : ∀ l : List C, l.length ≤ cNL l
  | [] => Nat.le_refl _
  | c :: l => by have := cNL_len l; have := cN_pos c; rw [cNL, List.length_cons]; omega
theorem cNL_mem : ∀ {l : List C} {x : C}, x ∈ l → cN x ≤ cNL l
  | c :: l, x, hx => by
    rw [cNL]
    rcases List.mem_cons.1 hx with rfl | hx
    · omega
    · have := cNL_mem hx; omega
theorem cNL_take {l : List C} {i : Nat} {x : C} (h : l[i]? = some x) : cNL (l.take (i + 1)) = cNL (l.take i) + cN x := by
  rw [List.take_add_one, h, cNL_append]; simp [cNL]
theorem cNL_take_le (l : List C) (i : Nat) : cNL (l.take i) ≤ cNL l := by
  have := cNL_append (l.take i) (l.drop i)
  rw [List.take_append_drop] at this; omega

/-- a term that an item makes -/
def MT (t : T) : Prop := ∃ op u w, (0 ≤ u ∧ u ≤ 4294967295) ∧ t = termOfT op u w
theorem MT.cases {t : T} (h : MT t) : t.Wf ∧ t.size ≤ 3 ∧ ((t = .leaf 0 0 ∧ flatT t = []) ∨ (t.op ≠ 0 ∧ flatT t = t.nodes)) := by
  obtain ⟨op, u, w, hu, rfl⟩ := h
  refine ⟨termOfT_wf hu, ?_⟩
  unfold termOfT
  split
  · refine ⟨by simp [T.size], .inr ⟨by simp [T.op], by simp [flatT, T.nodes]⟩⟩
  split
  · refine ⟨by simp [T.size], .inr ⟨by simp [T.op], by simp [flatT, T.nodes]⟩⟩
  split
  · refine ⟨by simp [T.size], .inr ⟨by simp only [T.op]; omega, by simp [flatT, T.nodes]⟩⟩
  split
  · refine ⟨by simp [T.size], .inr ⟨by simp only [T.op]; omega, by simp [flatT, T.nodes]⟩⟩
  · refine ⟨by simp [T.size], ?_⟩
    by_cases h0 : op = 0
    · subst h0; exact .inl ⟨rfl, by simp [flatT]⟩
    · exact .inr ⟨h0, by simp [flatT, T.nodes, h0]⟩
theorem MT.sz {t : T} (h : MT t) : szT t = (flatT t).length ∧ szT t ≤ 3 := by
  obtain ⟨_, h2, h3⟩ := h.cases
  rcases h3 with ⟨rfl, h3⟩ | ⟨h4, h3⟩
  · rw [h3]; exact ⟨rfl, by simp [szT, T.op]⟩
  · rw [h3, T.nodes_length, szT, if_neg h4]; exact ⟨rfl, h2⟩

theorem MT.wf {t : T} (h : MT t) : t.Wf := h.cases.1
theorem MT.small {t : T} (h : MT t) : t.size ≤ 16384 := by have := h.cases.2.1; omega
/-! ### what items make -/
mutual
theorem C.AllT.mono {p q : T → Prop} (h : ∀ t, p t → q t) : ∀ c : C, c.AllT p → c.AllT q
  | .mk _ _ _ _ _ a b l, hc => ⟨h a hc.1, h b hc.2.1, allTL.mono h l hc.2.2⟩
theorem allTL.mono {p q : T → Prop} (h : ∀ t, p t → q t) : ∀ l : List C, allTL p l → allTL q l
  | [], _ => trivial
  | c :: l, hc => ⟨C.AllT.mono h c hc.1, allTL.mono h l hc.2⟩
end
mutual
theorem sm_of : ∀ c : C, cN c ≤ 1000000 → c.Sm
  | .mk k cy mi wo si a b l, h => by
    have h2 : 1 + szT a + szT b + cNL l ≤ 1000000 := h
    exact ⟨by have := cNL_len l; omega, smL_of l (by omega)⟩
theorem smL_of : ∀ l : List C, cNL l ≤ 1000000 → smL l
  | [], _ => trivial
  | c :: l, h => by
    have h2 : cN c + cNL l ≤ 1000000 := h
    exact ⟨sm_of c (by omega), smL_of l (by omega)⟩
end
mutual
theorem wf_of_MT : ∀ c : C, c.AllT MT → c.Wf
  | .mk _ _ _ _ _ _ _ l, h => ⟨h.1.wf, h.2.1.wf, wfL_of_MT l h.2.2⟩
theorem wfL_of_MT : ∀ l : List C, allTL MT l → wfL l
  | [], _ => trivial
  | c :: l, h => ⟨wf_of_MT c h.1, wfL_of_MT l h.2⟩
end
theorem allTL_append {p : T → Prop} : ∀ {l m : List C}, allTL p l → allTL p m → allTL p (l ++ m)
  | [], m, _, h => h
  | c :: l, m, h, h2 => ⟨h.1, allTL_append h.2 h2⟩
theorem MT.zero : MT leaf0 := ⟨0, 0, 0, by omega, rfl⟩
theorem kidsN_MT {f : Nat → C × Nat} (hf : ∀ i, (f i).1.AllT MT) : ∀ n i, allTL MT (kidsN f n i).1
  | 0, i => trivial
  | n + 1, i => allTL_append (kidsN_MT hf n i) ⟨hf _, trivial⟩
theorem builtC_MT {l : List IT} (hl : ∀ x ∈ l, x.Ok) : ∀ k i, (builtC l k i).1.AllT MT
  | 0, i => ⟨MT.zero, MT.zero, trivial⟩
  | k + 1, i => by
    rw [builtC]
    split
    · exact ⟨MT.zero, MT.zero, trivial⟩
    · rename_i x hx
      have ok := hl x (List.mem_of_getElem? hx)
      exact ⟨⟨_, _, _, ok.au, rfl⟩, ⟨_, _, _, ok.bu, rfl⟩, kidsN_MT (builtC_MT hl k) _ _⟩
theorem kidsN_up {f : Nat → C × Nat} (hf : ∀ i, i ≤ (f i).2) : ∀ n i, i ≤ (kidsN f n i).2
  | 0, i => Nat.le_refl _
  | n + 1, i => Nat.le_trans (kidsN_up hf n i) (hf _)
theorem builtC_up {l : List IT} : ∀ k i, i ≤ (builtC l k i).2
  | 0, i => Nat.le_refl _
  | k + 1, i => by
    rw [builtC]
    split
    · exact Nat.le_refl _
    · exact Nat.le_trans (Nat.le_succ i) (kidsN_up (builtC_up k) _ _)
theorem kidsN_cN {f : Nat → C × Nat} (hu : ∀ i, i ≤ (f i).2) (hf : ∀ i, cN (f i).1 + 28 * i ≤ 7 + 28 * (f i).2) : ∀ n i, cNL (kidsN f n i).1 + 28 * i ≤ 7 * n + 28 * (kidsN f n i).2
  | 0, i => by simp [kidsN, cNL]
  | n + 1, i => by
    have h1 := kidsN_cN hu hf n i
    have h2 := hf (kidsN f n i).2
    rw [kidsN, cNL_append]
    have h3 : cNL [(f (kidsN f n i).2).1] = cN (f (kidsN f n i).2).1 := by simp [cNL]
    rw [h3]
    show _ ≤ 7 * (n + 1) + 28 * (f (kidsN f n i).2).2
    omega
theorem flat1_cN : cN (flatC 1 0) = 1 := by decide
theorem builtC_cN {l : List IT} (hl : ∀ x ∈ l, x.Ok) : ∀ k i, cN (builtC l k i).1 + 28 * i ≤ 7 + 28 * (builtC l k i).2
  | 0, i => by
    have := flat1_cN
    simp only [builtC]; omega
  | k + 1, i => by
    rw [builtC]
    split
    · have := flat1_cN
      show cN (flatC 1 0) + 28 * i ≤ 7 + 28 * i
      omega
    · rename_i x hx
      have ok := hl x (List.mem_of_getElem? hx)
      have h1 := kidsN_cN (builtC_up k) (builtC_cN hl k) (max (min x.kids 4) 0).toNat (i + 1)
      have h2 := (show MT (termOfT x.aop x.au x.aw) from ⟨_, _, _, ok.au, rfl⟩).sz.2
      have h3 := (show MT (termOfT x.bop x.bu x.bw) from ⟨_, _, _, ok.bu, rfl⟩).sz.2
      show 1 + szT (termOfT x.aop x.au x.aw) + szT (termOfT x.bop x.bu x.bw) + cNL (kidsN (builtC l k) (max (min x.kids 4) 0).toNat (i + 1)).1 + 28 * i ≤ 7 + 28 * (kidsN (builtC l k) (max (min x.kids 4) 0).toNat (i + 1)).2
      omega
theorem madeC_cN {l : List IT} (hl : ∀ x ∈ l, x.Ok) (h : l.length ≤ 30) : cN (madeC l) ≤ 847 := by
  have h1 := builtC_cN hl 13 0
  have h2 := builtC_le (l := l) 13 0 (Nat.zero_le _)
  unfold madeC
  omega

end Go.Proofs.YtfnjlkmhnhojpaaDoor.Pw

/- Chapter 11 over values: Right. -/
namespace Go.Proofs.YtfnjlkmhnhojpaaDoor.Pw
open Go Go.RowKit

theorem needs_pureT (op : Int) : PureF gT 74 [.int .i64 op] (.int .i64 (needsT op)) := by
  refine Spec.enter gTok P74 100 Tryd.func74 rfl (by kernel_rfl) ?_
  repeat' refine And.intro (fun _ => ?_) (fun _ => ?_)
  all_goals (refine retE ?_; unfold needsT; show _ = _; (repeat' split) <;> omega)
theorem needsT_eq {op : Int} (h1 : 1 ≤ op) (h2 : op ≤ 17) : needsT op = needsN op := by
  unfold needsT needsN
  rw [if_neg (show ¬ (op < 1 ∨ 17 < op) by omega)]
  by_cases k1 : op ≤ 2
  · rw [if_pos k1, if_pos (show op < 3 by omega)]
  · rw [if_neg k1, if_neg (show ¬ op < 3 by omega)]
    by_cases k2 : op ≤ 4
    · rw [if_pos k2, if_pos (show op < 5 by omega)]
    · rw [if_neg k2, if_neg (show ¬ op < 5 by omega)]
theorem root_iff (t : T) : t.root = true ↔ 1 ≤ t.op ∧ t.op ≤ 17 ∧ needsN t.op = t.kids ∧ (2 < t.op → t.num = 0) ∧ (t.op = 2 → t.num ≤ 255) := by
  cases t <;> exact decide_eq_true_iff
theorem kidsP_len (t : T) : ((kidsP t).length : Int) = (t.kids : Nat) := by cases t <;> rfl
theorem shaped_root {t : T} (h : t.shaped = true) : t.root = true ∧ t.kidsOk = true := by rw [T.shaped_eq, Bool.and_eq_true] at h; exact h
def sClo : PV := .clo 75 []

set_option maxRecDepth 10000 in
theorem shaped_step (t : T) (hn : 0 ≤ t.num ∧ t.num ≤ 4294967295) (hc : PureF gT 60 [.sl 3 (kidsP t), sClo] (.bool (¬ t.kidsOk = true))) : PureF gT 59 [tpv t] (.bool (t.shaped = true)) := by
  have hk := kidsP_len t
  have bad : ∀ {p : Prop}, (1 ≤ t.op → t.op ≤ 17 → needsT t.op = (kidsP t).length → (2 < t.op → t.num = 0) → (t.op = 2 → t.num ≤ 255) → False) → t.shaped = true → p := fun h hs => by
    have hr := (root_iff t).1 (shaped_root hs).1
    exact absurd hr.2.2.2.2 (fun h5 => h hr.1 hr.2.1 (by rw [needsT_eq hr.1 hr.2.1, hk]; exact hr.2.2.1) hr.2.2.2.1 h5)
  refine Spec.enter gTok P59 100 Tryd.func59 rfl (by kernel_rfl) ?_
  refine And.intro (fun h1 => ?_) (fun h1 => And.intro (fun h2 => ?_) (fun h2 => ?_))
  · refine retE ?_
    exact fun hs => bad (by omega) hs
  · refine retE ?_
    exact fun hs => bad (by omega) hs
  refine fun _ => ?_
  refine ⟨[], nofun, (needs_pureT t.op).use ⟨rfl, trivial⟩ rfl rfl ?_⟩
  have fin_ : ∀ (h3 : ¬ ¬ ((kidsP t).length : Int) = needsT t.op) (h4 : 2 < t.op → t.num = 0) (h5 : t.op = 2 → t.num ≤ 255), (¬ ¬ t.kidsOk = true ↔ t.shaped = true) := fun h3 h4 h5 => by
    have hr : t.root = true := (root_iff t).2 ⟨by omega, by omega, by rw [← needsT_eq (by omega) (by omega), ← hk]; omega, h4, h5⟩
    rw [T.shaped_eq, hr, Bool.true_and]; exact Classical.not_not
  refine And.intro (fun h3 => ?_) (fun h3 => And.intro (fun h4 => And.intro (fun h5 => ?_) (fun h5 => And.intro (fun h6 => ?_) (fun h6 => ?_))) (fun h4 => And.intro (fun h6 => And.intro (fun h7 => ?_) (fun h7 => ?_)) (fun h6 => ?_)))
  · refine retE ?_
    exact fun hs => bad (by omega) hs
  · refine retE ?_
    exact fun hs => bad (by omega) hs
  · exact absurd h6 (by omega)
  · refine ⟨[], nofun, hc.use ⟨rfl, trivial, trivial⟩ rfl rfl ?_⟩
    refine retE ?_
    exact fin_ h3 (by omega) (by omega)
  · refine retE ?_
    exact fun hs => bad (by omega) hs
  · refine ⟨[], nofun, hc.use ⟨rfl, trivial, trivial⟩ rfl rfl ?_⟩
    refine retE ?_
    exact fin_ h3 (by omega) (by omega)
  · refine ⟨[], nofun, hc.use ⟨rfl, trivial, trivial⟩ rfl rfl ?_⟩
    refine retE ?_
    exact fin_ h3 (by omega) (by omega)

end Go.Proofs.YtfnjlkmhnhojpaaDoor.Pw

/- Chapter 11 over values: Right, the rest. -/
namespace Go.Proofs.YtfnjlkmhnhojpaaDoor.Pw
open Go Go.RowKit

theorem shaped1_pure (a : T) (ha : PureF gT 59 [tpv a] (.bool (a.shaped = true))) : PureF gT 75 [tpv a] (.bool (¬ a.shaped = true)) := by
  refine Spec.enter gTok P75 100 Tryd.func75 rfl (by kernel_rfl) ?_
  refine ⟨[], nofun, ha.use ⟨⟨rfl, rfl, rfl, trivial⟩, trivial⟩ rfl rfl ?_⟩
  exact retE Iff.rfl
def idxT : T → Int
  | .leaf .. => -1
  | .one _ _ a => if a.shaped then -1 else 0
  | .two _ _ a b => if a.shaped then (if b.shaped then -1 else 1) else 0
theorem idxT_iff (t : T) : 0 ≤ idxT t ↔ ¬ t.kidsOk = true := by
  cases t with
  | leaf => simp [idxT, T.kidsOk]
  | one o n a => cases h : a.shaped <;> simp [idxT, T.kidsOk, h]
  | two o n a b => cases h : a.shaped <;> cases h2 : b.shaped <;> simp [idxT, T.kidsOk, h, h2]
theorem contains_pure (t : T) (hi : PureF gT 76 [.sl 3 (kidsP t), sClo] (.int .i64 (idxT t))) : PureF gT 60 [.sl 3 (kidsP t), sClo] (.bool (¬ t.kidsOk = true)) := by
  refine Spec.enter gTok P60 100 Tryd.func60 rfl (by kernel_rfl) ?_
  refine ⟨[], nofun, hi.use ⟨rfl, trivial, trivial⟩ rfl rfl ?_⟩
  exact retE (idxT_iff t)

set_option maxRecDepth 10000 in
theorem index_leaf (o n : Int)   : PureF gT 76 [.sl 3 (kidsP (.leaf o n )), sClo] (.int .i64 (idxT (.leaf o n ))) := by
  refine Spec.enter gTok P76 100 Tryd.func76 rfl (by kernel_rfl) ?_
  refine fun _ => SW.rounds gTok P76 (by kernel_rfl) (N := 60) 3 ?_
  refine And.intro (fun h => absurd (show (0 : Int) < 0 from h) (by decide)) (fun _ => ?_)
  refine retE ?_
  exact (show (-1 : Int) = idxT _ by simp [idxT])

set_option maxRecDepth 10000 in
theorem index_one (o n : Int) (a : T) (ha : PureF gT 75 [tpv a] (.bool (¬ a.shaped = true))) : PureF gT 76 [.sl 3 (kidsP (.one o n a)), sClo] (.int .i64 (idxT (.one o n a))) := by
  refine Spec.enter gTok P76 100 Tryd.func76 rfl (by kernel_rfl) ?_
  refine fun _ => SW.rounds gTok P76 (by kernel_rfl) (N := 60) 3 ?_
  refine And.intro (fun _ => ?_) (fun h => absurd (show (0 : Int) < 1 by decide) h)
  refine ⟨T, [a], tpv, rfl, (show (0 : Int) ≤ 0 by decide), (show (0 : Int) < 1 by decide), fun x hx => ?_⟩
  obtain rfl : a = x := Option.some.inj hx
  refine ⟨[], nofun, ha.use ⟨⟨rfl, rfl, rfl, trivial⟩, trivial⟩ rfl rfl ?_⟩
  refine And.intro (fun s0 => ?_) (fun s0 => ?_)
  · refine retE ?_
    exact (show (0 : Int) = idxT _ by simp [idxT, s0])
  replace s0 := Classical.not_not.1 s0
  refine And.intro (fun h => absurd (show (1 : Int) < 1 from h) (by decide)) (fun _ => ?_)
  refine retE ?_
  exact (show (-1 : Int) = idxT _ by simp [idxT, s0])

set_option maxRecDepth 10000 in
theorem index_two (o n : Int) (a b : T) (ha : PureF gT 75 [tpv a] (.bool (¬ a.shaped = true))) (hb : PureF gT 75 [tpv b] (.bool (¬ b.shaped = true))) : PureF gT 76 [.sl 3 (kidsP (.two o n a b)), sClo] (.int .i64 (idxT (.two o n a b))) := by
  refine Spec.enter gTok P76 100 Tryd.func76 rfl (by kernel_rfl) ?_
  refine fun _ => SW.rounds gTok P76 (by kernel_rfl) (N := 60) 3 ?_
  refine And.intro (fun _ => ?_) (fun h => absurd (show (0 : Int) < 2 by decide) h)
  refine ⟨T, [a, b], tpv, rfl, (show (0 : Int) ≤ 0 by decide), (show (0 : Int) < 2 by decide), fun x hx => ?_⟩
  obtain rfl : a = x := Option.some.inj hx
  refine ⟨[], nofun, ha.use ⟨⟨rfl, rfl, rfl, trivial⟩, trivial⟩ rfl rfl ?_⟩
  refine And.intro (fun s0 => ?_) (fun s0 => ?_)
  · refine retE ?_
    exact (show (0 : Int) = idxT _ by simp [idxT, s0])
  replace s0 := Classical.not_not.1 s0
  refine And.intro (fun _ => ?_) (fun h => absurd (show (1 : Int) < 2 by decide) h)
  refine ⟨T, [a, b], tpv, rfl, (show (0 : Int) ≤ 1 by decide), (show (1 : Int) < 2 by decide), fun x hx => ?_⟩
  obtain rfl : b = x := Option.some.inj hx
  refine ⟨[], nofun, hb.use ⟨⟨rfl, rfl, rfl, trivial⟩, trivial⟩ rfl rfl ?_⟩
  refine And.intro (fun s1 => ?_) (fun s1 => ?_)
  · refine retE ?_
    exact (show (1 : Int) = idxT _ by simp [idxT, s0, s1])
  replace s1 := Classical.not_not.1 s1
  refine And.intro (fun h => absurd (show (2 : Int) < 2 from h) (by decide)) (fun _ => ?_)
  refine retE ?_
  exact (show (-1 : Int) = idxT _ by simp [idxT, s0, s1])

theorem shaped_pure : ∀ t : T, t.Wf → PureF gT 59 [tpv t] (.bool (t.shaped = true))
  | .leaf o n, h => shaped_step _ h (contains_pure _ (index_leaf o n))
  | .one o n a, h => shaped_step _ h.1 (contains_pure _ (index_one o n a (shaped1_pure a (shaped_pure a h.2))))
  | .two o n a b, h => shaped_step _ h.1 (contains_pure _ (index_two o n a b (shaped1_pure a (shaped_pure a h.2.1)) (shaped1_pure b (shaped_pure b h.2.2))))
theorem right_pure (t : T) (h : t.Wf) (hs : t.size ≤ 16384) : PureF gT 42 [tpv t] (.bool (t.shaped = true)) := by
  refine Spec.enter gTok P42 100 Tryd.func42 rfl (by kernel_rfl) ?_
  refine ⟨[], nofun, (count_pure t (by omega)).use ⟨⟨rfl, rfl, rfl, trivial⟩, trivial⟩ rfl rfl ?_⟩
  refine And.intro (fun _ => ?_) (fun h => absurd (show (t.size : Int) ≤ 16384 by omega) h)
  refine ⟨[], nofun, (shaped_pure t h).use ⟨⟨rfl, rfl, rfl, trivial⟩, trivial⟩ rfl rfl ?_⟩
  exact retE Iff.rfl

end Go.Proofs.YtfnjlkmhnhojpaaDoor.Pw

/- Chapter 21 over values: which terms may be; how many nodes. -/
namespace Go.Proofs.YtfnjlkmhnhojpaaDoor.Pw
open Go Go.RowKit

theorem within_tt (n lo hi : Int) : PureF gT 25 [.int .i64 n, .int .i64 lo, .int .i64 hi, .tt] (.bool (lo ≤ n ∧ n ≤ hi)) := by
  refine Spec.enter gTok P25 100 Tryd.func25 rfl (by kernel_rfl) ?_
  refine And.intro (fun h1 => ?_) (fun h1 => ?_)
  · refine retE ?_
    exact (show n ≤ hi ↔ lo ≤ n ∧ n ≤ hi from ⟨fun h => ⟨h1, h⟩, fun h => h.2⟩)
  · refine retE ?_
    exact (show ¬ (lo ≤ n ∧ n ≤ hi) from fun h => h1 h.1)
theorem within_ff (n lo hi : Int) : PureF gT 25 [.int .i64 n, .int .i64 lo, .int .i64 hi, .ff] (.bool (n = 0)) := by
  refine Spec.enter gTok P25 100 Tryd.func25 rfl (by kernel_rfl) ?_
  exact retE Iff.rfl

theorem lowT_iff (t : T) : lowT t = true ↔ (t.op ≠ 2 ∨ t.num < 254) ∧ ∀ x ∈ kidsL t, lowT x = true := by
  cases t <;> simp [lowT, kidsL, T.op, T.num]
theorem low1_pure (t : T) (h : PureF gT 43 [tpv t] (.bool (lowT t = true))) : PureF gT 61 [tpv t] (.bool (¬ lowT t = true)) := by
  refine Spec.enter gTok P61 100 Tryd.func61 rfl (by kernel_rfl) ?_
  refine ⟨[], no_rl, h.use (by repeat' first | exact trivial | exact rfl | exact Iff.rfl | exact Or.inl rfl | refine And.intro ?_ ?_) rfl rfl ?_⟩
  exact retE Iff.rfl
set_option maxRecDepth 10000 in
theorem low_pure : ∀ t : T, PureF gT 43 [tpv t] (.bool (lowT t = true)) := T.ind' fun t ih => by
  have hh := has_low (kidsL t) (fun x => ¬ lowT x = true) fun x hx => low1_pure x (ih x hx)
  rw [← kidsP_eq] at hh
  have e : (¬ ∃ x ∈ kidsL t, ¬ lowT x = true) ↔ ∀ x ∈ kidsL t, lowT x = true := ⟨fun h x hx => Classical.not_not.1 fun hn => h ⟨x, hx, hn⟩, fun h ⟨x, hx, hn⟩ => hn (h x hx)⟩
  refine Spec.enter gTok P43 100 Tryd.func43 rfl (by kernel_rfl) ?_
  refine And.intro (fun h1 => ?_) (fun h1 => And.intro (fun h2 => ?_) (fun h2 => ?_))
  · refine ⟨[], no_rl, hh.use (by repeat' first | exact trivial | exact rfl | exact Iff.rfl | exact Or.inl rfl | refine And.intro ?_ ?_) rfl rfl ?_⟩
    refine retE ?_
    exact (show (¬ ∃ x ∈ kidsL t, ¬ lowT x = true) ↔ lowT t = true by rw [e, lowT_iff]; exact ⟨fun h => ⟨.inl h1, h⟩, fun h => h.2⟩)
  · refine ⟨[], no_rl, hh.use (by repeat' first | exact trivial | exact rfl | exact Iff.rfl | exact Or.inl rfl | refine And.intro ?_ ?_) rfl rfl ?_⟩
    refine retE ?_
    exact (show (¬ ∃ x ∈ kidsL t, ¬ lowT x = true) ↔ lowT t = true by rw [e, lowT_iff]; exact ⟨fun h => ⟨.inr h2, h⟩, fun h => h.2⟩)
  · refine retE ?_
    exact (show ¬ lowT t = true by rw [lowT_iff]; exact fun h => h.1.elim h1 h2)

theorem termed_tt (t : T) (h : t.Wf) (hs : t.size ≤ 16384) : PureF gT 26 [tpv t, .tt] (.bool (termB t true = true)) := by
  refine Spec.enter gTok P26 100 Tryd.func26 rfl (by kernel_rfl) ?_
  have e : termB t true = true ↔ t.shaped = true ∧ lowT t = true := by simp [termB]
  refine ⟨[], no_rl, (right_pure t h hs).use (by repeat' first | exact trivial | exact rfl | exact Iff.rfl | exact Or.inl rfl | refine And.intro ?_ ?_) rfl rfl ?_⟩
  refine And.intro (fun h1 => ?_) (fun h1 => ?_)
  · refine ⟨[], no_rl, (low_pure t).use (by repeat' first | exact trivial | exact rfl | exact Iff.rfl | exact Or.inl rfl | refine And.intro ?_ ?_) rfl rfl ?_⟩
    refine retE ?_
    exact (show lowT t = true ↔ termB t true = true by rw [e]; exact ⟨fun h => ⟨h1, h⟩, fun h => h.2⟩)
  · refine retE ?_
    exact (show ¬ termB t true = true by rw [e]; exact fun h => h1 h.1)
theorem termed_ff (t : T) : PureF gT 26 [tpv t, .ff] (.bool (termB t false = true)) := by
  have e : termB t false = true ↔ t.op = 0 ∧ t.num = 0 ∧ t.kids = 0 := by simp [termB]
  have hk := kidsP_len t
  refine Spec.enter gTok P26 100 Tryd.func26 rfl (by kernel_rfl) ?_
  refine And.intro (fun h1 => And.intro (fun h2 => fun _ => ?_) (fun h2 => ?_)) (fun h1 => ?_)
  · refine retE ?_
    exact (show ((kidsP t).length : Int) = 0 ↔ termB t false = true by rw [e]; exact ⟨fun h => ⟨h1, h2, by omega⟩, fun h => by omega⟩)
  · refine retE ?_
    exact (show ¬ termB t false = true by rw [e]; exact fun h => h2 h.2.1)
  · refine retE ?_
    exact (show ¬ termB t false = true by rw [e]; exact fun h => h1 h.1)

theorem size_pure (t : T) (hs : t.size ≤ 1000000) : PureF gT 24 [tpv t] (.int .i64 (szT t)) := by
  refine Spec.enter gTok P24 100 Tryd.func24 rfl (by kernel_rfl) ?_
  refine And.intro (fun h1 => ?_) (fun h1 => ?_)
  · refine retE ?_
    exact (show (0 : Int) = (szT t : Nat) by rw [szT, if_pos h1]; rfl)
  · refine ⟨[], no_rl, (count_pure t hs).use (by repeat' first | exact trivial | exact rfl | exact Iff.rfl | exact Or.inl rfl | refine And.intro ?_ ?_) rfl rfl ?_⟩
    refine retE ?_
    exact (show (t.size : Int) = (szT t : Nat) by rw [szT, if_neg h1])

set_option maxRecDepth 10000 in
theorem nodes_pure : ∀ c : C, c.AllT (fun t => t.size ≤ 1000000) → cN c ≤ 1000000 → PureF gT 14 [cpv c] (.int .i64 (cN c)) := C.ind' fun c ih hT hS => by
  obtain ⟨ha, hb, hTl⟩ := (C.allT_iff c).1 hT
  have hc := cN_eq c
  have hlen := cNL_len c.l
  have ek : (kidsC c).length = c.l.length := by rw [kidsC_eq, List.length_map]
  refine Spec.enter gTok P14 100 Tryd.func14 rfl (by kernel_rfl) ?_
  refine ⟨[], no_rl, (size_pure c.a ha).use (by repeat' first | exact trivial | exact rfl | exact Iff.rfl | exact Or.inl rfl | refine And.intro ?_ ?_) rfl rfl ?_⟩
  refine .inl ⟨inR_i64 (by omega), ?_⟩
  refine ⟨[], no_rl, (size_pure c.b hb).use (by repeat' first | exact trivial | exact rfl | exact Iff.rfl | exact Or.inl rfl | refine And.intro ?_ ?_) rfl rfl ?_⟩
  refine .inl ⟨inR_i64 (by omega), ?_⟩
  refine fun _ => SW.loopS gTok P14 (by kernel_rfl) (fun i : Nat => [(17, .int .i64 i), (3, .int .i64 (1 + (szT c.a : Int) + (szT c.b : Int) + (cNL (c.l.take i) : Int)))]) (fun i => c.l.length - i) 0 60 ?_ fun i => ?_
  · repeat' first | exact trivial | exact rfl | refine And.intro ?_ ?_
  have hle := cNL_take_le c.l i
  refine And.intro (fun h => ?_) (fun h => ?_)
  · have h' : (i : Int) < ((kidsC c).length : Nat) := h
    refine ⟨C, c.l, cpv, kidsC_eq c, show (0 : Int) ≤ (i : Int) by omega, show (i : Int) < (c.l.length : Int) by omega, fun x hx => ?_⟩
    have hx' : c.l[i]? = some x := hx
    have hm := List.mem_of_getElem? hx'
    have hcm := cNL_mem hm
    have ht := cNL_take hx'
    have ht2 := cNL_take_le c.l (i + 1)
    refine ⟨[], no_rl, (ih x hm (allTL_all hTl x hm) (by omega)).use (by repeat' first | exact trivial | exact rfl | exact Iff.rfl | exact Or.inl rfl | refine And.intro ?_ ?_) rfl rfl ?_⟩
    refine .inl ⟨inR_i64 (by omega), ?_⟩
    refine .inl ⟨inR_i64 (by omega), ⟨i + 1, by omega, ?_⟩⟩
    repeat' first | exact trivial | exact rfl | refine And.intro ?_ ?_
    exact (show _ + _ = 1 + (szT c.a : Int) + (szT c.b : Int) + (cNL (c.l.take (i + 1)) : Int) by rw [ht]; omega)
  · have h' : ¬ (i : Int) < ((kidsC c).length : Nat) := h
    refine retE ?_
    exact (show 1 + (szT c.a : Int) + (szT c.b : Int) + (cNL (c.l.take i) : Int) = (cN c : Int) by rw [List.take_of_length_le (by omega), hc]; omega)

end Go.Proofs.YtfnjlkmhnhojpaaDoor.Pw

/- Chapter 21 over values: the document's: may a term be? -/
namespace Go.Proofs.YtfnjlkmhnhojpaaDoor.Pw
open Go Go.RowKit

theorem needsN_neg (op : Int) : needsN op < 0 ↔ op < 1 ∨ 17 < op := by unfold needsN; repeat' split
                                                                       all_goals omega

end Go.Proofs.YtfnjlkmhnhojpaaDoor.Pw

/- Chapter 21 over values: may a cost be: the program's, the document's. -/
namespace Go.Proofs.YtfnjlkmhnhojpaaDoor.Pw
open Go Go.RowKit

def lowN (x : Int × Int × Int) : Prop := ¬ x.1 = 2 ∨ x.2.1 < 254

theorem lowT_nodes : ∀ t : T, lowT t = true ↔ ∀ x ∈ t.nodes, lowN x
  | .leaf o n => by simp [lowT, T.nodes, lowN]
  | .one o n a => by simp [lowT, T.nodes, lowN, lowT_nodes a]
  | .two o n a b => by
    simp only [lowT, Bool.and_eq_true, decide_eq_true_eq, lowT_nodes a, lowT_nodes b, T.nodes, List.mem_cons, List.mem_append]
    refine ⟨fun ⟨h1, h2, h3⟩ x hx => ?_, fun h => ⟨h _ (.inl rfl), fun x hx => h x (.inr (.inl hx)), fun x hx => h x (.inr (.inr hx))⟩⟩
    rcases hx with rfl | hx | hx
    · exact h1
    · exact h2 x hx
    · exact h3 x hx
theorem MT.term {t : T} (h : MT t) : ((∀ x ∈ flatT t, lowN x) ∧ (flatT t).length ≠ 0 ∧ (∀ x ∈ flatT t, goodN x = true) ∧ (flatT t).length ≤ 16384) ↔ termB t true = true := by
  obtain ⟨_, h2, h3⟩ := h.cases
  have e : termB t true = true ↔ t.shaped = true ∧ lowT t = true := by simp [termB]
  rw [e]
  rcases h3 with ⟨rfl, h3⟩ | ⟨h4, h3⟩
  · rw [h3]
    exact ⟨fun hh => absurd rfl hh.2.1, fun hh => absurd hh.1 (by decide)⟩
  · rw [h3, T.nodes_length, lowT_nodes, ← T.shaped_nodes, List.all_eq_true]
    have : 1 ≤ t.size := by cases t <;> simp [T.size] <;> omega
    exact ⟨fun hh => ⟨hh.2.2.1, hh.1⟩, fun hh => ⟨hh.2, by omega, hh.1, by omega⟩⟩
theorem MT.none {t : T} (h : MT t) : (flatT t).length = 0 ↔ termB t false = true := by
  obtain ⟨_, h2, h3⟩ := h.cases
  have e : termB t false = true ↔ t.op = 0 ∧ t.num = 0 ∧ t.kids = 0 := by simp [termB]
  rw [e]
  rcases h3 with ⟨rfl, h3⟩ | ⟨h4, h3⟩
  · rw [h3]; exact ⟨fun _ => ⟨rfl, rfl, rfl⟩, fun _ => rfl⟩
  · rw [h3, T.nodes_length]
    have : 1 ≤ t.size := by cases t <;> simp [T.size] <;> omega
    exact ⟨fun hh => by omega, fun hh => absurd hh.1 h4⟩

/-- which fields a cost has, by its kind -/
theorem shL_iff : ∀ l : List C, shL l = true ↔ ∀ x ∈ l, shC x = true
  | [] => by simp [shL]
  | c :: l => by simp [shL, shL_iff l]
theorem shC_all (c : C) : shC c = true ↔ (1 ≤ c.kind ∧ c.kind ≤ 6) ∧ ((c.kind = 1 → 0 ≤ c.cyc ∧ c.cyc ≤ 2147483647 ∧ 0 ≤ c.mis ∧ c.mis ≤ 2147483647) ∧ (¬ c.kind = 1 → c.cyc = 0 ∧ c.mis = 0) ∧ (c.kind = 4 → 4 ≤ c.word ∧ c.word ≤ 253) ∧ (¬ c.kind = 4 → c.word = 0) ∧ (c.kind = 5 → 0 ≤ c.size ∧ c.size ≤ 1024) ∧ (¬ c.kind = 5 → c.size = 0))
    ∧ ((c.kind = 1 ∨ c.kind = 6 → (c.l.length : Int) = 0) ∧ (c.kind = 2 → (c.l.length : Int) ≤ 2147483647) ∧ (c.kind = 3 → (c.l.length : Int) = 2) ∧ (c.kind = 4 ∨ c.kind = 5 → (c.l.length : Int) = 1))
    ∧ ((3 ≤ c.kind → termB c.a true = true) ∧ (c.kind < 3 → termB c.a false = true)) ∧ ((c.kind = 4 ∨ c.kind = 6 → termB c.b true = true) ∧ (¬ (c.kind = 4 ∨ c.kind = 6) → termB c.b false = true)) ∧ ∀ x ∈ c.l, shC x = true := by
  rw [shC_iff, ← shL_iff]
  refine and_congr_right fun hk => and_congr ?_ (and_congr ?_ (and_congr ?_ (and_congr ?_ Iff.rfl)))
  · simp only [numsB, wtnB, Bool.and_eq_true]
    by_cases h1 : c.kind = 1 <;> by_cases h4 : c.kind = 4 <;> by_cases h5 : c.kind = 5 <;> simp [h1, h4, h5] <;> omega
  · unfold leastN mostN
    repeat' split
    all_goals omega
  · by_cases h : 3 ≤ c.kind
    · rw [decide_eq_true h]; exact ⟨fun hh => ⟨fun _ => hh, fun h' => by omega⟩, fun hh => hh.1 h⟩
    · rw [decide_eq_false h]; exact ⟨fun hh => ⟨fun h' => absurd h' h, fun _ => hh⟩, fun hh => hh.2 (by omega)⟩
  · by_cases h : c.kind = 4 ∨ c.kind = 6
    · rw [decide_eq_true h]; exact ⟨fun hh => ⟨fun _ => hh, fun h' => absurd h h'⟩, fun hh => hh.1 h⟩
    · rw [decide_eq_false h]; exact ⟨fun hh => ⟨fun h' => absurd h' h, fun _ => hh⟩, fun hh => hh.2 h⟩

end Go.Proofs.YtfnjlkmhnhojpaaDoor.Pw

/- Chapter 21 over values: may a cost be: the program's walk. -/
namespace Go.Proofs.YtfnjlkmhnhojpaaDoor.Pw
open Go Go.RowKit

theorem shaped1C_pure (c : C) (h : PureF gT 15 [cpv c] (.bool (shC c = true))) : PureF gT 28 [cpv c] (.bool (¬ shC c = true)) := by
  refine Spec.enter gTok P28 100 Tryd.func28 rfl (by kernel_rfl) ?_
  refine ⟨[], no_rl, h.use (by repeat' first | exact trivial | exact rfl | exact Iff.rfl | exact Or.inl rfl | refine And.intro ?_ ?_) rfl rfl ?_⟩
  exact retE Iff.rfl
theorem elim6 {k : Int} (h1 : ¬ k < 1) (h2 : ¬ 6 < k) {p : Prop} (a : k = 1 → p) (b : k = 2 → p) (c : k = 3 → p) (d : k = 4 → p) (e : k = 5 → p) (f : k = 6 → p) : p := by
  rcases (by omega : k = 1 ∨ k = 2 ∨ k = 3 ∨ k = 4 ∨ k = 5 ∨ k = 6) with h | h | h | h | h | h
  · exact a h
  · exact b h
  · exact c h
  · exact d h
  · exact e h
  · exact f h

set_option maxHeartbeats 8000000 in
set_option maxRecDepth 10000 in
theorem cshaped_pure : ∀ c : C, c.AllT MT → cN c ≤ 1000000 → PureF gT 15 [cpv c] (.bool (shC c = true)) := C.ind' fun c ih hT hN => by
  obtain ⟨ha, hb, hTl⟩ := (C.allT_iff c).1 hT
  have hc := cN_eq c
  have hh := has_shp c.l (fun x => ¬ shC x = true) fun x hx => shaped1C_pure x (ih x hx (allTL_all hTl x hx) (by have := cNL_mem hx; omega))
  rw [← kidsC_eq] at hh
  have ek : (kidsC c).length = c.l.length := by rw [kidsC_eq, List.length_map]
  have S := shC_all c
  obtain ⟨KL, hKL⟩ : ∃ KL, KL = ∀ x ∈ c.l, shC x = true := ⟨_, rfl⟩
  rw [← hKL] at S
  have e : (∃ x ∈ c.l, ¬ shC x = true) = ¬ KL := propext (by rw [hKL]; exact ⟨fun ⟨x, hx, hn⟩ h => hn (h x hx), fun h => Classical.byContradiction fun hn => h fun x hx => Classical.byContradiction fun h' => hn ⟨x, hx, h'⟩⟩)
  rw [e] at hh
  obtain ⟨LN, hLN⟩ : ∃ LN : Int, LN = ((kidsC c).length : Int) := ⟨_, rfl⟩
  rw [← ek, ← hLN] at S
  clear e hKL ih hTl hT
  obtain ⟨SC, hSC⟩ : ∃ SC, SC = (shC c = true) := ⟨_, rfl⟩
  rw [← hSC] at S ⊢
  refine Spec.enter gTok P15 100 Tryd.func15 rfl (by kernel_rfl) ?_
  refine And.intro (fun h1 => ?_) (fun h1 => And.intro (fun h2 => ?_) (fun h2 => ?_))
  · refine retE ?_
    exact (show ¬ SC by grind)
  · refine retE ?_
    exact (show ¬ SC by grind)
  refine elim6 h1 h2 (fun hk => ?_) (fun hk => ?_) (fun hk => ?_) (fun hk => ?_) (fun hk => ?_) (fun hk => ?_)
  · simp only [hk] at S
    simp at S
    refine ⟨by omega, by omega, .inl ⟨1, hk, ?_⟩⟩
    repeat' (first
      | refine And.intro (fun _ => ?_) (fun _ => ?_)
      | refine ⟨[], no_rl, (within_tt _ _ _).use ⟨rfl, rfl, rfl, trivial, trivial⟩ rfl rfl ?_⟩
      | refine ⟨[], no_rl, (within_ff _ _ _).use ⟨rfl, rfl, rfl, trivial, trivial⟩ rfl rfl ?_⟩
      | refine ⟨[], no_rl, (termed_tt _ ha.wf ha.small).use ⟨⟨rfl, rfl, rfl, trivial⟩, trivial, trivial⟩ rfl rfl ?_⟩
      | refine ⟨[], no_rl, (termed_tt _ hb.wf hb.small).use ⟨⟨rfl, rfl, rfl, trivial⟩, trivial, trivial⟩ rfl rfl ?_⟩
      | refine ⟨[], no_rl, (termed_ff _).use ⟨⟨rfl, rfl, rfl, trivial⟩, trivial, trivial⟩ rfl rfl ?_⟩
      | refine ⟨[], no_rl, (hh).use ⟨rfl, trivial, trivial⟩ rfl rfl ?_⟩
      | (refine retE ?_; first | exact (show ¬ SC by grind) | exact (show _ ↔ SC by grind))
      | intro _)
  · simp only [hk] at S
    simp at S
    refine ⟨by omega, by omega, .inl ⟨2, hk, ?_⟩⟩
    repeat' (first
      | refine And.intro (fun _ => ?_) (fun _ => ?_)
      | refine ⟨[], no_rl, (within_tt _ _ _).use ⟨rfl, rfl, rfl, trivial, trivial⟩ rfl rfl ?_⟩
      | refine ⟨[], no_rl, (within_ff _ _ _).use ⟨rfl, rfl, rfl, trivial, trivial⟩ rfl rfl ?_⟩
      | refine ⟨[], no_rl, (termed_tt _ ha.wf ha.small).use ⟨⟨rfl, rfl, rfl, trivial⟩, trivial, trivial⟩ rfl rfl ?_⟩
      | refine ⟨[], no_rl, (termed_tt _ hb.wf hb.small).use ⟨⟨rfl, rfl, rfl, trivial⟩, trivial, trivial⟩ rfl rfl ?_⟩
      | refine ⟨[], no_rl, (termed_ff _).use ⟨⟨rfl, rfl, rfl, trivial⟩, trivial, trivial⟩ rfl rfl ?_⟩
      | refine ⟨[], no_rl, (hh).use ⟨rfl, trivial, trivial⟩ rfl rfl ?_⟩
      | (refine retE ?_; first | exact (show ¬ SC by grind) | exact (show _ ↔ SC by grind))
      | intro _)
  · simp only [hk] at S
    simp at S
    refine ⟨by omega, by omega, .inl ⟨3, hk, ?_⟩⟩
    repeat' (first
      | refine And.intro (fun _ => ?_) (fun _ => ?_)
      | refine ⟨[], no_rl, (within_tt _ _ _).use ⟨rfl, rfl, rfl, trivial, trivial⟩ rfl rfl ?_⟩
      | refine ⟨[], no_rl, (within_ff _ _ _).use ⟨rfl, rfl, rfl, trivial, trivial⟩ rfl rfl ?_⟩
      | refine ⟨[], no_rl, (termed_tt _ ha.wf ha.small).use ⟨⟨rfl, rfl, rfl, trivial⟩, trivial, trivial⟩ rfl rfl ?_⟩
      | refine ⟨[], no_rl, (termed_tt _ hb.wf hb.small).use ⟨⟨rfl, rfl, rfl, trivial⟩, trivial, trivial⟩ rfl rfl ?_⟩
      | refine ⟨[], no_rl, (termed_ff _).use ⟨⟨rfl, rfl, rfl, trivial⟩, trivial, trivial⟩ rfl rfl ?_⟩
      | refine ⟨[], no_rl, (hh).use ⟨rfl, trivial, trivial⟩ rfl rfl ?_⟩
      | (refine retE ?_; first | exact (show ¬ SC by grind) | exact (show _ ↔ SC by grind))
      | intro _)
  · simp only [hk] at S
    simp at S
    refine ⟨by omega, by omega, .inl ⟨4, hk, ?_⟩⟩
    repeat' (first
      | refine And.intro (fun _ => ?_) (fun _ => ?_)
      | refine ⟨[], no_rl, (within_tt _ _ _).use ⟨rfl, rfl, rfl, trivial, trivial⟩ rfl rfl ?_⟩
      | refine ⟨[], no_rl, (within_ff _ _ _).use ⟨rfl, rfl, rfl, trivial, trivial⟩ rfl rfl ?_⟩
      | refine ⟨[], no_rl, (termed_tt _ ha.wf ha.small).use ⟨⟨rfl, rfl, rfl, trivial⟩, trivial, trivial⟩ rfl rfl ?_⟩
      | refine ⟨[], no_rl, (termed_tt _ hb.wf hb.small).use ⟨⟨rfl, rfl, rfl, trivial⟩, trivial, trivial⟩ rfl rfl ?_⟩
      | refine ⟨[], no_rl, (termed_ff _).use ⟨⟨rfl, rfl, rfl, trivial⟩, trivial, trivial⟩ rfl rfl ?_⟩
      | refine ⟨[], no_rl, (hh).use ⟨rfl, trivial, trivial⟩ rfl rfl ?_⟩
      | (refine retE ?_; first | exact (show ¬ SC by grind) | exact (show _ ↔ SC by grind))
      | intro _)
  · simp only [hk] at S
    simp at S
    refine ⟨by omega, by omega, .inl ⟨5, hk, ?_⟩⟩
    repeat' (first
      | refine And.intro (fun _ => ?_) (fun _ => ?_)
      | refine ⟨[], no_rl, (within_tt _ _ _).use ⟨rfl, rfl, rfl, trivial, trivial⟩ rfl rfl ?_⟩
      | refine ⟨[], no_rl, (within_ff _ _ _).use ⟨rfl, rfl, rfl, trivial, trivial⟩ rfl rfl ?_⟩
      | refine ⟨[], no_rl, (termed_tt _ ha.wf ha.small).use ⟨⟨rfl, rfl, rfl, trivial⟩, trivial, trivial⟩ rfl rfl ?_⟩
      | refine ⟨[], no_rl, (termed_tt _ hb.wf hb.small).use ⟨⟨rfl, rfl, rfl, trivial⟩, trivial, trivial⟩ rfl rfl ?_⟩
      | refine ⟨[], no_rl, (termed_ff _).use ⟨⟨rfl, rfl, rfl, trivial⟩, trivial, trivial⟩ rfl rfl ?_⟩
      | refine ⟨[], no_rl, (hh).use ⟨rfl, trivial, trivial⟩ rfl rfl ?_⟩
      | (refine retE ?_; first | exact (show ¬ SC by grind) | exact (show _ ↔ SC by grind))
      | intro _)
  · simp only [hk] at S
    simp at S
    refine ⟨by omega, by omega, .inl ⟨6, hk, ?_⟩⟩
    repeat' (first
      | refine And.intro (fun _ => ?_) (fun _ => ?_)
      | refine ⟨[], no_rl, (within_tt _ _ _).use ⟨rfl, rfl, rfl, trivial, trivial⟩ rfl rfl ?_⟩
      | refine ⟨[], no_rl, (within_ff _ _ _).use ⟨rfl, rfl, rfl, trivial, trivial⟩ rfl rfl ?_⟩
      | refine ⟨[], no_rl, (termed_tt _ ha.wf ha.small).use ⟨⟨rfl, rfl, rfl, trivial⟩, trivial, trivial⟩ rfl rfl ?_⟩
      | refine ⟨[], no_rl, (termed_tt _ hb.wf hb.small).use ⟨⟨rfl, rfl, rfl, trivial⟩, trivial, trivial⟩ rfl rfl ?_⟩
      | refine ⟨[], no_rl, (termed_ff _).use ⟨⟨rfl, rfl, rfl, trivial⟩, trivial, trivial⟩ rfl rfl ?_⟩
      | refine ⟨[], no_rl, (hh).use ⟨rfl, trivial, trivial⟩ rfl rfl ?_⟩
      | (refine retE ?_; first | exact (show ¬ SC by grind) | exact (show _ ↔ SC by grind))
      | intro _)

end Go.Proofs.YtfnjlkmhnhojpaaDoor.Pw

/- Chapter 21 over values: may a cost be: the document's walk. -/
namespace Go.Proofs.YtfnjlkmhnhojpaaDoor.Pw
open Go Go.RowKit

theorem MT.one {t : T} (h : MT t) (h1 : termB t true = true) : ¬ ((((flatT t).map nP).length : Nat) : Int) = 0 := by
  rw [List.length_map]
  have := (h.term.2 h1).2.1
  omega
theorem MT.nil {t : T} (h : MT t) : ((((flatT t).map nP).length : Nat) : Int) = 0 ↔ termB t false = true := by
  rw [List.length_map, ← h.none]; omega

end Go.Proofs.YtfnjlkmhnhojpaaDoor.Pw

/- Chapter 21 over values: CostRight. -/
namespace Go.Proofs.YtfnjlkmhnhojpaaDoor.Pw
open Go Go.RowKit

theorem cright_pure (c : C) (hT : c.AllT MT) (hT2 : c.AllT fun t => t.size ≤ 1000000) (hN : cN c ≤ 1000000) : PureF gT 7 [cpv c] (.bool (cN c ≤ 16384 ∧ shC c = true)) := by
  refine Spec.enter gTok P7 100 Tryd.func7 rfl (by kernel_rfl) ?_
  refine ⟨[], no_rl, (nodes_pure c hT2 hN).use (by repeat' first | exact trivial | exact rfl | exact Iff.rfl | exact Or.inl rfl | refine And.intro ?_ ?_) rfl rfl ?_⟩
  refine And.intro (fun h => ?_) (fun h => ?_)
  · refine ⟨[], no_rl, (cshaped_pure c hT hN).use (by repeat' first | exact trivial | exact rfl | exact Iff.rfl | exact Or.inl rfl | refine And.intro ?_ ?_) rfl rfl ?_⟩
    refine retE ?_
    exact (show shC c = true ↔ _ from ⟨fun hh => ⟨by omega, hh⟩, fun hh => hh.2⟩)
  · refine retE ?_
    exact (show ¬ (cN c ≤ 16384 ∧ shC c = true) from fun hh => h (show (cN c : Int) ≤ 16384 by omega))

end Go.Proofs.YtfnjlkmhnhojpaaDoor.Pw

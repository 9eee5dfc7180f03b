/- What the laws of this claim are proved with, joined (join.py) of 14 texts: no condition. -/
import Derived.Test.YtnjmfedleimlmaaDoorJaTermF
import Derived.Test.YtnjmfedleimlmaaDoorJaTermO
import Derived.Test.YtnjmfedleimlmaaDoorJaTermP
import Derived.Test.YtnjmfedleimlmaaDoorJa4
import Derived.Test.YtnjmfedleimlmaaDoorJaTermM
import Derived.Test.YtnjmfedleimlmaaDoorJaTermH
import Derived.Test.YtnjmfedleimlmaaDoorJa5
import Derived.Test.YtnjmfedleimlmaaDoorJaTermL
set_option linter.unusedVariables false

/- Plain lemmas on terms that nodes make. -/
namespace Go.Proofs.YtnjmfedleimlmaaDoor.Pw
open Go Go.RowKit

theorem builtT_wf : ∀ (k : Nat) (l : List (Int × Int)) (i : Nat), (∀ y ∈ l, 0 ≤ y.2 ∧ y.2 ≤ 4294967295) → (builtT k l i).1.Wf
  | 0, l, i, _ => by simp only [builtT, T.Wf]; omega
  | k + 1, l, i, h => by
    unfold builtT
    cases hx : l[i]? with
    | none => simp only [T.Wf]; omega
    | some x =>
      have h1 := builtT_wf k l (i + 1) h
      have h2 := builtT_wf k l (builtT k l (i + 1)).2 h
      dsimp only
      split
      · exact ⟨by omega, h1, h2⟩
      · split
        · exact ⟨by omega, h1⟩
        · exact h x (List.mem_of_getElem? hx)
theorem ofX_wf (l : List (Int × Int)) (h : ∀ y ∈ l, 0 ≤ y.2 ∧ y.2 ≤ 4294967295) : (ofX l).Wf := by
  unfold ofX
  split
  · exact builtT_wf 41 l 0 h
  · simp only [T.Wf]; omega
theorem ofOk_shaped {l : List (Int × Int)} (h : ofOk l = true) : l.length ≤ 60 ∧ (ofX l).shaped = true := by
  unfold ofOk at h
  simp only [Bool.and_eq_true, decide_eq_true_eq] at h
  refine ⟨h.1, ?_⟩
  have := h.2
  unfold ofB at this
  rw [T.shaped_nodes] at this
  unfold ofX; rw [if_pos h.1]; exact this
theorem ofOk_not {l : List (Int × Int)} (h : ofOk l = false) (hl : l.length ≤ 60) : (ofX l).shaped = false := by
  unfold ofOk at h
  rw [decide_eq_true hl, Bool.true_and] at h
  unfold ofB at h
  rw [T.shaped_nodes] at h
  unfold ofX; rw [if_pos hl]; exact h
theorem shaped_one {o n : Int} {a : T} (h : (T.one o n a).shaped = true) : (3 ≤ o ∧ o ≤ 4) ∧ a.shaped = true := by
  simp only [T.shaped, goodN, Bool.and_eq_true, decide_eq_true_eq] at h
  refine ⟨?_, h.2⟩
  have h1 := h.1.2.2.1
  unfold needsN at h1
  (repeat' split at h1) <;> omega
theorem shaped_two {o n : Int} {a b : T} (h : (T.two o n a b).shaped = true) : (5 ≤ o ∧ o ≤ 17) ∧ a.shaped = true ∧ b.shaped = true := by
  simp only [T.shaped, goodN, Bool.and_eq_true, decide_eq_true_eq] at h
  refine ⟨?_, h.2⟩
  have h1 := h.1.2.2.1
  have h2 := h.1.2.1
  unfold needsN at h1
  (repeat' split at h1) <;> omega

theorem shaped_leaf' {o n : Int} (h : (T.leaf o n).shaped = true) : o = 1 ∨ o = 2 := by
  simp only [T.shaped, goodN, decide_eq_true_eq] at h
  have h1 := h.2.2.1
  unfold needsN at h1
  (repeat' split at h1) <;> omega

end Go.Proofs.YtnjmfedleimlmaaDoor.Pw

/- Trial. -/
namespace Go.Proofs.YtnjmfedleimlmaaDoor.Pw
open Go Go.RowKit

def needsT (op : Int) : Int := if op ≤ 2 then 0 else if op ≤ 4 then 1 else 2
theorem needs_pure (op : Int) : PureF gx 74 [.int .i64 op] (.int .i64 (needsT op)) := by
  refine Spec.enter gxok [] 100 Tryd.func74 rfl (by kernel_rfl) ?_
  repeat' refine And.intro (fun _ => ?_) (fun _ => ?_)
  all_goals (refine retE ?_; unfold needsT; show _ = _; (repeat' split) <;> omega)

/-- a term's list -/
def kidsP : T → List PV
  | .leaf .. => []
  | .one _ _ a => [.agg [.int .i64 a.op, .int .u32 a.num, .sl 3 (kidsP a)]]
  | .two _ _ a b => [.agg [.int .i64 a.op, .int .u32 a.num, .sl 3 (kidsP a)], .agg [.int .i64 b.op, .int .u32 b.num, .sl 3 (kidsP b)]]
def tpv (t : T) : PV := .agg [.int .i64 t.op, .int .u32 t.num, .sl 3 (kidsP t)]
def kidsL : T → List T
  | .leaf .. => []
  | .one _ _ a => [a]
  | .two _ _ a b => [a, b]
theorem kidsP_eq (t : T) : kidsP t = (kidsL t).map tpv := by cases t <;> rfl
def wordsP (ws : List Int) : List PV := ws.map (PV.int .u32)

set_option maxRecDepth 10000 in
theorem leaf_pure (t : T) (ws : List Int) (hn : 0 ≤ t.num ∧ t.num ≤ 4294967295) : PureF gx 43 [tpv t, .sl 1 (wordsP ws)] (.int .u32 (leafV t.op t.num ws)) := by
  refine Spec.enter gxok [] 100 Tryd.func43 rfl (by kernel_rfl) ?_
  refine And.intro (fun h1 => ?_) (fun h1 => ?_)
  · refine retE ?_
    show _ = _
    unfold leafV
    rw [if_pos h1]
  · refine .inl ⟨inR_i64 (by omega), fun hm => And.intro (fun h2 => ?_) (fun h2 => ?_)⟩
    · refine ⟨_, ws, PV.int .u32, rfl, hn.1, by rw [wordsP, List.length_map] at h2; exact h2, fun x hx => retE ?_⟩
      show _ = _
      unfold leafV
      rw [if_neg h1, hx]; rfl
    · refine retE ?_
      show _ = _
      rw [wordsP, List.length_map] at h2
      unfold leafV
      rw [if_neg h1, List.getElem?_eq_none (by omega)]; rfl

end Go.Proofs.YtnjmfedleimlmaaDoor.Pw

/- Chapter 11 over values: what comes in, what 'of' makes, values of terms. -/
namespace Go.Proofs.YtnjmfedleimlmaaDoor.Pw
open Go Go.RowKit

noncomputable def gT : Gx := gxOf [(0, [.lit .u32 0, .lit .u32 4294967295])]
theorem gTok : GOk gT := gxOk _
theorem entersT {f : FuncId} {fn : Func} {c : Code} (hf : Tryd.prog.funcs[f]? = some fn) (hb : fn.body = some c) (hn : (fn.name == "runtime.NumGoroutine") = false) : Ev.Enters gT.cx.P f := Ev.enters_of hf hb hn

theorem isLn {w : World} {I : Nat → Prop} {β : Places} : IsL w I [] β [] := by simp only [IsL]
theorem isLc {w : World} {I : Nat → Prop} {β : Places} {x : PV} {v : Value} {xs : List PV} {vs : List Value} (h : x.Is w I β v) (h' : IsL w I xs β vs) : IsL w I (x :: xs) β (v :: vs) := by simp only [IsL]; exact ⟨h, h'⟩
theorem is_bool {w : World} {I : Nat → Prop} {β : Places} (b : Bool) : (PV.bool (b = true)).Is w I β (.bool b) := by simp only [PV.Is]; rw [pb_dec]; simp
theorem is_int {w : World} {I : Nat → Prop} {β : Places} (k : IntKind) (n : Int) : (PV.int k n).Is w I β (.int k n) := by simp only [PV.Is]
theorem is_tup {w : World} {I : Nat → Prop} {β : Places} {xs : List PV} {vs : Array Value} (h : IsL w I xs β vs.toList) : (PV.tup xs).Is w I β (.tuple vs) := by simp only [PV.Is]; exact ⟨vs, rfl, h⟩
theorem is_agg {w : World} {I : Nat → Prop} {β : Places} {xs : List PV} {vs : Array Value} (h : IsL w I xs β vs.toList) : (PV.agg xs).Is w I β (.agg vs) := by simp only [PV.Is]; exact ⟨vs, rfl, h⟩

/-! ### scalars -/
theorem isL1 {w : World} {I : Nat → Prop} {β : Places} {x : PV} {vals : List Value} (h : IsL w I [x] β vals) : ∃ v, vals = [v] ∧ x.Is w I β v := by
  match vals, h with
  | [v], h => exact ⟨v, rfl, by simpa only [IsL, and_true] using h⟩
theorem isL2 {w : World} {I : Nat → Prop} {β : Places} {x y : PV} {vals : List Value} (h : IsL w I [x, y] β vals) : ∃ v u, vals = [v, u] ∧ x.Is w I β v ∧ y.Is w I β u := by
  match vals, h with
  | [v, u], h => exact ⟨v, u, rfl, by simpa only [IsL, and_true] using h⟩
theorem isL3 {w : World} {I : Nat → Prop} {β : Places} {x y z : PV} {vals : List Value} (h : IsL w I [x, y, z] β vals) : ∃ v u t, vals = [v, u, t] ∧ x.Is w I β v ∧ y.Is w I β u ∧ z.Is w I β t := by
  match vals, h with
  | [v, u, t], h => exact ⟨v, u, t, rfl, by simpa only [IsL, and_true] using h⟩
theorem one_pure (op x : Int) (h0 : 0 ≤ x) (h1 : x ≤ 4294967295) : PureF gT 45 [.int .i64 op, .int .u32 x] (.int .u32 (oneV op x)) :=
  PureF.of_same (entersT Tryd.func45 rfl (by kernel_rfl)) [.int .i64 op, .int .u32 x] _ (fun w I β vals h => by obtain ⟨v, u, rfl, h1, h2⟩ := isL2 h; simp only [PV.Is] at h1 h2; rw [h1, h2]) (fun w I β => by simp only [PV.Is]) (fun w => tone_any op x w h0 h1)
def optP (o : Option Int) : PV := .tup [.int .u32 (o.getD 0), .bool (o.isSome = true)]
theorem optP_is (o : Option Int) (w : World) (I : Nat → Prop) (β : Places) : (optP o).Is w I β (optV o) := by
  unfold optP optV
  exact is_tup (isLc (is_int ..) (isLc (is_bool _) isLn))
theorem two_pure (op x y : Int) (h0 : 0 ≤ x) (h1 : x ≤ 4294967295) (k0 : 0 ≤ y) (k1 : y ≤ 4294967295) : PureF gT 46 [.int .i64 op, .int .u32 x, .int .u32 y] (optP (twoV op x y)) :=
  PureF.of_same (entersT Tryd.func46 rfl (by kernel_rfl)) [.int .i64 op, .int .u32 x, .int .u32 y] (optV (twoV op x y)) (fun w I β vals h => by obtain ⟨v, u, t, rfl, h1, h2, h3⟩ := isL3 h; simp only [PV.Is] at h1 h2 h3; rw [h1, h2, h3]) (optP_is _) (fun w => two_any op x y w h0 h1 k0 k1)
theorem truth_pure (b : Prop) : PureF gT 44 [.bool b] (.int .u32 (if pb b then 1 else 0)) :=
  PureF.of_same (entersT Tryd.func44 rfl (by kernel_rfl)) [.bool (pb b)] _ (fun w I β vals h => by obtain ⟨v, rfl, h1⟩ := isL1 h; simp only [PV.Is] at h1; rw [h1]) (fun w I β => by simp only [PV.Is]) (fun w => ttruth_any _ w)
theorem anchor_pure : PureF gT 14 [] .tt :=
  PureF.of_calls (entersT Tryd.func14 rfl (by kernel_rfl)) [] (.bool true) (fun w I β vals h => by cases vals with
    | nil => rfl
    | cons => simp only [IsL] at h) (fun w I β => by simp only [PV.Is]) (fun w => anchor11_calls w)

/-! ### nodes, terms -/
def nodeP (y : Int × Int) : PV := .agg [.int .i64 y.1, .int .u32 y.2]
theorem isS_is {w : World} {I : Nat → Prop} {β : Places} : ∀ {t : T} {s : Value} {bl : List Nat}, t.IsS w s bl → (∀ b ∈ bl, I b) → (PV.sl 3 (kidsP t)).Is w I β s
  | .leaf .., s, bl, h, _ => by
    obtain ⟨rfl, _⟩ := h
    simp only [kidsP, PV.Is]
    exact ⟨none, 0, rfl, Nat.le_refl _, by simp, nofun, fun h => absurd rfl h⟩
  | .one _ _ a, s, bl, h, hI => by
    obtain ⟨g, cap, cur, fr, sa, bla, rfl, h2, h3, h4, h5, h6, h7, rfl⟩ := h
    have ia := isS_is (β := no) (I := I) h7 fun b hb => hI b (by simp [hb])
    have ca : ∀ j, w.cell? ⟨g, j, none⟩ = cur[j]? := fun j => by simp [World.cell?, h3]
    simp only [kidsP, PV.Is, IsEs, IsAt, List.length_cons, List.length_nil]
    exact ⟨_, cap, rfl, h2, by unfold maxLen; omega, fun g' o' e => by
      cases e
      exact ⟨⟨trivial, ⟨_, by rw [ca]; exact h4, rfl, rfl⟩, ⟨_, by rw [ca]; exact h5, rfl, rfl⟩, ⟨sa, by rw [ca]; exact h6, by simpa only [PV.Is] using ia, h7.one⟩, trivial⟩, trivial⟩, fun _ => ⟨g, 0, rfl, hI g (by simp), by omega⟩⟩
  | .two _ _ a b, s, bl, h, hI => by
    obtain ⟨g, cap, cur, fr, sa, bla, sb, blb, rfl, h2, h3, h4, h5, h6, h4', h5', h6', h7, h8, rfl⟩ := h
    have ia := isS_is (β := no) (I := I) h7 fun b hb => hI b (by simp [hb])
    have ib := isS_is (β := no) (I := I) h8 fun b hb => hI b (by simp [hb])
    have ca : ∀ j, w.cell? ⟨g, j, none⟩ = cur[j]? := fun j => by simp [World.cell?, h3]
    simp only [kidsP, PV.Is, IsEs, IsAt, List.length_cons, List.length_nil]
    exact ⟨_, cap, rfl, h2, by unfold maxLen; omega, fun g' o' e => by
      cases e
      exact ⟨⟨trivial, ⟨_, by rw [ca]; exact h4, rfl, rfl⟩, ⟨_, by rw [ca]; exact h5, rfl, rfl⟩, ⟨sa, by rw [ca]; exact h6, by simpa only [PV.Is] using ia, h7.one⟩, trivial⟩, ⟨trivial, ⟨_, by rw [ca]; exact h4', rfl, rfl⟩, ⟨_, by rw [ca]; exact h5', rfl, rfl⟩, ⟨sb, by rw [ca]; exact h6', by simpa only [PV.Is] using ib, h8.one⟩, trivial⟩, trivial⟩, fun _ => ⟨g, 0, rfl, hI g (by simp), by omega⟩⟩
theorem nodesAt_of {w : World} {I : Nat → Prop} {β : Places} {l : List (Int × Int)} {v : Value} (hI : ∀ g, I g → g < w.heap.size) (h : (PV.sl 2 (l.map nodeP)).Is w I β v) : ∃ a cap, v = .slice a l.length cap ∧ NodesAt w a l w.heap.size := by
  simp only [PV.Is] at h
  obtain ⟨a, cap, rfl, _, _, h1, h2⟩ := h
  refine ⟨a, cap, by rw [List.length_map], fun i x hx => ?_⟩
  have hlt : i < l.length := (List.getElem?_eq_some_iff.1 hx).1
  obtain ⟨g, o, rfl, hg, _⟩ := h2 (by rw [List.length_map]; omega)
  have he := (h1 g o rfl).get (i := i) (e := nodeP x) (by simp [hx])
  obtain ⟨_, he⟩ := he
  obtain ⟨v0, c0, i0, _⟩ := he.get (i := 0) rfl
  obtain ⟨v1, c1, i1, _⟩ := he.get (i := 1) rfl
  simp only [PV.Is] at i0 i1
  subst i0; subst i1
  exact ⟨g, o, rfl, hI g hg, hI g hg, c0, c1⟩
theorem of_pure (l : List (Int × Int)) (hl : l.length ≤ maxLen) : PureF gT 15 [.sl 2 (l.map nodeP)] (.tup [tpv (ofX l), .bool (ofOk l = true)]) :=
  PureF.of_new (entersT Tryd.func15 rfl (by kernel_rfl)) (fun I β w vals hM hA => by
    obtain ⟨v, rfl, hv⟩ := isL1 hA
    obtain ⟨a, cap, rfl, hN⟩ := nodesAt_of hM.imm hv
    refine (of_any l a cap w (by unfold maxLen at hl; omega) hN).mono ?_
    rintro e w' ⟨p, c, bl, rfl, hS, hb, hB⟩
    refine ⟨_, rfl, hB, ?_⟩
    have hs := isS_is (β := no) (I := NewI I w w') hS fun b hb' => .inr (hb b hb')
    exact is_tup (isLc (is_agg (isLc (is_int ..) (isLc (is_int ..) (isLc hs isLn)))) (isLc (is_bool _) isLn))) rfl

end Go.Proofs.YtnjmfedleimlmaaDoor.Pw

/- Chapter 11 over values: Eval. -/
namespace Go.Proofs.YtnjmfedleimlmaaDoor.Pw
open Go Go.RowKit

theorem leaf_pureT (t : T) (ws : List Int) (hn : 0 ≤ t.num ∧ t.num ≤ 4294967295) : PureF gT 43 [tpv t, .sl 1 (wordsP ws)] (.int .u32 (leafV t.op t.num ws)) := by
  refine Spec.enter gTok [] 100 Tryd.func43 rfl (by kernel_rfl) ?_
  refine And.intro (fun h1 => ?_) (fun h1 => ?_)
  · refine retE ?_
    show _ = _
    unfold leafV
    rw [if_pos h1]
  · refine .inl ⟨inR_i64 (by omega), fun hm => And.intro (fun h2 => ?_) (fun h2 => ?_)⟩
    · refine ⟨_, ws, PV.int .u32, rfl, hn.1, by rw [wordsP, List.length_map] at h2; exact h2, fun x hx => retE ?_⟩
      show _ = _
      unfold leafV
      rw [if_neg h1, hx]; rfl
    · refine retE ?_
      show _ = _
      rw [wordsP, List.length_map] at h2
      unfold leafV
      rw [if_neg h1, List.getElem?_eq_none (by omega)]; rfl

theorem truth_tt : PureF gT 44 [.tt] (.int .u32 1) :=
  PureF.of_same (entersT Tryd.func44 rfl (by kernel_rfl)) [.bool true] _ (fun w I β vals h => by obtain ⟨v, rfl, h1⟩ := isL1 h; simp only [PV.Is] at h1; rw [h1]) (fun w I β => is_int ..) (fun w => ttruth_any true w)
theorem truth_ff : PureF gT 44 [.ff] (.int .u32 0) :=
  PureF.of_same (entersT Tryd.func44 rfl (by kernel_rfl)) [.bool false] _ (fun w I β vals h => by obtain ⟨v, rfl, h1⟩ := isL1 h; simp only [PV.Is] at h1; rw [h1]) (fun w I β => is_int ..) (fun w => ttruth_any false w)

set_option maxRecDepth 10000 in
theorem eval_pure (ws : List Int) (hw : WordsOk ws) : ∀ t : T, t.Wf → PureF gT 17 [tpv t, .sl 1 (wordsP ws)] (optP (t.evalT ws))
  | .leaf o n, hwf => by
    refine Spec.enter gTok P17 100 Tryd.func17 rfl (by kernel_rfl) ?_
    refine fun _ => And.intro (fun _ => ?_) (fun h => absurd rfl h)
    refine ⟨[], nofun, (leaf_pureT (.leaf o n) ws hwf).use ⟨⟨rfl, rfl, rfl, trivial⟩, rfl, trivial⟩ rfl rfl ?_⟩
    exact retE ⟨rfl, rfl, trivial⟩
  | .one o n a, hwf => by
    have iha := eval_pure ws hw a hwf.2
    refine Spec.enter gTok P17 100 Tryd.func17 rfl (by kernel_rfl) ?_
    refine fun _ => And.intro (fun h => absurd h (by simp [kidsP])) (fun _ => ?_)
    refine ⟨T, [a], tpv, rfl, Int.le_refl 0, Int.zero_lt_one, fun x hx => ?_⟩
    obtain rfl : a = x := by simpa using hx
    refine ⟨[], nofun, iha.use ⟨⟨rfl, rfl, rfl, trivial⟩, rfl, trivial⟩ rfl rfl ?_⟩
    have he : (T.one o n a).evalT ws = (a.evalT ws).map (oneV o) := rfl
    have hb : ∀ v, a.evalT ws = some v → 0 ≤ v ∧ v ≤ 4294967295 := fun v h => T.evalT_bd hw hwf.2 h
    rw [he]
    generalize a.evalT ws = q at hb ⊢
    cases q with
    | none =>
      refine And.intro (fun _ => ?_) (fun h => absurd nofun h)
      refine ⟨[], nofun, truth_ff.use ⟨nofun, trivial⟩ rfl rfl ?_⟩
      refine ⟨[], nofun, (one_pure o 0 (by omega) (by omega)).use ⟨rfl, rfl, trivial⟩ rfl rfl ?_⟩
      refine .inl ⟨inR_u32 (by simp), ?_⟩
      exact retE ⟨Int.zero_mul _, Iff.rfl, trivial⟩
    | some v =>
      obtain ⟨h0, h1⟩ := hb v rfl
      have h2 := oneV_bd (op := o) h0 h1
      refine And.intro (fun h => absurd rfl h) (fun _ => ?_)
      refine fun _ => And.intro (fun _ => ?_) (fun h => absurd rfl h)
      refine ⟨[], nofun, truth_tt.use ⟨rfl, trivial⟩ rfl rfl ?_⟩
      refine ⟨[], nofun, (one_pure o v h0 h1).use ⟨rfl, rfl, trivial⟩ rfl rfl ?_⟩
      refine .inl ⟨inR_u32 (by rw [Int.one_mul]; exact h2), ?_⟩
      exact retE ⟨Int.one_mul _, Iff.rfl, trivial⟩
  | .two o n a b, hwf => by
    have iha := eval_pure ws hw a hwf.2.1
    have ihb := eval_pure ws hw b hwf.2.2
    refine Spec.enter gTok P17 100 Tryd.func17 rfl (by kernel_rfl) ?_
    refine fun _ => And.intro (fun h => absurd h (by simp [kidsP])) (fun _ => ?_)
    refine ⟨T, [a, b], tpv, rfl, Int.le_refl 0, by simp, fun x hx => ?_⟩
    obtain rfl : a = x := by simpa using hx
    refine ⟨[], nofun, iha.use ⟨⟨rfl, rfl, rfl, trivial⟩, rfl, trivial⟩ rfl rfl ?_⟩
    have he : (T.two o n a b).evalT ws = (a.evalT ws).bind fun x => (b.evalT ws).bind fun y => twoV o x y := rfl
    have hba : ∀ v, a.evalT ws = some v → 0 ≤ v ∧ v ≤ 4294967295 := fun v h => T.evalT_bd hw hwf.2.1 h
    have hbb : ∀ v, b.evalT ws = some v → 0 ≤ v ∧ v ≤ 4294967295 := fun v h => T.evalT_bd hw hwf.2.2 h
    rw [he]
    generalize a.evalT ws = q at hba ⊢
    cases q with
    | none =>
      refine And.intro (fun _ => ?_) (fun h => absurd nofun h)
      refine ⟨[], nofun, truth_ff.use ⟨nofun, trivial⟩ rfl rfl ?_⟩
      refine ⟨[], nofun, (one_pure o 0 (by omega) (by omega)).use ⟨rfl, rfl, trivial⟩ rfl rfl ?_⟩
      refine .inl ⟨inR_u32 (by simp), ?_⟩
      exact retE ⟨Int.zero_mul _, Iff.rfl, trivial⟩
    | some v =>
      obtain ⟨h0, h1⟩ := hba v rfl
      refine And.intro (fun h => absurd rfl h) (fun _ => ?_)
      refine fun _ => And.intro (fun h => absurd h (by simp [kidsP])) (fun _ => ?_)
      refine ⟨T, [a, b], tpv, rfl, by decide, by simp, fun x hx => ?_⟩
      obtain rfl : b = x := by simpa using hx
      refine ⟨[], nofun, ihb.use ⟨⟨rfl, rfl, rfl, trivial⟩, rfl, trivial⟩ rfl rfl ?_⟩
      generalize b.evalT ws = q at hbb ⊢
      cases q with
      | none =>
        refine And.intro (fun _ => ?_) (fun h => absurd nofun h)
        exact retE ⟨rfl, nofun, trivial⟩
      | some u =>
        obtain ⟨k0, k1⟩ := hbb u rfl
        refine And.intro (fun h => absurd rfl h) (fun _ => ?_)
        refine ⟨[], nofun, (two_pure o v u h0 h1 k0 k1).use ⟨rfl, rfl, rfl, trivial⟩ rfl rfl ?_⟩
        exact retE ⟨rfl, Iff.rfl, trivial⟩

end Go.Proofs.YtnjmfedleimlmaaDoor.Pw

/- Chapter 11 over values: Fold. -/
namespace Go.Proofs.YtnjmfedleimlmaaDoor.Pw
open Go Go.RowKit

/-- a node whose terms are folded -/
def foldN (t : T) (c : Bool) : T := if c then (match t.evalT [] with
  | some v => .leaf 1 v
  | none => t) else t
def foldT : T → T
  | .leaf o n => foldN (.leaf o n) (decide (o ≠ 2))
  | .one o n a => foldN (.one o n (foldT a)) (decide (o ≠ 2) && decide ((foldT a).op = 1))
  | .two o n a b => foldN (.two o n (foldT a) (foldT b)) ((decide (o ≠ 2) && decide ((foldT a).op = 1)) && decide ((foldT b).op = 1))
theorem wordsOk_nil : WordsOk [] := ⟨by simp, by simp⟩
theorem foldN_wf {t : T} {c : Bool} (h : t.Wf) : (foldN t c).Wf := by
  unfold foldN
  split
  · split
    · rename_i v hv
      exact T.evalT_bd wordsOk_nil h hv
    · exact h
  · exact h
theorem foldT_wf : ∀ {t : T}, t.Wf → (foldT t).Wf
  | .leaf o n, h => foldN_wf h
  | .one o n a, h => by unfold foldT; exact foldN_wf ⟨h.1, foldT_wf h.2⟩
  | .two o n a b, h => by unfold foldT; exact foldN_wf ⟨h.1, foldT_wf h.2.1, foldT_wf h.2.2⟩
theorem of_pureT (n : Int) : PureF gT 39 [.int .u32 n] (tpv (.leaf 1 n)) := by
  refine Spec.enter gTok P39 100 Tryd.func39 rfl (by kernel_rfl) ?_
  exact retE ⟨rfl, rfl, rfl, trivial⟩

set_option maxRecDepth 10000 in
theorem fold_pure : ∀ t : T, t.Wf → PureF gT 24 [tpv t] (tpv (foldT t))
  | .leaf o n, hwf => by
    have hf : foldT (.leaf o n) = foldN (T.leaf o n) (decide (o ≠ 2)) := by rw [foldT]
    refine Spec.enter gTok P24 100 Tryd.func24 rfl (by kernel_rfl) ?_
    refine fun _ => SW.rounds gTok P24 (by kernel_rfl) (N := 60) 3 ?_
    refine And.intro (fun h => absurd (show (0 : Int) < 0 from h) (by decide)) (fun _ => ?_)
    refine And.intro (fun h0 => ?_) (fun h0 => ?_)
    · have k : o = 2 := Classical.not_not.1 h0
      rw [hf, show (decide (o ≠ 2)) = false by simp [k]]
      refine retE ?_
      rw [show foldN (T.leaf o n) false = T.leaf o n from rfl]
      exact ⟨rfl, rfl, rfl, trivial⟩
    · have k : ¬ o = 2 := Classical.not_not.1 h0
      rw [hf, show (decide (o ≠ 2)) = true by simp [k]]
      refine ⟨[], nofun, (eval_pure [] wordsOk_nil (T.leaf o n) hwf).useB [] ⟨⟨rfl, rfl, rfl, trivial⟩, rfl, trivial⟩ rfl rfl ?_⟩
      cases hq : (T.leaf o n).evalT [] with
      | none =>
        refine And.intro (fun h => absurd h nofun) (fun _ => ?_)
        refine retE ?_
        rw [show foldN (T.leaf o n) true = T.leaf o n by unfold foldN; rw [hq]; rfl]
        exact ⟨rfl, rfl, rfl, trivial⟩
      | some v =>
        refine And.intro (fun _ => ?_) (fun h => absurd rfl h)
        refine ⟨[], nofun, (of_pureT v).use ⟨rfl, trivial⟩ rfl rfl ?_⟩
        refine retE ?_
        rw [show foldN (T.leaf o n) true = .leaf 1 v by unfold foldN; rw [hq]; rfl]
        exact ⟨rfl, rfl, rfl, trivial⟩
  | .one o n a, hwf => by
    have iha := fold_pure a hwf.2
    have hf : foldT (.one o n a) = foldN (T.one o n (foldT a)) (decide (o ≠ 2) && decide ((foldT a).op = 1)) := by rw [foldT]
    refine Spec.enter gTok P24 100 Tryd.func24 rfl (by kernel_rfl) ?_
    refine fun _ => SW.rounds gTok P24 (by kernel_rfl) (N := 60) 3 ?_
    refine And.intro (fun _ => ?_) (fun h => absurd (show (0 : Int) < 1 by decide) h)
    refine ⟨T, [a], tpv, rfl, (show (0 : Int) ≤ 0 by decide), (show (0 : Int) < 1 by decide), fun x hx => ?_⟩
    obtain rfl : a = x := Option.some.inj hx
    refine ⟨[], nofun, iha.use ⟨⟨rfl, rfl, rfl, trivial⟩, trivial⟩ rfl rfl ?_⟩
    refine And.intro (fun g0 => ?_) (fun g0 => ?_)
    · have c0 : ¬ o = 2 := g0
      refine And.intro (fun h => absurd (show (1 : Int) < 1 from h) (by decide)) (fun _ => ?_)
      refine And.intro (fun h1 => ?_) (fun h1 => ?_)
      · have k : ¬ (foldT a).op = 1 := h1
        rw [hf, show (decide (o ≠ 2) && decide ((foldT a).op = 1)) = false by simp [c0, k]]
        refine retE ?_
        rw [show foldN (T.one o n (foldT a)) false = T.one o n (foldT a) from rfl]
        exact ⟨rfl, rfl, rfl, trivial⟩
      · have k : (foldT a).op = 1 := Classical.not_not.1 h1
        rw [hf, show (decide (o ≠ 2) && decide ((foldT a).op = 1)) = true by simp [c0, k]]
        refine ⟨[], nofun, (eval_pure [] wordsOk_nil (T.one o n (foldT a)) ⟨hwf.1, foldT_wf hwf.2⟩).useB [6] ⟨⟨rfl, rfl, .inl rfl, trivial⟩, rfl, trivial⟩ rfl rfl ?_⟩
        cases hq : (T.one o n (foldT a)).evalT [] with
        | none =>
          refine And.intro (fun h => absurd h nofun) (fun _ => ?_)
          refine retE ?_
          rw [show foldN (T.one o n (foldT a)) true = T.one o n (foldT a) by unfold foldN; rw [hq]; rfl]
          exact ⟨rfl, rfl, rfl, trivial⟩
        | some v =>
          refine And.intro (fun _ => ?_) (fun h => absurd rfl h)
          refine ⟨[], nofun, (of_pureT v).use ⟨rfl, trivial⟩ rfl rfl ?_⟩
          refine retE ?_
          rw [show foldN (T.one o n (foldT a)) true = .leaf 1 v by unfold foldN; rw [hq]; rfl]
          exact ⟨rfl, rfl, rfl, trivial⟩
    · have c0 : o = 2 := Classical.not_not.1 g0
      refine And.intro (fun h => absurd (show (1 : Int) < 1 from h) (by decide)) (fun _ => ?_)
      rw [hf, show (decide (o ≠ 2) && decide ((foldT a).op = 1)) = false by simp [c0]]
      refine retE ?_
      rw [show foldN (T.one o n (foldT a)) false = T.one o n (foldT a) from rfl]
      exact ⟨rfl, rfl, rfl, trivial⟩
  | .two o n a b, hwf => by
    have iha := fold_pure a hwf.2.1
    have ihb := fold_pure b hwf.2.2
    have hf : foldT (.two o n a b) = foldN (T.two o n (foldT a) (foldT b)) ((decide (o ≠ 2) && decide ((foldT a).op = 1)) && decide ((foldT b).op = 1)) := by rw [foldT]
    refine Spec.enter gTok P24 100 Tryd.func24 rfl (by kernel_rfl) ?_
    refine fun _ => SW.rounds gTok P24 (by kernel_rfl) (N := 60) 3 ?_
    refine And.intro (fun _ => ?_) (fun h => absurd (show (0 : Int) < 2 by decide) h)
    refine ⟨T, [a, b], tpv, rfl, (show (0 : Int) ≤ 0 by decide), (show (0 : Int) < 2 by decide), fun x hx => ?_⟩
    obtain rfl : a = x := Option.some.inj hx
    refine ⟨[], nofun, iha.use ⟨⟨rfl, rfl, rfl, trivial⟩, trivial⟩ rfl rfl ?_⟩
    refine And.intro (fun g0 => ?_) (fun g0 => ?_)
    · have c0 : ¬ o = 2 := g0
      refine And.intro (fun _ => ?_) (fun h => absurd (show (1 : Int) < 2 by decide) h)
      refine ⟨T, [a, b], tpv, rfl, (show (0 : Int) ≤ 1 by decide), (show (1 : Int) < 2 by decide), fun x hx => ?_⟩
      obtain rfl : b = x := Option.some.inj hx
      refine ⟨[], nofun, ihb.use ⟨⟨rfl, rfl, rfl, trivial⟩, trivial⟩ rfl rfl ?_⟩
      refine And.intro (fun g1 => ?_) (fun g1 => ?_)
      · have c1 : (foldT a).op = 1 := g1
        refine And.intro (fun h => absurd (show (2 : Int) < 2 from h) (by decide)) (fun _ => ?_)
        refine And.intro (fun h2 => ?_) (fun h2 => ?_)
        · have k : ¬ (foldT b).op = 1 := h2
          rw [hf, show ((decide (o ≠ 2) && decide ((foldT a).op = 1)) && decide ((foldT b).op = 1)) = false by simp [c0, c1, k]]
          refine retE ?_
          rw [show foldN (T.two o n (foldT a) (foldT b)) false = T.two o n (foldT a) (foldT b) from rfl]
          exact ⟨rfl, rfl, rfl, trivial⟩
        · have k : (foldT b).op = 1 := Classical.not_not.1 h2
          rw [hf, show ((decide (o ≠ 2) && decide ((foldT a).op = 1)) && decide ((foldT b).op = 1)) = true by simp [c0, c1, k]]
          refine ⟨[], nofun, (eval_pure [] wordsOk_nil (T.two o n (foldT a) (foldT b)) ⟨hwf.1, foldT_wf hwf.2.1, foldT_wf hwf.2.2⟩).useB [10] ⟨⟨rfl, rfl, .inl rfl, trivial⟩, rfl, trivial⟩ rfl rfl ?_⟩
          cases hq : (T.two o n (foldT a) (foldT b)).evalT [] with
          | none =>
            refine And.intro (fun h => absurd h nofun) (fun _ => ?_)
            refine retE ?_
            rw [show foldN (T.two o n (foldT a) (foldT b)) true = T.two o n (foldT a) (foldT b) by unfold foldN; rw [hq]; rfl]
            exact ⟨rfl, rfl, rfl, trivial⟩
          | some v =>
            refine And.intro (fun _ => ?_) (fun h => absurd rfl h)
            refine ⟨[], nofun, (of_pureT v).use ⟨rfl, trivial⟩ rfl rfl ?_⟩
            refine retE ?_
            rw [show foldN (T.two o n (foldT a) (foldT b)) true = .leaf 1 v by unfold foldN; rw [hq]; rfl]
            exact ⟨rfl, rfl, rfl, trivial⟩
      · have c1 : ¬ (foldT a).op = 1 := g1
        refine And.intro (fun h => absurd (show (2 : Int) < 2 from h) (by decide)) (fun _ => ?_)
        rw [hf, show ((decide (o ≠ 2) && decide ((foldT a).op = 1)) && decide ((foldT b).op = 1)) = false by simp [c0, c1]]
        refine retE ?_
        rw [show foldN (T.two o n (foldT a) (foldT b)) false = T.two o n (foldT a) (foldT b) from rfl]
        exact ⟨rfl, rfl, rfl, trivial⟩
    · have c0 : o = 2 := Classical.not_not.1 g0
      refine And.intro (fun _ => ?_) (fun h => absurd (show (1 : Int) < 2 by decide) h)
      refine ⟨T, [a, b], tpv, rfl, (show (0 : Int) ≤ 1 by decide), (show (1 : Int) < 2 by decide), fun x hx => ?_⟩
      obtain rfl : b = x := Option.some.inj hx
      refine ⟨[], nofun, ihb.use ⟨⟨rfl, rfl, rfl, trivial⟩, trivial⟩ rfl rfl ?_⟩
      refine And.intro (fun h => absurd (show (2 : Int) < 2 from h) (by decide)) (fun _ => ?_)
      rw [hf, show ((decide (o ≠ 2) && decide ((foldT a).op = 1)) && decide ((foldT b).op = 1)) = false by simp [c0]]
      refine retE ?_
      rw [show foldN (T.two o n (foldT a) (foldT b)) false = T.two o n (foldT a) (foldT b) from rfl]
      exact ⟨rfl, rfl, rfl, trivial⟩

end Go.Proofs.YtnjmfedleimlmaaDoor.Pw

/- Chapter 11 over values: flat, Count. -/
namespace Go.Proofs.YtnjmfedleimlmaaDoor.Pw
open Go Go.RowKit

def nP (x : Int × Int × Int) : PV := .agg [.int .i64 x.1, .int .u32 x.2.1, .int .i64 x.2.2]

set_option maxRecDepth 10000 in
theorem flat_pure (most : Int) : ∀ t : T, (t.size : Int) ≤ most → t.size ≤ 1000000 → PureF gT 19 [tpv t, .int .i64 most] (.sl 3 (t.nodes.map nP))
  | .leaf o n, hm, hs => by
    refine Spec.enter gTok P19 100 Tryd.func19 rfl (by kernel_rfl) ?_
    refine fun _ => fun _ => SW.rounds gTok P19 (by kernel_rfl) (N := 60) 3 ?_
    refine And.intro (fun h => absurd (show (0 : Int) < 0 from h) (by decide)) (fun _ => ?_)
    refine retE ?_
    exact (show _ = _ from rfl)
  | .one o n a, hm, hs => by
    have sz : (T.one o n a).size = 1 + a.size := rfl
    have iha := flat_pure most a (by omega) (by omega)
    refine Spec.enter gTok P19 100 Tryd.func19 rfl (by kernel_rfl) ?_
    refine fun _ => fun _ => SW.rounds gTok P19 (by kernel_rfl) (N := 60) 3 ?_
    refine And.intro (fun _ => ?_) (fun h => absurd (show (0 : Int) < 1 by decide) h)
    refine ⟨T, [a], tpv, rfl, (show (0 : Int) ≤ 0 by decide), (show (0 : Int) < 1 by decide), fun x hx => ?_⟩
    obtain rfl : a = x := Option.some.inj hx
    refine And.intro (fun h => absurd (show most < 1 from h) (by omega)) (fun _ => ?_)
    refine ⟨[], nofun, iha.use ⟨⟨rfl, rfl, rfl, trivial⟩, rfl, trivial⟩ rfl rfl ?_⟩
    have el : (a.nodes.map nP).length = a.size := by rw [List.length_map, T.nodes_length]
    refine ⟨show 1 + (a.nodes.map nP).length ≤ maxLen by rw [el]; unfold maxLen; omega, show (1 + (a.nodes.map nP).length) * 24 ≤ 140737488355328 by rw [el]; omega, ?_⟩
    refine And.intro (fun h => absurd (show (1 : Int) < 1 from h) (by decide)) (fun _ => ?_)
    refine retE ?_
    exact (show _ = _ from rfl)
  | .two o n a b, hm, hs => by
    have sz : (T.two o n a b).size = 1 + a.size + b.size := rfl
    have iha := flat_pure most a (by omega) (by omega)
    have ihb := flat_pure most b (by omega) (by omega)
    have el : (a.nodes.map nP).length = a.size := by rw [List.length_map, T.nodes_length]
    have el2 : (b.nodes.map nP).length = b.size := by rw [List.length_map, T.nodes_length]
    refine Spec.enter gTok P19 100 Tryd.func19 rfl (by kernel_rfl) ?_
    refine fun _ => fun _ => SW.rounds gTok P19 (by kernel_rfl) (N := 60) 3 ?_
    refine And.intro (fun _ => ?_) (fun h => absurd (show (0 : Int) < 2 by decide) h)
    refine ⟨T, [a, b], tpv, rfl, (show (0 : Int) ≤ 0 by decide), (show (0 : Int) < 2 by decide), fun x hx => ?_⟩
    obtain rfl : a = x := Option.some.inj hx
    refine And.intro (fun h => absurd (show most < 1 from h) (by omega)) (fun _ => ?_)
    refine ⟨[], nofun, iha.use ⟨⟨rfl, rfl, rfl, trivial⟩, rfl, trivial⟩ rfl rfl ?_⟩
    refine ⟨show 1 + (a.nodes.map nP).length ≤ maxLen by rw [el]; unfold maxLen; omega, show (1 + (a.nodes.map nP).length) * 24 ≤ 140737488355328 by rw [el]; omega, ?_⟩
    refine And.intro (fun _ => ?_) (fun h => absurd (show (1 : Int) < 2 by decide) h)
    refine ⟨T, [a, b], tpv, rfl, (show (0 : Int) ≤ 1 by decide), (show (1 : Int) < 2 by decide), fun x hx => ?_⟩
    obtain rfl : b = x := Option.some.inj hx
    have e1 : ([nP (o, n, 2)] ++ a.nodes.map nP).length = 1 + a.size := by rw [List.length_append, el]; rfl
    refine fun _ => And.intro (fun h => absurd (show most < (([nP (o, n, 2)] ++ a.nodes.map nP).length : Int) from h) (by rw [e1]; omega)) (fun _ => ?_)
    refine ⟨[], nofun, ihb.use ⟨⟨rfl, rfl, rfl, trivial⟩, rfl, trivial⟩ rfl rfl ?_⟩
    refine ⟨show ([nP (o, n, 2)] ++ a.nodes.map nP).length + (b.nodes.map nP).length ≤ maxLen by rw [e1, el2]; unfold maxLen; omega, show (([nP (o, n, 2)] ++ a.nodes.map nP).length + (b.nodes.map nP).length) * 24 ≤ 140737488355328 by rw [e1, el2]; omega, ?_⟩
    refine And.intro (fun h => absurd (show (2 : Int) < 2 from h) (by decide)) (fun _ => ?_)
    refine retE ?_
    exact (show ([nP (o, n, 2)] ++ a.nodes.map nP) ++ b.nodes.map nP = _ by simp [T.nodes])

set_option maxRecDepth 10000 in
theorem count_pure : ∀ t : T, t.size ≤ 1000000 → PureF gT 27 [tpv t] (.int .i64 t.size)
  | .leaf o n, hs => by
    refine Spec.enter gTok P27 100 Tryd.func27 rfl (by kernel_rfl) ?_
    refine fun _ => SW.rounds gTok P27 (by kernel_rfl) (N := 60) 3 ?_
    refine And.intro (fun h => absurd (show (0 : Int) < 0 from h) (by decide)) (fun _ => ?_)
    exact retE rfl
  | .one o n a, hs => by
    have sz : (T.one o n a).size = 1 + a.size := rfl
    have iha := count_pure a (by omega)
    refine Spec.enter gTok P27 100 Tryd.func27 rfl (by kernel_rfl) ?_
    refine fun _ => SW.rounds gTok P27 (by kernel_rfl) (N := 60) 3 ?_
    refine And.intro (fun _ => ?_) (fun h => absurd (show (0 : Int) < 1 by decide) h)
    refine ⟨T, [a], tpv, rfl, (show (0 : Int) ≤ 0 by decide), (show (0 : Int) < 1 by decide), fun x hx => ?_⟩
    obtain rfl : a = x := Option.some.inj hx
    refine ⟨[], nofun, iha.use ⟨⟨rfl, rfl, rfl, trivial⟩, trivial⟩ rfl rfl ?_⟩
    refine .inl ⟨inR_i64 (by omega), ?_⟩
    refine And.intro (fun h => absurd (show (1 : Int) < 1 from h) (by decide)) (fun _ => ?_)
    refine retE ?_
    exact (show (1 : Int) + a.size = ((T.one o n a).size : Nat) by omega)
  | .two o n a b, hs => by
    have sz : (T.two o n a b).size = 1 + a.size + b.size := rfl
    have iha := count_pure a (by omega)
    have ihb := count_pure b (by omega)
    refine Spec.enter gTok P27 100 Tryd.func27 rfl (by kernel_rfl) ?_
    refine fun _ => SW.rounds gTok P27 (by kernel_rfl) (N := 60) 3 ?_
    refine And.intro (fun _ => ?_) (fun h => absurd (show (0 : Int) < 2 by decide) h)
    refine ⟨T, [a, b], tpv, rfl, (show (0 : Int) ≤ 0 by decide), (show (0 : Int) < 2 by decide), fun x hx => ?_⟩
    obtain rfl : a = x := Option.some.inj hx
    refine ⟨[], nofun, iha.use ⟨⟨rfl, rfl, rfl, trivial⟩, trivial⟩ rfl rfl ?_⟩
    refine .inl ⟨inR_i64 (by omega), ?_⟩
    refine And.intro (fun _ => ?_) (fun h => absurd (show (1 : Int) < 2 by decide) h)
    refine ⟨T, [a, b], tpv, rfl, (show (0 : Int) ≤ 1 by decide), (show (1 : Int) < 2 by decide), fun x hx => ?_⟩
    obtain rfl : b = x := Option.some.inj hx
    refine ⟨[], nofun, ihb.use ⟨⟨rfl, rfl, rfl, trivial⟩, trivial⟩ rfl rfl ?_⟩
    refine .inl ⟨inR_i64 (by omega), ?_⟩
    refine And.intro (fun h => absurd (show (2 : Int) < 2 from h) (by decide)) (fun _ => ?_)
    refine retE ?_
    exact (show (1 : Int) + a.size + b.size = ((T.two o n a b).size : Nat) by omega)

end Go.Proofs.YtnjmfedleimlmaaDoor.Pw

/- Chapter 11 over values: Right. -/
namespace Go.Proofs.YtnjmfedleimlmaaDoor.Pw
open Go Go.RowKit

theorem needs_pureT (op : Int) : PureF gT 74 [.int .i64 op] (.int .i64 (needsT op)) := by
  refine Spec.enter gTok P74 100 Tryd.func74 rfl (by kernel_rfl) ?_
  repeat' refine And.intro (fun _ => ?_) (fun _ => ?_)
  all_goals (refine retE ?_; unfold needsT; show _ = _; (repeat' split) <;> omega)
theorem needsT_eq {op : Int} (h1 : 1 ≤ op) (h2 : op ≤ 17) : needsT op = needsN op := by
  unfold needsT needsN
  rw [if_neg (show ¬ (op < 1 ∨ 17 < op) by omega)]
  by_cases k1 : op ≤ 2
  · rw [if_pos k1, if_pos (show op < 3 by omega)]
  · rw [if_neg k1, if_neg (show ¬ op < 3 by omega)]
    by_cases k2 : op ≤ 4
    · rw [if_pos k2, if_pos (show op < 5 by omega)]
    · rw [if_neg k2, if_neg (show ¬ op < 5 by omega)]
theorem root_iff (t : T) : t.root = true ↔ 1 ≤ t.op ∧ t.op ≤ 17 ∧ needsN t.op = t.kids ∧ (2 < t.op → t.num = 0) ∧ (t.op = 2 → t.num ≤ 255) := by
  cases t <;> exact decide_eq_true_iff
theorem kidsP_len (t : T) : ((kidsP t).length : Int) = (t.kids : Nat) := by cases t <;> rfl
theorem shaped_root {t : T} (h : t.shaped = true) : t.root = true ∧ t.kidsOk = true := by rw [T.shaped_eq, Bool.and_eq_true] at h; exact h
def sClo : PV := .clo 76 []

set_option maxRecDepth 10000 in
theorem shaped_step (t : T) (hn : 0 ≤ t.num ∧ t.num ≤ 4294967295) (hc : PureF gT 75 [.sl 3 (kidsP t), sClo] (.bool (¬ t.kidsOk = true))) : PureF gT 50 [tpv t] (.bool (t.shaped = true)) := by
  have hk := kidsP_len t
  have bad : ∀ {p : Prop}, (1 ≤ t.op → t.op ≤ 17 → needsT t.op = (kidsP t).length → (2 < t.op → t.num = 0) → (t.op = 2 → t.num ≤ 255) → False) → t.shaped = true → p := fun h hs => by
    have hr := (root_iff t).1 (shaped_root hs).1
    exact absurd hr.2.2.2.2 (fun h5 => h hr.1 hr.2.1 (by rw [needsT_eq hr.1 hr.2.1, hk]; exact hr.2.2.1) hr.2.2.2.1 h5)
  refine Spec.enter gTok P50 100 Tryd.func50 rfl (by kernel_rfl) ?_
  refine And.intro (fun h1 => ?_) (fun h1 => And.intro (fun h2 => ?_) (fun h2 => ?_))
  · refine retE ?_
    exact fun hs => bad (by omega) hs
  · refine retE ?_
    exact fun hs => bad (by omega) hs
  refine fun _ => ?_
  refine ⟨[], nofun, (needs_pureT t.op).use ⟨rfl, trivial⟩ rfl rfl ?_⟩
  have fin_ : ∀ (h3 : ¬ ¬ ((kidsP t).length : Int) = needsT t.op) (h4 : 2 < t.op → t.num = 0) (h5 : t.op = 2 → t.num ≤ 255), (¬ ¬ t.kidsOk = true ↔ t.shaped = true) := fun h3 h4 h5 => by
    have hr : t.root = true := (root_iff t).2 ⟨by omega, by omega, by rw [← needsT_eq (by omega) (by omega), ← hk]; omega, h4, h5⟩
    rw [T.shaped_eq, hr, Bool.true_and]; exact Classical.not_not
  refine And.intro (fun h3 => ?_) (fun h3 => And.intro (fun h4 => And.intro (fun h5 => ?_) (fun h5 => And.intro (fun h6 => ?_) (fun h6 => ?_))) (fun h4 => And.intro (fun h6 => And.intro (fun h7 => ?_) (fun h7 => ?_)) (fun h6 => ?_)))
  · refine retE ?_
    exact fun hs => bad (by omega) hs
  · refine retE ?_
    exact fun hs => bad (by omega) hs
  · exact absurd h6 (by omega)
  · refine ⟨[], nofun, hc.use ⟨rfl, trivial, trivial⟩ rfl rfl ?_⟩
    refine retE ?_
    exact fin_ h3 (by omega) (by omega)
  · refine retE ?_
    exact fun hs => bad (by omega) hs
  · refine ⟨[], nofun, hc.use ⟨rfl, trivial, trivial⟩ rfl rfl ?_⟩
    refine retE ?_
    exact fin_ h3 (by omega) (by omega)
  · refine ⟨[], nofun, hc.use ⟨rfl, trivial, trivial⟩ rfl rfl ?_⟩
    refine retE ?_
    exact fin_ h3 (by omega) (by omega)

end Go.Proofs.YtnjmfedleimlmaaDoor.Pw

/- Chapter 11 over values: Right, the rest. -/
namespace Go.Proofs.YtnjmfedleimlmaaDoor.Pw
open Go Go.RowKit

theorem shaped1_pure (a : T) (ha : PureF gT 50 [tpv a] (.bool (a.shaped = true))) : PureF gT 76 [tpv a] (.bool (¬ a.shaped = true)) := by
  refine Spec.enter gTok P76 100 Tryd.func76 rfl (by kernel_rfl) ?_
  refine ⟨[], nofun, ha.use ⟨⟨rfl, rfl, rfl, trivial⟩, trivial⟩ rfl rfl ?_⟩
  exact retE Iff.rfl
def idxT : T → Int
  | .leaf .. => -1
  | .one _ _ a => if a.shaped then -1 else 0
  | .two _ _ a b => if a.shaped then (if b.shaped then -1 else 1) else 0
theorem idxT_iff (t : T) : 0 ≤ idxT t ↔ ¬ t.kidsOk = true := by
  cases t with
  | leaf => simp [idxT, T.kidsOk]
  | one o n a => cases h : a.shaped <;> simp [idxT, T.kidsOk, h]
  | two o n a b => cases h : a.shaped <;> cases h2 : b.shaped <;> simp [idxT, T.kidsOk, h, h2]
theorem contains_pure (t : T) (hi : PureF gT 98 [.sl 3 (kidsP t), sClo] (.int .i64 (idxT t))) : PureF gT 75 [.sl 3 (kidsP t), sClo] (.bool (¬ t.kidsOk = true)) := by
  refine Spec.enter gTok P75 100 Tryd.func75 rfl (by kernel_rfl) ?_
  refine ⟨[], nofun, hi.use ⟨rfl, trivial, trivial⟩ rfl rfl ?_⟩
  exact retE (idxT_iff t)

set_option maxRecDepth 10000 in
theorem index_leaf (o n : Int)   : PureF gT 98 [.sl 3 (kidsP (.leaf o n )), sClo] (.int .i64 (idxT (.leaf o n ))) := by
  refine Spec.enter gTok P98 100 Tryd.func98 rfl (by kernel_rfl) ?_
  refine fun _ => SW.rounds gTok P98 (by kernel_rfl) (N := 60) 3 ?_
  refine And.intro (fun h => absurd (show (0 : Int) < 0 from h) (by decide)) (fun _ => ?_)
  refine retE ?_
  exact (show (-1 : Int) = idxT _ by simp [idxT])

set_option maxRecDepth 10000 in
theorem index_one (o n : Int) (a : T) (ha : PureF gT 76 [tpv a] (.bool (¬ a.shaped = true))) : PureF gT 98 [.sl 3 (kidsP (.one o n a)), sClo] (.int .i64 (idxT (.one o n a))) := by
  refine Spec.enter gTok P98 100 Tryd.func98 rfl (by kernel_rfl) ?_
  refine fun _ => SW.rounds gTok P98 (by kernel_rfl) (N := 60) 3 ?_
  refine And.intro (fun _ => ?_) (fun h => absurd (show (0 : Int) < 1 by decide) h)
  refine ⟨T, [a], tpv, rfl, (show (0 : Int) ≤ 0 by decide), (show (0 : Int) < 1 by decide), fun x hx => ?_⟩
  obtain rfl : a = x := Option.some.inj hx
  refine ⟨[], nofun, ha.use ⟨⟨rfl, rfl, rfl, trivial⟩, trivial⟩ rfl rfl ?_⟩
  refine And.intro (fun s0 => ?_) (fun s0 => ?_)
  · refine retE ?_
    exact (show (0 : Int) = idxT _ by simp [idxT, s0])
  replace s0 := Classical.not_not.1 s0
  refine And.intro (fun h => absurd (show (1 : Int) < 1 from h) (by decide)) (fun _ => ?_)
  refine retE ?_
  exact (show (-1 : Int) = idxT _ by simp [idxT, s0])

set_option maxRecDepth 10000 in
theorem index_two (o n : Int) (a b : T) (ha : PureF gT 76 [tpv a] (.bool (¬ a.shaped = true))) (hb : PureF gT 76 [tpv b] (.bool (¬ b.shaped = true))) : PureF gT 98 [.sl 3 (kidsP (.two o n a b)), sClo] (.int .i64 (idxT (.two o n a b))) := by
  refine Spec.enter gTok P98 100 Tryd.func98 rfl (by kernel_rfl) ?_
  refine fun _ => SW.rounds gTok P98 (by kernel_rfl) (N := 60) 3 ?_
  refine And.intro (fun _ => ?_) (fun h => absurd (show (0 : Int) < 2 by decide) h)
  refine ⟨T, [a, b], tpv, rfl, (show (0 : Int) ≤ 0 by decide), (show (0 : Int) < 2 by decide), fun x hx => ?_⟩
  obtain rfl : a = x := Option.some.inj hx
  refine ⟨[], nofun, ha.use ⟨⟨rfl, rfl, rfl, trivial⟩, trivial⟩ rfl rfl ?_⟩
  refine And.intro (fun s0 => ?_) (fun s0 => ?_)
  · refine retE ?_
    exact (show (0 : Int) = idxT _ by simp [idxT, s0])
  replace s0 := Classical.not_not.1 s0
  refine And.intro (fun _ => ?_) (fun h => absurd (show (1 : Int) < 2 by decide) h)
  refine ⟨T, [a, b], tpv, rfl, (show (0 : Int) ≤ 1 by decide), (show (1 : Int) < 2 by decide), fun x hx => ?_⟩
  obtain rfl : b = x := Option.some.inj hx
  refine ⟨[], nofun, hb.use ⟨⟨rfl, rfl, rfl, trivial⟩, trivial⟩ rfl rfl ?_⟩
  refine And.intro (fun s1 => ?_) (fun s1 => ?_)
  · refine retE ?_
    exact (show (1 : Int) = idxT _ by simp [idxT, s0, s1])
  replace s1 := Classical.not_not.1 s1
  refine And.intro (fun h => absurd (show (2 : Int) < 2 from h) (by decide)) (fun _ => ?_)
  refine retE ?_
  exact (show (-1 : Int) = idxT _ by simp [idxT, s0, s1])

theorem shaped_pure : ∀ t : T, t.Wf → PureF gT 50 [tpv t] (.bool (t.shaped = true))
  | .leaf o n, h => shaped_step _ h (contains_pure _ (index_leaf o n))
  | .one o n a, h => shaped_step _ h.1 (contains_pure _ (index_one o n a (shaped1_pure a (shaped_pure a h.2))))
  | .two o n a b, h => shaped_step _ h.1 (contains_pure _ (index_two o n a b (shaped1_pure a (shaped_pure a h.2.1)) (shaped1_pure b (shaped_pure b h.2.2))))
theorem right_pure (t : T) (h : t.Wf) (hs : t.size ≤ 16384) : PureF gT 25 [tpv t] (.bool (t.shaped = true)) := by
  refine Spec.enter gTok P25 100 Tryd.func25 rfl (by kernel_rfl) ?_
  refine ⟨[], nofun, (count_pure t (by omega)).use ⟨⟨rfl, rfl, rfl, trivial⟩, trivial⟩ rfl rfl ?_⟩
  refine And.intro (fun _ => ?_) (fun h => absurd (show (t.size : Int) ≤ 16384 by omega) h)
  refine ⟨[], nofun, (shaped_pure t h).use ⟨⟨rfl, rfl, rfl, trivial⟩, trivial⟩ rfl rfl ?_⟩
  exact retE Iff.rfl

end Go.Proofs.YtnjmfedleimlmaaDoor.Pw

/- Chapter 11 over values: Put. -/
namespace Go.Proofs.YtnjmfedleimlmaaDoor.Pw
open Go Go.RowKit

def putT (l : List T) : T → T
  | .leaf o n => if o = 2 ∧ n < l.length then (l[n.toNat]?).getD (.leaf o n) else .leaf o n
  | .one o n a => if o = 2 ∧ n < l.length then (l[n.toNat]?).getD (.leaf o n) else .one o n (putT l a)
  | .two o n a b => if o = 2 ∧ n < l.length then (l[n.toNat]?).getD (.leaf o n) else .two o n (putT l a) (putT l b)

theorem putT_var {l : List T} {t x : T} (h1 : t.op = 2) (h2 : t.num < l.length) (hx : l[t.num.toNat]? = some x) : putT l t = x := by
  cases t <;> (unfold putT; simp only [T.op, T.num] at h1 h2 hx; rw [if_pos ⟨h1, h2⟩, hx]; rfl)
theorem le_tpv (x : T) {y : T} (h : y = x) : leK (.agg [.int .i64 x.op, .int .u32 x.num, .sl 3 (kidsP x)]) (tpv y) := by subst h; exact ⟨rfl, rfl, rfl, trivial⟩

set_option maxRecDepth 10000 in
theorem put_pure (l : List T) (hl : l.length ≤ maxLen) : ∀ t : T, t.Wf → PureF gT 20 [tpv t, .sl 3 (l.map tpv)] (tpv (putT l t))
  | .leaf o n, hwf => by
    have hn : 0 ≤ n ∧ n ≤ 4294967295 := hwf
    have hf : ¬ (o = 2 ∧ n < l.length) → putT l (.leaf o n) = .leaf o n := fun h => by unfold putT; rw [if_neg h]
    refine Spec.enter gTok P20 100 Tryd.func20 rfl (by kernel_rfl) ?_
    refine And.intro (fun h1 => ?_) (fun h1 => ?_)
    · refine .inl ⟨inR_i64 (by show _ ≤ n ∧ n ≤ _; omega), fun hm => And.intro (fun h2 => ?_) (fun h2 => ?_)⟩
      · rw [List.length_map] at h2
        exact ⟨_, l, tpv, rfl, hn.1, h2, fun x hx => retE (le_tpv x (putT_var h1 h2 hx))⟩
      · rw [List.length_map] at h2
        rw [hf fun h => h2 h.2]
        refine fun _ => SW.rounds gTok P20 (by kernel_rfl) (N := 60) 3 ?_
        refine And.intro (fun h => absurd h (by simp [kidsP])) (fun _ => ?_)
        exact retE ⟨rfl, rfl, rfl, trivial⟩
    · rw [hf fun h => h1 h.1]
      refine fun _ => SW.rounds gTok P20 (by kernel_rfl) (N := 60) 3 ?_
      refine And.intro (fun h => absurd h (by simp [kidsP])) (fun _ => ?_)
      exact retE ⟨rfl, rfl, rfl, trivial⟩
  | .one o n a, hwf => by
    have hn : 0 ≤ n ∧ n ≤ 4294967295 := hwf.1
    have iha := put_pure l hl a hwf.2
    have hf : ¬ (o = 2 ∧ n < l.length) → putT l (.one o n a) = .one o n (putT l a) := fun h => by
      rw [putT.eq_def]; simp only; rw [if_neg h]
    refine Spec.enter gTok P20 100 Tryd.func20 rfl (by kernel_rfl) ?_
    refine And.intro (fun h1 => ?_) (fun h1 => ?_)
    · refine .inl ⟨inR_i64 (by show _ ≤ n ∧ n ≤ _; omega), fun hm => And.intro (fun h2 => ?_) (fun h2 => ?_)⟩
      · rw [List.length_map] at h2
        exact ⟨_, l, tpv, rfl, hn.1, h2, fun x hx => retE (le_tpv x (putT_var h1 h2 hx))⟩
      · rw [List.length_map] at h2
        rw [hf fun h => h2 h.2]
        refine fun _ => SW.rounds gTok P20 (by kernel_rfl) (N := 60) 3 ?_
        refine And.intro (fun _ => ?_) (fun h => absurd (show (0 : Int) < 1 by decide) h)
        refine ⟨T, [a], tpv, rfl, (show (0 : Int) ≤ 0 by decide), (show (0 : Int) < 1 by decide), fun x hx => ?_⟩
        obtain rfl : a = x := Option.some.inj hx
        refine ⟨[], nofun, iha.use ⟨⟨rfl, rfl, rfl, trivial⟩, rfl, trivial⟩ rfl rfl ?_⟩
        refine And.intro (fun h => absurd (show (1 : Int) < 1 from h) (by decide)) (fun _ => ?_)
        refine retE ?_
        exact ⟨rfl, rfl, rfl, trivial⟩
    · rw [hf fun h => h1 h.1]
      refine fun _ => SW.rounds gTok P20 (by kernel_rfl) (N := 60) 3 ?_
      refine And.intro (fun _ => ?_) (fun h => absurd (show (0 : Int) < 1 by decide) h)
      refine ⟨T, [a], tpv, rfl, (show (0 : Int) ≤ 0 by decide), (show (0 : Int) < 1 by decide), fun x hx => ?_⟩
      obtain rfl : a = x := Option.some.inj hx
      refine ⟨[], nofun, iha.use ⟨⟨rfl, rfl, rfl, trivial⟩, rfl, trivial⟩ rfl rfl ?_⟩
      refine And.intro (fun h => absurd (show (1 : Int) < 1 from h) (by decide)) (fun _ => ?_)
      refine retE ?_
      exact ⟨rfl, rfl, rfl, trivial⟩
  | .two o n a b, hwf => by
    have hn : 0 ≤ n ∧ n ≤ 4294967295 := hwf.1
    have iha := put_pure l hl a hwf.2.1
    have ihb := put_pure l hl b hwf.2.2
    have hf : ¬ (o = 2 ∧ n < l.length) → putT l (.two o n a b) = .two o n (putT l a) (putT l b) := fun h => by
      rw [putT.eq_def]; simp only; rw [if_neg h]
    refine Spec.enter gTok P20 100 Tryd.func20 rfl (by kernel_rfl) ?_
    refine And.intro (fun h1 => ?_) (fun h1 => ?_)
    · refine .inl ⟨inR_i64 (by show _ ≤ n ∧ n ≤ _; omega), fun hm => And.intro (fun h2 => ?_) (fun h2 => ?_)⟩
      · rw [List.length_map] at h2
        exact ⟨_, l, tpv, rfl, hn.1, h2, fun x hx => retE (le_tpv x (putT_var h1 h2 hx))⟩
      · rw [List.length_map] at h2
        rw [hf fun h => h2 h.2]
        refine fun _ => SW.rounds gTok P20 (by kernel_rfl) (N := 60) 3 ?_
        refine And.intro (fun _ => ?_) (fun h => absurd (show (0 : Int) < 2 by decide) h)
        refine ⟨T, [a, b], tpv, rfl, (show (0 : Int) ≤ 0 by decide), (show (0 : Int) < 2 by decide), fun x hx => ?_⟩
        obtain rfl : a = x := Option.some.inj hx
        refine ⟨[], nofun, iha.use ⟨⟨rfl, rfl, rfl, trivial⟩, rfl, trivial⟩ rfl rfl ?_⟩
        refine And.intro (fun _ => ?_) (fun h => absurd (show (1 : Int) < 2 by decide) h)
        refine ⟨T, [a, b], tpv, rfl, (show (0 : Int) ≤ 1 by decide), (show (1 : Int) < 2 by decide), fun x hx => ?_⟩
        obtain rfl : b = x := Option.some.inj hx
        refine ⟨[], nofun, ihb.use ⟨⟨rfl, rfl, rfl, trivial⟩, rfl, trivial⟩ rfl rfl ?_⟩
        refine And.intro (fun h => absurd (show (2 : Int) < 2 from h) (by decide)) (fun _ => ?_)
        refine retE ?_
        exact ⟨rfl, rfl, rfl, trivial⟩
    · rw [hf fun h => h1 h.1]
      refine fun _ => SW.rounds gTok P20 (by kernel_rfl) (N := 60) 3 ?_
      refine And.intro (fun _ => ?_) (fun h => absurd (show (0 : Int) < 2 by decide) h)
      refine ⟨T, [a, b], tpv, rfl, (show (0 : Int) ≤ 0 by decide), (show (0 : Int) < 2 by decide), fun x hx => ?_⟩
      obtain rfl : a = x := Option.some.inj hx
      refine ⟨[], nofun, iha.use ⟨⟨rfl, rfl, rfl, trivial⟩, rfl, trivial⟩ rfl rfl ?_⟩
      refine And.intro (fun _ => ?_) (fun h => absurd (show (1 : Int) < 2 by decide) h)
      refine ⟨T, [a, b], tpv, rfl, (show (0 : Int) ≤ 1 by decide), (show (1 : Int) < 2 by decide), fun x hx => ?_⟩
      obtain rfl : b = x := Option.some.inj hx
      refine ⟨[], nofun, ihb.use ⟨⟨rfl, rfl, rfl, trivial⟩, rfl, trivial⟩ rfl rfl ?_⟩
      refine And.intro (fun h => absurd (show (2 : Int) < 2 from h) (by decide)) (fun _ => ?_)
      refine retE ?_
      exact ⟨rfl, rfl, rfl, trivial⟩

end Go.Proofs.YtnjmfedleimlmaaDoor.Pw

/- What comes in to chapter 11's laws, opened; the table of all words. -/
namespace Go.Proofs.YtnjmfedleimlmaaDoor.Pw
open Go Go.RowKit

def NodeOk (y : Int × Int) : Prop := (-9223372036854775808 ≤ y.1 ∧ y.1 ≤ 9223372036854775807) ∧ 0 ≤ y.2 ∧ y.2 ≤ 4294967295
def U32Ok (v : Int) : Prop := 0 ≤ v ∧ v ≤ 4294967295
theorem inR_u32' {z : Int} (h : InR .u32 z) : 0 ≤ z ∧ z ≤ 4294967295 := by unfold InR Ev.kmin Ev.kmax at h; simp only [IntKind.signed, IntKind.bits] at h; simpa using h
theorem inR_i64' {z : Int} (h : InR .i64 z) : -9223372036854775808 ≤ z ∧ z ≤ 9223372036854775807 := by unfold InR Ev.kmin Ev.kmax at h; simp only [IntKind.signed, IntKind.bits] at h; simpa using h
set_option maxRecDepth 100000 in
theorem opNodes : Op Tryd.prog 22 (SLs 2 16 nodeP NodeOk) :=
  opList (opSlice (opAgg (Ss := [SInt .i64, SInt .u32]) Tryd.underlying115 ⟨rfl, opInt Tryd.underlying3 (by kernel_rfl), (show _ = _ by kernel_rfl), opInt Tryd.underlying25 (by kernel_rfl), (show _ = _ by kernel_rfl)⟩) 2 16 (by kernel_rfl) Tryd.underlying22 (by kernel_rfl) (by decide) (by kernel_rfl)) fun x ⟨xs, h, e⟩ => by
    obtain ⟨_, _, rfl, ⟨a, ha, rfl⟩, h1⟩ := all2_cons h
    obtain ⟨_, _, rfl, ⟨b, hb, rfl⟩, h2⟩ := all2_cons h1
    obtain rfl := all2_nil h2
    exact ⟨(a, b), ⟨inR_i64' ha, inR_u32' hb⟩, e⟩
theorem opWords : Op Tryd.prog 23 (SLs 1 4 (PV.int .u32) U32Ok) :=
  opList (opSlice (opInt Tryd.underlying25 (by kernel_rfl)) 1 4 (by kernel_rfl) Tryd.underlying23 (by kernel_rfl) (by decide) (by kernel_rfl)) fun x ⟨a, ha, e⟩ => ⟨a, inR_u32' ha, e⟩
theorem immT {W : World} (h : laidMetH Tryd.prog termLaid.laidList W) : ImmOk gT (In W) W :=
  immOk_laid (laid := termLaid.laidList) (by kernel_rfl) h fun x hx => by
    obtain rfl : x = (0, [.lit .u32 0, .lit .u32 4294967295]) := List.mem_singleton.1 hx
    exact ⟨"remontoire/term.all", _, 85, List.mem_singleton.2 rfl, by kernel_rfl, by kernel_rfl, by kernel_rfl, nofun⟩

end Go.Proofs.YtnjmfedleimlmaaDoor.Pw

/- TermPuts over values. -/
namespace Go.Proofs.YtnjmfedleimlmaaDoor.Pw
open Go Go.RowKit

theorem ofOk_wf {l : List (Int × Int)} (h : ¬ ¬ ofOk l = true) : (ofX l).shaped = true := (ofOk_shaped (Classical.not_not.1 h)).2

theorem putT_wf {l : List T} (hl : ∀ t ∈ l, t.Wf) : ∀ {t : T}, t.Wf → (putT l t).Wf
  | .leaf o n, h => by
    unfold putT
    split
    · cases hx : l[n.toNat]? with
      | none => exact h
      | some x => exact hl x (List.mem_of_getElem? hx)
    · exact h
  | .one o n a, h => by
    unfold putT
    split
    · cases hx : l[n.toNat]? with
      | none => exact h.1
      | some x => exact hl x (List.mem_of_getElem? hx)
    · exact ⟨h.1, putT_wf hl h.2⟩
  | .two o n a b, h => by
    unfold putT
    split
    · cases hx : l[n.toNat]? with
      | none => exact h.1
      | some x => exact hl x (List.mem_of_getElem? hx)
    · exact ⟨h.1, putT_wf hl h.2.1, putT_wf hl h.2.2⟩
set_option maxRecDepth 10000 in
/-- what is put has the values of its words -/
theorem put_eval {x y : T} {v u : Int} {ws : List Int} (hv : x.evalT ws = some v) (hu : y.evalT ws = some u) : ∀ {t : T}, t.shaped = true → t.Wf → (putT [x, y] t).evalT ws = t.evalT (v :: u :: ws.drop 2)
  | .leaf o n, hs, hwf => by
    have hn : 0 ≤ n ∧ n ≤ 4294967295 := hwf
    unfold putT
    simp only [T.evalT, List.length_cons, List.length_nil]
    unfold leafV
    split
    · rename_i h
      obtain ⟨rfl, h2⟩ := h
      have h01 : n = 0 ∨ n = 1 := by omega
      rcases h01 with rfl | rfl
      · simpa using hv
      · simpa using hu
    · rename_i h
      simp only [T.evalT]
      unfold leafV
      split
      · rfl
      · rename_i h1
        have ho : o = 2 := by
          simp only [T.shaped, goodN, decide_eq_true_eq, needsN] at hs
          obtain ⟨h2, h3, h4, _⟩ := hs
          by_cases k1 : o < 1 ∨ 17 < o
          · omega
          · rw [if_neg k1] at h4
            by_cases k2 : o < 3
            · omega
            · rw [if_neg k2] at h4
              by_cases k3 : o < 5
              · rw [if_pos k3] at h4; omega
              · rw [if_neg k3] at h4; omega
        subst ho
        obtain ⟨k, rfl⟩ : ∃ k : Nat, n = k + 2 := ⟨(n - 2).toNat, by omega⟩
        rw [show ((k : Int) + 2).toNat = k + 1 + 1 by omega, List.getElem?_cons_succ, List.getElem?_cons_succ, List.getElem?_drop, show 2 + k = k + 1 + 1 by omega]
  | .one o n a, hs, hwf => by
    obtain ⟨ho, ha⟩ := shaped_one hs
    unfold putT
    rw [if_neg (by omega)]
    simp only [T.evalT]
    rw [put_eval hv hu ha hwf.2]
  | .two o n a b, hs, hwf => by
    obtain ⟨ho, ha, hb⟩ := shaped_two hs
    unfold putT
    rw [if_neg (by omega)]
    simp only [T.evalT]
    rw [put_eval hv hu ha hwf.2.1, put_eval hv hu hb hwf.2.2]

set_option maxRecDepth 10000 in
theorem TermPuts_pure (la lb lc : List (Int × Int)) (ws : List Int) (ha : la.length ≤ maxLen) (hb : lb.length ≤ maxLen) (hc : lc.length ≤ maxLen) (hw : WordsOk ws) (hw4 : ws.length * 4 ≤ reachBytes) (wa : (ofX la).Wf) (wb : (ofX lb).Wf) (wc : (ofX lc).Wf) :
    PureF gT 5 [.sl 2 (la.map nodeP), .sl 2 (lb.map nodeP), .sl 2 (lc.map nodeP), .sl 1 (wordsP ws)] .tt := by
  refine Spec.enter gTok P5 100 Tryd.func5 rfl (by kernel_rfl) ?_
  refine ⟨[], nofun, anchor_pure.use trivial rfl rfl ?_⟩
  refine ⟨[], nofun, (of_pure la ha).use ⟨rfl, trivial⟩ rfl rfl ?_⟩
  refine ⟨[], nofun, (of_pure lb hb).use ⟨rfl, trivial⟩ rfl rfl ?_⟩
  refine ⟨[], nofun, (of_pure lc hc).use ⟨rfl, trivial⟩ rfl rfl ?_⟩
  refine And.intro (fun h1 => ?_) (fun h1 => And.intro (fun h2 => ?_) (fun h2 => And.intro (fun h3 => ?_) (fun h3 => ?_)))
  · exact retE trivial
  · exact retE trivial
  · exact retE trivial
  have ta := ofOk_wf h1
  refine ⟨[], nofun, (eval_pure ws hw _ wb).use ⟨⟨rfl, rfl, rfl, trivial⟩, rfl, trivial⟩ rfl rfl ?_⟩
  refine ⟨[], nofun, (eval_pure ws hw _ wc).use ⟨⟨rfl, rfl, rfl, trivial⟩, rfl, trivial⟩ rfl rfl ?_⟩
  refine And.intro (fun h4 => ?_) (fun h4 => And.intro (fun h5 => ?_) (fun h5 => ?_))
  · exact retE trivial
  · exact retE trivial
  obtain ⟨v, hv⟩ : ∃ v, (ofX lb).evalT ws = some v := Option.isSome_iff_exists.1 (Classical.not_not.1 h4)
  obtain ⟨u, hu⟩ : ∃ v, (ofX lc).evalT ws = some v := Option.isSome_iff_exists.1 (Classical.not_not.1 h5)
  refine fun hm => ?_
  have hwl : (wordsP ws).length = ws.length := List.length_map ..
  refine ⟨show (0 : Int) ≤ min 2 ((wordsP ws).length : Int) by omega, show min 2 ((wordsP ws).length : Int) ≤ ((wordsP ws).length : Int) by omega, Int.le_refl _, ?_⟩
  have hlen : (List.take (((wordsP ws).length : Int) - min 2 ((wordsP ws).length : Int)).toNat (List.drop (min 2 ((wordsP ws).length : Int)).toNat (wordsP ws))).length = ws.length - min 2 ws.length := by
    rw [List.length_take, List.length_drop, hwl]; omega
  have hel : List.take (((wordsP ws).length : Int) - min 2 ((wordsP ws).length : Int)).toNat (List.drop (min 2 ((wordsP ws).length : Int)).toNat (wordsP ws)) = wordsP (ws.drop 2) := by
    rw [List.take_of_length_le (by rw [List.length_drop, hwl]; omega), hwl]
    unfold wordsP
    rw [← List.map_drop]
    congr 1
    rcases Nat.lt_or_ge ws.length 2 with h | h
    · rw [List.drop_eq_nil_of_le (by omega), List.drop_eq_nil_of_le (by omega)]
    · congr 1; omega
  refine ⟨show 2 + (List.take (((wordsP ws).length : Int) - min 2 ((wordsP ws).length : Int)).toNat (List.drop (min 2 ((wordsP ws).length : Int)).toNat (wordsP ws))).length ≤ maxLen by rw [hlen]; have := hw.1; unfold maxLen; omega,
    show (2 + (List.take (((wordsP ws).length : Int) - min 2 ((wordsP ws).length : Int)).toNat (List.drop (min 2 ((wordsP ws).length : Int)).toNat (wordsP ws))).length) * 4 ≤ 140737488355328 by rw [hlen]; unfold reachBytes at hw4; omega, ?_⟩
  refine ⟨[], nofun, (put_pure [ofX lb, ofX lc] (show 2 ≤ maxLen by unfold maxLen; omega) _ wa).useF [5] rfl ⟨⟨rfl, rfl, rfl, trivial⟩, .inl rfl, trivial⟩ rfl rfl ?_⟩
  have hpw : (putT [ofX lb, ofX lc] (ofX la)).Wf := putT_wf (by intro t ht; simp only [List.mem_cons, List.not_mem_nil, or_false] at ht; rcases ht with rfl | rfl <;> assumption) wa
  refine ⟨[], nofun, (eval_pure ws hw _ hpw).use ⟨⟨rfl, rfl, rfl, trivial⟩, rfl, trivial⟩ rfl rfl ?_⟩
  have hv0 := T.evalT_bd hw wb hv
  have hu0 := T.evalT_bd hw wc hu
  have hw2 : WordsOk (v :: u :: ws.drop 2) := by
    refine ⟨by have := hw.1; rw [List.length_cons, List.length_cons, List.length_drop]; omega, fun z hz => ?_⟩
    rcases List.mem_cons.1 hz with rfl | hz
    · exact hv0
    rcases List.mem_cons.1 hz with rfl | hz
    · exact hu0
    · exact hw.2 z (List.mem_of_mem_drop hz)
  refine ⟨[], nofun, (eval_pure (v :: u :: ws.drop 2) hw2 _ wa).useB [4] ⟨⟨rfl, rfl, rfl, trivial⟩, show [PV.int .u32 (((ofX lb).evalT ws).getD 0), .int .u32 (((ofX lc).evalT ws).getD 0)] ++ List.take (((wordsP ws).length : Int) - min 2 ((wordsP ws).length : Int)).toNat (List.drop (min 2 ((wordsP ws).length : Int)).toNat (wordsP ws)) = wordsP (v :: u :: ws.drop 2) by rw [hel, hv, hu]; rfl, trivial⟩ rfl rfl ?_⟩
  rw [put_eval hv hu ta wa]
  refine And.intro (fun _ => ?_) (fun h => absurd Iff.rfl h)
  exact retE rfl

end Go.Proofs.YtnjmfedleimlmaaDoor.Pw

/- The laws of chapter 11 over values, as their frames want them. -/
namespace Go.Proofs.YtnjmfedleimlmaaDoor.Pw
open Go Go.RowKit

abbrev SNodes := SLs 2 16 nodeP NodeOk
abbrev SWords := SLs 1 4 (PV.int .u32) U32Ok
theorem wordsOk_of {ws : List Int} (h1 : ws.length ≤ maxLen) (h2 : ∀ v ∈ ws, U32Ok v) : WordsOk ws := ⟨by unfold maxLen at h1; omega, h2⟩
theorem wf_of {l : List (Int × Int)} (h : ∀ y ∈ l, NodeOk y) : (ofX l).Wf := ofX_wf l fun y hy => (h y hy).2
theorem TermPuts_pure' (x0 : PV) (s0 : SNodes x0) (x1 : PV) (s1 : SNodes x1) (x2 : PV) (s2 : SNodes x2) (x3 : PV) (s3 : SWords x3) : PureF gT 5 [x0, x1, x2, x3] .tt := by
  obtain ⟨la, ⟨ha, _⟩, wa, rfl⟩ := s0
  obtain ⟨lb, ⟨hb, _⟩, wb, rfl⟩ := s1
  obtain ⟨lc, ⟨hc, _⟩, wc, rfl⟩ := s2
  obtain ⟨ws, ⟨hw, hw4⟩, ww, rfl⟩ := s3
  exact TermPuts_pure la lb lc ws ha hb hc (wordsOk_of hw ww) hw4 (wf_of wa) (wf_of wb) (wf_of wc)

end Go.Proofs.YtnjmfedleimlmaaDoor.Pw

/- Chapter 11: what folding does (plain), and TermFolds over values. -/
namespace Go.Proofs.YtnjmfedleimlmaaDoor.Pw
open Go Go.RowKit

theorem shaped_leaf {o n : Int} (h : (T.leaf o n).shaped = true) : o = 1 ∨ o = 2 := by
  simp only [T.shaped, goodN, decide_eq_true_eq] at h
  have h1 := h.2.2.1
  unfold needsN at h1
  (repeat' split at h1) <;> omega
/-- a term that is a number -/
theorem op1 {t : T} (h : t.shaped = true) (h1 : t.op = 1) : ∃ n, t = .leaf 1 n := by
  cases t with
  | leaf o n => exact ⟨n, by rw [show o = 1 from h1]⟩
  | one o n a => have := (shaped_one h).1; simp only [T.op] at h1; omega
  | two o n a b => have := (shaped_two h).1; simp only [T.op] at h1; omega
theorem one_shaped {o n : Int} {a a' : T} (h : (T.one o n a).shaped = true) (h' : a'.shaped = true) : (T.one o n a').shaped = true := by
  simp only [T.shaped, Bool.and_eq_true] at h ⊢
  exact ⟨h.1, h'⟩
theorem two_shaped {o n : Int} {a b a' b' : T} (h : (T.two o n a b).shaped = true) (h' : a'.shaped = true) (h2 : b'.shaped = true) : (T.two o n a' b').shaped = true := by
  simp only [T.shaped, Bool.and_eq_true] at h ⊢
  exact ⟨h.1, h', h2⟩
theorem num_shaped (v : Int) : (T.leaf 1 v).shaped = true := by simp [T.shaped, goodN, needsN]
theorem foldN_shaped {t : T} {c : Bool} (h : t.shaped = true) : (foldN t c).shaped = true := by
  unfold foldN
  split
  · split
    · exact num_shaped _
    · exact h
  · exact h
theorem foldT_shaped : ∀ {t : T}, t.shaped = true → (foldT t).shaped = true
  | .leaf o n, h => foldN_shaped h
  | .one o n a, h => by rw [foldT]; exact foldN_shaped (one_shaped h (foldT_shaped (shaped_one h).2))
  | .two o n a b, h => by rw [foldT]; exact foldN_shaped (two_shaped h (foldT_shaped (shaped_two h).2.1) (foldT_shaped (shaped_two h).2.2))
theorem foldN_size {t : T} {c : Bool} : (foldN t c).size ≤ t.size := by
  unfold foldN
  split
  · split
    · exact T.size_pos t
    · exact Nat.le_refl _
  · exact Nat.le_refl _
theorem foldT_size : ∀ {t : T}, (foldT t).size ≤ t.size
  | .leaf o n => foldN_size
  | .one o n a => by rw [foldT]; have := foldT_size (t := a); exact Nat.le_trans foldN_size (by simp only [T.size]; omega)
  | .two o n a b => by rw [foldT]; have := foldT_size (t := a); have := foldT_size (t := b); exact Nat.le_trans foldN_size (by simp only [T.size]; omega)
/-- a node whose terms are numbers has one value, whatever the words are -/
theorem foldN_eval {t : T} {c : Bool} (ws : List Int) (h : c = true → t.evalT [] = t.evalT ws) : (foldN t c).evalT ws = t.evalT ws := by
  unfold foldN
  split
  · rename_i hc
    split
    · rename_i v hv
      rw [← h hc, hv]
      simp [T.evalT, leafV]
    · rfl
  · rfl
theorem num_eval (n : Int) (ws : List Int) : (T.leaf 1 n).evalT ws = some n := by simp [T.evalT, leafV]
theorem foldT_eval (ws : List Int) : ∀ {t : T}, t.shaped = true → (foldT t).evalT ws = t.evalT ws
  | .leaf o n, h => by
    rw [foldT]
    refine foldN_eval ws fun hc => ?_
    rcases shaped_leaf h with rfl | rfl
    · rw [num_eval, num_eval]
    · simp at hc
  | .one o n a, h => by
    rw [foldT]
    have ha := (shaped_one h).2
    rw [foldN_eval ws fun hc => ?_]
    · simp only [T.evalT]
      rw [foldT_eval ws ha]
    · simp only [Bool.and_eq_true, decide_eq_true_eq] at hc
      obtain ⟨m, hm⟩ := op1 (foldT_shaped ha) hc.2
      rw [hm]
      show Option.map (oneV o) ((T.leaf 1 m).evalT []) = Option.map (oneV o) ((T.leaf 1 m).evalT ws)
      rw [num_eval, num_eval]
  | .two o n a b, h => by
    rw [foldT]
    have ha := (shaped_two h).2.1
    have hb := (shaped_two h).2.2
    rw [foldN_eval ws fun hc => ?_]
    · simp only [T.evalT]
      rw [foldT_eval ws ha, foldT_eval ws hb]
    · simp only [Bool.and_eq_true, decide_eq_true_eq] at hc
      obtain ⟨m, hm⟩ := op1 (foldT_shaped ha) hc.1.2
      obtain ⟨k, hk⟩ := op1 (foldT_shaped hb) hc.2
      rw [hm, hk]
      show (((T.leaf 1 m).evalT []).bind fun x => ((T.leaf 1 k).evalT []).bind fun y => twoV o x y) = (((T.leaf 1 m).evalT ws).bind fun x => ((T.leaf 1 k).evalT ws).bind fun y => twoV o x y)
      rw [num_eval, num_eval, num_eval, num_eval]
/-- without variables -/
def freeT (t : T) : Bool := t.nodes.all fun x => x.1 != 2
theorem fold_num (ws : List Int) : ∀ {t : T}, t.shaped = true → freeT t = true → (t.evalT ws).isSome = true → (foldT t).op = 1
  | .leaf o n, h, hf, _ => by
    rcases shaped_leaf h with rfl | rfl
    · rw [foldT]; rfl
    · simp [freeT, T.nodes] at hf
  | .one o n a, h, hf, hs => by
    have ha := (shaped_one h).2
    have ho := (shaped_one h).1
    have hfa : freeT a = true := by simp only [freeT, T.nodes, List.all_cons, Bool.and_eq_true] at hf ⊢; exact hf.2
    simp only [T.evalT, Option.isSome_map] at hs
    have ih := fold_num ws ha hfa hs
    obtain ⟨m, hm⟩ := op1 (foldT_shaped ha) ih
    rw [foldT, hm]
    have e : (decide (o ≠ 2) && decide ((T.leaf 1 m).op = 1)) = true := by simp [T.op]; omega
    rw [e]
    unfold foldN
    simp only [if_true, T.evalT, leafV, if_pos rfl, Option.map_some]
    rfl
  | .two o n a b, h, hf, hs => by
    have ha := (shaped_two h).2.1
    have hb := (shaped_two h).2.2
    have ho := (shaped_two h).1
    have hfa : freeT a = true ∧ freeT b = true := by simp only [freeT, T.nodes, List.all_cons, List.all_append, Bool.and_eq_true] at hf ⊢; exact hf.2
    have hx := foldT_eval ws ha
    have hy := foldT_eval ws hb
    cases qa : a.evalT ws with
    | none => simp [T.evalT, qa] at hs
    | some x =>
      cases qb : b.evalT ws with
      | none => simp [T.evalT, qa, qb] at hs
      | some y =>
        have i1 := fold_num ws ha hfa.1 (by rw [qa]; rfl)
        have i2 := fold_num ws hb hfa.2 (by rw [qb]; rfl)
        obtain ⟨m, hm⟩ := op1 (foldT_shaped ha) i1
        obtain ⟨k, hk⟩ := op1 (foldT_shaped hb) i2
        rw [hm, num_eval, qa] at hx
        rw [hk, num_eval, qb] at hy
        obtain rfl : m = x := Option.some.inj hx
        obtain rfl : k = y := Option.some.inj hy
        rw [foldT, hm, hk]
        have e : ((decide (o ≠ 2) && decide ((T.leaf 1 m).op = 1)) && decide ((T.leaf 1 k).op = 1)) = true := by simp [T.op]; omega
        rw [e]
        simp only [T.evalT, qa, qb, Option.bind_some] at hs
        have ev : (T.two o n (.leaf 1 m) (.leaf 1 k)).evalT [] = twoV o m k := by
          show (((T.leaf 1 m).evalT []).bind fun x => ((T.leaf 1 k).evalT []).bind fun y => twoV o x y) = _
          rw [num_eval, num_eval]; rfl
        unfold foldN
        rw [if_pos rfl, ev]
        cases hv : twoV o m k with
        | none => rw [hv] at hs; cases hs
        | some v => rfl

end Go.Proofs.YtnjmfedleimlmaaDoor.Pw

/- TermFolds over values. -/
namespace Go.Proofs.YtnjmfedleimlmaaDoor.Pw
open Go Go.RowKit

set_option maxRecDepth 10000 in
theorem TermFolds_pure (la : List (Int × Int)) (ws : List Int) (ha : la.length ≤ maxLen) (hw : WordsOk ws) (wa : (ofX la).Wf) :
    PureF gT 9 [.sl 2 (la.map nodeP), .sl 1 (wordsP ws)] .tt := by
  have hsz := ofX_size la
  refine Spec.enter gTok P9 100 Tryd.func9 rfl (by kernel_rfl) ?_
  refine ⟨[], nofun, anchor_pure.use trivial rfl rfl ?_⟩
  refine ⟨[], nofun, (of_pure la ha).use ⟨rfl, trivial⟩ rfl rfl ?_⟩
  refine And.intro (fun h1 => retE trivial) (fun h1 => ?_)
  have ta := ofOk_wf h1
  refine ⟨[], nofun, (fold_pure _ wa).use ⟨⟨rfl, rfl, rfl, trivial⟩, trivial⟩ rfl rfl ?_⟩
  refine ⟨[], nofun, (eval_pure ws hw _ wa).use ⟨⟨rfl, rfl, rfl, trivial⟩, rfl, trivial⟩ rfl rfl ?_⟩
  refine ⟨[], nofun, (eval_pure ws hw _ (foldT_wf wa)).use ⟨⟨rfl, rfl, rfl, trivial⟩, rfl, trivial⟩ rfl rfl ?_⟩
  refine ⟨[], nofun, (flat_pure 3000 (ofX la) (by omega) (by omega)).use ⟨⟨rfl, rfl, rfl, trivial⟩, rfl, trivial⟩ rfl rfl ?_⟩
  refine fun _ => ?_
  refine SW.loopS gTok P9 (by kernel_rfl) (fun i : Nat => [(41, .int .i64 i), (12, .bool (((ofX la).nodes.take i).all (fun x => x.1 != 2) = true))]) (fun i => (ofX la).nodes.length - i) 0 60 ?_ fun i => ?_
  · repeat' first | exact trivial | exact rfl | exact Iff.rfl | refine And.intro ?_ ?_
  have hl : (List.map nP (ofX la).nodes).length = (ofX la).size := by rw [List.length_map, T.nodes_length]
  have hfe := foldT_eval ws ta
  have hfs := foldT_size (t := ofX la)
  refine And.intro (fun hi => ?_) (fun hi => ?_)
  · have hi' : i < (ofX la).nodes.length := by rw [List.length_map] at hi; omega
    refine ⟨_, (ofX la).nodes, nP, rfl, show (0 : Int) ≤ (i : Int) by omega, show (i : Int) < ((ofX la).nodes.length : Int) by omega, fun x hx => ?_⟩
    have hx' : (ofX la).nodes[i]? = some x := hx
    have e1 : (ofX la).nodes.take (i + 1) = (ofX la).nodes.take i ++ [x] := by rw [List.take_add_one, hx']; rfl
    refine And.intro (fun hp => ?_) (fun hp => ?_)
    · refine .inl ⟨inR_i64 (by rw [T.nodes_length] at hi'; omega), ⟨i + 1, by omega, ?_⟩⟩
      repeat' first | exact trivial | exact rfl | exact Iff.rfl | refine And.intro ?_ ?_
      exact (show ¬ x.1 = 2 ↔ ((ofX la).nodes.take (i + 1)).all (fun x => x.1 != 2) = true by rw [e1, List.all_append, hp]; simp)
    · refine .inl ⟨inR_i64 (by rw [T.nodes_length] at hi'; omega), ⟨i + 1, by omega, ?_⟩⟩
      repeat' first | exact trivial | exact rfl | exact Iff.rfl | refine And.intro ?_ ?_
      exact (show ¬ ((ofX la).nodes.take (i + 1)).all (fun x => x.1 != 2) = true by rw [e1, List.all_append]; intro h; exact hp (Bool.and_eq_true _ _ ▸ h).1)
  · have hall : (ofX la).nodes.take i = (ofX la).nodes := List.take_of_length_le (by rw [List.length_map] at hi; omega)
    rw [hall]
    refine And.intro (fun _ => ?_) (fun h => absurd (by rw [hfe]) h)
    refine And.intro (fun _ => ?_) (fun h => absurd (by rw [hfe]) h)
    refine ⟨[], nofun, (count_pure _ (by omega)).use ⟨⟨rfl, rfl, rfl, trivial⟩, trivial⟩ rfl rfl ?_⟩
    refine ⟨[], nofun, (count_pure _ (by omega)).use ⟨⟨rfl, rfl, rfl, trivial⟩, trivial⟩ rfl rfl ?_⟩
    refine And.intro (fun _ => ?_) (fun h => absurd (show ((foldT (ofX la)).size : Int) ≤ ((ofX la).size : Int) by omega) h)
    refine ⟨[], nofun, (right_pure _ (foldT_wf wa) (by omega)).use ⟨⟨rfl, rfl, rfl, trivial⟩, trivial⟩ rfl rfl ?_⟩
    refine And.intro (fun _ => ?_) (fun h => absurd (foldT_shaped ta) h)
    refine And.intro (fun h5 => retE trivial) (fun h5 => And.intro (fun h6 => retE trivial) (fun h6 => ?_))
    refine retE ?_
    exact fold_num ws ta (Classical.not_not.1 h5) (Classical.not_not.1 h6)

theorem TermFolds_pure' (x0 : PV) (s0 : SNodes x0) (x1 : PV) (s1 : SWords x1) : PureF gT 9 [x0, x1] .tt := by
  obtain ⟨la, ⟨ha, _⟩, wa, rfl⟩ := s0
  obtain ⟨ws, ⟨hw, _⟩, ww, rfl⟩ := s1
  exact TermFolds_pure la ws ha (wordsOk_of hw ww) (wf_of wa)

end Go.Proofs.YtnjmfedleimlmaaDoor.Pw

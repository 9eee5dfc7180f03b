/- What the laws of this claim are proved with, joined (join.py) of 19 texts: no condition. -/
import Derived.Test.YtnjmfedleimlmaaDoorJaTermF
import Derived.Test.YtnjmfedleimlmaaDoorJaTermO
import Derived.Test.YtnjmfedleimlmaaDoorJaTermP
import Derived.Test.YtnjmfedleimlmaaDoorJa4
import Derived.Test.YtnjmfedleimlmaaDoorJa5
import Derived.Test.YtnjmfedleimlmaaDoorJaTermM
import Derived.Test.YtnjmfedleimlmaaDoorJaTermH
import Derived.Test.YtnjmfedleimlmaaDoorJaAluA
import Derived.Test.YtnjmfedleimlmaaDoorJaTermL
import Derived.Test.YtnjmfedleimlmaaDoorJaTermS
set_option linter.unusedVariables false

/- Plain lemmas on terms that nodes make. -/
namespace Go.Proofs.YtnjmfedleimlmaaDoor.Pw
open Go Go.RowKit

theorem builtT_wf : ∀ (k : Nat) (l : List (Int × Int)) (i : Nat), (∀ y ∈ l, 0 ≤ y.2 ∧ y.2 ≤ 4294967295) → (builtT k l i).1.Wf
  | 0, l, i, _ => by simp only [builtT, T.Wf]; omega
  | k + 1, l, i, h => by
    unfold builtT
    cases hx : l[i]? with
    | none => simp only [T.Wf]; omega
    | some x =>
      have h1 := builtT_wf k l (i + 1) h
      have h2 := builtT_wf k l (builtT k l (i + 1)).2 h
      dsimp only
      split
      · exact ⟨by omega, h1, h2⟩
      · split
        · exact ⟨by omega, h1⟩
        · exact h x (List.mem_of_getElem? hx)
theorem ofX_wf (l : List (Int × Int)) (h : ∀ y ∈ l, 0 ≤ y.2 ∧ y.2 ≤ 4294967295) : (ofX l).Wf := by
  unfold ofX
  split
  · exact builtT_wf 41 l 0 h
  · simp only [T.Wf]; omega
theorem ofOk_shaped {l : List (Int × Int)} (h : ofOk l = true) : l.length ≤ 60 ∧ (ofX l).shaped = true := by
  unfold ofOk at h
  simp only [Bool.and_eq_true, decide_eq_true_eq] at h
  refine ⟨h.1, ?_⟩
  have := h.2
  unfold ofB at this
  rw [T.shaped_nodes] at this
  unfold ofX; rw [if_pos h.1]; exact this
theorem ofOk_not {l : List (Int × Int)} (h : ofOk l = false) (hl : l.length ≤ 60) : (ofX l).shaped = false := by
  unfold ofOk at h
  rw [decide_eq_true hl, Bool.true_and] at h
  unfold ofB at h
  rw [T.shaped_nodes] at h
  unfold ofX; rw [if_pos hl]; exact h
theorem shaped_one {o n : Int} {a : T} (h : (T.one o n a).shaped = true) : (3 ≤ o ∧ o ≤ 4) ∧ a.shaped = true := by
  simp only [T.shaped, goodN, Bool.and_eq_true, decide_eq_true_eq] at h
  refine ⟨?_, h.2⟩
  have h1 := h.1.2.2.1
  unfold needsN at h1
  (repeat' split at h1) <;> omega
theorem shaped_two {o n : Int} {a b : T} (h : (T.two o n a b).shaped = true) : (5 ≤ o ∧ o ≤ 17) ∧ a.shaped = true ∧ b.shaped = true := by
  simp only [T.shaped, goodN, Bool.and_eq_true, decide_eq_true_eq] at h
  refine ⟨?_, h.2⟩
  have h1 := h.1.2.2.1
  have h2 := h.1.2.1
  unfold needsN at h1
  (repeat' split at h1) <;> omega

theorem shaped_leaf' {o n : Int} (h : (T.leaf o n).shaped = true) : o = 1 ∨ o = 2 := by
  simp only [T.shaped, goodN, decide_eq_true_eq] at h
  have h1 := h.2.2.1
  unfold needsN at h1
  (repeat' split at h1) <;> omega

end Go.Proofs.YtnjmfedleimlmaaDoor.Pw

/- Trial. -/
namespace Go.Proofs.YtnjmfedleimlmaaDoor.Pw
open Go Go.RowKit

def needsT (op : Int) : Int := if op ≤ 2 then 0 else if op ≤ 4 then 1 else 2
theorem needs_pure (op : Int) : PureF gx 74 [.int .i64 op] (.int .i64 (needsT op)) := by
  refine Spec.enter gxok [] 100 Tryd.func74 rfl (by kernel_rfl) ?_
  repeat' refine And.intro (fun _ => ?_) (fun _ => ?_)
  all_goals (refine retE ?_; unfold needsT; show _ = _; (repeat' split) <;> omega)

/-- a term's list -/
def kidsP : T → List PV
  | .leaf .. => []
  | .one _ _ a => [.agg [.int .i64 a.op, .int .u32 a.num, .sl 3 (kidsP a)]]
  | .two _ _ a b => [.agg [.int .i64 a.op, .int .u32 a.num, .sl 3 (kidsP a)], .agg [.int .i64 b.op, .int .u32 b.num, .sl 3 (kidsP b)]]
def tpv (t : T) : PV := .agg [.int .i64 t.op, .int .u32 t.num, .sl 3 (kidsP t)]
def kidsL : T → List T
  | .leaf .. => []
  | .one _ _ a => [a]
  | .two _ _ a b => [a, b]
theorem kidsP_eq (t : T) : kidsP t = (kidsL t).map tpv := by cases t <;> rfl
def wordsP (ws : List Int) : List PV := ws.map (PV.int .u32)

set_option maxRecDepth 10000 in
theorem leaf_pure (t : T) (ws : List Int) (hn : 0 ≤ t.num ∧ t.num ≤ 4294967295) : PureF gx 43 [tpv t, .sl 1 (wordsP ws)] (.int .u32 (leafV t.op t.num ws)) := by
  refine Spec.enter gxok [] 100 Tryd.func43 rfl (by kernel_rfl) ?_
  refine And.intro (fun h1 => ?_) (fun h1 => ?_)
  · refine retE ?_
    show _ = _
    unfold leafV
    rw [if_pos h1]
  · refine .inl ⟨inR_i64 (by omega), fun hm => And.intro (fun h2 => ?_) (fun h2 => ?_)⟩
    · refine ⟨_, ws, PV.int .u32, rfl, hn.1, by rw [wordsP, List.length_map] at h2; exact h2, fun x hx => retE ?_⟩
      show _ = _
      unfold leafV
      rw [if_neg h1, hx]; rfl
    · refine retE ?_
      show _ = _
      rw [wordsP, List.length_map] at h2
      unfold leafV
      rw [if_neg h1, List.getElem?_eq_none (by omega)]; rfl

end Go.Proofs.YtnjmfedleimlmaaDoor.Pw

/- Chapter 11 over values: what comes in, what 'of' makes, values of terms. -/
namespace Go.Proofs.YtnjmfedleimlmaaDoor.Pw
open Go Go.RowKit

theorem entersT {f : FuncId} {fn : Func} {c : Code} (hf : Tryd.prog.funcs[f]? = some fn) (hb : fn.body = some c) (hn : (fn.name == "runtime.NumGoroutine") = false) : Ev.Enters gT.cx.P f := Ev.enters_of hf hb hn

theorem isLn {w : World} {I : Nat → Prop} {β : Places} : IsL w I [] β [] := by simp only [IsL]
theorem isLc {w : World} {I : Nat → Prop} {β : Places} {x : PV} {v : Value} {xs : List PV} {vs : List Value} (h : x.Is w I β v) (h' : IsL w I xs β vs) : IsL w I (x :: xs) β (v :: vs) := by simp only [IsL]; exact ⟨h, h'⟩
theorem is_bool {w : World} {I : Nat → Prop} {β : Places} (b : Bool) : (PV.bool (b = true)).Is w I β (.bool b) := by simp only [PV.Is]; rw [pb_dec]; simp
theorem is_int {w : World} {I : Nat → Prop} {β : Places} (k : IntKind) (n : Int) : (PV.int k n).Is w I β (.int k n) := by simp only [PV.Is]
theorem is_tup {w : World} {I : Nat → Prop} {β : Places} {xs : List PV} {vs : Array Value} (h : IsL w I xs β vs.toList) : (PV.tup xs).Is w I β (.tuple vs) := by simp only [PV.Is]; exact ⟨vs, rfl, h⟩
theorem is_agg {w : World} {I : Nat → Prop} {β : Places} {xs : List PV} {vs : Array Value} (h : IsL w I xs β vs.toList) : (PV.agg xs).Is w I β (.agg vs) := by simp only [PV.Is]; exact ⟨vs, rfl, h⟩

/-! ### scalars -/
theorem isL1 {w : World} {I : Nat → Prop} {β : Places} {x : PV} {vals : List Value} (h : IsL w I [x] β vals) : ∃ v, vals = [v] ∧ x.Is w I β v := by
  match vals, h with
  | [v], h => exact ⟨v, rfl, by simpa only [IsL, and_true] using h⟩
theorem isL2 {w : World} {I : Nat → Prop} {β : Places} {x y : PV} {vals : List Value} (h : IsL w I [x, y] β vals) : ∃ v u, vals = [v, u] ∧ x.Is w I β v ∧ y.Is w I β u := by
  match vals, h with
  | [v, u], h => exact ⟨v, u, rfl, by simpa only [IsL, and_true] using h⟩
theorem isL3 {w : World} {I : Nat → Prop} {β : Places} {x y z : PV} {vals : List Value} (h : IsL w I [x, y, z] β vals) : ∃ v u t, vals = [v, u, t] ∧ x.Is w I β v ∧ y.Is w I β u ∧ z.Is w I β t := by
  match vals, h with
  | [v, u, t], h => exact ⟨v, u, t, rfl, by simpa only [IsL, and_true] using h⟩
theorem one_pure (op x : Int) (h0 : 0 ≤ x) (h1 : x ≤ 4294967295) : PureF gT 45 [.int .i64 op, .int .u32 x] (.int .u32 (oneV op x)) :=
  PureF.of_same (entersT Tryd.func45 rfl (by kernel_rfl)) [.int .i64 op, .int .u32 x] _ (fun w I β vals h => by obtain ⟨v, u, rfl, h1, h2⟩ := isL2 h; simp only [PV.Is] at h1 h2; rw [h1, h2]) (fun w I β => by simp only [PV.Is]) (fun w => tone_any op x w h0 h1)
def optP (o : Option Int) : PV := .tup [.int .u32 (o.getD 0), .bool (o.isSome = true)]
theorem optP_is (o : Option Int) (w : World) (I : Nat → Prop) (β : Places) : (optP o).Is w I β (optV o) := by
  unfold optP optV
  exact is_tup (isLc (is_int ..) (isLc (is_bool _) isLn))
theorem two_pure (op x y : Int) (h0 : 0 ≤ x) (h1 : x ≤ 4294967295) (k0 : 0 ≤ y) (k1 : y ≤ 4294967295) : PureF gT 46 [.int .i64 op, .int .u32 x, .int .u32 y] (optP (twoV op x y)) :=
  PureF.of_same (entersT Tryd.func46 rfl (by kernel_rfl)) [.int .i64 op, .int .u32 x, .int .u32 y] (optV (twoV op x y)) (fun w I β vals h => by obtain ⟨v, u, t, rfl, h1, h2, h3⟩ := isL3 h; simp only [PV.Is] at h1 h2 h3; rw [h1, h2, h3]) (optP_is _) (fun w => two_any op x y w h0 h1 k0 k1)
theorem truth_pure (b : Prop) : PureF gT 44 [.bool b] (.int .u32 (if pb b then 1 else 0)) :=
  PureF.of_same (entersT Tryd.func44 rfl (by kernel_rfl)) [.bool (pb b)] _ (fun w I β vals h => by obtain ⟨v, rfl, h1⟩ := isL1 h; simp only [PV.Is] at h1; rw [h1]) (fun w I β => by simp only [PV.Is]) (fun w => ttruth_any _ w)
theorem anchor_pure : PureF gT 14 [] .tt :=
  PureF.of_calls (entersT Tryd.func14 rfl (by kernel_rfl)) [] (.bool true) (fun w I β vals h => by cases vals with
    | nil => rfl
    | cons => simp only [IsL] at h) (fun w I β => by simp only [PV.Is]) (fun w => anchor11_calls w)

/-! ### nodes, terms -/
def nodeP (y : Int × Int) : PV := .agg [.int .i64 y.1, .int .u32 y.2]
theorem isS_is {w : World} {I : Nat → Prop} {β : Places} : ∀ {t : T} {s : Value} {bl : List Nat}, t.IsS w s bl → (∀ b ∈ bl, I b) → (PV.sl 3 (kidsP t)).Is w I β s
  | .leaf .., s, bl, h, _ => by
    obtain ⟨rfl, _⟩ := h
    simp only [kidsP, PV.Is]
    exact ⟨none, 0, rfl, Nat.le_refl _, by simp, nofun, fun h => absurd rfl h⟩
  | .one _ _ a, s, bl, h, hI => by
    obtain ⟨g, cap, cur, fr, sa, bla, rfl, h2, h3, h4, h5, h6, h7, rfl⟩ := h
    have ia := isS_is (β := no) (I := I) h7 fun b hb => hI b (by simp [hb])
    have ca : ∀ j, w.cell? ⟨g, j, none⟩ = cur[j]? := fun j => by simp [World.cell?, h3]
    simp only [kidsP, PV.Is, IsEs, IsAt, List.length_cons, List.length_nil]
    exact ⟨_, cap, rfl, h2, by unfold maxLen; omega, fun g' o' e => by
      cases e
      exact ⟨⟨trivial, ⟨_, by rw [ca]; exact h4, rfl, rfl⟩, ⟨_, by rw [ca]; exact h5, rfl, rfl⟩, ⟨sa, by rw [ca]; exact h6, by simpa only [PV.Is] using ia, h7.one⟩, trivial⟩, trivial⟩, fun _ => ⟨g, 0, rfl, hI g (by simp), by omega⟩⟩
  | .two _ _ a b, s, bl, h, hI => by
    obtain ⟨g, cap, cur, fr, sa, bla, sb, blb, rfl, h2, h3, h4, h5, h6, h4', h5', h6', h7, h8, rfl⟩ := h
    have ia := isS_is (β := no) (I := I) h7 fun b hb => hI b (by simp [hb])
    have ib := isS_is (β := no) (I := I) h8 fun b hb => hI b (by simp [hb])
    have ca : ∀ j, w.cell? ⟨g, j, none⟩ = cur[j]? := fun j => by simp [World.cell?, h3]
    simp only [kidsP, PV.Is, IsEs, IsAt, List.length_cons, List.length_nil]
    exact ⟨_, cap, rfl, h2, by unfold maxLen; omega, fun g' o' e => by
      cases e
      exact ⟨⟨trivial, ⟨_, by rw [ca]; exact h4, rfl, rfl⟩, ⟨_, by rw [ca]; exact h5, rfl, rfl⟩, ⟨sa, by rw [ca]; exact h6, by simpa only [PV.Is] using ia, h7.one⟩, trivial⟩, ⟨trivial, ⟨_, by rw [ca]; exact h4', rfl, rfl⟩, ⟨_, by rw [ca]; exact h5', rfl, rfl⟩, ⟨sb, by rw [ca]; exact h6', by simpa only [PV.Is] using ib, h8.one⟩, trivial⟩, trivial⟩, fun _ => ⟨g, 0, rfl, hI g (by simp), by omega⟩⟩
theorem nodesAt_of {w : World} {I : Nat → Prop} {β : Places} {l : List (Int × Int)} {v : Value} (hI : ∀ g, I g → g < w.heap.size) (h : (PV.sl 2 (l.map nodeP)).Is w I β v) : ∃ a cap, v = .slice a l.length cap ∧ NodesAt w a l w.heap.size := by
  simp only [PV.Is] at h
  obtain ⟨a, cap, rfl, _, _, h1, h2⟩ := h
  refine ⟨a, cap, by rw [List.length_map], fun i x hx => ?_⟩
  have hlt : i < l.length := (List.getElem?_eq_some_iff.1 hx).1
  obtain ⟨g, o, rfl, hg, _⟩ := h2 (by rw [List.length_map]; omega)
  have he := (h1 g o rfl).get (i := i) (e := nodeP x) (by simp [hx])
  obtain ⟨_, he⟩ := he
  obtain ⟨v0, c0, i0, _⟩ := he.get (i := 0) rfl
  obtain ⟨v1, c1, i1, _⟩ := he.get (i := 1) rfl
  simp only [PV.Is] at i0 i1
  subst i0; subst i1
  exact ⟨g, o, rfl, hI g hg, hI g hg, c0, c1⟩
theorem of_pure (l : List (Int × Int)) (hl : l.length ≤ maxLen) : PureF gT 15 [.sl 2 (l.map nodeP)] (.tup [tpv (ofX l), .bool (ofOk l = true)]) :=
  PureF.of_new (entersT Tryd.func15 rfl (by kernel_rfl)) (fun I β w vals hM hA => by
    obtain ⟨v, rfl, hv⟩ := isL1 hA
    obtain ⟨a, cap, rfl, hN⟩ := nodesAt_of hM.imm hv
    refine (of_any l a cap w (by unfold maxLen at hl; omega) hN).mono ?_
    rintro e w' ⟨p, c, bl, rfl, hS, hb, hB⟩
    refine ⟨_, rfl, hB, ?_⟩
    have hs := isS_is (β := no) (I := NewI I w w') hS fun b hb' => .inr (hb b hb')
    exact is_tup (isLc (is_agg (isLc (is_int ..) (isLc (is_int ..) (isLc hs isLn)))) (isLc (is_bool _) isLn))) rfl

end Go.Proofs.YtnjmfedleimlmaaDoor.Pw

/- Chapter 11 over values: Eval. -/
namespace Go.Proofs.YtnjmfedleimlmaaDoor.Pw
open Go Go.RowKit

theorem leaf_pureT (t : T) (ws : List Int) (hn : 0 ≤ t.num ∧ t.num ≤ 4294967295) : PureF gT 43 [tpv t, .sl 1 (wordsP ws)] (.int .u32 (leafV t.op t.num ws)) := by
  refine Spec.enter gTok [] 100 Tryd.func43 rfl (by kernel_rfl) ?_
  refine And.intro (fun h1 => ?_) (fun h1 => ?_)
  · refine retE ?_
    show _ = _
    unfold leafV
    rw [if_pos h1]
  · refine .inl ⟨inR_i64 (by omega), fun hm => And.intro (fun h2 => ?_) (fun h2 => ?_)⟩
    · refine ⟨_, ws, PV.int .u32, rfl, hn.1, by rw [wordsP, List.length_map] at h2; exact h2, fun x hx => retE ?_⟩
      show _ = _
      unfold leafV
      rw [if_neg h1, hx]; rfl
    · refine retE ?_
      show _ = _
      rw [wordsP, List.length_map] at h2
      unfold leafV
      rw [if_neg h1, List.getElem?_eq_none (by omega)]; rfl

theorem truth_tt : PureF gT 44 [.tt] (.int .u32 1) :=
  PureF.of_same (entersT Tryd.func44 rfl (by kernel_rfl)) [.bool true] _ (fun w I β vals h => by obtain ⟨v, rfl, h1⟩ := isL1 h; simp only [PV.Is] at h1; rw [h1]) (fun w I β => is_int ..) (fun w => ttruth_any true w)
theorem truth_ff : PureF gT 44 [.ff] (.int .u32 0) :=
  PureF.of_same (entersT Tryd.func44 rfl (by kernel_rfl)) [.bool false] _ (fun w I β vals h => by obtain ⟨v, rfl, h1⟩ := isL1 h; simp only [PV.Is] at h1; rw [h1]) (fun w I β => is_int ..) (fun w => ttruth_any false w)

set_option maxRecDepth 10000 in
theorem eval_pure (ws : List Int) (hw : WordsOk ws) : ∀ t : T, t.Wf → PureF gT 17 [tpv t, .sl 1 (wordsP ws)] (optP (t.evalT ws))
  | .leaf o n, hwf => by
    refine Spec.enter gTok P17 100 Tryd.func17 rfl (by kernel_rfl) ?_
    refine fun _ => And.intro (fun _ => ?_) (fun h => absurd rfl h)
    refine ⟨[], nofun, (leaf_pureT (.leaf o n) ws hwf).use ⟨⟨rfl, rfl, rfl, trivial⟩, rfl, trivial⟩ rfl rfl ?_⟩
    exact retE ⟨rfl, rfl, trivial⟩
  | .one o n a, hwf => by
    have iha := eval_pure ws hw a hwf.2
    refine Spec.enter gTok P17 100 Tryd.func17 rfl (by kernel_rfl) ?_
    refine fun _ => And.intro (fun h => absurd h (by simp [kidsP])) (fun _ => ?_)
    refine ⟨T, [a], tpv, rfl, Int.le_refl 0, Int.zero_lt_one, fun x hx => ?_⟩
    obtain rfl : a = x := by simpa using hx
    refine ⟨[], nofun, iha.use ⟨⟨rfl, rfl, rfl, trivial⟩, rfl, trivial⟩ rfl rfl ?_⟩
    have he : (T.one o n a).evalT ws = (a.evalT ws).map (oneV o) := rfl
    have hb : ∀ v, a.evalT ws = some v → 0 ≤ v ∧ v ≤ 4294967295 := fun v h => T.evalT_bd hw hwf.2 h
    rw [he]
    generalize a.evalT ws = q at hb ⊢
    cases q with
    | none =>
      refine And.intro (fun _ => ?_) (fun h => absurd nofun h)
      refine ⟨[], nofun, truth_ff.use ⟨nofun, trivial⟩ rfl rfl ?_⟩
      refine ⟨[], nofun, (one_pure o 0 (by omega) (by omega)).use ⟨rfl, rfl, trivial⟩ rfl rfl ?_⟩
      refine .inl ⟨inR_u32 (by simp), ?_⟩
      exact retE ⟨Int.zero_mul _, Iff.rfl, trivial⟩
    | some v =>
      obtain ⟨h0, h1⟩ := hb v rfl
      have h2 := oneV_bd (op := o) h0 h1
      refine And.intro (fun h => absurd rfl h) (fun _ => ?_)
      refine fun _ => And.intro (fun _ => ?_) (fun h => absurd rfl h)
      refine ⟨[], nofun, truth_tt.use ⟨rfl, trivial⟩ rfl rfl ?_⟩
      refine ⟨[], nofun, (one_pure o v h0 h1).use ⟨rfl, rfl, trivial⟩ rfl rfl ?_⟩
      refine .inl ⟨inR_u32 (by rw [Int.one_mul]; exact h2), ?_⟩
      exact retE ⟨Int.one_mul _, Iff.rfl, trivial⟩
  | .two o n a b, hwf => by
    have iha := eval_pure ws hw a hwf.2.1
    have ihb := eval_pure ws hw b hwf.2.2
    refine Spec.enter gTok P17 100 Tryd.func17 rfl (by kernel_rfl) ?_
    refine fun _ => And.intro (fun h => absurd h (by simp [kidsP])) (fun _ => ?_)
    refine ⟨T, [a, b], tpv, rfl, Int.le_refl 0, by simp, fun x hx => ?_⟩
    obtain rfl : a = x := by simpa using hx
    refine ⟨[], nofun, iha.use ⟨⟨rfl, rfl, rfl, trivial⟩, rfl, trivial⟩ rfl rfl ?_⟩
    have he : (T.two o n a b).evalT ws = (a.evalT ws).bind fun x => (b.evalT ws).bind fun y => twoV o x y := rfl
    have hba : ∀ v, a.evalT ws = some v → 0 ≤ v ∧ v ≤ 4294967295 := fun v h => T.evalT_bd hw hwf.2.1 h
    have hbb : ∀ v, b.evalT ws = some v → 0 ≤ v ∧ v ≤ 4294967295 := fun v h => T.evalT_bd hw hwf.2.2 h
    rw [he]
    generalize a.evalT ws = q at hba ⊢
    cases q with
    | none =>
      refine And.intro (fun _ => ?_) (fun h => absurd nofun h)
      refine ⟨[], nofun, truth_ff.use ⟨nofun, trivial⟩ rfl rfl ?_⟩
      refine ⟨[], nofun, (one_pure o 0 (by omega) (by omega)).use ⟨rfl, rfl, trivial⟩ rfl rfl ?_⟩
      refine .inl ⟨inR_u32 (by simp), ?_⟩
      exact retE ⟨Int.zero_mul _, Iff.rfl, trivial⟩
    | some v =>
      obtain ⟨h0, h1⟩ := hba v rfl
      refine And.intro (fun h => absurd rfl h) (fun _ => ?_)
      refine fun _ => And.intro (fun h => absurd h (by simp [kidsP])) (fun _ => ?_)
      refine ⟨T, [a, b], tpv, rfl, by decide, by simp, fun x hx => ?_⟩
      obtain rfl : b = x := by simpa using hx
      refine ⟨[], nofun, ihb.use ⟨⟨rfl, rfl, rfl, trivial⟩, rfl, trivial⟩ rfl rfl ?_⟩
      generalize b.evalT ws = q at hbb ⊢
      cases q with
      | none =>
        refine And.intro (fun _ => ?_) (fun h => absurd nofun h)
        exact retE ⟨rfl, nofun, trivial⟩
      | some u =>
        obtain ⟨k0, k1⟩ := hbb u rfl
        refine And.intro (fun h => absurd rfl h) (fun _ => ?_)
        refine ⟨[], nofun, (two_pure o v u h0 h1 k0 k1).use ⟨rfl, rfl, rfl, trivial⟩ rfl rfl ?_⟩
        exact retE ⟨rfl, Iff.rfl, trivial⟩

end Go.Proofs.YtnjmfedleimlmaaDoor.Pw

/- Chapter 11 over values: spans. -/
namespace Go.Proofs.YtnjmfedleimlmaaDoor.Pw
open Go Go.RowKit

def SpOk (p : Int × Int) : Prop := 0 ≤ p.1 ∧ p.1 ≤ p.2 ∧ p.2 ≤ 4294967295
def spP (p : Int × Int) : PV := .agg [.int .u32 p.1, .int .u32 p.2]
def sumV (p q : Int × Int) : Int × Int := if p.2 + q.2 ≤ 4294967295 then (p.1 + q.1, p.2 + q.2) else (0, 4294967295)
def prodV (p q : Int × Int) : Int × Int := if p.2 * q.2 ≤ 4294967295 then (p.1 * q.1, p.2 * q.2) else (0, 4294967295)
def withinV (op : Int) (p q : Int × Int) : Int × Int :=
  if op = 8 ∨ op = 9 then (0, 1) else if op = 7 then (0, min p.2 q.2) else if op = 13 then sumV p q else if op = 14 then (if q.2 ≤ p.1 then (p.1 - q.2, p.2 - q.1) else (0, 4294967295)) else if op = 15 then prodV p q
  else if op = 16 then (p.1 / max q.2 1, p.2 / max q.1 1) else if op = 17 then (0, min p.2 (max q.2 1 - 1)) else if op = 11 then (0, p.2) else (0, 4294967295)

theorem isL2' {w : World} {I : Nat → Prop} {β : Places} {k l : IntKind} {x y : Int} {vals : List Value} (h : IsL w I [.int k x, .int l y] β vals) : vals = [.int k x, .int l y] := by
  obtain ⟨v, u, rfl, h1, h2⟩ := isL2 h
  simp only [PV.Is] at h1 h2; rw [h1, h2]
theorem isL3' {w : World} {I : Nat → Prop} {β : Places} {k l m : IntKind} {x y z : Int} {vals : List Value} (h : IsL w I [.int k x, .int l y, .int m z] β vals) : vals = [.int k x, .int l y, .int m z] := by
  obtain ⟨v, u, t, rfl, h1, h2, h3⟩ := isL3 h
  simp only [PV.Is] at h1 h2 h3; rw [h1, h2, h3]
theorem add32_pure (x y : Int) (hx : 0 ≤ x ∧ x ≤ 4294967295) (hy : 0 ≤ y ∧ y ≤ 4294967295) : PureF gT 114 [.int .u32 x, .int .u32 y, .int .u32 0] (.tup [.int .u32 ((x + y) % 4294967296), .int .u32 ((x + y) / 4294967296)]) :=
  PureF.of_same (entersT Tryd.func114 rfl (by kernel_rfl)) [.int .u32 x, .int .u32 y, .int .u32 0] (.tuple #[.int .u32 ((x + y) % 4294967296), .int .u32 ((x + y) / 4294967296)]) (fun w I β vals h => isL3' h) (fun w I β => is_tup (isLc (is_int ..) (isLc (is_int ..) isLn))) (fun w => (add32_any x y 0 w (by omega) (by omega) (by omega) (by omega) (by omega) (by omega)).mono fun e w' ⟨h1, h2⟩ => ⟨by rw [h1, Int.add_zero], h2.symm⟩)
theorem mul32_pure (x y : Int) (hx : 0 ≤ x ∧ x ≤ 4294967295) (hy : 0 ≤ y ∧ y ≤ 4294967295) : PureF gT 115 [.int .u32 x, .int .u32 y] (.tup [.int .u32 (x * y / 4294967296), .int .u32 (x * y % 4294967296)]) :=
  PureF.of_same (entersT Tryd.func115 rfl (by kernel_rfl)) [.int .u32 x, .int .u32 y] (.tuple #[.int .u32 (x * y / 4294967296), .int .u32 (x * y % 4294967296)]) (fun w I β vals h => isL2' h) (fun w I β => is_tup (isLc (is_int ..) (isLc (is_int ..) isLn))) (fun w => (mul32_any x y w hx.1 hx.2 hy.1 hy.2).mono fun e w' ⟨h1, h2⟩ => ⟨h1, h2.symm⟩)
theorem at_pure (ws : List Int) (n o : Int) (hn : 0 ≤ n ∧ n ≤ 4294967295) : PureF gT 68 [.sl 1 (wordsP ws), .int .u32 n, .int .u32 o] (.int .u32 ((ws[n.toNat]?).getD o)) := by
  refine Spec.enter gTok P68 100 Tryd.func68 rfl (by kernel_rfl) ?_
  refine .inl ⟨inR_i64 (by omega), fun hm => And.intro (fun h2 => ?_) (fun h2 => ?_)⟩
  · refine ⟨_, ws, PV.int .u32, rfl, hn.1, by rw [wordsP, List.length_map] at h2; exact h2, fun x hx => retE ?_⟩
    show _ = _
    rw [hx]; rfl
  · refine retE ?_
    show _ = _
    rw [wordsP, List.length_map] at h2
    rw [List.getElem?_eq_none (by omega)]; rfl

set_option maxRecDepth 10000 in
theorem sum_pure (p q : Int × Int) (hp : SpOk p) (hq : SpOk q) : PureF gT 95 [spP p, spP q] (spP (sumV p q)) := by
  obtain ⟨a0, a1, a2⟩ := hp
  obtain ⟨c0, c1, c2⟩ := hq
  refine Spec.enter gTok P95 100 Tryd.func95 rfl (by kernel_rfl) ?_
  refine ⟨[], nofun, (add32_pure p.1 q.1 (by omega) (by omega)).use ⟨rfl, rfl, rfl, trivial⟩ rfl rfl ?_⟩
  refine ⟨[], nofun, (add32_pure p.2 q.2 (by omega) (by omega)).use ⟨rfl, rfl, rfl, trivial⟩ rfl rfl ?_⟩
  refine And.intro (fun h => ?_) (fun h => ?_)
  · rw [show sumV p q = (0, 4294967295) by unfold sumV; rw [if_neg (by omega)]]
    exact retE ⟨rfl, rfl, trivial⟩
  · rw [show sumV p q = (p.1 + q.1, p.2 + q.2) by unfold sumV; rw [if_pos (by omega)]]
    refine retE ?_
    exact ⟨show (p.1 + q.1) % 4294967296 = p.1 + q.1 by omega, show (p.2 + q.2) % 4294967296 = p.2 + q.2 by omega, trivial⟩

set_option maxRecDepth 10000 in
theorem product_pure (p q : Int × Int) (hp : SpOk p) (hq : SpOk q) : PureF gT 96 [spP p, spP q] (spP (prodV p q)) := by
  obtain ⟨a0, a1, a2⟩ := hp
  obtain ⟨c0, c1, c2⟩ := hq
  have hmono : p.1 * q.1 ≤ p.2 * q.2 := Int.mul_le_mul a1 c1 c0 (by omega)
  have hnn : 0 ≤ p.1 * q.1 := Int.mul_nonneg a0 c0
  have hnb : 0 ≤ p.2 * q.2 := Int.mul_nonneg (by omega) (by omega)
  refine Spec.enter gTok P96 100 Tryd.func96 rfl (by kernel_rfl) ?_
  refine ⟨[], nofun, (mul32_pure p.2 q.2 (by omega) (by omega)).use ⟨rfl, rfl, trivial⟩ rfl rfl ?_⟩
  refine And.intro (fun h => ?_) (fun h => ?_)
  · rw [show prodV p q = (0, 4294967295) by unfold prodV; rw [if_neg (by omega)]]
    exact retE ⟨rfl, rfl, trivial⟩
  · rw [show prodV p q = (p.1 * q.1, p.2 * q.2) by unfold prodV; rw [if_pos (by omega)]]
    refine .inl ⟨inR_u32 (by omega), retE ?_⟩
    exact ⟨rfl, show p.2 * q.2 % 4294967296 = p.2 * q.2 by omega, trivial⟩

set_option maxRecDepth 10000 in
theorem within_pure (op : Int) (p q : Int × Int) (hp : SpOk p) (hq : SpOk q) : PureF gT 69 [.int .i64 op, spP p, spP q] (spP (withinV op p q)) := by
  obtain ⟨a0, a1, a2⟩ := id hp
  obtain ⟨c0, c1, c2⟩ := id hq
  refine Spec.enter gTok P69 100 Tryd.func69 rfl (by kernel_rfl) ?_
  have kq : Ev.kmax .u32 = 4294967295 := by decide
  refine And.intro (fun h => ?_) (fun n8 => And.intro (fun h => ?_) (fun n9 => And.intro (fun h => ?_) (fun n7 => And.intro (fun h => ?_) (fun n13 => And.intro (fun h => ?_) (fun n14 => And.intro (fun h => ?_) (fun n15 => And.intro (fun h => ?_) (fun n16 => And.intro (fun h => ?_) (fun n17 => And.intro (fun h => ?_) (fun n11 => ?_)))))))))
  · subst h; refine retE ?_; exact ⟨rfl, rfl, trivial⟩
  · subst h; refine retE ?_; exact ⟨rfl, rfl, trivial⟩
  · subst h; refine retE ?_; exact ⟨rfl, rfl, trivial⟩
  · subst h
    refine ⟨[], nofun, (sum_pure p q hp hq).use ⟨⟨rfl, rfl, trivial⟩, ⟨rfl, rfl, trivial⟩, trivial⟩ rfl rfl ?_⟩
    refine retE ?_; exact ⟨rfl, rfl, trivial⟩
  · subst h
    refine And.intro (fun h => ?_) (fun h => ?_)
    · rw [show withinV 14 p q = (p.1 - q.2, p.2 - q.1) by show (if q.2 ≤ p.1 then (p.1 - q.2, p.2 - q.1) else (0, 4294967295)) = _; rw [if_pos h]]
      refine .inl ⟨inR_u32 (by omega), .inl ⟨inR_u32 (by omega), ?_⟩⟩
      refine retE ?_; exact ⟨rfl, rfl, trivial⟩
    · rw [show withinV 14 p q = (0, 4294967295) by show (if q.2 ≤ p.1 then (p.1 - q.2, p.2 - q.1) else (0, 4294967295)) = _; rw [if_neg h]]
      refine retE ?_; exact ⟨rfl, rfl, trivial⟩
  · subst h
    refine ⟨[], nofun, (product_pure p q hp hq).use ⟨⟨rfl, rfl, trivial⟩, ⟨rfl, rfl, trivial⟩, trivial⟩ rfl rfl ?_⟩
    refine retE ?_; exact ⟨rfl, rfl, trivial⟩
  · subst h
    refine ⟨show max q.2 1 ≠ 0 by omega, .inl ⟨a0, show p.1 ≤ Ev.kmax .u32 by rw [kq]; omega, show 0 < max q.2 1 by omega, ?_⟩⟩
    refine ⟨show max q.1 1 ≠ 0 by omega, .inl ⟨show 0 ≤ p.2 by omega, show p.2 ≤ Ev.kmax .u32 by rw [kq]; omega, show 0 < max q.1 1 by omega, ?_⟩⟩
    refine retE ?_; exact ⟨rfl, rfl, trivial⟩
  · subst h
    refine .inl ⟨inR_u32 (by omega), ?_⟩
    refine retE ?_; exact ⟨rfl, rfl, trivial⟩
  · subst h; refine retE ?_; exact ⟨rfl, rfl, trivial⟩
  · rw [show withinV op p q = (0, 4294967295) by unfold withinV; rw [if_neg (by omega), if_neg n7, if_neg n13, if_neg n14, if_neg n15, if_neg n16, if_neg n17, if_neg n11]]
    refine retE ?_; exact ⟨rfl, rfl, trivial⟩

theorem at_bd {ws : List Int} {n o : Int} (hw : ∀ v ∈ ws, 0 ≤ v ∧ v ≤ 4294967295) (ho : 0 ≤ o ∧ o ≤ 4294967295) : 0 ≤ (ws[n.toNat]?).getD o ∧ (ws[n.toNat]?).getD o ≤ 4294967295 := by
  cases h : ws[n.toNat]? with
  | none => exact ho
  | some v => exact hw v (List.mem_of_getElem? h)
theorem withinV_ok {op : Int} {p q : Int × Int} (hp : SpOk p) (hq : SpOk q) : SpOk (withinV op p q) := by
  obtain ⟨a0, a1, a2⟩ := hp
  obtain ⟨c0, c1, c2⟩ := hq
  have hmono : p.1 * q.1 ≤ p.2 * q.2 := Int.mul_le_mul a1 c1 c0 (by omega)
  have hnn : 0 ≤ p.1 * q.1 := Int.mul_nonneg a0 c0
  have d1 : 0 ≤ p.1 / max q.2 1 := Int.ediv_nonneg a0 (by omega)
  have d2 : p.1 / max q.2 1 ≤ p.2 / max q.1 1 := Int.le_ediv_of_mul_le (by omega) (Int.le_trans (Int.mul_le_mul_of_nonneg_left (show max q.1 1 ≤ max q.2 1 by omega) d1) (Int.le_trans (Int.ediv_mul_le _ (by omega)) a1))
  have d3 : p.2 / max q.1 1 ≤ p.2 := Int.ediv_le_self _ (by omega)
  unfold withinV SpOk sumV prodV
  repeat' split
  all_goals (simp only; omega)
def reachV (lo hi : List Int) : T → Int × Int
  | .leaf o n => if o = 1 then (n, n) else ((lo[n.toNat]?).getD 0, (hi[n.toNat]?).getD 4294967295)
  | .one _ _ _ => (0, 4294967295)
  | .two o _ a b => withinV o (reachV lo hi a) (reachV lo hi b)

set_option maxRecDepth 10000 in
theorem reach_pure (lo hi : List Int) (hlo : ∀ v ∈ lo, 0 ≤ v ∧ v ≤ 4294967295) (hhi : ∀ v ∈ hi, 0 ≤ v ∧ v ≤ 4294967295) (hle : ∀ i : Nat, (lo[i]?).getD 0 ≤ (hi[i]?).getD 4294967295) : ∀ t : T, t.Wf → t.shaped = true → PureF gT 42 [tpv t, .sl 1 (wordsP lo), .sl 1 (wordsP hi)] (spP (reachV lo hi t)) ∧ SpOk (reachV lo hi t)
  | .leaf o n, hwf, hs => by
    have hn : 0 ≤ n ∧ n ≤ 4294967295 := hwf
    have ho := shaped_leaf' hs
    refine ⟨?_, ?_⟩
    · refine Spec.enter gTok P42 100 Tryd.func42 rfl (by kernel_rfl) ?_
      refine And.intro (fun h => ?_) (fun h => And.intro (fun h2 => ?_) (fun h2 => absurd ho (fun e => e.elim h h2)))
      · refine retE ?_
        rw [show reachV lo hi (.leaf o n) = (n, n) from if_pos h]
        exact ⟨rfl, rfl, trivial⟩
      · rw [show reachV lo hi (.leaf o n) = ((lo[n.toNat]?).getD 0, (hi[n.toNat]?).getD 4294967295) from if_neg h]
        refine ⟨[], nofun, (at_pure lo n 0 hn).use ⟨rfl, rfl, rfl, trivial⟩ rfl rfl ?_⟩
        refine ⟨[], nofun, (at_pure hi n 4294967295 hn).use ⟨rfl, rfl, rfl, trivial⟩ rfl rfl ?_⟩
        refine retE ?_
        exact ⟨rfl, rfl, trivial⟩
    · unfold reachV SpOk
      split
      · exact ⟨hn.1, Int.le_refl _, hn.2⟩
      · exact ⟨(at_bd hlo (by omega)).1, hle _, (at_bd hhi (by omega)).2⟩
  | .one o n a, hwf, hs => by
    have ho := (shaped_one hs).1
    refine ⟨?_, by unfold reachV SpOk; simp⟩
    refine Spec.enter gTok P42 100 Tryd.func42 rfl (by kernel_rfl) ?_
    refine And.intro (fun h => absurd (show o = 1 from h) (by omega)) (fun _ => And.intro (fun h => absurd (show o = 2 from h) (by omega)) (fun _ => And.intro (fun _ => ?_) (fun h3 => And.intro (fun _ => ?_) (fun h4 => absurd (show ¬ o = 4 from h4) (by have h3' : ¬ o = 3 := h3; omega)))))
    · refine retE ?_
      exact ⟨rfl, rfl, trivial⟩
    · refine retE ?_
      exact ⟨rfl, rfl, trivial⟩
  | .two o n a b, hwf, hs => by
    obtain ⟨ho, ha, hb⟩ := shaped_two hs
    obtain ⟨iha, oka⟩ := reach_pure lo hi hlo hhi hle a hwf.2.1 ha
    obtain ⟨ihb, okb⟩ := reach_pure lo hi hlo hhi hle b hwf.2.2 hb
    refine ⟨?_, withinV_ok oka okb⟩
    refine Spec.enter gTok P42 100 Tryd.func42 rfl (by kernel_rfl) ?_
    refine And.intro (fun h => absurd (show o = 1 from h) (by omega)) (fun _ => And.intro (fun h => absurd (show o = 2 from h) (by omega)) (fun _ => And.intro (fun h => absurd (show o = 3 from h) (by omega)) (fun _ => And.intro (fun h => absurd (show o = 4 from h) (by omega)) (fun _ => ?_))))
    refine ⟨T, [a, b], tpv, rfl, (show (0 : Int) ≤ 0 by decide), (show (0 : Int) < 2 by decide), fun x hx => ?_⟩
    obtain rfl : a = x := Option.some.inj hx
    refine ⟨T, [a, b], tpv, rfl, (show (0 : Int) ≤ 1 by decide), (show (1 : Int) < 2 by decide), fun x hx => ?_⟩
    obtain rfl : b = x := Option.some.inj hx
    refine ⟨[], nofun, iha.use ⟨⟨rfl, rfl, rfl, trivial⟩, rfl, rfl, trivial⟩ rfl rfl ?_⟩
    refine ⟨[], nofun, ihb.use ⟨⟨rfl, rfl, rfl, trivial⟩, rfl, rfl, trivial⟩ rfl rfl ?_⟩
    refine ⟨[], nofun, (within_pure o _ _ oka okb).use ⟨rfl, ⟨rfl, rfl, trivial⟩, ⟨rfl, rfl, trivial⟩, trivial⟩ rfl rfl ?_⟩
    refine retE ?_
    exact ⟨rfl, rfl, trivial⟩
theorem range_pure (lo hi : List Int) (hlo : ∀ v ∈ lo, 0 ≤ v ∧ v ≤ 4294967295) (hhi : ∀ v ∈ hi, 0 ≤ v ∧ v ≤ 4294967295) (hle : ∀ i : Nat, (lo[i]?).getD 0 ≤ (hi[i]?).getD 4294967295) (t : T) (hwf : t.Wf) (hs : t.shaped = true) : PureF gT 16 [tpv t, .sl 1 (wordsP lo), .sl 1 (wordsP hi)] (.tup [.int .u32 (reachV lo hi t).1, .int .u32 (reachV lo hi t).2]) := by
  refine Spec.enter gTok P16 100 Tryd.func16 rfl (by kernel_rfl) ?_
  refine ⟨[], nofun, (reach_pure lo hi hlo hhi hle t hwf hs).1.use ⟨⟨rfl, rfl, rfl, trivial⟩, rfl, rfl, trivial⟩ rfl rfl ?_⟩
  refine retE ?_
  exact ⟨rfl, rfl, trivial⟩

end Go.Proofs.YtnjmfedleimlmaaDoor.Pw

/- Chapter 11: what an operator makes of two words is within what it makes of their spans. -/
namespace Go.Proofs.YtnjmfedleimlmaaDoor.Pw
open Go Go.RowKit

theorem within_in {op x y v : Int} {p q : Int × Int} (hp : SpOk p) (hq : SpOk q) (hx : p.1 ≤ x ∧ x ≤ p.2) (hy : q.1 ≤ y ∧ y ≤ q.2) (hv : twoV op x y = some v) : (withinV op p q).1 ≤ v ∧ v ≤ (withinV op p q).2 := by
  obtain ⟨a0, a1, a2⟩ := hp
  obtain ⟨c0, c1, c2⟩ := hq
  have hvb := twoV_bd (op := op) (x := x) (y := y) ⟨by omega, by omega⟩ ⟨by omega, by omega⟩ hv
  unfold withinV
  by_cases h8 : op = 8
  · subst h8
    rw [if_pos (.inl rfl)]
    simp only [twoV, if_pos, Option.some.injEq] at hv
    subst hv
    split <;> simp
  by_cases h9 : op = 9
  · subst h9
    rw [if_pos (.inr rfl)]
    have hv : some (if x < y then (1 : Int) else 0) = some v := hv
    cases hv
    split <;> simp
  rw [if_neg (by omega)]
  by_cases h7 : op = 7
  · subst h7
    rw [if_pos rfl]
    have hv : some (bits .and .u32 x y) = some v := hv
    cases hv
    rw [u32_and x y (by omega) (by omega) (by omega) (by omega)] at hvb ⊢
    have k1 : x.toNat &&& y.toNat ≤ x.toNat := Nat.and_le_left
    have k2 : x.toNat &&& y.toNat ≤ y.toNat := Nat.and_le_right
    exact ⟨hvb.1, by show _ ≤ min p.2 q.2; omega⟩
  rw [if_neg h7]
  by_cases h13 : op = 13
  · subst h13
    rw [if_pos rfl]
    have hv : some ((x + y) % 4294967296) = some v := hv
    cases hv
    unfold sumV
    split
    · simp only; omega
    · exact hvb
  rw [if_neg h13]
  by_cases h14 : op = 14
  · subst h14
    rw [if_pos rfl]
    have hv : some ((x - y) % 4294967296) = some v := hv
    cases hv
    split
    · simp only; omega
    · exact hvb
  rw [if_neg h14]
  by_cases h15 : op = 15
  · subst h15
    rw [if_pos rfl]
    have hv : some (x * y % 4294967296) = some v := hv
    cases hv
    unfold prodV
    split
    · rename_i h
      have m1 : p.1 * q.1 ≤ x * y := Int.mul_le_mul hx.1 hy.1 c0 (by omega)
      have m2 : x * y ≤ p.2 * q.2 := Int.mul_le_mul hx.2 hy.2 (by omega) (by omega)
      have m0 : 0 ≤ p.1 * q.1 := Int.mul_nonneg a0 c0
      simp only
      omega
    · exact hvb
  rw [if_neg h15]
  by_cases h16 : op = 16
  · subst h16
    rw [if_pos rfl]
    have hv : (if y = 0 then none else some (x / y)) = some v := hv
    split at hv
    · cases hv
    · rename_i hy0
      cases hv
      refine ⟨?_, ?_⟩
      · refine Int.le_ediv_of_mul_le (by omega) ?_
        have d1 : 0 ≤ p.1 / max q.2 1 := Int.ediv_nonneg a0 (by omega)
        exact Int.le_trans (Int.mul_le_mul_of_nonneg_left (show y ≤ max q.2 1 by omega) d1) (Int.le_trans (Int.ediv_mul_le _ (by omega)) hx.1)
      · refine Int.le_ediv_of_mul_le (by omega) ?_
        have d1 : 0 ≤ x / y := Int.ediv_nonneg (by omega) (by omega)
        exact Int.le_trans (Int.mul_le_mul_of_nonneg_left (show max q.1 1 ≤ y by omega) d1) (Int.le_trans (Int.ediv_mul_le _ hy0) hx.2)
  rw [if_neg h16]
  by_cases h17 : op = 17
  · subst h17
    rw [if_pos rfl]
    have hv : (if y = 0 then none else some (x % y)) = some v := hv
    split at hv
    · cases hv
    · rename_i hy0
      cases hv
      have k1 : x % y < y := Int.emod_lt_of_pos _ (by omega)
      have k2 : x % y ≤ x := by
        have e := Int.mul_ediv_add_emod x y
        have n0 := Int.mul_nonneg (show 0 ≤ y by omega) (Int.ediv_nonneg (show 0 ≤ x by omega) (show 0 ≤ y by omega))
        omega
      exact ⟨hvb.1, by show _ ≤ min p.2 (max q.2 1 - 1); omega⟩
  rw [if_neg h17]
  by_cases h11 : op = 11
  · subst h11
    rw [if_pos rfl]
    have hv : some (x / 2 ^ (y % 32).toNat) = some v := hv
    cases hv
    have : x / 2 ^ (y % 32).toNat ≤ x := Int.ediv_le_self _ (by omega)
    exact ⟨hvb.1, by show _ ≤ p.2; omega⟩
  rw [if_neg h11]
  exact hvb

theorem reach_ok {lo hi : List Int} (hlo : ∀ v ∈ lo, 0 ≤ v ∧ v ≤ 4294967295) (hhi : ∀ v ∈ hi, 0 ≤ v ∧ v ≤ 4294967295) (hle : ∀ i : Nat, (lo[i]?).getD 0 ≤ (hi[i]?).getD 4294967295) (t : T) (hwf : t.Wf) (hs : t.shaped = true) : SpOk (reachV lo hi t) := (reach_pure lo hi hlo hhi hle t hwf hs).2
/-- a value is within its span -/
theorem reach_in (ws lo hi : List Int) (hw : WordsOk ws) (hlo : ∀ v ∈ lo, 0 ≤ v ∧ v ≤ 4294967295) (hhi : ∀ v ∈ hi, 0 ≤ v ∧ v ≤ 4294967295) (h1 : ∀ i : Nat, (lo[i]?).getD 0 ≤ (ws[i]?).getD 0) (h2 : ∀ i : Nat, (ws[i]?).getD 0 ≤ (hi[i]?).getD 4294967295) : ∀ t : T, t.Wf → t.shaped = true → ∀ v, t.evalT ws = some v → (reachV lo hi t).1 ≤ v ∧ v ≤ (reachV lo hi t).2
  | .leaf o n, hwf, hs, v, hv => by
    simp only [T.evalT, Option.some.injEq] at hv
    subst hv
    unfold reachV leafV
    split
    · exact ⟨Int.le_refl _, Int.le_refl _⟩
    · exact ⟨h1 _, h2 _⟩
  | .one o n a, hwf, hs, v, hv => by
    have := T.evalT_bd hw hwf hv
    exact this
  | .two o n a b, hwf, hs, v, hv => by
    obtain ⟨ho, ha, hb⟩ := shaped_two hs
    simp only [T.evalT, Option.bind_eq_some_iff] at hv
    obtain ⟨x, hx, y, hy, hv⟩ := hv
    have ia := reach_in ws lo hi hw hlo hhi h1 h2 a hwf.2.1 ha x hx
    have ib := reach_in ws lo hi hw hlo hhi h1 h2 b hwf.2.2 hb y hy
    have xb := T.evalT_bd hw hwf.2.1 hx
    have yb := T.evalT_bd hw hwf.2.2 hy
    have oka := reach_ok hlo hhi (fun i => Int.le_trans (h1 i) (h2 i)) a hwf.2.1 ha
    have okb := reach_ok hlo hhi (fun i => Int.le_trans (h1 i) (h2 i)) b hwf.2.2 hb
    exact within_in oka okb ia ib hv

end Go.Proofs.YtnjmfedleimlmaaDoor.Pw

/- Chapter 11 over values: Put. -/
namespace Go.Proofs.YtnjmfedleimlmaaDoor.Pw
open Go Go.RowKit

def putT (l : List T) : T → T
  | .leaf o n => if o = 2 ∧ n < l.length then (l[n.toNat]?).getD (.leaf o n) else .leaf o n
  | .one o n a => if o = 2 ∧ n < l.length then (l[n.toNat]?).getD (.leaf o n) else .one o n (putT l a)
  | .two o n a b => if o = 2 ∧ n < l.length then (l[n.toNat]?).getD (.leaf o n) else .two o n (putT l a) (putT l b)

theorem putT_var {l : List T} {t x : T} (h1 : t.op = 2) (h2 : t.num < l.length) (hx : l[t.num.toNat]? = some x) : putT l t = x := by
  cases t <;> (unfold putT; simp only [T.op, T.num] at h1 h2 hx; rw [if_pos ⟨h1, h2⟩, hx]; rfl)
theorem le_tpv (x : T) {y : T} (h : y = x) : leK (.agg [.int .i64 x.op, .int .u32 x.num, .sl 3 (kidsP x)]) (tpv y) := by subst h; exact ⟨rfl, rfl, rfl, trivial⟩

set_option maxRecDepth 10000 in
theorem put_pure (l : List T) (hl : l.length ≤ maxLen) : ∀ t : T, t.Wf → PureF gT 20 [tpv t, .sl 3 (l.map tpv)] (tpv (putT l t))
  | .leaf o n, hwf => by
    have hn : 0 ≤ n ∧ n ≤ 4294967295 := hwf
    have hf : ¬ (o = 2 ∧ n < l.length) → putT l (.leaf o n) = .leaf o n := fun h => by unfold putT; rw [if_neg h]
    refine Spec.enter gTok P20 100 Tryd.func20 rfl (by kernel_rfl) ?_
    refine And.intro (fun h1 => ?_) (fun h1 => ?_)
    · refine .inl ⟨inR_i64 (by show _ ≤ n ∧ n ≤ _; omega), fun hm => And.intro (fun h2 => ?_) (fun h2 => ?_)⟩
      · rw [List.length_map] at h2
        exact ⟨_, l, tpv, rfl, hn.1, h2, fun x hx => retE (le_tpv x (putT_var h1 h2 hx))⟩
      · rw [List.length_map] at h2
        rw [hf fun h => h2 h.2]
        refine fun _ => SW.rounds gTok P20 (by kernel_rfl) (N := 60) 3 ?_
        refine And.intro (fun h => absurd h (by simp [kidsP])) (fun _ => ?_)
        exact retE ⟨rfl, rfl, rfl, trivial⟩
    · rw [hf fun h => h1 h.1]
      refine fun _ => SW.rounds gTok P20 (by kernel_rfl) (N := 60) 3 ?_
      refine And.intro (fun h => absurd h (by simp [kidsP])) (fun _ => ?_)
      exact retE ⟨rfl, rfl, rfl, trivial⟩
  | .one o n a, hwf => by
    have hn : 0 ≤ n ∧ n ≤ 4294967295 := hwf.1
    have iha := put_pure l hl a hwf.2
    have hf : ¬ (o = 2 ∧ n < l.length) → putT l (.one o n a) = .one o n (putT l a) := fun h => by
      rw [putT.eq_def]; simp only; rw [if_neg h]
    refine Spec.enter gTok P20 100 Tryd.func20 rfl (by kernel_rfl) ?_
    refine And.intro (fun h1 => ?_) (fun h1 => ?_)
    · refine .inl ⟨inR_i64 (by show _ ≤ n ∧ n ≤ _; omega), fun hm => And.intro (fun h2 => ?_) (fun h2 => ?_)⟩
      · rw [List.length_map] at h2
        exact ⟨_, l, tpv, rfl, hn.1, h2, fun x hx => retE (le_tpv x (putT_var h1 h2 hx))⟩
      · rw [List.length_map] at h2
        rw [hf fun h => h2 h.2]
        refine fun _ => SW.rounds gTok P20 (by kernel_rfl) (N := 60) 3 ?_
        refine And.intro (fun _ => ?_) (fun h => absurd (show (0 : Int) < 1 by decide) h)
        refine ⟨T, [a], tpv, rfl, (show (0 : Int) ≤ 0 by decide), (show (0 : Int) < 1 by decide), fun x hx => ?_⟩
        obtain rfl : a = x := Option.some.inj hx
        refine ⟨[], nofun, iha.use ⟨⟨rfl, rfl, rfl, trivial⟩, rfl, trivial⟩ rfl rfl ?_⟩
        refine And.intro (fun h => absurd (show (1 : Int) < 1 from h) (by decide)) (fun _ => ?_)
        refine retE ?_
        exact ⟨rfl, rfl, rfl, trivial⟩
    · rw [hf fun h => h1 h.1]
      refine fun _ => SW.rounds gTok P20 (by kernel_rfl) (N := 60) 3 ?_
      refine And.intro (fun _ => ?_) (fun h => absurd (show (0 : Int) < 1 by decide) h)
      refine ⟨T, [a], tpv, rfl, (show (0 : Int) ≤ 0 by decide), (show (0 : Int) < 1 by decide), fun x hx => ?_⟩
      obtain rfl : a = x := Option.some.inj hx
      refine ⟨[], nofun, iha.use ⟨⟨rfl, rfl, rfl, trivial⟩, rfl, trivial⟩ rfl rfl ?_⟩
      refine And.intro (fun h => absurd (show (1 : Int) < 1 from h) (by decide)) (fun _ => ?_)
      refine retE ?_
      exact ⟨rfl, rfl, rfl, trivial⟩
  | .two o n a b, hwf => by
    have hn : 0 ≤ n ∧ n ≤ 4294967295 := hwf.1
    have iha := put_pure l hl a hwf.2.1
    have ihb := put_pure l hl b hwf.2.2
    have hf : ¬ (o = 2 ∧ n < l.length) → putT l (.two o n a b) = .two o n (putT l a) (putT l b) := fun h => by
      rw [putT.eq_def]; simp only; rw [if_neg h]
    refine Spec.enter gTok P20 100 Tryd.func20 rfl (by kernel_rfl) ?_
    refine And.intro (fun h1 => ?_) (fun h1 => ?_)
    · refine .inl ⟨inR_i64 (by show _ ≤ n ∧ n ≤ _; omega), fun hm => And.intro (fun h2 => ?_) (fun h2 => ?_)⟩
      · rw [List.length_map] at h2
        exact ⟨_, l, tpv, rfl, hn.1, h2, fun x hx => retE (le_tpv x (putT_var h1 h2 hx))⟩
      · rw [List.length_map] at h2
        rw [hf fun h => h2 h.2]
        refine fun _ => SW.rounds gTok P20 (by kernel_rfl) (N := 60) 3 ?_
        refine And.intro (fun _ => ?_) (fun h => absurd (show (0 : Int) < 2 by decide) h)
        refine ⟨T, [a, b], tpv, rfl, (show (0 : Int) ≤ 0 by decide), (show (0 : Int) < 2 by decide), fun x hx => ?_⟩
        obtain rfl : a = x := Option.some.inj hx
        refine ⟨[], nofun, iha.use ⟨⟨rfl, rfl, rfl, trivial⟩, rfl, trivial⟩ rfl rfl ?_⟩
        refine And.intro (fun _ => ?_) (fun h => absurd (show (1 : Int) < 2 by decide) h)
        refine ⟨T, [a, b], tpv, rfl, (show (0 : Int) ≤ 1 by decide), (show (1 : Int) < 2 by decide), fun x hx => ?_⟩
        obtain rfl : b = x := Option.some.inj hx
        refine ⟨[], nofun, ihb.use ⟨⟨rfl, rfl, rfl, trivial⟩, rfl, trivial⟩ rfl rfl ?_⟩
        refine And.intro (fun h => absurd (show (2 : Int) < 2 from h) (by decide)) (fun _ => ?_)
        refine retE ?_
        exact ⟨rfl, rfl, rfl, trivial⟩
    · rw [hf fun h => h1 h.1]
      refine fun _ => SW.rounds gTok P20 (by kernel_rfl) (N := 60) 3 ?_
      refine And.intro (fun _ => ?_) (fun h => absurd (show (0 : Int) < 2 by decide) h)
      refine ⟨T, [a, b], tpv, rfl, (show (0 : Int) ≤ 0 by decide), (show (0 : Int) < 2 by decide), fun x hx => ?_⟩
      obtain rfl : a = x := Option.some.inj hx
      refine ⟨[], nofun, iha.use ⟨⟨rfl, rfl, rfl, trivial⟩, rfl, trivial⟩ rfl rfl ?_⟩
      refine And.intro (fun _ => ?_) (fun h => absurd (show (1 : Int) < 2 by decide) h)
      refine ⟨T, [a, b], tpv, rfl, (show (0 : Int) ≤ 1 by decide), (show (1 : Int) < 2 by decide), fun x hx => ?_⟩
      obtain rfl : b = x := Option.some.inj hx
      refine ⟨[], nofun, ihb.use ⟨⟨rfl, rfl, rfl, trivial⟩, rfl, trivial⟩ rfl rfl ?_⟩
      refine And.intro (fun h => absurd (show (2 : Int) < 2 from h) (by decide)) (fun _ => ?_)
      refine retE ?_
      exact ⟨rfl, rfl, rfl, trivial⟩

end Go.Proofs.YtnjmfedleimlmaaDoor.Pw

/- What comes in to chapter 11's laws, opened; the table of all words. -/
namespace Go.Proofs.YtnjmfedleimlmaaDoor.Pw
open Go Go.RowKit

def NodeOk (y : Int × Int) : Prop := (-9223372036854775808 ≤ y.1 ∧ y.1 ≤ 9223372036854775807) ∧ 0 ≤ y.2 ∧ y.2 ≤ 4294967295
def U32Ok (v : Int) : Prop := 0 ≤ v ∧ v ≤ 4294967295
theorem inR_u32' {z : Int} (h : InR .u32 z) : 0 ≤ z ∧ z ≤ 4294967295 := by unfold InR Ev.kmin Ev.kmax at h; simp only [IntKind.signed, IntKind.bits] at h; simpa using h
theorem inR_i64' {z : Int} (h : InR .i64 z) : -9223372036854775808 ≤ z ∧ z ≤ 9223372036854775807 := by unfold InR Ev.kmin Ev.kmax at h; simp only [IntKind.signed, IntKind.bits] at h; simpa using h
set_option maxRecDepth 100000 in
theorem opNodes : Op Tryd.prog 22 (SLs 2 16 nodeP NodeOk) :=
  opList (opSlice (opAgg (Ss := [SInt .i64, SInt .u32]) Tryd.underlying115 ⟨rfl, opInt Tryd.underlying3 (by kernel_rfl), (show _ = _ by kernel_rfl), opInt Tryd.underlying25 (by kernel_rfl), (show _ = _ by kernel_rfl)⟩) 2 16 (by kernel_rfl) Tryd.underlying22 (by kernel_rfl) (by decide) (by kernel_rfl)) fun x ⟨xs, h, e⟩ => by
    obtain ⟨_, _, rfl, ⟨a, ha, rfl⟩, h1⟩ := all2_cons h
    obtain ⟨_, _, rfl, ⟨b, hb, rfl⟩, h2⟩ := all2_cons h1
    obtain rfl := all2_nil h2
    exact ⟨(a, b), ⟨inR_i64' ha, inR_u32' hb⟩, e⟩
theorem opWords : Op Tryd.prog 23 (SLs 1 4 (PV.int .u32) U32Ok) :=
  opList (opSlice (opInt Tryd.underlying25 (by kernel_rfl)) 1 4 (by kernel_rfl) Tryd.underlying23 (by kernel_rfl) (by decide) (by kernel_rfl)) fun x ⟨a, ha, e⟩ => ⟨a, inR_u32' ha, e⟩
theorem immT {W : World} (h : laidMetH Tryd.prog termLaid.laidList W) : ImmOk gT (In W) W :=
  immOk_laid (laid := termLaid.laidList) (by kernel_rfl) h fun x hx => by
    obtain rfl : x = (0, [.lit .u32 0, .lit .u32 4294967295]) := List.mem_singleton.1 hx
    exact ⟨"remontoire/term.all", _, 85, List.mem_singleton.2 rfl, by kernel_rfl, by kernel_rfl, by kernel_rfl, nofun⟩

end Go.Proofs.YtnjmfedleimlmaaDoor.Pw

/- TermPuts over values. -/
namespace Go.Proofs.YtnjmfedleimlmaaDoor.Pw
open Go Go.RowKit

theorem ofOk_wf {l : List (Int × Int)} (h : ¬ ¬ ofOk l = true) : (ofX l).shaped = true := (ofOk_shaped (Classical.not_not.1 h)).2

theorem putT_wf {l : List T} (hl : ∀ t ∈ l, t.Wf) : ∀ {t : T}, t.Wf → (putT l t).Wf
  | .leaf o n, h => by
    unfold putT
    split
    · cases hx : l[n.toNat]? with
      | none => exact h
      | some x => exact hl x (List.mem_of_getElem? hx)
    · exact h
  | .one o n a, h => by
    unfold putT
    split
    · cases hx : l[n.toNat]? with
      | none => exact h.1
      | some x => exact hl x (List.mem_of_getElem? hx)
    · exact ⟨h.1, putT_wf hl h.2⟩
  | .two o n a b, h => by
    unfold putT
    split
    · cases hx : l[n.toNat]? with
      | none => exact h.1
      | some x => exact hl x (List.mem_of_getElem? hx)
    · exact ⟨h.1, putT_wf hl h.2.1, putT_wf hl h.2.2⟩
set_option maxRecDepth 10000 in
/-- what is put has the values of its words -/
theorem put_eval {x y : T} {v u : Int} {ws : List Int} (hv : x.evalT ws = some v) (hu : y.evalT ws = some u) : ∀ {t : T}, t.shaped = true → t.Wf → (putT [x, y] t).evalT ws = t.evalT (v :: u :: ws.drop 2)
  | .leaf o n, hs, hwf => by
    have hn : 0 ≤ n ∧ n ≤ 4294967295 := hwf
    unfold putT
    simp only [T.evalT, List.length_cons, List.length_nil]
    unfold leafV
    split
    · rename_i h
      obtain ⟨rfl, h2⟩ := h
      have h01 : n = 0 ∨ n = 1 := by omega
      rcases h01 with rfl | rfl
      · simpa using hv
      · simpa using hu
    · rename_i h
      simp only [T.evalT]
      unfold leafV
      split
      · rfl
      · rename_i h1
        have ho : o = 2 := by
          simp only [T.shaped, goodN, decide_eq_true_eq, needsN] at hs
          obtain ⟨h2, h3, h4, _⟩ := hs
          by_cases k1 : o < 1 ∨ 17 < o
          · omega
          · rw [if_neg k1] at h4
            by_cases k2 : o < 3
            · omega
            · rw [if_neg k2] at h4
              by_cases k3 : o < 5
              · rw [if_pos k3] at h4; omega
              · rw [if_neg k3] at h4; omega
        subst ho
        obtain ⟨k, rfl⟩ : ∃ k : Nat, n = k + 2 := ⟨(n - 2).toNat, by omega⟩
        rw [show ((k : Int) + 2).toNat = k + 1 + 1 by omega, List.getElem?_cons_succ, List.getElem?_cons_succ, List.getElem?_drop, show 2 + k = k + 1 + 1 by omega]
  | .one o n a, hs, hwf => by
    obtain ⟨ho, ha⟩ := shaped_one hs
    unfold putT
    rw [if_neg (by omega)]
    simp only [T.evalT]
    rw [put_eval hv hu ha hwf.2]
  | .two o n a b, hs, hwf => by
    obtain ⟨ho, ha, hb⟩ := shaped_two hs
    unfold putT
    rw [if_neg (by omega)]
    simp only [T.evalT]
    rw [put_eval hv hu ha hwf.2.1, put_eval hv hu hb hwf.2.2]

set_option maxRecDepth 10000 in
theorem TermPuts_pure (la lb lc : List (Int × Int)) (ws : List Int) (ha : la.length ≤ maxLen) (hb : lb.length ≤ maxLen) (hc : lc.length ≤ maxLen) (hw : WordsOk ws) (hw4 : ws.length * 4 ≤ reachBytes) (wa : (ofX la).Wf) (wb : (ofX lb).Wf) (wc : (ofX lc).Wf) :
    PureF gT 5 [.sl 2 (la.map nodeP), .sl 2 (lb.map nodeP), .sl 2 (lc.map nodeP), .sl 1 (wordsP ws)] .tt := by
  refine Spec.enter gTok P5 100 Tryd.func5 rfl (by kernel_rfl) ?_
  refine ⟨[], nofun, anchor_pure.use trivial rfl rfl ?_⟩
  refine ⟨[], nofun, (of_pure la ha).use ⟨rfl, trivial⟩ rfl rfl ?_⟩
  refine ⟨[], nofun, (of_pure lb hb).use ⟨rfl, trivial⟩ rfl rfl ?_⟩
  refine ⟨[], nofun, (of_pure lc hc).use ⟨rfl, trivial⟩ rfl rfl ?_⟩
  refine And.intro (fun h1 => ?_) (fun h1 => And.intro (fun h2 => ?_) (fun h2 => And.intro (fun h3 => ?_) (fun h3 => ?_)))
  · exact retE trivial
  · exact retE trivial
  · exact retE trivial
  have ta := ofOk_wf h1
  refine ⟨[], nofun, (eval_pure ws hw _ wb).use ⟨⟨rfl, rfl, rfl, trivial⟩, rfl, trivial⟩ rfl rfl ?_⟩
  refine ⟨[], nofun, (eval_pure ws hw _ wc).use ⟨⟨rfl, rfl, rfl, trivial⟩, rfl, trivial⟩ rfl rfl ?_⟩
  refine And.intro (fun h4 => ?_) (fun h4 => And.intro (fun h5 => ?_) (fun h5 => ?_))
  · exact retE trivial
  · exact retE trivial
  obtain ⟨v, hv⟩ : ∃ v, (ofX lb).evalT ws = some v := Option.isSome_iff_exists.1 (Classical.not_not.1 h4)
  obtain ⟨u, hu⟩ : ∃ v, (ofX lc).evalT ws = some v := Option.isSome_iff_exists.1 (Classical.not_not.1 h5)
  refine fun hm => ?_
  have hwl : (wordsP ws).length = ws.length := List.length_map ..
  refine ⟨show (0 : Int) ≤ min 2 ((wordsP ws).length : Int) by omega, show min 2 ((wordsP ws).length : Int) ≤ ((wordsP ws).length : Int) by omega, Int.le_refl _, ?_⟩
  have hlen : (List.take (((wordsP ws).length : Int) - min 2 ((wordsP ws).length : Int)).toNat (List.drop (min 2 ((wordsP ws).length : Int)).toNat (wordsP ws))).length = ws.length - min 2 ws.length := by
    rw [List.length_take, List.length_drop, hwl]; omega
  have hel : List.take (((wordsP ws).length : Int) - min 2 ((wordsP ws).length : Int)).toNat (List.drop (min 2 ((wordsP ws).length : Int)).toNat (wordsP ws)) = wordsP (ws.drop 2) := by
    rw [List.take_of_length_le (by rw [List.length_drop, hwl]; omega), hwl]
    unfold wordsP
    rw [← List.map_drop]
    congr 1
    rcases Nat.lt_or_ge ws.length 2 with h | h
    · rw [List.drop_eq_nil_of_le (by omega), List.drop_eq_nil_of_le (by omega)]
    · congr 1; omega
  refine ⟨show 2 + (List.take (((wordsP ws).length : Int) - min 2 ((wordsP ws).length : Int)).toNat (List.drop (min 2 ((wordsP ws).length : Int)).toNat (wordsP ws))).length ≤ maxLen by rw [hlen]; have := hw.1; unfold maxLen; omega,
    show (2 + (List.take (((wordsP ws).length : Int) - min 2 ((wordsP ws).length : Int)).toNat (List.drop (min 2 ((wordsP ws).length : Int)).toNat (wordsP ws))).length) * 4 ≤ 140737488355328 by rw [hlen]; unfold reachBytes at hw4; omega, ?_⟩
  refine ⟨[], nofun, (put_pure [ofX lb, ofX lc] (show 2 ≤ maxLen by unfold maxLen; omega) _ wa).useF [5] rfl ⟨⟨rfl, rfl, rfl, trivial⟩, .inl rfl, trivial⟩ rfl rfl ?_⟩
  have hpw : (putT [ofX lb, ofX lc] (ofX la)).Wf := putT_wf (by intro t ht; simp only [List.mem_cons, List.not_mem_nil, or_false] at ht; rcases ht with rfl | rfl <;> assumption) wa
  refine ⟨[], nofun, (eval_pure ws hw _ hpw).use ⟨⟨rfl, rfl, rfl, trivial⟩, rfl, trivial⟩ rfl rfl ?_⟩
  have hv0 := T.evalT_bd hw wb hv
  have hu0 := T.evalT_bd hw wc hu
  have hw2 : WordsOk (v :: u :: ws.drop 2) := by
    refine ⟨by have := hw.1; rw [List.length_cons, List.length_cons, List.length_drop]; omega, fun z hz => ?_⟩
    rcases List.mem_cons.1 hz with rfl | hz
    · exact hv0
    rcases List.mem_cons.1 hz with rfl | hz
    · exact hu0
    · exact hw.2 z (List.mem_of_mem_drop hz)
  refine ⟨[], nofun, (eval_pure (v :: u :: ws.drop 2) hw2 _ wa).useB [4] ⟨⟨rfl, rfl, rfl, trivial⟩, show [PV.int .u32 (((ofX lb).evalT ws).getD 0), .int .u32 (((ofX lc).evalT ws).getD 0)] ++ List.take (((wordsP ws).length : Int) - min 2 ((wordsP ws).length : Int)).toNat (List.drop (min 2 ((wordsP ws).length : Int)).toNat (wordsP ws)) = wordsP (v :: u :: ws.drop 2) by rw [hel, hv, hu]; rfl, trivial⟩ rfl rfl ?_⟩
  rw [put_eval hv hu ta wa]
  refine And.intro (fun _ => ?_) (fun h => absurd Iff.rfl h)
  exact retE rfl

end Go.Proofs.YtnjmfedleimlmaaDoor.Pw

/- The laws of chapter 11 over values, as their frames want them. -/
namespace Go.Proofs.YtnjmfedleimlmaaDoor.Pw
open Go Go.RowKit

abbrev SNodes := SLs 2 16 nodeP NodeOk
abbrev SWords := SLs 1 4 (PV.int .u32) U32Ok
theorem wordsOk_of {ws : List Int} (h1 : ws.length ≤ maxLen) (h2 : ∀ v ∈ ws, U32Ok v) : WordsOk ws := ⟨by unfold maxLen at h1; omega, h2⟩
theorem wf_of {l : List (Int × Int)} (h : ∀ y ∈ l, NodeOk y) : (ofX l).Wf := ofX_wf l fun y hy => (h y hy).2
theorem TermPuts_pure' (x0 : PV) (s0 : SNodes x0) (x1 : PV) (s1 : SNodes x1) (x2 : PV) (s2 : SNodes x2) (x3 : PV) (s3 : SWords x3) : PureF gT 5 [x0, x1, x2, x3] .tt := by
  obtain ⟨la, ⟨ha, _⟩, wa, rfl⟩ := s0
  obtain ⟨lb, ⟨hb, _⟩, wb, rfl⟩ := s1
  obtain ⟨lc, ⟨hc, _⟩, wc, rfl⟩ := s2
  obtain ⟨ws, ⟨hw, hw4⟩, ww, rfl⟩ := s3
  exact TermPuts_pure la lb lc ws ha hb hc (wordsOk_of hw ww) hw4 (wf_of wa) (wf_of wb) (wf_of wc)

end Go.Proofs.YtnjmfedleimlmaaDoor.Pw

/- TermRanges over values. -/
namespace Go.Proofs.YtnjmfedleimlmaaDoor.Pw
open Go Go.RowKit

def dV (ws bs : List Int) (i : Nat) : Int := match bs[i]? with
  | some b => (ws[i]?).getD 0 - min ((ws[i]?).getD 0) b
  | none => 0
def uV (ws us : List Int) (i : Nat) : Int := match us[i]? with
  | some b => (ws[i]?).getD 0 + min (4294967295 - (ws[i]?).getD 0) b
  | none => 4294967295
def lowL (ws bs : List Int) (i : Nat) : List Int := (List.range i).map (dV ws bs)
def highL (ws us : List Int) (i : Nat) : List Int := (List.range i).map (uV ws us)

theorem op1' {t : T} (h : t.shaped = true) (h1 : t.op = 1) : ∃ n, t = .leaf 1 n := by
  cases t with
  | leaf o n => exact ⟨n, by rw [show o = 1 from h1]⟩
  | one o n a => have := (shaped_one h).1; simp only [T.op] at h1; omega
  | two o n a b => have := (shaped_two h).1; simp only [T.op] at h1; omega

set_option maxRecDepth 10000 in
theorem TermRanges_pure (la : List (Int × Int)) (ws bs us : List Int) (ha : la.length ≤ maxLen) (hw : WordsOk ws) (hb : WordsOk bs) (hu : WordsOk us) (wa : (ofX la).Wf) :
    PureF gT 3 [.sl 2 (la.map nodeP), .sl 1 (wordsP ws), .sl 1 (wordsP bs), .sl 1 (wordsP us)] .tt := by
  refine Spec.enter gTok P3 100 Tryd.func3 rfl (by kernel_rfl) ?_
  refine ⟨[], nofun, anchor_pure.use trivial rfl rfl ?_⟩
  refine ⟨[], nofun, (of_pure la ha).use ⟨rfl, trivial⟩ rfl rfl ?_⟩
  refine And.intro (fun h1 => retE trivial) (fun h1 => fun hlen => And.intro (fun h2 => retE trivial) (fun h2 => ?_))
  have ta := ofOk_wf h1
  refine fun _ => ?_
  have hn : ws.length ≤ 60 := by rw [wordsP, List.length_map] at h2; omega
  refine SW.loopD gTok P3 (by kernel_rfl) (fun i : Nat => [(37, .int .i64 i), (11, .wref 1), (12, .wref 2)]) (fun i => [⟨.dyn, 25, 1, .w, true, wordsP (lowL ws bs i)⟩, ⟨.dyn, 25, 1, .w, true, wordsP (highL ws us i)⟩]) (fun i => ws.length - i) 0 60 [none, none] ?_ fun i => ?_
  · repeat' first | exact trivial | exact rfl | exact Iff.rfl | refine And.intro ?_ ?_
  have ell : (wordsP (lowL ws bs i)).length = i := by rw [wordsP, List.length_map, lowL, List.length_map, List.length_range]
  have elh : (wordsP (highL ws us i)).length = i := by rw [wordsP, List.length_map, highL, List.length_map, List.length_range]
  have sl : wordsP (lowL ws bs (i + 1)) = wordsP (lowL ws bs i) ++ [PV.int .u32 (dV ws bs i)] := by simp [wordsP, lowL, List.range_succ]
  have sh : wordsP (highL ws us (i + 1)) = wordsP (highL ws us i) ++ [PV.int .u32 (uV ws us i)] := by simp [wordsP, highL, List.range_succ]
  refine And.intro (fun hi => ?_) (fun hi => ?_)
  · have hi' : i < ws.length := by rw [wordsP, List.length_map] at hi; omega
    refine ⟨_, ws, PV.int .u32, rfl, show (0 : Int) ≤ (i : Int) by omega, show (i : Int) < (ws.length : Int) by omega, fun x hx => ?_⟩
    have hx' : ws[i]? = some x := hx
    have hxb := hw.2 x (List.mem_of_getElem? hx')
    have d1 : ∀ y, bs[i]? = some y → dV ws bs i = x - min x y := fun y hy => by unfold dV; rw [hy, hx']; rfl
    have d0 : bs[i]? = none → dV ws bs i = 0 := fun hy => by unfold dV; rw [hy]
    have u1 : ∀ y, us[i]? = some y → uV ws us i = x + min (4294967295 - x) y := fun y hy => by unfold uV; rw [hy, hx']; rfl
    have u0 : us[i]? = none → uV ws us i = 4294967295 := fun hy => by unfold uV; rw [hy]
    refine fun _ => And.intro (fun h4 => ?_) (fun h4 => ?_)
    · rw [wordsP, List.length_map] at h4
      refine ⟨_, bs, PV.int .u32, rfl, show (0 : Int) ≤ (i : Int) by omega, h4, fun y hy => ?_⟩
      have hy' : bs[i]? = some y := hy
      have hyb := hb.2 y (List.mem_of_getElem? hy')
      have hd := d1 y hy'
      refine .inl ⟨inR_u32 (by omega), ?_⟩
      refine fun _ => And.intro (fun h5 => ?_) (fun h5 => ?_)
      · rw [wordsP, List.length_map] at h5
        refine .inl ⟨inR_u32 (by omega), ?_⟩
        refine ⟨_, us, PV.int .u32, rfl, show (0 : Int) ≤ (i : Int) by omega, h5, fun y2 hy2 => ?_⟩
        have hy2' : us[i]? = some y2 := hy2
        have hy2b := hu.2 y2 (List.mem_of_getElem? hy2')
        have hu' := u1 y2 hy2'
        refine .inl ⟨inR_u32 (by omega), ?_⟩
        refine ⟨show (wordsP (lowL ws bs i)).length + 1 ≤ maxLen by rw [ell]; unfold maxLen; omega, show ((wordsP (lowL ws bs i)).length + 1) * 4 ≤ 140737488355328 by rw [ell]; omega, ?_⟩
        refine ⟨show (wordsP (highL ws us i)).length + 1 ≤ maxLen by rw [elh]; unfold maxLen; omega, show ((wordsP (highL ws us i)).length + 1) * 4 ≤ 140737488355328 by rw [elh]; omega, ?_⟩
        refine .inl ⟨inR_i64 (by omega), ⟨i + 1, [some 4, some 6], by omega, ?_⟩⟩
        repeat' first | exact trivial | exact rfl | exact Iff.rfl | refine And.intro ?_ ?_
        all_goals first | exact (show _ = wordsP (lowL ws bs (i + 1)) by rw [sl, hd]; rfl) | exact (show _ = wordsP (highL ws us (i + 1)) by rw [sh, hu']; rfl)
      · rw [wordsP, List.length_map] at h5
        have hu' := u0 (List.getElem?_eq_none (by omega))
        refine ⟨show (wordsP (lowL ws bs i)).length + 1 ≤ maxLen by rw [ell]; unfold maxLen; omega, show ((wordsP (lowL ws bs i)).length + 1) * 4 ≤ 140737488355328 by rw [ell]; omega, ?_⟩
        refine ⟨show (wordsP (highL ws us i)).length + 1 ≤ maxLen by rw [elh]; unfold maxLen; omega, show ((wordsP (highL ws us i)).length + 1) * 4 ≤ 140737488355328 by rw [elh]; omega, ?_⟩
        refine .inl ⟨inR_i64 (by omega), ⟨i + 1, [some 4, some 6], by omega, ?_⟩⟩
        repeat' first | exact trivial | exact rfl | exact Iff.rfl | refine And.intro ?_ ?_
        all_goals first | exact (show _ = wordsP (lowL ws bs (i + 1)) by rw [sl, hd]; rfl) | exact (show _ = wordsP (highL ws us (i + 1)) by rw [sh, hu']; rfl)
    · rw [wordsP, List.length_map] at h4
      have hd := d0 (List.getElem?_eq_none (by omega))
      refine fun _ => And.intro (fun h5 => ?_) (fun h5 => ?_)
      · rw [wordsP, List.length_map] at h5
        refine .inl ⟨inR_u32 (by omega), ?_⟩
        refine ⟨_, us, PV.int .u32, rfl, show (0 : Int) ≤ (i : Int) by omega, h5, fun y2 hy2 => ?_⟩
        have hy2' : us[i]? = some y2 := hy2
        have hy2b := hu.2 y2 (List.mem_of_getElem? hy2')
        have hu' := u1 y2 hy2'
        refine .inl ⟨inR_u32 (by omega), ?_⟩
        refine ⟨show (wordsP (lowL ws bs i)).length + 1 ≤ maxLen by rw [ell]; unfold maxLen; omega, show ((wordsP (lowL ws bs i)).length + 1) * 4 ≤ 140737488355328 by rw [ell]; omega, ?_⟩
        refine ⟨show (wordsP (highL ws us i)).length + 1 ≤ maxLen by rw [elh]; unfold maxLen; omega, show ((wordsP (highL ws us i)).length + 1) * 4 ≤ 140737488355328 by rw [elh]; omega, ?_⟩
        refine .inl ⟨inR_i64 (by omega), ⟨i + 1, [some 4, some 6], by omega, ?_⟩⟩
        repeat' first | exact trivial | exact rfl | exact Iff.rfl | refine And.intro ?_ ?_
        all_goals first | exact (show _ = wordsP (lowL ws bs (i + 1)) by rw [sl, hd]; rfl) | exact (show _ = wordsP (highL ws us (i + 1)) by rw [sh, hu']; rfl)
      · rw [wordsP, List.length_map] at h5
        have hu' := u0 (List.getElem?_eq_none (by omega))
        refine ⟨show (wordsP (lowL ws bs i)).length + 1 ≤ maxLen by rw [ell]; unfold maxLen; omega, show ((wordsP (lowL ws bs i)).length + 1) * 4 ≤ 140737488355328 by rw [ell]; omega, ?_⟩
        refine ⟨show (wordsP (highL ws us i)).length + 1 ≤ maxLen by rw [elh]; unfold maxLen; omega, show ((wordsP (highL ws us i)).length + 1) * 4 ≤ 140737488355328 by rw [elh]; omega, ?_⟩
        refine .inl ⟨inR_i64 (by omega), ⟨i + 1, [some 4, some 6], by omega, ?_⟩⟩
        repeat' first | exact trivial | exact rfl | exact Iff.rfl | refine And.intro ?_ ?_
        all_goals first | exact (show _ = wordsP (lowL ws bs (i + 1)) by rw [sl, hd]; rfl) | exact (show _ = wordsP (highL ws us (i + 1)) by rw [sh, hu']; rfl)
  · have hwb : ∀ j : Nat, 0 ≤ (ws[j]?).getD 0 ∧ (ws[j]?).getD 0 ≤ 4294967295 := fun j => by
      cases h : ws[j]? with
      | none => simp
      | some v => exact hw.2 v (List.mem_of_getElem? h)
    have hd : ∀ j, 0 ≤ dV ws bs j ∧ dV ws bs j ≤ (ws[j]?).getD 0 := fun j => by
      have := hwb j
      unfold dV
      split
      · rename_i b hbj
        have := hb.2 b (List.mem_of_getElem? hbj)
        omega
      · omega
    have hU : ∀ j, (ws[j]?).getD 0 ≤ uV ws us j ∧ uV ws us j ≤ 4294967295 := fun j => by
      have := hwb j
      unfold uV
      split
      · rename_i b hbj
        have := hu.2 b (List.mem_of_getElem? hbj)
        omega
      · omega
    have hL : ∀ v ∈ lowL ws bs i, 0 ≤ v ∧ v ≤ 4294967295 := fun v hv => by
      obtain ⟨j, _, rfl⟩ := List.mem_map.1 hv
      exact ⟨(hd j).1, Int.le_trans (hd j).2 (hwb j).2⟩
    have hH : ∀ v ∈ highL ws us i, 0 ≤ v ∧ v ≤ 4294967295 := fun v hv => by
      obtain ⟨j, _, rfl⟩ := List.mem_map.1 hv
      exact ⟨Int.le_trans (hwb j).1 (hU j).1, (hU j).2⟩
    have k1 : ∀ j : Nat, ((lowL ws bs i)[j]?).getD 0 ≤ (ws[j]?).getD 0 := fun j => by
      unfold lowL
      rw [List.getElem?_map]
      cases h : (List.range i)[j]? with
      | none => exact (hwb j).1
      | some k =>
        obtain ⟨_, hk⟩ := List.getElem?_eq_some_iff.1 h
        rw [List.getElem_range] at hk
        subst hk
        exact (hd _).2
    have k2 : ∀ j : Nat, (ws[j]?).getD 0 ≤ ((highL ws us i)[j]?).getD 4294967295 := fun j => by
      unfold highL
      rw [List.getElem?_map]
      cases h : (List.range i)[j]? with
      | none => exact (hwb j).2
      | some k =>
        obtain ⟨_, hk⟩ := List.getElem?_eq_some_iff.1 h
        rw [List.getElem_range] at hk
        subst hk
        exact (hU _).1
    refine ⟨[], nofun, (range_pure (lowL ws bs i) (highL ws us i) hL hH (fun j => Int.le_trans (k1 j) (k2 j)) _ wa ta).useB [1, 2] ⟨⟨rfl, rfl, rfl, trivial⟩, rfl, rfl, trivial⟩ rfl rfl ?_⟩
    refine ⟨[], nofun, (eval_pure ws hw _ wa).use ⟨⟨rfl, rfl, rfl, trivial⟩, rfl, trivial⟩ rfl rfl ?_⟩
    have hin := reach_in ws (lowL ws bs i) (highL ws us i) hw hL hH k1 k2 _ wa ta
    have hone : (ofX la).op = 1 → (reachV (lowL ws bs i) (highL ws us i) (ofX la)).1 = (ofX la).num ∧ (reachV (lowL ws bs i) (highL ws us i) (ofX la)).2 = (ofX la).num := fun h1 => by
      obtain ⟨n, hn⟩ := op1' ta h1
      rw [hn]
      exact ⟨rfl, rfl⟩
    generalize reachV (lowL ws bs i) (highL ws us i) (ofX la) = r at hin hone ⊢
    refine And.intro (fun h6 => And.intro (fun h7 => absurd (hone h6).1 h7) (fun _ => And.intro (fun h7 => absurd (hone h6).2 h7) (fun _ => ?_))) (fun h6 => ?_)
    · refine And.intro (fun h8 => retE trivial) (fun h8 => ?_)
      obtain ⟨v, hv⟩ : ∃ v, (ofX la).evalT ws = some v := Option.isSome_iff_exists.1 (Classical.not_not.1 h8)
      rw [hv]
      refine And.intro (fun _ => ?_) (fun h9 => absurd (hin v hv).1 h9)
      exact retE (hin v hv).2
    · refine And.intro (fun h8 => retE trivial) (fun h8 => ?_)
      obtain ⟨v, hv⟩ : ∃ v, (ofX la).evalT ws = some v := Option.isSome_iff_exists.1 (Classical.not_not.1 h8)
      rw [hv]
      refine And.intro (fun _ => ?_) (fun h9 => absurd (hin v hv).1 h9)
      exact retE (hin v hv).2

theorem TermRanges_pure' (x0 : PV) (s0 : SNodes x0) (x1 : PV) (s1 : SWords x1) (x2 : PV) (s2 : SWords x2) (x3 : PV) (s3 : SWords x3) : PureF gT 3 [x0, x1, x2, x3] .tt := by
  obtain ⟨la, ⟨ha, _⟩, wa, rfl⟩ := s0
  obtain ⟨ws, ⟨hw, _⟩, ww, rfl⟩ := s1
  obtain ⟨bs, ⟨hb, _⟩, wb, rfl⟩ := s2
  obtain ⟨us, ⟨hu, _⟩, wu, rfl⟩ := s3
  exact TermRanges_pure la ws bs us ha (wordsOk_of hw ww) (wordsOk_of hb wb) (wordsOk_of hu wu) (wf_of wa)

end Go.Proofs.YtnjmfedleimlmaaDoor.Pw

/- Chapter 11 over values: Fold. -/
namespace Go.Proofs.YtnjmfedleimlmaaDoor.Pw
open Go Go.RowKit

/-- a node whose terms are folded -/
def foldN (t : T) (c : Bool) : T := if c then (match t.evalT [] with
  | some v => .leaf 1 v
  | none => t) else t
def foldT : T → T
  | .leaf o n => foldN (.leaf o n) (decide (o ≠ 2))
  | .one o n a => foldN (.one o n (foldT a)) (decide (o ≠ 2) && decide ((foldT a).op = 1))
  | .two o n a b => foldN (.two o n (foldT a) (foldT b)) ((decide (o ≠ 2) && decide ((foldT a).op = 1)) && decide ((foldT b).op = 1))
theorem wordsOk_nil : WordsOk [] := ⟨by simp, by simp⟩
theorem foldN_wf {t : T} {c : Bool} (h : t.Wf) : (foldN t c).Wf := by
  unfold foldN
  split
  · split
    · rename_i v hv
      exact T.evalT_bd wordsOk_nil h hv
    · exact h
  · exact h
theorem foldT_wf : ∀ {t : T}, t.Wf → (foldT t).Wf
  | .leaf o n, h => foldN_wf h
  | .one o n a, h => by unfold foldT; exact foldN_wf ⟨h.1, foldT_wf h.2⟩
  | .two o n a b, h => by unfold foldT; exact foldN_wf ⟨h.1, foldT_wf h.2.1, foldT_wf h.2.2⟩
theorem of_pureT (n : Int) : PureF gT 39 [.int .u32 n] (tpv (.leaf 1 n)) := by
  refine Spec.enter gTok P39 100 Tryd.func39 rfl (by kernel_rfl) ?_
  exact retE ⟨rfl, rfl, rfl, trivial⟩

set_option maxRecDepth 10000 in
theorem fold_pure : ∀ t : T, t.Wf → PureF gT 24 [tpv t] (tpv (foldT t))
  | .leaf o n, hwf => by
    have hf : foldT (.leaf o n) = foldN (T.leaf o n) (decide (o ≠ 2)) := by rw [foldT]
    refine Spec.enter gTok P24 100 Tryd.func24 rfl (by kernel_rfl) ?_
    refine fun _ => SW.rounds gTok P24 (by kernel_rfl) (N := 60) 3 ?_
    refine And.intro (fun h => absurd (show (0 : Int) < 0 from h) (by decide)) (fun _ => ?_)
    refine And.intro (fun h0 => ?_) (fun h0 => ?_)
    · have k : o = 2 := Classical.not_not.1 h0
      rw [hf, show (decide (o ≠ 2)) = false by simp [k]]
      refine retE ?_
      rw [show foldN (T.leaf o n) false = T.leaf o n from rfl]
      exact ⟨rfl, rfl, rfl, trivial⟩
    · have k : ¬ o = 2 := Classical.not_not.1 h0
      rw [hf, show (decide (o ≠ 2)) = true by simp [k]]
      refine ⟨[], nofun, (eval_pure [] wordsOk_nil (T.leaf o n) hwf).useB [] ⟨⟨rfl, rfl, rfl, trivial⟩, rfl, trivial⟩ rfl rfl ?_⟩
      cases hq : (T.leaf o n).evalT [] with
      | none =>
        refine And.intro (fun h => absurd h nofun) (fun _ => ?_)
        refine retE ?_
        rw [show foldN (T.leaf o n) true = T.leaf o n by unfold foldN; rw [hq]; rfl]
        exact ⟨rfl, rfl, rfl, trivial⟩
      | some v =>
        refine And.intro (fun _ => ?_) (fun h => absurd rfl h)
        refine ⟨[], nofun, (of_pureT v).use ⟨rfl, trivial⟩ rfl rfl ?_⟩
        refine retE ?_
        rw [show foldN (T.leaf o n) true = .leaf 1 v by unfold foldN; rw [hq]; rfl]
        exact ⟨rfl, rfl, rfl, trivial⟩
  | .one o n a, hwf => by
    have iha := fold_pure a hwf.2
    have hf : foldT (.one o n a) = foldN (T.one o n (foldT a)) (decide (o ≠ 2) && decide ((foldT a).op = 1)) := by rw [foldT]
    refine Spec.enter gTok P24 100 Tryd.func24 rfl (by kernel_rfl) ?_
    refine fun _ => SW.rounds gTok P24 (by kernel_rfl) (N := 60) 3 ?_
    refine And.intro (fun _ => ?_) (fun h => absurd (show (0 : Int) < 1 by decide) h)
    refine ⟨T, [a], tpv, rfl, (show (0 : Int) ≤ 0 by decide), (show (0 : Int) < 1 by decide), fun x hx => ?_⟩
    obtain rfl : a = x := Option.some.inj hx
    refine ⟨[], nofun, iha.use ⟨⟨rfl, rfl, rfl, trivial⟩, trivial⟩ rfl rfl ?_⟩
    refine And.intro (fun g0 => ?_) (fun g0 => ?_)
    · have c0 : ¬ o = 2 := g0
      refine And.intro (fun h => absurd (show (1 : Int) < 1 from h) (by decide)) (fun _ => ?_)
      refine And.intro (fun h1 => ?_) (fun h1 => ?_)
      · have k : ¬ (foldT a).op = 1 := h1
        rw [hf, show (decide (o ≠ 2) && decide ((foldT a).op = 1)) = false by simp [c0, k]]
        refine retE ?_
        rw [show foldN (T.one o n (foldT a)) false = T.one o n (foldT a) from rfl]
        exact ⟨rfl, rfl, rfl, trivial⟩
      · have k : (foldT a).op = 1 := Classical.not_not.1 h1
        rw [hf, show (decide (o ≠ 2) && decide ((foldT a).op = 1)) = true by simp [c0, k]]
        refine ⟨[], nofun, (eval_pure [] wordsOk_nil (T.one o n (foldT a)) ⟨hwf.1, foldT_wf hwf.2⟩).useB [6] ⟨⟨rfl, rfl, .inl rfl, trivial⟩, rfl, trivial⟩ rfl rfl ?_⟩
        cases hq : (T.one o n (foldT a)).evalT [] with
        | none =>
          refine And.intro (fun h => absurd h nofun) (fun _ => ?_)
          refine retE ?_
          rw [show foldN (T.one o n (foldT a)) true = T.one o n (foldT a) by unfold foldN; rw [hq]; rfl]
          exact ⟨rfl, rfl, rfl, trivial⟩
        | some v =>
          refine And.intro (fun _ => ?_) (fun h => absurd rfl h)
          refine ⟨[], nofun, (of_pureT v).use ⟨rfl, trivial⟩ rfl rfl ?_⟩
          refine retE ?_
          rw [show foldN (T.one o n (foldT a)) true = .leaf 1 v by unfold foldN; rw [hq]; rfl]
          exact ⟨rfl, rfl, rfl, trivial⟩
    · have c0 : o = 2 := Classical.not_not.1 g0
      refine And.intro (fun h => absurd (show (1 : Int) < 1 from h) (by decide)) (fun _ => ?_)
      rw [hf, show (decide (o ≠ 2) && decide ((foldT a).op = 1)) = false by simp [c0]]
      refine retE ?_
      rw [show foldN (T.one o n (foldT a)) false = T.one o n (foldT a) from rfl]
      exact ⟨rfl, rfl, rfl, trivial⟩
  | .two o n a b, hwf => by
    have iha := fold_pure a hwf.2.1
    have ihb := fold_pure b hwf.2.2
    have hf : foldT (.two o n a b) = foldN (T.two o n (foldT a) (foldT b)) ((decide (o ≠ 2) && decide ((foldT a).op = 1)) && decide ((foldT b).op = 1)) := by rw [foldT]
    refine Spec.enter gTok P24 100 Tryd.func24 rfl (by kernel_rfl) ?_
    refine fun _ => SW.rounds gTok P24 (by kernel_rfl) (N := 60) 3 ?_
    refine And.intro (fun _ => ?_) (fun h => absurd (show (0 : Int) < 2 by decide) h)
    refine ⟨T, [a, b], tpv, rfl, (show (0 : Int) ≤ 0 by decide), (show (0 : Int) < 2 by decide), fun x hx => ?_⟩
    obtain rfl : a = x := Option.some.inj hx
    refine ⟨[], nofun, iha.use ⟨⟨rfl, rfl, rfl, trivial⟩, trivial⟩ rfl rfl ?_⟩
    refine And.intro (fun g0 => ?_) (fun g0 => ?_)
    · have c0 : ¬ o = 2 := g0
      refine And.intro (fun _ => ?_) (fun h => absurd (show (1 : Int) < 2 by decide) h)
      refine ⟨T, [a, b], tpv, rfl, (show (0 : Int) ≤ 1 by decide), (show (1 : Int) < 2 by decide), fun x hx => ?_⟩
      obtain rfl : b = x := Option.some.inj hx
      refine ⟨[], nofun, ihb.use ⟨⟨rfl, rfl, rfl, trivial⟩, trivial⟩ rfl rfl ?_⟩
      refine And.intro (fun g1 => ?_) (fun g1 => ?_)
      · have c1 : (foldT a).op = 1 := g1
        refine And.intro (fun h => absurd (show (2 : Int) < 2 from h) (by decide)) (fun _ => ?_)
        refine And.intro (fun h2 => ?_) (fun h2 => ?_)
        · have k : ¬ (foldT b).op = 1 := h2
          rw [hf, show ((decide (o ≠ 2) && decide ((foldT a).op = 1)) && decide ((foldT b).op = 1)) = false by simp [c0, c1, k]]
          refine retE ?_
          rw [show foldN (T.two o n (foldT a) (foldT b)) false = T.two o n (foldT a) (foldT b) from rfl]
          exact ⟨rfl, rfl, rfl, trivial⟩
        · have k : (foldT b).op = 1 := Classical.not_not.1 h2
          rw [hf, show ((decide (o ≠ 2) && decide ((foldT a).op = 1)) && decide ((foldT b).op = 1)) = true by simp [c0, c1, k]]
          refine ⟨[], nofun, (eval_pure [] wordsOk_nil (T.two o n (foldT a) (foldT b)) ⟨hwf.1, foldT_wf hwf.2.1, foldT_wf hwf.2.2⟩).useB [10] ⟨⟨rfl, rfl, .inl rfl, trivial⟩, rfl, trivial⟩ rfl rfl ?_⟩
          cases hq : (T.two o n (foldT a) (foldT b)).evalT [] with
          | none =>
            refine And.intro (fun h => absurd h nofun) (fun _ => ?_)
            refine retE ?_
            rw [show foldN (T.two o n (foldT a) (foldT b)) true = T.two o n (foldT a) (foldT b) by unfold foldN; rw [hq]; rfl]
            exact ⟨rfl, rfl, rfl, trivial⟩
          | some v =>
            refine And.intro (fun _ => ?_) (fun h => absurd rfl h)
            refine ⟨[], nofun, (of_pureT v).use ⟨rfl, trivial⟩ rfl rfl ?_⟩
            refine retE ?_
            rw [show foldN (T.two o n (foldT a) (foldT b)) true = .leaf 1 v by unfold foldN; rw [hq]; rfl]
            exact ⟨rfl, rfl, rfl, trivial⟩
      · have c1 : ¬ (foldT a).op = 1 := g1
        refine And.intro (fun h => absurd (show (2 : Int) < 2 from h) (by decide)) (fun _ => ?_)
        rw [hf, show ((decide (o ≠ 2) && decide ((foldT a).op = 1)) && decide ((foldT b).op = 1)) = false by simp [c0, c1]]
        refine retE ?_
        rw [show foldN (T.two o n (foldT a) (foldT b)) false = T.two o n (foldT a) (foldT b) from rfl]
        exact ⟨rfl, rfl, rfl, trivial⟩
    · have c0 : o = 2 := Classical.not_not.1 g0
      refine And.intro (fun _ => ?_) (fun h => absurd (show (1 : Int) < 2 by decide) h)
      refine ⟨T, [a, b], tpv, rfl, (show (0 : Int) ≤ 1 by decide), (show (1 : Int) < 2 by decide), fun x hx => ?_⟩
      obtain rfl : b = x := Option.some.inj hx
      refine ⟨[], nofun, ihb.use ⟨⟨rfl, rfl, rfl, trivial⟩, trivial⟩ rfl rfl ?_⟩
      refine And.intro (fun h => absurd (show (2 : Int) < 2 from h) (by decide)) (fun _ => ?_)
      rw [hf, show ((decide (o ≠ 2) && decide ((foldT a).op = 1)) && decide ((foldT b).op = 1)) = false by simp [c0]]
      refine retE ?_
      rw [show foldN (T.two o n (foldT a) (foldT b)) false = T.two o n (foldT a) (foldT b) from rfl]
      exact ⟨rfl, rfl, rfl, trivial⟩

end Go.Proofs.YtnjmfedleimlmaaDoor.Pw

/- Chapter 11 over values: flat, Count. -/
namespace Go.Proofs.YtnjmfedleimlmaaDoor.Pw
open Go Go.RowKit

def nP (x : Int × Int × Int) : PV := .agg [.int .i64 x.1, .int .u32 x.2.1, .int .i64 x.2.2]

set_option maxRecDepth 10000 in
theorem flat_pure (most : Int) : ∀ t : T, (t.size : Int) ≤ most → t.size ≤ 1000000 → PureF gT 19 [tpv t, .int .i64 most] (.sl 3 (t.nodes.map nP))
  | .leaf o n, hm, hs => by
    refine Spec.enter gTok P19 100 Tryd.func19 rfl (by kernel_rfl) ?_
    refine fun _ => fun _ => SW.rounds gTok P19 (by kernel_rfl) (N := 60) 3 ?_
    refine And.intro (fun h => absurd (show (0 : Int) < 0 from h) (by decide)) (fun _ => ?_)
    refine retE ?_
    exact (show _ = _ from rfl)
  | .one o n a, hm, hs => by
    have sz : (T.one o n a).size = 1 + a.size := rfl
    have iha := flat_pure most a (by omega) (by omega)
    refine Spec.enter gTok P19 100 Tryd.func19 rfl (by kernel_rfl) ?_
    refine fun _ => fun _ => SW.rounds gTok P19 (by kernel_rfl) (N := 60) 3 ?_
    refine And.intro (fun _ => ?_) (fun h => absurd (show (0 : Int) < 1 by decide) h)
    refine ⟨T, [a], tpv, rfl, (show (0 : Int) ≤ 0 by decide), (show (0 : Int) < 1 by decide), fun x hx => ?_⟩
    obtain rfl : a = x := Option.some.inj hx
    refine And.intro (fun h => absurd (show most < 1 from h) (by omega)) (fun _ => ?_)
    refine ⟨[], nofun, iha.use ⟨⟨rfl, rfl, rfl, trivial⟩, rfl, trivial⟩ rfl rfl ?_⟩
    have el : (a.nodes.map nP).length = a.size := by rw [List.length_map, T.nodes_length]
    refine ⟨show 1 + (a.nodes.map nP).length ≤ maxLen by rw [el]; unfold maxLen; omega, show (1 + (a.nodes.map nP).length) * 24 ≤ 140737488355328 by rw [el]; omega, ?_⟩
    refine And.intro (fun h => absurd (show (1 : Int) < 1 from h) (by decide)) (fun _ => ?_)
    refine retE ?_
    exact (show _ = _ from rfl)
  | .two o n a b, hm, hs => by
    have sz : (T.two o n a b).size = 1 + a.size + b.size := rfl
    have iha := flat_pure most a (by omega) (by omega)
    have ihb := flat_pure most b (by omega) (by omega)
    have el : (a.nodes.map nP).length = a.size := by rw [List.length_map, T.nodes_length]
    have el2 : (b.nodes.map nP).length = b.size := by rw [List.length_map, T.nodes_length]
    refine Spec.enter gTok P19 100 Tryd.func19 rfl (by kernel_rfl) ?_
    refine fun _ => fun _ => SW.rounds gTok P19 (by kernel_rfl) (N := 60) 3 ?_
    refine And.intro (fun _ => ?_) (fun h => absurd (show (0 : Int) < 2 by decide) h)
    refine ⟨T, [a, b], tpv, rfl, (show (0 : Int) ≤ 0 by decide), (show (0 : Int) < 2 by decide), fun x hx => ?_⟩
    obtain rfl : a = x := Option.some.inj hx
    refine And.intro (fun h => absurd (show most < 1 from h) (by omega)) (fun _ => ?_)
    refine ⟨[], nofun, iha.use ⟨⟨rfl, rfl, rfl, trivial⟩, rfl, trivial⟩ rfl rfl ?_⟩
    refine ⟨show 1 + (a.nodes.map nP).length ≤ maxLen by rw [el]; unfold maxLen; omega, show (1 + (a.nodes.map nP).length) * 24 ≤ 140737488355328 by rw [el]; omega, ?_⟩
    refine And.intro (fun _ => ?_) (fun h => absurd (show (1 : Int) < 2 by decide) h)
    refine ⟨T, [a, b], tpv, rfl, (show (0 : Int) ≤ 1 by decide), (show (1 : Int) < 2 by decide), fun x hx => ?_⟩
    obtain rfl : b = x := Option.some.inj hx
    have e1 : ([nP (o, n, 2)] ++ a.nodes.map nP).length = 1 + a.size := by rw [List.length_append, el]; rfl
    refine fun _ => And.intro (fun h => absurd (show most < (([nP (o, n, 2)] ++ a.nodes.map nP).length : Int) from h) (by rw [e1]; omega)) (fun _ => ?_)
    refine ⟨[], nofun, ihb.use ⟨⟨rfl, rfl, rfl, trivial⟩, rfl, trivial⟩ rfl rfl ?_⟩
    refine ⟨show ([nP (o, n, 2)] ++ a.nodes.map nP).length + (b.nodes.map nP).length ≤ maxLen by rw [e1, el2]; unfold maxLen; omega, show (([nP (o, n, 2)] ++ a.nodes.map nP).length + (b.nodes.map nP).length) * 24 ≤ 140737488355328 by rw [e1, el2]; omega, ?_⟩
    refine And.intro (fun h => absurd (show (2 : Int) < 2 from h) (by decide)) (fun _ => ?_)
    refine retE ?_
    exact (show ([nP (o, n, 2)] ++ a.nodes.map nP) ++ b.nodes.map nP = _ by simp [T.nodes])

set_option maxRecDepth 10000 in
theorem count_pure : ∀ t : T, t.size ≤ 1000000 → PureF gT 27 [tpv t] (.int .i64 t.size)
  | .leaf o n, hs => by
    refine Spec.enter gTok P27 100 Tryd.func27 rfl (by kernel_rfl) ?_
    refine fun _ => SW.rounds gTok P27 (by kernel_rfl) (N := 60) 3 ?_
    refine And.intro (fun h => absurd (show (0 : Int) < 0 from h) (by decide)) (fun _ => ?_)
    exact retE rfl
  | .one o n a, hs => by
    have sz : (T.one o n a).size = 1 + a.size := rfl
    have iha := count_pure a (by omega)
    refine Spec.enter gTok P27 100 Tryd.func27 rfl (by kernel_rfl) ?_
    refine fun _ => SW.rounds gTok P27 (by kernel_rfl) (N := 60) 3 ?_
    refine And.intro (fun _ => ?_) (fun h => absurd (show (0 : Int) < 1 by decide) h)
    refine ⟨T, [a], tpv, rfl, (show (0 : Int) ≤ 0 by decide), (show (0 : Int) < 1 by decide), fun x hx => ?_⟩
    obtain rfl : a = x := Option.some.inj hx
    refine ⟨[], nofun, iha.use ⟨⟨rfl, rfl, rfl, trivial⟩, trivial⟩ rfl rfl ?_⟩
    refine .inl ⟨inR_i64 (by omega), ?_⟩
    refine And.intro (fun h => absurd (show (1 : Int) < 1 from h) (by decide)) (fun _ => ?_)
    refine retE ?_
    exact (show (1 : Int) + a.size = ((T.one o n a).size : Nat) by omega)
  | .two o n a b, hs => by
    have sz : (T.two o n a b).size = 1 + a.size + b.size := rfl
    have iha := count_pure a (by omega)
    have ihb := count_pure b (by omega)
    refine Spec.enter gTok P27 100 Tryd.func27 rfl (by kernel_rfl) ?_
    refine fun _ => SW.rounds gTok P27 (by kernel_rfl) (N := 60) 3 ?_
    refine And.intro (fun _ => ?_) (fun h => absurd (show (0 : Int) < 2 by decide) h)
    refine ⟨T, [a, b], tpv, rfl, (show (0 : Int) ≤ 0 by decide), (show (0 : Int) < 2 by decide), fun x hx => ?_⟩
    obtain rfl : a = x := Option.some.inj hx
    refine ⟨[], nofun, iha.use ⟨⟨rfl, rfl, rfl, trivial⟩, trivial⟩ rfl rfl ?_⟩
    refine .inl ⟨inR_i64 (by omega), ?_⟩
    refine And.intro (fun _ => ?_) (fun h => absurd (show (1 : Int) < 2 by decide) h)
    refine ⟨T, [a, b], tpv, rfl, (show (0 : Int) ≤ 1 by decide), (show (1 : Int) < 2 by decide), fun x hx => ?_⟩
    obtain rfl : b = x := Option.some.inj hx
    refine ⟨[], nofun, ihb.use ⟨⟨rfl, rfl, rfl, trivial⟩, trivial⟩ rfl rfl ?_⟩
    refine .inl ⟨inR_i64 (by omega), ?_⟩
    refine And.intro (fun h => absurd (show (2 : Int) < 2 from h) (by decide)) (fun _ => ?_)
    refine retE ?_
    exact (show (1 : Int) + a.size + b.size = ((T.two o n a b).size : Nat) by omega)

end Go.Proofs.YtnjmfedleimlmaaDoor.Pw

/- Chapter 11 over values: the document's Span. -/
namespace Go.Proofs.YtnjmfedleimlmaaDoor.Pw
open Go Go.RowKit

theorem least_pure (a b : Int) : PureF gT 71 [.int .u64 a, .int .u64 b] (.int .u64 (min a b)) := by
  refine Spec.enter gTok P71 100 Tryd.func71 rfl (by kernel_rfl) ?_
  refine And.intro (fun h => retE ?_) (fun h => retE ?_)
  · exact (show a = min a b by omega)
  · exact (show b = min a b by omega)

set_option maxRecDepth 10000 in
theorem joined_pure (op : Int) (p q : Int × Int) (hp : SpOk p) (hq : SpOk q) (ho : 5 ≤ op ∧ op ≤ 17) : PureF gT 47 [.int .i64 op, .int .u64 p.1, .int .u64 p.2, .int .u64 q.1, .int .u64 q.2] (.tup [.int .u64 (withinV op p q).1, .int .u64 (withinV op p q).2]) := by
  obtain ⟨a0, a1, a2⟩ := id hp
  obtain ⟨c0, c1, c2⟩ := id hq
  refine Spec.enter gTok P47 100 Tryd.func47 rfl (by kernel_rfl) ?_
  have hmono : p.1 * q.1 ≤ p.2 * q.2 := Int.mul_le_mul a1 c1 c0 (by omega)
  have hnn : 0 ≤ p.1 * q.1 := Int.mul_nonneg a0 c0
  have hbig : p.2 * q.2 ≤ 4294967295 * 4294967295 := Int.mul_le_mul a2 c2 (by omega) (by omega)
  have kq : Ev.kmax .u64 = 18446744073709551615 := by decide
  by_cases n7 : op = 7
  · subst n7
    refine And.intro (fun _ => ?_) (fun h => absurd rfl h)
    refine ⟨[], nofun, (least_pure p.2 q.2).use ⟨rfl, rfl, trivial⟩ rfl rfl ?_⟩
    refine retE ?_
    exact ⟨rfl, rfl, trivial⟩
  by_cases n13 : op = 13
  · subst n13
    refine And.intro (fun h => absurd (show (13 : Int) = 7 from h) (by decide)) (fun _ => ?_)
    refine And.intro (fun _ => ?_) (fun h => absurd rfl h)
    refine .inl ⟨inR_u64 (by omega), ?_⟩
    refine And.intro (fun hs => ?_) (fun hs => ?_)
    · have hwv : withinV 13 p q = (p.1 + q.1, p.2 + q.2) := by show sumV p q = _; unfold sumV; rw [if_pos hs]
      refine .inl ⟨inR_u64 (by omega), .inl ⟨inR_u64 (by omega), ?_⟩⟩
      refine retE ?_
      exact ⟨show _ = _ by rw [hwv], show _ = _ by rw [hwv], trivial⟩
    · have hwv : withinV 13 p q = (0, 4294967295) := by show sumV p q = _; unfold sumV; rw [if_neg hs]
      refine And.intro (fun h => absurd (show (13 : Int) = 14 from h) (by decide)) (fun _ => ?_)
      refine And.intro (fun h => absurd (show (13 : Int) = 15 from h) (by decide)) (fun _ => ?_)
      refine And.intro (fun hd => ?_) (fun hd => ?_)
      · skip
        refine And.intro (fun h => absurd (show (13 : Int) = 8 from h) (by decide)) (fun _ => ?_)
        refine And.intro (fun h => absurd (show (13 : Int) = 9 from h) (by decide)) (fun _ => ?_)
        refine And.intro (fun h => absurd (show (13 : Int) = 11 from h) (by decide)) (fun _ => ?_)
        refine And.intro (fun h => absurd (show (13 : Int) = 16 from h) (by decide)) (fun _ => ?_)
        refine And.intro (fun h => absurd (show (13 : Int) = 16 from h) (by decide)) (fun _ => ?_)
        refine And.intro (fun h => absurd (show (13 : Int) = 17 from h) (by decide)) (fun _ => ?_)
        refine retE ?_
        exact ⟨show _ = _ by rw [hwv], show _ = _ by rw [hwv], trivial⟩
      · skip
        refine And.intro (fun h => absurd (show (13 : Int) = 8 from h) (by decide)) (fun _ => ?_)
        refine And.intro (fun h => absurd (show (13 : Int) = 9 from h) (by decide)) (fun _ => ?_)
        refine And.intro (fun h => absurd (show (13 : Int) = 11 from h) (by decide)) (fun _ => ?_)
        refine And.intro (fun h => absurd (show (13 : Int) = 16 from h) (by decide)) (fun _ => ?_)
        refine And.intro (fun h => absurd (show (13 : Int) = 16 from h) (by decide)) (fun _ => ?_)
        refine And.intro (fun h => absurd (show (13 : Int) = 17 from h) (by decide)) (fun _ => ?_)
        refine retE ?_
        exact ⟨show _ = _ by rw [hwv], show _ = _ by rw [hwv], trivial⟩
  by_cases n14 : op = 14
  · subst n14
    refine And.intro (fun h => absurd (show (14 : Int) = 7 from h) (by decide)) (fun _ => ?_)
    refine And.intro (fun h => absurd (show (14 : Int) = 13 from h) (by decide)) (fun _ => ?_)
    refine And.intro (fun _ => ?_) (fun h => absurd rfl h)
    refine And.intro (fun hs => ?_) (fun hs => ?_)
    · have hwv : withinV 14 p q = (p.1 - q.2, p.2 - q.1) := by show (if q.2 ≤ p.1 then (p.1 - q.2, p.2 - q.1) else (0, 4294967295)) = _; rw [if_pos hs]
      refine .inl ⟨inR_u64 (by omega), .inl ⟨inR_u64 (by omega), ?_⟩⟩
      refine retE ?_
      exact ⟨show _ = _ by rw [hwv], show _ = _ by rw [hwv], trivial⟩
    · have hwv : withinV 14 p q = (0, 4294967295) := by show (if q.2 ≤ p.1 then (p.1 - q.2, p.2 - q.1) else (0, 4294967295)) = _; rw [if_neg hs]
      refine And.intro (fun h => absurd (show (14 : Int) = 15 from h) (by decide)) (fun _ => ?_)
      refine And.intro (fun hd => ?_) (fun hd => ?_)
      · skip
        refine And.intro (fun h => absurd (show (14 : Int) = 8 from h) (by decide)) (fun _ => ?_)
        refine And.intro (fun h => absurd (show (14 : Int) = 9 from h) (by decide)) (fun _ => ?_)
        refine And.intro (fun h => absurd (show (14 : Int) = 11 from h) (by decide)) (fun _ => ?_)
        refine And.intro (fun h => absurd (show (14 : Int) = 16 from h) (by decide)) (fun _ => ?_)
        refine And.intro (fun h => absurd (show (14 : Int) = 16 from h) (by decide)) (fun _ => ?_)
        refine And.intro (fun h => absurd (show (14 : Int) = 17 from h) (by decide)) (fun _ => ?_)
        refine retE ?_
        exact ⟨show _ = _ by rw [hwv], show _ = _ by rw [hwv], trivial⟩
      · skip
        refine And.intro (fun h => absurd (show (14 : Int) = 8 from h) (by decide)) (fun _ => ?_)
        refine And.intro (fun h => absurd (show (14 : Int) = 9 from h) (by decide)) (fun _ => ?_)
        refine And.intro (fun h => absurd (show (14 : Int) = 11 from h) (by decide)) (fun _ => ?_)
        refine And.intro (fun h => absurd (show (14 : Int) = 16 from h) (by decide)) (fun _ => ?_)
        refine And.intro (fun h => absurd (show (14 : Int) = 16 from h) (by decide)) (fun _ => ?_)
        refine And.intro (fun h => absurd (show (14 : Int) = 17 from h) (by decide)) (fun _ => ?_)
        refine retE ?_
        exact ⟨show _ = _ by rw [hwv], show _ = _ by rw [hwv], trivial⟩
  by_cases n15 : op = 15
  · subst n15
    refine And.intro (fun h => absurd (show (15 : Int) = 7 from h) (by decide)) (fun _ => ?_)
    refine And.intro (fun h => absurd (show (15 : Int) = 13 from h) (by decide)) (fun _ => ?_)
    refine And.intro (fun h => absurd (show (15 : Int) = 14 from h) (by decide)) (fun _ => ?_)
    refine And.intro (fun _ => ?_) (fun h => absurd rfl h)
    refine .inl ⟨inR_u64 (by omega), ?_⟩
    refine And.intro (fun hs => ?_) (fun hs => ?_)
    · have hwv : withinV 15 p q = (p.1 * q.1, p.2 * q.2) := by show prodV p q = _; unfold prodV; rw [if_pos hs]
      refine .inl ⟨inR_u64 (by omega), .inl ⟨inR_u64 (by omega), ?_⟩⟩
      refine retE ?_
      exact ⟨show _ = _ by rw [hwv], show _ = _ by rw [hwv], trivial⟩
    · have hwv : withinV 15 p q = (0, 4294967295) := by show prodV p q = _; unfold prodV; rw [if_neg hs]
      refine And.intro (fun hd => ?_) (fun hd => ?_)
      · skip
        refine And.intro (fun h => absurd (show (15 : Int) = 8 from h) (by decide)) (fun _ => ?_)
        refine And.intro (fun h => absurd (show (15 : Int) = 9 from h) (by decide)) (fun _ => ?_)
        refine And.intro (fun h => absurd (show (15 : Int) = 11 from h) (by decide)) (fun _ => ?_)
        refine And.intro (fun h => absurd (show (15 : Int) = 16 from h) (by decide)) (fun _ => ?_)
        refine And.intro (fun h => absurd (show (15 : Int) = 16 from h) (by decide)) (fun _ => ?_)
        refine And.intro (fun h => absurd (show (15 : Int) = 17 from h) (by decide)) (fun _ => ?_)
        refine retE ?_
        exact ⟨show _ = _ by rw [hwv], show _ = _ by rw [hwv], trivial⟩
      · skip
        refine And.intro (fun h => absurd (show (15 : Int) = 8 from h) (by decide)) (fun _ => ?_)
        refine And.intro (fun h => absurd (show (15 : Int) = 9 from h) (by decide)) (fun _ => ?_)
        refine And.intro (fun h => absurd (show (15 : Int) = 11 from h) (by decide)) (fun _ => ?_)
        refine And.intro (fun h => absurd (show (15 : Int) = 16 from h) (by decide)) (fun _ => ?_)
        refine And.intro (fun h => absurd (show (15 : Int) = 16 from h) (by decide)) (fun _ => ?_)
        refine And.intro (fun h => absurd (show (15 : Int) = 17 from h) (by decide)) (fun _ => ?_)
        refine retE ?_
        exact ⟨show _ = _ by rw [hwv], show _ = _ by rw [hwv], trivial⟩
  by_cases n8 : op = 8
  · subst n8
    have hwv : withinV 8 p q = (0, 1) := rfl
    refine And.intro (fun h => absurd (show (8 : Int) = 7 from h) (by decide)) (fun _ => ?_)
    refine And.intro (fun h => absurd (show (8 : Int) = 13 from h) (by decide)) (fun _ => ?_)
    refine And.intro (fun h => absurd (show (8 : Int) = 14 from h) (by decide)) (fun _ => ?_)
    refine And.intro (fun h => absurd (show (8 : Int) = 15 from h) (by decide)) (fun _ => ?_)
    refine And.intro (fun hd => ?_) (fun hd => ?_)
    · skip
      refine And.intro (fun _ => ?_) (fun h => absurd rfl h)
      refine retE ?_
      exact ⟨show _ = _ by rw [hwv], show _ = _ by rw [hwv], trivial⟩
    · skip
      refine And.intro (fun _ => ?_) (fun h => absurd rfl h)
      refine retE ?_
      exact ⟨show _ = _ by rw [hwv], show _ = _ by rw [hwv], trivial⟩
  by_cases n9 : op = 9
  · subst n9
    have hwv : withinV 9 p q = (0, 1) := rfl
    refine And.intro (fun h => absurd (show (9 : Int) = 7 from h) (by decide)) (fun _ => ?_)
    refine And.intro (fun h => absurd (show (9 : Int) = 13 from h) (by decide)) (fun _ => ?_)
    refine And.intro (fun h => absurd (show (9 : Int) = 14 from h) (by decide)) (fun _ => ?_)
    refine And.intro (fun h => absurd (show (9 : Int) = 15 from h) (by decide)) (fun _ => ?_)
    refine And.intro (fun hd => ?_) (fun hd => ?_)
    · skip
      refine And.intro (fun h => absurd (show (9 : Int) = 8 from h) (by decide)) (fun _ => ?_)
      refine And.intro (fun _ => ?_) (fun h => absurd rfl h)
      refine retE ?_
      exact ⟨show _ = _ by rw [hwv], show _ = _ by rw [hwv], trivial⟩
    · skip
      refine And.intro (fun h => absurd (show (9 : Int) = 8 from h) (by decide)) (fun _ => ?_)
      refine And.intro (fun _ => ?_) (fun h => absurd rfl h)
      refine retE ?_
      exact ⟨show _ = _ by rw [hwv], show _ = _ by rw [hwv], trivial⟩
  by_cases n11 : op = 11
  · subst n11
    have hwv : withinV 11 p q = (0, p.2) := rfl
    refine And.intro (fun h => absurd (show (11 : Int) = 7 from h) (by decide)) (fun _ => ?_)
    refine And.intro (fun h => absurd (show (11 : Int) = 13 from h) (by decide)) (fun _ => ?_)
    refine And.intro (fun h => absurd (show (11 : Int) = 14 from h) (by decide)) (fun _ => ?_)
    refine And.intro (fun h => absurd (show (11 : Int) = 15 from h) (by decide)) (fun _ => ?_)
    refine And.intro (fun hd => ?_) (fun hd => ?_)
    · skip
      refine And.intro (fun h => absurd (show (11 : Int) = 8 from h) (by decide)) (fun _ => ?_)
      refine And.intro (fun h => absurd (show (11 : Int) = 9 from h) (by decide)) (fun _ => ?_)
      refine And.intro (fun _ => ?_) (fun h => absurd rfl h)
      refine retE ?_
      exact ⟨show _ = _ by rw [hwv], show _ = _ by rw [hwv], trivial⟩
    · skip
      refine And.intro (fun h => absurd (show (11 : Int) = 8 from h) (by decide)) (fun _ => ?_)
      refine And.intro (fun h => absurd (show (11 : Int) = 9 from h) (by decide)) (fun _ => ?_)
      refine And.intro (fun _ => ?_) (fun h => absurd rfl h)
      refine retE ?_
      exact ⟨show _ = _ by rw [hwv], show _ = _ by rw [hwv], trivial⟩
  by_cases n16 : op = 16
  · subst n16
    have hwv : withinV 16 p q = (p.1 / max q.2 1, p.2 / max q.1 1) := rfl
    refine And.intro (fun h => absurd (show (16 : Int) = 7 from h) (by decide)) (fun _ => ?_)
    refine And.intro (fun h => absurd (show (16 : Int) = 13 from h) (by decide)) (fun _ => ?_)
    refine And.intro (fun h => absurd (show (16 : Int) = 14 from h) (by decide)) (fun _ => ?_)
    refine And.intro (fun h => absurd (show (16 : Int) = 15 from h) (by decide)) (fun _ => ?_)
    refine And.intro (fun hd => ?_) (fun hd => ?_)
    · skip
      refine And.intro (fun h => absurd (show (16 : Int) = 8 from h) (by decide)) (fun _ => ?_)
      refine And.intro (fun h => absurd (show (16 : Int) = 9 from h) (by decide)) (fun _ => ?_)
      refine And.intro (fun h => absurd (show (16 : Int) = 11 from h) (by decide)) (fun _ => ?_)
      refine And.intro (fun _ => ?_) (fun h => absurd rfl h)
      refine And.intro (fun hc => ?_) (fun hc => ?_)
      · refine ⟨show (1 : Int) ≠ 0 by omega, .inl ⟨a0, show p.1 ≤ Ev.kmax .u64 by rw [kq]; omega, show (0 : Int) < 1 by omega, ?_⟩⟩
        refine retE ?_
        exact ⟨show _ = _ by rw [hwv]; show p.1 / 1 = p.1 / max q.2 1; rw [show max q.2 1 = 1 by omega], show _ = _ by rw [hwv]; show p.2 = p.2 / max q.1 1; rw [show max q.1 1 = 1 by omega, Int.ediv_one], trivial⟩
      · skip
        refine And.intro (fun _ => ?_) (fun h => absurd rfl h)
        refine ⟨show (1 : Int) ≠ 0 by omega, .inl ⟨a0, show p.1 ≤ Ev.kmax .u64 by rw [kq]; omega, show (0 : Int) < 1 by omega, ?_⟩⟩
        refine ⟨hc, .inl ⟨show 0 ≤ p.2 by omega, show p.2 ≤ Ev.kmax .u64 by rw [kq]; omega, show 0 < q.1 by omega, ?_⟩⟩
        refine retE ?_
        exact ⟨show _ = _ by rw [hwv]; show p.1 / 1 = p.1 / max q.2 1; rw [show max q.2 1 = 1 by omega], show _ = _ by rw [hwv]; show p.2 / q.1 = p.2 / max q.1 1; rw [show max q.1 1 = q.1 by omega], trivial⟩
    · skip
      refine And.intro (fun h => absurd (show (16 : Int) = 8 from h) (by decide)) (fun _ => ?_)
      refine And.intro (fun h => absurd (show (16 : Int) = 9 from h) (by decide)) (fun _ => ?_)
      refine And.intro (fun h => absurd (show (16 : Int) = 11 from h) (by decide)) (fun _ => ?_)
      refine And.intro (fun _ => ?_) (fun h => absurd rfl h)
      refine And.intro (fun hc => ?_) (fun hc => ?_)
      · refine ⟨show (q.2 : Int) ≠ 0 by omega, .inl ⟨a0, show p.1 ≤ Ev.kmax .u64 by rw [kq]; omega, show (0 : Int) < q.2 by omega, ?_⟩⟩
        refine retE ?_
        exact ⟨show _ = _ by rw [hwv]; show p.1 / q.2 = p.1 / max q.2 1; rw [show max q.2 1 = q.2 by omega], show _ = _ by rw [hwv]; show p.2 = p.2 / max q.1 1; rw [show max q.1 1 = 1 by omega, Int.ediv_one], trivial⟩
      · skip
        refine And.intro (fun _ => ?_) (fun h => absurd rfl h)
        refine ⟨show (q.2 : Int) ≠ 0 by omega, .inl ⟨a0, show p.1 ≤ Ev.kmax .u64 by rw [kq]; omega, show (0 : Int) < q.2 by omega, ?_⟩⟩
        refine ⟨hc, .inl ⟨show 0 ≤ p.2 by omega, show p.2 ≤ Ev.kmax .u64 by rw [kq]; omega, show 0 < q.1 by omega, ?_⟩⟩
        refine retE ?_
        exact ⟨show _ = _ by rw [hwv]; show p.1 / q.2 = p.1 / max q.2 1; rw [show max q.2 1 = q.2 by omega], show _ = _ by rw [hwv]; show p.2 / q.1 = p.2 / max q.1 1; rw [show max q.1 1 = q.1 by omega], trivial⟩
  by_cases n17 : op = 17
  · subst n17
    have hwv : withinV 17 p q = (0, min p.2 (max q.2 1 - 1)) := rfl
    refine And.intro (fun h => absurd (show (17 : Int) = 7 from h) (by decide)) (fun _ => ?_)
    refine And.intro (fun h => absurd (show (17 : Int) = 13 from h) (by decide)) (fun _ => ?_)
    refine And.intro (fun h => absurd (show (17 : Int) = 14 from h) (by decide)) (fun _ => ?_)
    refine And.intro (fun h => absurd (show (17 : Int) = 15 from h) (by decide)) (fun _ => ?_)
    refine And.intro (fun hd => ?_) (fun hd => ?_)
    · skip
      refine And.intro (fun h => absurd (show (17 : Int) = 8 from h) (by decide)) (fun _ => ?_)
      refine And.intro (fun h => absurd (show (17 : Int) = 9 from h) (by decide)) (fun _ => ?_)
      refine And.intro (fun h => absurd (show (17 : Int) = 11 from h) (by decide)) (fun _ => ?_)
      refine And.intro (fun h => absurd (show (17 : Int) = 16 from h) (by decide)) (fun _ => ?_)
      refine And.intro (fun h => absurd (show (17 : Int) = 16 from h) (by decide)) (fun _ => ?_)
      refine And.intro (fun _ => ?_) (fun h => absurd rfl h)
      refine ⟨[], nofun, (least_pure p.2 0).use ⟨rfl, rfl, trivial⟩ rfl rfl ?_⟩
      refine retE ?_
      exact ⟨show _ = _ by rw [hwv], show _ = _ by rw [hwv]; show min p.2 0 = min p.2 (max q.2 1 - 1); omega, trivial⟩
    · skip
      refine And.intro (fun h => absurd (show (17 : Int) = 8 from h) (by decide)) (fun _ => ?_)
      refine And.intro (fun h => absurd (show (17 : Int) = 9 from h) (by decide)) (fun _ => ?_)
      refine And.intro (fun h => absurd (show (17 : Int) = 11 from h) (by decide)) (fun _ => ?_)
      refine And.intro (fun h => absurd (show (17 : Int) = 16 from h) (by decide)) (fun _ => ?_)
      refine And.intro (fun h => absurd (show (17 : Int) = 16 from h) (by decide)) (fun _ => ?_)
      refine And.intro (fun _ => ?_) (fun h => absurd rfl h)
      refine .inl ⟨inR_u64 (by omega), ?_⟩
      refine ⟨[], nofun, (least_pure p.2 (q.2 - 1)).use ⟨rfl, rfl, trivial⟩ rfl rfl ?_⟩
      refine retE ?_
      exact ⟨show _ = _ by rw [hwv], show _ = _ by rw [hwv]; show min p.2 (q.2 - 1) = min p.2 (max q.2 1 - 1); omega, trivial⟩
  have hwv : withinV op p q = (0, 4294967295) := by unfold withinV; rw [if_neg (by omega), if_neg n7, if_neg n13, if_neg n14, if_neg n15, if_neg n16, if_neg n17, if_neg n11]
  refine And.intro (fun h => absurd h n7) (fun _ => ?_)
  refine And.intro (fun h => absurd h n13) (fun _ => ?_)
  refine And.intro (fun h => absurd h n14) (fun _ => ?_)
  refine And.intro (fun h => absurd h n15) (fun _ => ?_)
  refine And.intro (fun hd => ?_) (fun hd => ?_)
  · skip
    refine And.intro (fun h => absurd h n8) (fun _ => ?_)
    refine And.intro (fun h => absurd h n9) (fun _ => ?_)
    refine And.intro (fun h => absurd h n11) (fun _ => ?_)
    refine And.intro (fun h => absurd h n16) (fun _ => ?_)
    refine And.intro (fun h => absurd h n16) (fun _ => ?_)
    refine And.intro (fun h => absurd h n17) (fun _ => ?_)
    refine retE ?_
    exact ⟨show _ = _ by rw [hwv], show _ = _ by rw [hwv], trivial⟩
  · skip
    refine And.intro (fun h => absurd h n8) (fun _ => ?_)
    refine And.intro (fun h => absurd h n9) (fun _ => ?_)
    refine And.intro (fun h => absurd h n11) (fun _ => ?_)
    refine And.intro (fun h => absurd h n16) (fun _ => ?_)
    refine And.intro (fun h => absurd h n16) (fun _ => ?_)
    refine And.intro (fun h => absurd h n17) (fun _ => ?_)
    refine retE ?_
    exact ⟨show _ = _ by rw [hwv], show _ = _ by rw [hwv], trivial⟩

theorem nodes_head (t : T) : ∃ r, t.nodes = (t.op, t.num, (t.kids : Int)) :: r := by cases t <;> exact ⟨_, rfl⟩

set_option maxRecDepth 10000 in
theorem span_pure (L : List (Int × Int × Int)) (hL : L.length ≤ 1000000) (lo hi : List Int) (hlo : ∀ v ∈ lo, 0 ≤ v ∧ v ≤ 4294967295) (hhi : ∀ v ∈ hi, 0 ≤ v ∧ v ≤ 4294967295) (hle : ∀ i : Nat, (lo[i]?).getD 0 ≤ (hi[i]?).getD 4294967295) : ∀ (t : T) (i : Nat), t.Wf → t.shaped = true → (∃ pre post, L = pre ++ t.nodes ++ post ∧ pre.length = i) →
    PureF gT 18 [.sl 3 (L.map nP), .int .i64 i, .sl 1 (wordsP lo), .sl 1 (wordsP hi)] (.tup [.int .u64 (reachV lo hi t).1, .int .u64 (reachV lo hi t).2, .int .i64 ((i + t.size : Nat) : Int)])
  | .leaf o n, i, hwf, hs, ⟨pre, post, he, hi'⟩ => by
    have hn : 0 ≤ n ∧ n ≤ 4294967295 := hwf
    have hx : L[i]? = some (o, n, 0) := by rw [he, List.append_assoc, ← hi', List.getElem?_append_right (Nat.le_refl _)]; simp [T.nodes]
    have hlt : i < L.length := (List.getElem?_eq_some_iff.1 hx).1
    refine Spec.enter gTok P18 100 Tryd.func18 rfl (by kernel_rfl) ?_
    refine ⟨_, L, nP, rfl, show (0 : Int) ≤ (i : Int) by omega, show (i : Int) < (L.length : Int) by omega, fun x hx' => ?_⟩
    obtain rfl : (o, n, (0 : Int)) = x := Option.some.inj (hx.symm.trans hx')
    have ho := shaped_leaf' hs
    refine And.intro (fun h => ?_) (fun h => And.intro (fun h2 => ?_) (fun h2 => absurd ho (fun e => e.elim h h2)))
    · rw [show reachV lo hi (.leaf o n) = (n, n) from if_pos h]
      refine .inl ⟨inR_i64 (by omega), .inl ⟨inR_u64 (by show _ ≤ n ∧ n ≤ _; omega), .inl ⟨inR_u64 (by show _ ≤ n ∧ n ≤ _; omega), ?_⟩⟩⟩
      refine retE ?_
      exact ⟨rfl, rfl, rfl, trivial⟩
    · rw [show reachV lo hi (.leaf o n) = ((lo[n.toNat]?).getD 0, (hi[n.toNat]?).getD 4294967295) from if_neg h]
      refine .inl ⟨inR_i64 (by show _ ≤ n ∧ n ≤ _; omega), fun _ => And.intro (fun h3 => ?_) (fun h3 => ?_)⟩
      · rw [wordsP, List.length_map] at h3
        refine ⟨_, lo, PV.int .u32, rfl, hn.1, h3, fun y1 hy1 => ?_⟩
        have e1 : (lo[n.toNat]?).getD 0 = y1 := by rw [show lo[n.toNat]? = some y1 from hy1]; rfl
        have b1 := hlo y1 (List.mem_of_getElem? hy1)
        refine .inl ⟨inR_u64 (by omega), ?_⟩
        refine .inl ⟨inR_i64 (by show _ ≤ n ∧ n ≤ _; omega), fun _ => And.intro (fun h4 => ?_) (fun h4 => ?_)⟩
        · rw [wordsP, List.length_map] at h4
          refine ⟨_, hi, PV.int .u32, rfl, hn.1, h4, fun y2 hy2 => ?_⟩
          have e2 : (hi[n.toNat]?).getD 4294967295 = y2 := by rw [show hi[n.toNat]? = some y2 from hy2]; rfl
          have b2 := hhi y2 (List.mem_of_getElem? hy2)
          refine .inl ⟨inR_u64 (by omega), .inl ⟨inR_i64 (by omega), ?_⟩⟩
          rw [e1, e2]
          refine retE ?_
          exact ⟨rfl, rfl, rfl, trivial⟩
        · rw [wordsP, List.length_map] at h4
          have e2 : (hi[n.toNat]?).getD 4294967295 = 4294967295 := by rw [List.getElem?_eq_none (show hi.length ≤ n.toNat by have h4' : ¬ n < hi.length := h4; omega)]; rfl
          refine .inl ⟨inR_i64 (by omega), ?_⟩
          rw [e1, e2]
          refine retE ?_
          exact ⟨rfl, rfl, rfl, trivial⟩
      · rw [wordsP, List.length_map] at h3
        have e1 : (lo[n.toNat]?).getD 0 = 0 := by rw [List.getElem?_eq_none (show lo.length ≤ n.toNat by have h3' : ¬ n < lo.length := h3; omega)]; rfl
        refine .inl ⟨inR_i64 (by show _ ≤ n ∧ n ≤ _; omega), fun _ => And.intro (fun h4 => ?_) (fun h4 => ?_)⟩
        · rw [wordsP, List.length_map] at h4
          refine ⟨_, hi, PV.int .u32, rfl, hn.1, h4, fun y2 hy2 => ?_⟩
          have e2 : (hi[n.toNat]?).getD 4294967295 = y2 := by rw [show hi[n.toNat]? = some y2 from hy2]; rfl
          have b2 := hhi y2 (List.mem_of_getElem? hy2)
          refine .inl ⟨inR_u64 (by omega), .inl ⟨inR_i64 (by omega), ?_⟩⟩
          rw [e1, e2]
          refine retE ?_
          exact ⟨rfl, rfl, rfl, trivial⟩
        · rw [wordsP, List.length_map] at h4
          have e2 : (hi[n.toNat]?).getD 4294967295 = 4294967295 := by rw [List.getElem?_eq_none (show hi.length ≤ n.toNat by have h4' : ¬ n < hi.length := h4; omega)]; rfl
          refine .inl ⟨inR_i64 (by omega), ?_⟩
          rw [e1, e2]
          refine retE ?_
          exact ⟨rfl, rfl, rfl, trivial⟩
  | .one o n a, i, hwf, hs, ⟨pre, post, he, hi'⟩ => by
    have ho := (shaped_one hs).1
    have hx : L[i]? = some (o, n, 1) := by rw [he, List.append_assoc, ← hi', List.getElem?_append_right (Nat.le_refl _)]; simp [T.nodes]
    have hlt : i < L.length := (List.getElem?_eq_some_iff.1 hx).1
    have iha := span_pure L hL lo hi hlo hhi hle a (i + 1) hwf.2 (shaped_one hs).2 ⟨pre ++ [(o, n, 1)], post, by rw [he]; simp [T.nodes], by simp [hi']⟩
    refine Spec.enter gTok P18 100 Tryd.func18 rfl (by kernel_rfl) ?_
    refine ⟨_, L, nP, rfl, show (0 : Int) ≤ (i : Int) by omega, show (i : Int) < (L.length : Int) by omega, fun x hx' => ?_⟩
    obtain rfl : (o, n, (1 : Int)) = x := Option.some.inj (hx.symm.trans hx')
    refine And.intro (fun h => absurd (show o = 1 from h) (by omega)) (fun _ => And.intro (fun h => absurd (show o = 2 from h) (by omega)) (fun _ => ?_))
    refine .inl ⟨inR_i64 (by omega), ?_⟩
    refine ⟨[], nofun, iha.use ⟨rfl, rfl, rfl, rfl, trivial⟩ rfl rfl ?_⟩
    refine And.intro (fun _ => ?_) (fun h => absurd (show o < 5 by omega) h)
    refine retE ?_
    exact ⟨rfl, rfl, show (((i + 1 + a.size : Nat) : Int)) = ((i + (T.one o n a).size : Nat) : Int) by simp only [T.size]; omega, trivial⟩
  | .two o n a b, i, hwf, hs, ⟨pre, post, he, hi'⟩ => by
    obtain ⟨ho, ha, hb⟩ := shaped_two hs
    have hx : L[i]? = some (o, n, 2) := by rw [he, List.append_assoc, ← hi', List.getElem?_append_right (Nat.le_refl _)]; simp [T.nodes]
    have hlt : i < L.length := (List.getElem?_eq_some_iff.1 hx).1
    have hlen : L.length = pre.length + (1 + a.size + b.size) + post.length := by rw [he, List.length_append, List.length_append, T.nodes_length]; rfl
    have iha := span_pure L hL lo hi hlo hhi hle a (i + 1) hwf.2.1 ha ⟨pre ++ [(o, n, 2)], b.nodes ++ post, by rw [he]; simp [T.nodes], by simp [hi']⟩
    have ihb := span_pure L hL lo hi hlo hhi hle b (i + 1 + a.size) hwf.2.2 hb ⟨pre ++ [(o, n, 2)] ++ a.nodes, post, by rw [he]; simp [T.nodes], by simp [hi', T.nodes_length]; omega⟩
    have oka := reach_ok hlo hhi hle a hwf.2.1 ha
    have okb := reach_ok hlo hhi hle b hwf.2.2 hb
    refine Spec.enter gTok P18 100 Tryd.func18 rfl (by kernel_rfl) ?_
    refine ⟨_, L, nP, rfl, show (0 : Int) ≤ (i : Int) by omega, show (i : Int) < (L.length : Int) by omega, fun x hx' => ?_⟩
    obtain rfl : (o, n, (2 : Int)) = x := Option.some.inj (hx.symm.trans hx')
    refine And.intro (fun h => absurd (show o = 1 from h) (by omega)) (fun _ => And.intro (fun h => absurd (show o = 2 from h) (by omega)) (fun _ => ?_))
    refine .inl ⟨inR_i64 (by omega), ?_⟩
    refine ⟨[], nofun, iha.use ⟨rfl, rfl, rfl, rfl, trivial⟩ rfl rfl ?_⟩
    refine And.intro (fun h => absurd (show o < 5 from h) (by omega)) (fun _ => ?_)
    refine ⟨[], nofun, ihb.use ⟨rfl, rfl, rfl, rfl, trivial⟩ rfl rfl ?_⟩
    refine ⟨[], nofun, (joined_pure o _ _ oka okb ho).use ⟨rfl, rfl, rfl, rfl, rfl, trivial⟩ rfl rfl ?_⟩
    refine retE ?_
    exact ⟨rfl, rfl, show (((i + 1 + a.size + b.size : Nat) : Int)) = ((i + (T.two o n a b).size : Nat) : Int) by simp only [T.size]; omega, trivial⟩

end Go.Proofs.YtnjmfedleimlmaaDoor.Pw

/- TermSpans over values. -/
namespace Go.Proofs.YtnjmfedleimlmaaDoor.Pw
open Go Go.RowKit

def vV (ws bs : List Int) (i : Nat) : Int := match bs[i]? with
  | some b => (ws[i]?).getD 0 + min (4294967295 - (ws[i]?).getD 0) b
  | none => (ws[i]?).getD 0
def fromL (ws : List Int) (i : Nat) : List Int := (List.range i).map fun j => (ws[j]?).getD 0
def toL (ws bs : List Int) (i : Nat) : List Int := (List.range i).map (vV ws bs)

set_option maxRecDepth 10000 in
theorem TermSpans_pure (la : List (Int × Int)) (ws bs : List Int) (ha : la.length ≤ maxLen) (hw : WordsOk ws) (hb : WordsOk bs) (wa : (ofX la).Wf) :
    PureF gT 4 [.sl 2 (la.map nodeP), .sl 1 (wordsP ws), .sl 1 (wordsP bs)] .tt := by
  have hsz := ofX_size la
  refine Spec.enter gTok P4 100 Tryd.func4 rfl (by kernel_rfl) ?_
  refine ⟨[], nofun, anchor_pure.use trivial rfl rfl ?_⟩
  refine ⟨[], nofun, (of_pure la ha).use ⟨rfl, trivial⟩ rfl rfl ?_⟩
  refine And.intro (fun h1 => retE trivial) (fun h1 => fun hlen => And.intro (fun h2 => retE trivial) (fun h2 => ?_))
  have ta := ofOk_wf h1
  have hn : ws.length ≤ 60 := by rw [wordsP, List.length_map] at h2; omega
  refine fun _ => ?_
  refine SW.loopD gTok P4 (by kernel_rfl) (fun i : Nat => [(35, .int .i64 i), (9, .wref 1), (10, .wref 2)]) (fun i => [⟨.dyn, 25, 1, .w, true, wordsP (fromL ws i)⟩, ⟨.dyn, 25, 1, .w, true, wordsP (toL ws bs i)⟩]) (fun i => ws.length - i) 0 60 [none, none] ?_ fun i => ?_
  · repeat' first | exact trivial | exact rfl | exact Iff.rfl | refine And.intro ?_ ?_
  have ell : (wordsP (fromL ws i)).length = i := by rw [wordsP, List.length_map, fromL, List.length_map, List.length_range]
  have elh : (wordsP (toL ws bs i)).length = i := by rw [wordsP, List.length_map, toL, List.length_map, List.length_range]
  have sl : wordsP (fromL ws (i + 1)) = wordsP (fromL ws i) ++ [PV.int .u32 ((ws[i]?).getD 0)] := by simp [wordsP, fromL, List.range_succ]
  have sh : wordsP (toL ws bs (i + 1)) = wordsP (toL ws bs i) ++ [PV.int .u32 (vV ws bs i)] := by simp [wordsP, toL, List.range_succ]
  have hwb : ∀ j : Nat, 0 ≤ (ws[j]?).getD 0 ∧ (ws[j]?).getD 0 ≤ 4294967295 := fun j => by
    cases h : ws[j]? with
    | none => simp
    | some v => exact hw.2 v (List.mem_of_getElem? h)
  have hV : ∀ j, (ws[j]?).getD 0 ≤ vV ws bs j ∧ vV ws bs j ≤ 4294967295 := fun j => by
    have := hwb j
    unfold vV
    split
    · rename_i b hbj
      have := hb.2 b (List.mem_of_getElem? hbj)
      omega
    · omega
  refine And.intro (fun hi => ?_) (fun hi => ?_)
  · have hi' : i < ws.length := by rw [wordsP, List.length_map] at hi; omega
    refine ⟨_, ws, PV.int .u32, rfl, show (0 : Int) ≤ (i : Int) by omega, show (i : Int) < (ws.length : Int) by omega, fun x hx => ?_⟩
    have hx' : ws[i]? = some x := hx
    have hxb := hw.2 x (List.mem_of_getElem? hx')
    have gx : (ws[i]?).getD 0 = x := by rw [hx']; rfl
    have v1 : ∀ y, bs[i]? = some y → vV ws bs i = x + min (4294967295 - x) y := fun y hy => by unfold vV; rw [hy, hx']; rfl
    have v0 : bs[i]? = none → vV ws bs i = x := fun hy => by unfold vV; rw [hy, hx']; rfl
    refine fun _ => And.intro (fun h4 => ?_) (fun h4 => ?_)
    · rw [wordsP, List.length_map] at h4
      refine .inl ⟨inR_u32 (by omega), ?_⟩
      refine ⟨_, bs, PV.int .u32, rfl, show (0 : Int) ≤ (i : Int) by omega, h4, fun y hy => ?_⟩
      have hy' : bs[i]? = some y := hy
      have hyb := hb.2 y (List.mem_of_getElem? hy')
      have hd := v1 y hy'
      refine .inl ⟨inR_u32 (by omega), ?_⟩
      refine ⟨show (wordsP (fromL ws i)).length + 1 ≤ maxLen by rw [ell]; unfold maxLen; omega, show ((wordsP (fromL ws i)).length + 1) * 4 ≤ 140737488355328 by rw [ell]; omega, ?_⟩
      refine ⟨show (wordsP (toL ws bs i)).length + 1 ≤ maxLen by rw [elh]; unfold maxLen; omega, show ((wordsP (toL ws bs i)).length + 1) * 4 ≤ 140737488355328 by rw [elh]; omega, ?_⟩
      refine .inl ⟨inR_i64 (by omega), ⟨i + 1, [some 4, some 6], by omega, ?_⟩⟩
      repeat' first | exact trivial | exact rfl | exact Iff.rfl | refine And.intro ?_ ?_
      all_goals first | exact (show _ = wordsP (fromL ws (i + 1)) by rw [sl, gx]; rfl) | exact (show _ = wordsP (toL ws bs (i + 1)) by rw [sh, hd]; rfl)
    · rw [wordsP, List.length_map] at h4
      have hd := v0 (List.getElem?_eq_none (by omega))
      refine ⟨show (wordsP (fromL ws i)).length + 1 ≤ maxLen by rw [ell]; unfold maxLen; omega, show ((wordsP (fromL ws i)).length + 1) * 4 ≤ 140737488355328 by rw [ell]; omega, ?_⟩
      refine ⟨show (wordsP (toL ws bs i)).length + 1 ≤ maxLen by rw [elh]; unfold maxLen; omega, show ((wordsP (toL ws bs i)).length + 1) * 4 ≤ 140737488355328 by rw [elh]; omega, ?_⟩
      refine .inl ⟨inR_i64 (by omega), ⟨i + 1, [some 4, some 6], by omega, ?_⟩⟩
      repeat' first | exact trivial | exact rfl | exact Iff.rfl | refine And.intro ?_ ?_
      all_goals first | exact (show _ = wordsP (fromL ws (i + 1)) by rw [sl, gx]; rfl) | exact (show _ = wordsP (toL ws bs (i + 1)) by rw [sh, hd]; rfl)
  · have hL : ∀ v ∈ fromL ws i, 0 ≤ v ∧ v ≤ 4294967295 := fun v hv => by
      obtain ⟨j, _, rfl⟩ := List.mem_map.1 hv
      exact hwb j
    have hH : ∀ v ∈ toL ws bs i, 0 ≤ v ∧ v ≤ 4294967295 := fun v hv => by
      obtain ⟨j, _, rfl⟩ := List.mem_map.1 hv
      exact ⟨Int.le_trans (hwb j).1 (hV j).1, (hV j).2⟩
    have hle : ∀ j : Nat, ((fromL ws i)[j]?).getD 0 ≤ ((toL ws bs i)[j]?).getD 4294967295 := fun j => by
      unfold fromL toL
      rw [List.getElem?_map, List.getElem?_map]
      cases h : (List.range i)[j]? with
      | none => show (0 : Int) ≤ 4294967295; omega
      | some k =>
        obtain ⟨_, hk⟩ := List.getElem?_eq_some_iff.1 h
        rw [List.getElem_range] at hk
        subst hk
        exact (hV _).1
    have hok := (reach_ok hL hH hle _ wa ta)
    refine ⟨[], nofun, (range_pure (fromL ws i) (toL ws bs i) hL hH hle _ wa ta).useB [1, 2] ⟨⟨rfl, rfl, rfl, trivial⟩, rfl, rfl, trivial⟩ rfl rfl ?_⟩
    refine ⟨[], nofun, (flat_pure 3000 (ofX la) (by omega) (by omega)).use ⟨⟨rfl, rfl, rfl, trivial⟩, rfl, trivial⟩ rfl rfl ?_⟩
    refine ⟨[], nofun, (span_pure (ofX la).nodes (by rw [T.nodes_length]; omega) (fromL ws i) (toL ws bs i) hL hH hle (ofX la) 0 wa ta ⟨[], [], by simp, rfl⟩).useB [1, 2] ⟨rfl, rfl, rfl, rfl, trivial⟩ rfl rfl ?_⟩
    obtain ⟨o0, o1, o2⟩ := hok
    refine .inl ⟨inR_u64 (by omega), ?_⟩
    refine And.intro (fun _ => ?_) (fun h => absurd rfl h)
    refine .inl ⟨inR_u64 (by omega), ?_⟩
    exact retE rfl

theorem TermSpans_pure' (x0 : PV) (s0 : SNodes x0) (x1 : PV) (s1 : SWords x1) (x2 : PV) (s2 : SWords x2) : PureF gT 4 [x0, x1, x2] .tt := by
  obtain ⟨la, ⟨ha, _⟩, wa, rfl⟩ := s0
  obtain ⟨ws, ⟨hw, _⟩, ww, rfl⟩ := s1
  obtain ⟨bs, ⟨hb, _⟩, wb, rfl⟩ := s2
  exact TermSpans_pure la ws bs ha (wordsOk_of hw ww) (wordsOk_of hb wb) (wf_of wa)

end Go.Proofs.YtnjmfedleimlmaaDoor.Pw

/- Chapter 11 over values: Right. -/
namespace Go.Proofs.YtnjmfedleimlmaaDoor.Pw
open Go Go.RowKit

theorem needs_pureT (op : Int) : PureF gT 74 [.int .i64 op] (.int .i64 (needsT op)) := by
  refine Spec.enter gTok P74 100 Tryd.func74 rfl (by kernel_rfl) ?_
  repeat' refine And.intro (fun _ => ?_) (fun _ => ?_)
  all_goals (refine retE ?_; unfold needsT; show _ = _; (repeat' split) <;> omega)
theorem needsT_eq {op : Int} (h1 : 1 ≤ op) (h2 : op ≤ 17) : needsT op = needsN op := by
  unfold needsT needsN
  rw [if_neg (show ¬ (op < 1 ∨ 17 < op) by omega)]
  by_cases k1 : op ≤ 2
  · rw [if_pos k1, if_pos (show op < 3 by omega)]
  · rw [if_neg k1, if_neg (show ¬ op < 3 by omega)]
    by_cases k2 : op ≤ 4
    · rw [if_pos k2, if_pos (show op < 5 by omega)]
    · rw [if_neg k2, if_neg (show ¬ op < 5 by omega)]
theorem root_iff (t : T) : t.root = true ↔ 1 ≤ t.op ∧ t.op ≤ 17 ∧ needsN t.op = t.kids ∧ (2 < t.op → t.num = 0) ∧ (t.op = 2 → t.num ≤ 255) := by
  cases t <;> exact decide_eq_true_iff
theorem kidsP_len (t : T) : ((kidsP t).length : Int) = (t.kids : Nat) := by cases t <;> rfl
theorem shaped_root {t : T} (h : t.shaped = true) : t.root = true ∧ t.kidsOk = true := by rw [T.shaped_eq, Bool.and_eq_true] at h; exact h
def sClo : PV := .clo 76 []

set_option maxRecDepth 10000 in
theorem shaped_step (t : T) (hn : 0 ≤ t.num ∧ t.num ≤ 4294967295) (hc : PureF gT 75 [.sl 3 (kidsP t), sClo] (.bool (¬ t.kidsOk = true))) : PureF gT 50 [tpv t] (.bool (t.shaped = true)) := by
  have hk := kidsP_len t
  have bad : ∀ {p : Prop}, (1 ≤ t.op → t.op ≤ 17 → needsT t.op = (kidsP t).length → (2 < t.op → t.num = 0) → (t.op = 2 → t.num ≤ 255) → False) → t.shaped = true → p := fun h hs => by
    have hr := (root_iff t).1 (shaped_root hs).1
    exact absurd hr.2.2.2.2 (fun h5 => h hr.1 hr.2.1 (by rw [needsT_eq hr.1 hr.2.1, hk]; exact hr.2.2.1) hr.2.2.2.1 h5)
  refine Spec.enter gTok P50 100 Tryd.func50 rfl (by kernel_rfl) ?_
  refine And.intro (fun h1 => ?_) (fun h1 => And.intro (fun h2 => ?_) (fun h2 => ?_))
  · refine retE ?_
    exact fun hs => bad (by omega) hs
  · refine retE ?_
    exact fun hs => bad (by omega) hs
  refine fun _ => ?_
  refine ⟨[], nofun, (needs_pureT t.op).use ⟨rfl, trivial⟩ rfl rfl ?_⟩
  have fin_ : ∀ (h3 : ¬ ¬ ((kidsP t).length : Int) = needsT t.op) (h4 : 2 < t.op → t.num = 0) (h5 : t.op = 2 → t.num ≤ 255), (¬ ¬ t.kidsOk = true ↔ t.shaped = true) := fun h3 h4 h5 => by
    have hr : t.root = true := (root_iff t).2 ⟨by omega, by omega, by rw [← needsT_eq (by omega) (by omega), ← hk]; omega, h4, h5⟩
    rw [T.shaped_eq, hr, Bool.true_and]; exact Classical.not_not
  refine And.intro (fun h3 => ?_) (fun h3 => And.intro (fun h4 => And.intro (fun h5 => ?_) (fun h5 => And.intro (fun h6 => ?_) (fun h6 => ?_))) (fun h4 => And.intro (fun h6 => And.intro (fun h7 => ?_) (fun h7 => ?_)) (fun h6 => ?_)))
  · refine retE ?_
    exact fun hs => bad (by omega) hs
  · refine retE ?_
    exact fun hs => bad (by omega) hs
  · exact absurd h6 (by omega)
  · refine ⟨[], nofun, hc.use ⟨rfl, trivial, trivial⟩ rfl rfl ?_⟩
    refine retE ?_
    exact fin_ h3 (by omega) (by omega)
  · refine retE ?_
    exact fun hs => bad (by omega) hs
  · refine ⟨[], nofun, hc.use ⟨rfl, trivial, trivial⟩ rfl rfl ?_⟩
    refine retE ?_
    exact fin_ h3 (by omega) (by omega)
  · refine ⟨[], nofun, hc.use ⟨rfl, trivial, trivial⟩ rfl rfl ?_⟩
    refine retE ?_
    exact fin_ h3 (by omega) (by omega)

end Go.Proofs.YtnjmfedleimlmaaDoor.Pw

/- Chapter 11 over values: Right, the rest. -/
namespace Go.Proofs.YtnjmfedleimlmaaDoor.Pw
open Go Go.RowKit

theorem shaped1_pure (a : T) (ha : PureF gT 50 [tpv a] (.bool (a.shaped = true))) : PureF gT 76 [tpv a] (.bool (¬ a.shaped = true)) := by
  refine Spec.enter gTok P76 100 Tryd.func76 rfl (by kernel_rfl) ?_
  refine ⟨[], nofun, ha.use ⟨⟨rfl, rfl, rfl, trivial⟩, trivial⟩ rfl rfl ?_⟩
  exact retE Iff.rfl
def idxT : T → Int
  | .leaf .. => -1
  | .one _ _ a => if a.shaped then -1 else 0
  | .two _ _ a b => if a.shaped then (if b.shaped then -1 else 1) else 0
theorem idxT_iff (t : T) : 0 ≤ idxT t ↔ ¬ t.kidsOk = true := by
  cases t with
  | leaf => simp [idxT, T.kidsOk]
  | one o n a => cases h : a.shaped <;> simp [idxT, T.kidsOk, h]
  | two o n a b => cases h : a.shaped <;> cases h2 : b.shaped <;> simp [idxT, T.kidsOk, h, h2]
theorem contains_pure (t : T) (hi : PureF gT 98 [.sl 3 (kidsP t), sClo] (.int .i64 (idxT t))) : PureF gT 75 [.sl 3 (kidsP t), sClo] (.bool (¬ t.kidsOk = true)) := by
  refine Spec.enter gTok P75 100 Tryd.func75 rfl (by kernel_rfl) ?_
  refine ⟨[], nofun, hi.use ⟨rfl, trivial, trivial⟩ rfl rfl ?_⟩
  exact retE (idxT_iff t)

set_option maxRecDepth 10000 in
theorem index_leaf (o n : Int)   : PureF gT 98 [.sl 3 (kidsP (.leaf o n )), sClo] (.int .i64 (idxT (.leaf o n ))) := by
  refine Spec.enter gTok P98 100 Tryd.func98 rfl (by kernel_rfl) ?_
  refine fun _ => SW.rounds gTok P98 (by kernel_rfl) (N := 60) 3 ?_
  refine And.intro (fun h => absurd (show (0 : Int) < 0 from h) (by decide)) (fun _ => ?_)
  refine retE ?_
  exact (show (-1 : Int) = idxT _ by simp [idxT])

set_option maxRecDepth 10000 in
theorem index_one (o n : Int) (a : T) (ha : PureF gT 76 [tpv a] (.bool (¬ a.shaped = true))) : PureF gT 98 [.sl 3 (kidsP (.one o n a)), sClo] (.int .i64 (idxT (.one o n a))) := by
  refine Spec.enter gTok P98 100 Tryd.func98 rfl (by kernel_rfl) ?_
  refine fun _ => SW.rounds gTok P98 (by kernel_rfl) (N := 60) 3 ?_
  refine And.intro (fun _ => ?_) (fun h => absurd (show (0 : Int) < 1 by decide) h)
  refine ⟨T, [a], tpv, rfl, (show (0 : Int) ≤ 0 by decide), (show (0 : Int) < 1 by decide), fun x hx => ?_⟩
  obtain rfl : a = x := Option.some.inj hx
  refine ⟨[], nofun, ha.use ⟨⟨rfl, rfl, rfl, trivial⟩, trivial⟩ rfl rfl ?_⟩
  refine And.intro (fun s0 => ?_) (fun s0 => ?_)
  · refine retE ?_
    exact (show (0 : Int) = idxT _ by simp [idxT, s0])
  replace s0 := Classical.not_not.1 s0
  refine And.intro (fun h => absurd (show (1 : Int) < 1 from h) (by decide)) (fun _ => ?_)
  refine retE ?_
  exact (show (-1 : Int) = idxT _ by simp [idxT, s0])

set_option maxRecDepth 10000 in
theorem index_two (o n : Int) (a b : T) (ha : PureF gT 76 [tpv a] (.bool (¬ a.shaped = true))) (hb : PureF gT 76 [tpv b] (.bool (¬ b.shaped = true))) : PureF gT 98 [.sl 3 (kidsP (.two o n a b)), sClo] (.int .i64 (idxT (.two o n a b))) := by
  refine Spec.enter gTok P98 100 Tryd.func98 rfl (by kernel_rfl) ?_
  refine fun _ => SW.rounds gTok P98 (by kernel_rfl) (N := 60) 3 ?_
  refine And.intro (fun _ => ?_) (fun h => absurd (show (0 : Int) < 2 by decide) h)
  refine ⟨T, [a, b], tpv, rfl, (show (0 : Int) ≤ 0 by decide), (show (0 : Int) < 2 by decide), fun x hx => ?_⟩
  obtain rfl : a = x := Option.some.inj hx
  refine ⟨[], nofun, ha.use ⟨⟨rfl, rfl, rfl, trivial⟩, trivial⟩ rfl rfl ?_⟩
  refine And.intro (fun s0 => ?_) (fun s0 => ?_)
  · refine retE ?_
    exact (show (0 : Int) = idxT _ by simp [idxT, s0])
  replace s0 := Classical.not_not.1 s0
  refine And.intro (fun _ => ?_) (fun h => absurd (show (1 : Int) < 2 by decide) h)
  refine ⟨T, [a, b], tpv, rfl, (show (0 : Int) ≤ 1 by decide), (show (1 : Int) < 2 by decide), fun x hx => ?_⟩
  obtain rfl : b = x := Option.some.inj hx
  refine ⟨[], nofun, hb.use ⟨⟨rfl, rfl, rfl, trivial⟩, trivial⟩ rfl rfl ?_⟩
  refine And.intro (fun s1 => ?_) (fun s1 => ?_)
  · refine retE ?_
    exact (show (1 : Int) = idxT _ by simp [idxT, s0, s1])
  replace s1 := Classical.not_not.1 s1
  refine And.intro (fun h => absurd (show (2 : Int) < 2 from h) (by decide)) (fun _ => ?_)
  refine retE ?_
  exact (show (-1 : Int) = idxT _ by simp [idxT, s0, s1])

theorem shaped_pure : ∀ t : T, t.Wf → PureF gT 50 [tpv t] (.bool (t.shaped = true))
  | .leaf o n, h => shaped_step _ h (contains_pure _ (index_leaf o n))
  | .one o n a, h => shaped_step _ h.1 (contains_pure _ (index_one o n a (shaped1_pure a (shaped_pure a h.2))))
  | .two o n a b, h => shaped_step _ h.1 (contains_pure _ (index_two o n a b (shaped1_pure a (shaped_pure a h.2.1)) (shaped1_pure b (shaped_pure b h.2.2))))
theorem right_pure (t : T) (h : t.Wf) (hs : t.size ≤ 16384) : PureF gT 25 [tpv t] (.bool (t.shaped = true)) := by
  refine Spec.enter gTok P25 100 Tryd.func25 rfl (by kernel_rfl) ?_
  refine ⟨[], nofun, (count_pure t (by omega)).use ⟨⟨rfl, rfl, rfl, trivial⟩, trivial⟩ rfl rfl ?_⟩
  refine And.intro (fun _ => ?_) (fun h => absurd (show (t.size : Int) ≤ 16384 by omega) h)
  refine ⟨[], nofun, (shaped_pure t h).use ⟨⟨rfl, rfl, rfl, trivial⟩, trivial⟩ rfl rfl ?_⟩
  exact retE Iff.rfl

end Go.Proofs.YtnjmfedleimlmaaDoor.Pw

/- Chapter 11: what folding does (plain), and TermFolds over values. -/
namespace Go.Proofs.YtnjmfedleimlmaaDoor.Pw
open Go Go.RowKit

theorem shaped_leaf {o n : Int} (h : (T.leaf o n).shaped = true) : o = 1 ∨ o = 2 := by
  simp only [T.shaped, goodN, decide_eq_true_eq] at h
  have h1 := h.2.2.1
  unfold needsN at h1
  (repeat' split at h1) <;> omega
/-- a term that is a number -/
theorem op1 {t : T} (h : t.shaped = true) (h1 : t.op = 1) : ∃ n, t = .leaf 1 n := by
  cases t with
  | leaf o n => exact ⟨n, by rw [show o = 1 from h1]⟩
  | one o n a => have := (shaped_one h).1; simp only [T.op] at h1; omega
  | two o n a b => have := (shaped_two h).1; simp only [T.op] at h1; omega
theorem one_shaped {o n : Int} {a a' : T} (h : (T.one o n a).shaped = true) (h' : a'.shaped = true) : (T.one o n a').shaped = true := by
  simp only [T.shaped, Bool.and_eq_true] at h ⊢
  exact ⟨h.1, h'⟩
theorem two_shaped {o n : Int} {a b a' b' : T} (h : (T.two o n a b).shaped = true) (h' : a'.shaped = true) (h2 : b'.shaped = true) : (T.two o n a' b').shaped = true := by
  simp only [T.shaped, Bool.and_eq_true] at h ⊢
  exact ⟨h.1, h', h2⟩
theorem num_shaped (v : Int) : (T.leaf 1 v).shaped = true := by simp [T.shaped, goodN, needsN]
theorem foldN_shaped {t : T} {c : Bool} (h : t.shaped = true) : (foldN t c).shaped = true := by
  unfold foldN
  split
  · split
    · exact num_shaped _
    · exact h
  · exact h
theorem foldT_shaped : ∀ {t : T}, t.shaped = true → (foldT t).shaped = true
  | .leaf o n, h => foldN_shaped h
  | .one o n a, h => by rw [foldT]; exact foldN_shaped (one_shaped h (foldT_shaped (shaped_one h).2))
  | .two o n a b, h => by rw [foldT]; exact foldN_shaped (two_shaped h (foldT_shaped (shaped_two h).2.1) (foldT_shaped (shaped_two h).2.2))
theorem foldN_size {t : T} {c : Bool} : (foldN t c).size ≤ t.size := by
  unfold foldN
  split
  · split
    · exact T.size_pos t
    · exact Nat.le_refl _
  · exact Nat.le_refl _
theorem foldT_size : ∀ {t : T}, (foldT t).size ≤ t.size
  | .leaf o n => foldN_size
  | .one o n a => by rw [foldT]; have := foldT_size (t := a); exact Nat.le_trans foldN_size (by simp only [T.size]; omega)
  | .two o n a b => by rw [foldT]; have := foldT_size (t := a); have := foldT_size (t := b); exact Nat.le_trans foldN_size (by simp only [T.size]; omega)
/-- a node whose terms are numbers has one value, whatever the words are -/
theorem foldN_eval {t : T} {c : Bool} (ws : List Int) (h : c = true → t.evalT [] = t.evalT ws) : (foldN t c).evalT ws = t.evalT ws := by
  unfold foldN
  split
  · rename_i hc
    split
    · rename_i v hv
      rw [← h hc, hv]
      simp [T.evalT, leafV]
    · rfl
  · rfl
theorem num_eval (n : Int) (ws : List Int) : (T.leaf 1 n).evalT ws = some n := by simp [T.evalT, leafV]
theorem foldT_eval (ws : List Int) : ∀ {t : T}, t.shaped = true → (foldT t).evalT ws = t.evalT ws
  | .leaf o n, h => by
    rw [foldT]
    refine foldN_eval ws fun hc => ?_
    rcases shaped_leaf h with rfl | rfl
    · rw [num_eval, num_eval]
    · simp at hc
  | .one o n a, h => by
    rw [foldT]
    have ha := (shaped_one h).2
    rw [foldN_eval ws fun hc => ?_]
    · simp only [T.evalT]
      rw [foldT_eval ws ha]
    · simp only [Bool.and_eq_true, decide_eq_true_eq] at hc
      obtain ⟨m, hm⟩ := op1 (foldT_shaped ha) hc.2
      rw [hm]
      show Option.map (oneV o) ((T.leaf 1 m).evalT []) = Option.map (oneV o) ((T.leaf 1 m).evalT ws)
      rw [num_eval, num_eval]
  | .two o n a b, h => by
    rw [foldT]
    have ha := (shaped_two h).2.1
    have hb := (shaped_two h).2.2
    rw [foldN_eval ws fun hc => ?_]
    · simp only [T.evalT]
      rw [foldT_eval ws ha, foldT_eval ws hb]
    · simp only [Bool.and_eq_true, decide_eq_true_eq] at hc
      obtain ⟨m, hm⟩ := op1 (foldT_shaped ha) hc.1.2
      obtain ⟨k, hk⟩ := op1 (foldT_shaped hb) hc.2
      rw [hm, hk]
      show (((T.leaf 1 m).evalT []).bind fun x => ((T.leaf 1 k).evalT []).bind fun y => twoV o x y) = (((T.leaf 1 m).evalT ws).bind fun x => ((T.leaf 1 k).evalT ws).bind fun y => twoV o x y)
      rw [num_eval, num_eval, num_eval, num_eval]
/-- without variables -/
def freeT (t : T) : Bool := t.nodes.all fun x => x.1 != 2
theorem fold_num (ws : List Int) : ∀ {t : T}, t.shaped = true → freeT t = true → (t.evalT ws).isSome = true → (foldT t).op = 1
  | .leaf o n, h, hf, _ => by
    rcases shaped_leaf h with rfl | rfl
    · rw [foldT]; rfl
    · simp [freeT, T.nodes] at hf
  | .one o n a, h, hf, hs => by
    have ha := (shaped_one h).2
    have ho := (shaped_one h).1
    have hfa : freeT a = true := by simp only [freeT, T.nodes, List.all_cons, Bool.and_eq_true] at hf ⊢; exact hf.2
    simp only [T.evalT, Option.isSome_map] at hs
    have ih := fold_num ws ha hfa hs
    obtain ⟨m, hm⟩ := op1 (foldT_shaped ha) ih
    rw [foldT, hm]
    have e : (decide (o ≠ 2) && decide ((T.leaf 1 m).op = 1)) = true := by simp [T.op]; omega
    rw [e]
    unfold foldN
    simp only [if_true, T.evalT, leafV, if_pos rfl, Option.map_some]
    rfl
  | .two o n a b, h, hf, hs => by
    have ha := (shaped_two h).2.1
    have hb := (shaped_two h).2.2
    have ho := (shaped_two h).1
    have hfa : freeT a = true ∧ freeT b = true := by simp only [freeT, T.nodes, List.all_cons, List.all_append, Bool.and_eq_true] at hf ⊢; exact hf.2
    have hx := foldT_eval ws ha
    have hy := foldT_eval ws hb
    cases qa : a.evalT ws with
    | none => simp [T.evalT, qa] at hs
    | some x =>
      cases qb : b.evalT ws with
      | none => simp [T.evalT, qa, qb] at hs
      | some y =>
        have i1 := fold_num ws ha hfa.1 (by rw [qa]; rfl)
        have i2 := fold_num ws hb hfa.2 (by rw [qb]; rfl)
        obtain ⟨m, hm⟩ := op1 (foldT_shaped ha) i1
        obtain ⟨k, hk⟩ := op1 (foldT_shaped hb) i2
        rw [hm, num_eval, qa] at hx
        rw [hk, num_eval, qb] at hy
        obtain rfl : m = x := Option.some.inj hx
        obtain rfl : k = y := Option.some.inj hy
        rw [foldT, hm, hk]
        have e : ((decide (o ≠ 2) && decide ((T.leaf 1 m).op = 1)) && decide ((T.leaf 1 k).op = 1)) = true := by simp [T.op]; omega
        rw [e]
        simp only [T.evalT, qa, qb, Option.bind_some] at hs
        have ev : (T.two o n (.leaf 1 m) (.leaf 1 k)).evalT [] = twoV o m k := by
          show (((T.leaf 1 m).evalT []).bind fun x => ((T.leaf 1 k).evalT []).bind fun y => twoV o x y) = _
          rw [num_eval, num_eval]; rfl
        unfold foldN
        rw [if_pos rfl, ev]
        cases hv : twoV o m k with
        | none => rw [hv] at hs; cases hs
        | some v => rfl

end Go.Proofs.YtnjmfedleimlmaaDoor.Pw

/- Chapter 11 over values: the document's Fold; alike. -/
namespace Go.Proofs.YtnjmfedleimlmaaDoor.Pw
open Go Go.RowKit

def applyV (op x y : Int) : Option Int := if op < 5 then some (oneV op x) else twoV op x y
theorem apply_pure (op x y : Int) (ho : 3 ≤ op ∧ op ≤ 17) (h0 : 0 ≤ x) (h1 : x ≤ 4294967295) (k0 : 0 ≤ y) (k1 : y ≤ 4294967295) : PureF gT 49 [.int .i64 op, .int .u32 x, .int .u32 y] (optP (applyV op x y)) :=
  PureF.of_calls (entersT Tryd.func49 rfl (by kernel_rfl)) [.int .i64 op, .int .u32 x, .int .u32 y] (optV (applyV op x y)) (fun w I β vals h => by obtain ⟨v, u, t, rfl, h1, h2, h3⟩ := isL3 h; simp only [PV.Is] at h1 h2 h3; rw [h1, h2, h3]) (optP_is _) (fun w => apply_any op x y w ho h0 h1 k0 k1)
/-- the document's folding -/
def foldD : T → T
  | .leaf o n => .leaf o n
  | .one o n a => if (foldD a).op = 1 then .leaf 1 (oneV o (foldD a).num) else .one o n (foldD a)
  | .two o n a b => if (foldD a).op = 1 ∧ (foldD b).op = 1 then (match twoV o (foldD a).num (foldD b).num with
    | some v => .leaf 1 v
    | none => .two o n (foldD a) (foldD b)) else .two o n (foldD a) (foldD b)
theorem foldT_leaf {o n : Int} (h : (T.leaf o n).shaped = true) : foldT (.leaf o n) = .leaf o n := by
  rcases shaped_leaf h with rfl | rfl
  · rw [foldT]; rfl
  · rw [foldT]; rfl
theorem foldD_eq : ∀ {t : T}, t.shaped = true → foldD t = foldT t
  | .leaf o n, h => by rw [foldT_leaf h]; rfl
  | .one o n a, h => by
    obtain ⟨ho, ha⟩ := shaped_one h
    have ih := foldD_eq ha
    have hs := foldT_shaped ha
    rw [foldT, foldD, ih]
    by_cases k : (foldT a).op = 1
    · obtain ⟨m, hm⟩ := op1 hs k
      rw [if_pos k, hm]
      have e : (decide (o ≠ 2) && decide ((T.leaf 1 m).op = 1)) = true := by simp [T.op]; omega
      rw [e]
      unfold foldN
      rw [if_pos rfl]
      simp only [T.evalT, leafV, if_pos, Option.map_some]
      rfl
    · rw [if_neg k, show (decide (o ≠ 2) && decide ((foldT a).op = 1)) = false by simp [k]]
      rfl
  | .two o n a b, h => by
    obtain ⟨ho, ha, hb⟩ := shaped_two h
    have ih := foldD_eq ha
    have ih2 := foldD_eq hb
    have hs := foldT_shaped ha
    have hs2 := foldT_shaped hb
    rw [foldT, foldD, ih, ih2]
    by_cases k : (foldT a).op = 1 ∧ (foldT b).op = 1
    · obtain ⟨m, hm⟩ := op1 hs k.1
      obtain ⟨m2, hm2⟩ := op1 hs2 k.2
      rw [if_pos k, hm, hm2]
      have e : ((decide (o ≠ 2) && decide ((T.leaf 1 m).op = 1)) && decide ((T.leaf 1 m2).op = 1)) = true := by simp [T.op]; omega
      rw [e]
      have ev : (T.two o n (.leaf 1 m) (.leaf 1 m2)).evalT [] = twoV o m m2 := by
        show (((T.leaf 1 m).evalT []).bind fun x => ((T.leaf 1 m2).evalT []).bind fun y => twoV o x y) = _
        rw [num_eval, num_eval]; rfl
      unfold foldN
      rw [if_pos rfl, ev]
      show (match twoV o m m2 with
        | some v => T.leaf 1 v
        | none => _) = _
      cases twoV o m m2 <;> rfl
    · rw [if_neg k, show ((decide (o ≠ 2) && decide ((foldT a).op = 1)) && decide ((foldT b).op = 1)) = false by
        cases h1 : decide ((foldT a).op = 1) <;> cases h2 : decide ((foldT b).op = 1) <;> simp_all]
      rfl
theorem foldD_idem : ∀ {t : T}, t.shaped = true → foldD (foldD t) = foldD t
  | .leaf o n, _ => rfl
  | .one o n a, h => by
    obtain ⟨ho, ha⟩ := shaped_one h
    have ih := foldD_idem ha
    by_cases k : (foldD a).op = 1
    · rw [foldD, if_pos k]; rfl
    · rw [show foldD (.one o n a) = .one o n (foldD a) by rw [foldD, if_neg k], foldD, ih, if_neg k]
  | .two o n a b, h => by
    obtain ⟨ho, ha, hb⟩ := shaped_two h
    have ih := foldD_idem ha
    have ih2 := foldD_idem hb
    have key : ∀ c, foldD (.two o n a b) = c → (c = .two o n (foldD a) (foldD b)) → foldD c = c := fun c hc e => by
      rw [e, foldD, ih, ih2]
      rw [e, foldD] at hc
      exact hc
    by_cases k : (foldD a).op = 1 ∧ (foldD b).op = 1
    · cases hv : twoV o (foldD a).num (foldD b).num with
      | some v => rw [show foldD (.two o n a b) = .leaf 1 v by rw [foldD, if_pos k, hv]]; rfl
      | none => exact key _ rfl (by rw [foldD, if_pos k, hv])
    · exact key _ rfl (by rw [foldD, if_neg k])
theorem foldT_idem {t : T} (h : t.shaped = true) : foldT (foldT t) = foldT t := by
  rw [← foldD_eq h, ← foldD_eq (by rw [foldD_eq h]; exact foldT_shaped h), foldD_idem h]

set_option maxRecDepth 10000 in
theorem alike_pure (L : List (Int × Int × Int)) (hL : L.length ≤ 1000000) : PureF gT 23 [.sl 3 (L.map nP), .sl 3 (L.map nP)] .tt := by
  refine Spec.enter gTok P23 100 Tryd.func23 rfl (by kernel_rfl) ?_
  refine fun _ => fun _ => And.intro (fun h => absurd rfl h) (fun _ => ?_)
  refine fun _ => ?_
  refine SW.loopS gTok P23 (by kernel_rfl) (fun i : Nat => [(13, .int .i64 i)]) (fun i => L.length - i) 0 60 ?_ fun i => ?_
  · repeat' first | exact trivial | exact rfl | exact Iff.rfl | refine And.intro ?_ ?_
  refine And.intro (fun hi => ?_) (fun hi => ?_)
  · have hi' : i < L.length := by rw [List.length_map] at hi; omega
    refine ⟨_, L, nP, rfl, show (0 : Int) ≤ (i : Int) by omega, show (i : Int) < (L.length : Int) by omega, fun x hx => ?_⟩
    refine ⟨_, L, nP, rfl, show (0 : Int) ≤ (i : Int) by omega, show (i : Int) < (L.length : Int) by omega, fun y hy => ?_⟩
    obtain rfl : x = y := Option.some.inj (hx.symm.trans hy)
    refine And.intro (fun h => absurd ⟨rfl, rfl, rfl, trivial⟩ h) (fun _ => ?_)
    refine .inl ⟨inR_i64 (by omega), ⟨i + 1, by omega, ?_⟩⟩
    repeat' first | exact trivial | exact rfl | exact Iff.rfl | refine And.intro ?_ ?_
  · exact retE trivial

theorem wf_num {t : T} (h : t.Wf) : 0 ≤ t.num ∧ t.num ≤ 4294967295 := by
  cases t with
  | leaf => exact h
  | one => exact h.1
  | two => exact h.1
theorem head_nodes (t : T) : t.nodes[(0 : Nat)]? = some (t.op, t.num, (t.kids : Int)) := by cases t <;> rfl

set_option maxRecDepth 10000 in
theorem foldr_pure (L : List (Int × Int × Int)) (hL : L.length ≤ 1000000) : ∀ (t : T) (i : Nat), t.Wf → t.shaped = true → (∃ pre post, L = pre ++ t.nodes ++ post ∧ pre.length = i) →
    PureF gT 22 [.sl 3 (L.map nP), .int .i64 i] (.tup [.sl 3 ((foldD t).nodes.map nP), .int .i64 ((i + t.size : Nat) : Int)])
  | .leaf o n, i, hwf, hs, ⟨pre, post, he, hi'⟩ => by
    have hx : L[i]? = some (o, n, 0) := by rw [he, List.append_assoc, ← hi', List.getElem?_append_right (Nat.le_refl _)]; simp [T.nodes]
    have hlt : i < L.length := (List.getElem?_eq_some_iff.1 hx).1
    have ho := shaped_leaf' hs
    refine Spec.enter gTok P22 100 Tryd.func22 rfl (by kernel_rfl) ?_
    refine ⟨_, L, nP, rfl, show (0 : Int) ≤ (i : Int) by omega, show (i : Int) < (L.length : Int) by omega, fun x hx' => ?_⟩
    obtain rfl : (o, n, (0 : Int)) = x := Option.some.inj (hx.symm.trans hx')
    refine And.intro (fun _ => ?_) (fun h => absurd (show o < 3 by omega) h)
    refine .inl ⟨inR_i64 (by omega), ?_⟩
    refine retE ?_
    exact ⟨rfl, rfl, trivial⟩
  | .one o n a, i, hwf, hs, ⟨pre, post, he, hi'⟩ => by
    have ho := (shaped_one hs).1
    have hx : L[i]? = some (o, n, 1) := by rw [he, List.append_assoc, ← hi', List.getElem?_append_right (Nat.le_refl _)]; simp [T.nodes]
    have hlt : i < L.length := (List.getElem?_eq_some_iff.1 hx).1
    have hlen : L.length = pre.length + (1 + a.size) + post.length := by rw [he, List.length_append, List.length_append, T.nodes_length]; rfl
    have iha := foldr_pure L hL a (i + 1) hwf.2 (shaped_one hs).2 ⟨pre ++ [(o, n, 1)], post, by rw [he]; simp [T.nodes], by simp [hi']⟩
    have hsz : (foldD a).size ≤ a.size := by rw [foldD_eq (shaped_one hs).2]; exact foldT_size
    have el : ((foldD a).nodes.map nP).length = (foldD a).size := by rw [List.length_map, T.nodes_length]
    have hp : 0 < (foldD a).nodes.length := by have := T.size_pos (foldD a); rw [T.nodes_length]; omega
    have hwa : (foldD a).Wf := by rw [foldD_eq (shaped_one hs).2]; exact foldT_wf hwf.2
    have esz : (T.one o n a).size = 1 + a.size := rfl
    refine Spec.enter gTok P22 100 Tryd.func22 rfl (by kernel_rfl) ?_
    refine ⟨_, L, nP, rfl, show (0 : Int) ≤ (i : Int) by omega, show (i : Int) < (L.length : Int) by omega, fun x hx' => ?_⟩
    obtain rfl : (o, n, (1 : Int)) = x := Option.some.inj (hx.symm.trans hx')
    refine And.intro (fun h => absurd (show o < 3 from h) (by omega)) (fun _ => ?_)
    refine .inl ⟨inR_i64 (by omega), ?_⟩
    refine ⟨[], nofun, iha.use ⟨rfl, rfl, trivial⟩ rfl rfl ?_⟩
    refine And.intro (fun _ => ?_) (fun h => absurd (show o < 5 by omega) h)
    refine ⟨_, (foldD a).nodes, nP, rfl, Int.le_refl 0, show (0 : Int) < ((foldD a).nodes.length : Int) by omega, fun y hy => ?_⟩
    obtain rfl : ((foldD a).op, (foldD a).num, ((foldD a).kids : Int)) = y := Option.some.inj ((head_nodes _).symm.trans hy)
    refine And.intro (fun h1 => ?_) (fun h1 => ?_)
    · have h1' : (foldD a).op = 1 := h1
      refine ⟨_, (foldD a).nodes, nP, rfl, Int.le_refl 0, show (0 : Int) < ((foldD a).nodes.length : Int) by omega, fun y hy => ?_⟩
      obtain rfl : ((foldD a).op, (foldD a).num, ((foldD a).kids : Int)) = y := Option.some.inj ((head_nodes _).symm.trans hy)
      have hb := wf_num hwa
      refine ⟨[], nofun, (apply_pure o (foldD a).num 0 (by omega) hb.1 hb.2 (by omega) (by omega)).use ⟨rfl, rfl, rfl, trivial⟩ rfl rfl ?_⟩
      rw [show applyV o (foldD a).num 0 = some (oneV o (foldD a).num) from if_pos (by omega)]
      refine retE ?_
      rw [show foldD (.one o n a) = .leaf 1 (oneV o (foldD a).num) by rw [foldD, if_pos h1']]
      exact ⟨rfl, show (((i + 1 + a.size : Nat) : Int)) = ((i + (T.one o n a).size : Nat) : Int) by omega, trivial⟩
    · have h1' : ¬ (foldD a).op = 1 := h1
      refine ⟨show 1 + ((foldD a).nodes.map nP).length ≤ maxLen by rw [el]; unfold maxLen; omega, show (1 + ((foldD a).nodes.map nP).length) * 24 ≤ 140737488355328 by rw [el]; omega, ?_⟩
      refine retE ?_
      rw [show foldD (.one o n a) = .one o n (foldD a) by rw [foldD, if_neg h1']]
      exact ⟨rfl, show (((i + 1 + a.size : Nat) : Int)) = ((i + (T.one o n a).size : Nat) : Int) by omega, trivial⟩
  | .two o n a b, i, hwf, hs, ⟨pre, post, he, hi'⟩ => by
    obtain ⟨ho, ha, hb⟩ := shaped_two hs
    have hx : L[i]? = some (o, n, 2) := by rw [he, List.append_assoc, ← hi', List.getElem?_append_right (Nat.le_refl _)]; simp [T.nodes]
    have hlt : i < L.length := (List.getElem?_eq_some_iff.1 hx).1
    have hlen : L.length = pre.length + (1 + a.size + b.size) + post.length := by rw [he, List.length_append, List.length_append, T.nodes_length]; rfl
    have iha := foldr_pure L hL a (i + 1) hwf.2.1 ha ⟨pre ++ [(o, n, 2)], b.nodes ++ post, by rw [he]; simp [T.nodes], by simp [hi']⟩
    have ihb := foldr_pure L hL b (i + 1 + a.size) hwf.2.2 hb ⟨pre ++ [(o, n, 2)] ++ a.nodes, post, by rw [he]; simp [T.nodes], by simp [hi', T.nodes_length]; omega⟩
    have hsa : (foldD a).size ≤ a.size := by rw [foldD_eq ha]; exact foldT_size
    have hsb : (foldD b).size ≤ b.size := by rw [foldD_eq hb]; exact foldT_size
    have ela : ((foldD a).nodes.map nP).length = (foldD a).size := by rw [List.length_map, T.nodes_length]
    have elb : ((foldD b).nodes.map nP).length = (foldD b).size := by rw [List.length_map, T.nodes_length]
    have elc : (nP (o, n, 2) :: (foldD a).nodes.map nP).length = 1 + (foldD a).size := by rw [List.length_cons, ela]; omega
    have hpa : 0 < (foldD a).nodes.length := by have := T.size_pos (foldD a); rw [T.nodes_length]; omega
    have hpb : 0 < (foldD b).nodes.length := by have := T.size_pos (foldD b); rw [T.nodes_length]; omega
    have hba := wf_num (show (foldD a).Wf by rw [foldD_eq ha]; exact foldT_wf hwf.2.1)
    have hbb := wf_num (show (foldD b).Wf by rw [foldD_eq hb]; exact foldT_wf hwf.2.2)
    have esz : (T.two o n a b).size = 1 + a.size + b.size := rfl
    refine Spec.enter gTok P22 100 Tryd.func22 rfl (by kernel_rfl) ?_
    refine ⟨_, L, nP, rfl, show (0 : Int) ≤ (i : Int) by omega, show (i : Int) < (L.length : Int) by omega, fun x hx' => ?_⟩
    obtain rfl : (o, n, (2 : Int)) = x := Option.some.inj (hx.symm.trans hx')
    refine And.intro (fun h => absurd (show o < 3 from h) (by omega)) (fun _ => ?_)
    refine .inl ⟨inR_i64 (by omega), ?_⟩
    refine ⟨[], nofun, iha.use ⟨rfl, rfl, trivial⟩ rfl rfl ?_⟩
    refine And.intro (fun h => absurd (show o < 5 from h) (by omega)) (fun _ => ?_)
    refine ⟨[], nofun, ihb.use ⟨rfl, rfl, trivial⟩ rfl rfl ?_⟩
    have last : foldD (.two o n a b) = .two o n (foldD a) (foldD b) → (∃ r', PLe (.tup [.sl 3 ((nP (o, n, 2) :: (foldD a).nodes.map nP) ++ (foldD b).nodes.map nP), .int .i64 ((i + 1 + a.size + b.size : Nat) : Int)]) r' ∧ r' = .tup [.sl 3 ((foldD (.two o n a b)).nodes.map nP), .int .i64 ((i + (T.two o n a b).size : Nat) : Int)]) := fun e => by
      refine retE ?_
      rw [e]
      exact ⟨show _ = _ by simp [T.nodes, T.kids], show (((i + 1 + a.size + b.size : Nat) : Int)) = ((i + (T.two o n a b).size : Nat) : Int) by omega, trivial⟩
    have l1 : 1 + ((foldD a).nodes.map nP).length ≤ maxLen := by rw [ela]; unfold maxLen; omega
    have l2 : (1 + ((foldD a).nodes.map nP).length) * 24 ≤ 140737488355328 := by rw [ela]; omega
    have l3 : (nP (o, n, 2) :: (foldD a).nodes.map nP).length + ((foldD b).nodes.map nP).length ≤ maxLen := by rw [elb, elc]; unfold maxLen; omega
    have l4 : ((nP (o, n, 2) :: (foldD a).nodes.map nP).length + ((foldD b).nodes.map nP).length) * 24 ≤ 140737488355328 := by rw [elb, elc]; omega
    refine ⟨_, (foldD a).nodes, nP, rfl, Int.le_refl 0, show (0 : Int) < ((foldD a).nodes.length : Int) by omega, fun y hy => ?_⟩
    obtain rfl : ((foldD a).op, (foldD a).num, ((foldD a).kids : Int)) = y := Option.some.inj ((head_nodes _).symm.trans hy)
    refine And.intro (fun h1 => ?_) (fun h1 => ?_)
    · have h1' : (foldD a).op = 1 := h1
      refine ⟨_, (foldD b).nodes, nP, rfl, Int.le_refl 0, show (0 : Int) < ((foldD b).nodes.length : Int) by omega, fun y hy => ?_⟩
      obtain rfl : ((foldD b).op, (foldD b).num, ((foldD b).kids : Int)) = y := Option.some.inj ((head_nodes _).symm.trans hy)
      refine And.intro (fun h2 => ?_) (fun h2 => ?_)
      · have h2' : (foldD b).op = 1 := h2
        refine ⟨_, (foldD a).nodes, nP, rfl, Int.le_refl 0, show (0 : Int) < ((foldD a).nodes.length : Int) by omega, fun y hy => ?_⟩
        obtain rfl : ((foldD a).op, (foldD a).num, ((foldD a).kids : Int)) = y := Option.some.inj ((head_nodes _).symm.trans hy)
        refine ⟨_, (foldD b).nodes, nP, rfl, Int.le_refl 0, show (0 : Int) < ((foldD b).nodes.length : Int) by omega, fun y hy => ?_⟩
        obtain rfl : ((foldD b).op, (foldD b).num, ((foldD b).kids : Int)) = y := Option.some.inj ((head_nodes _).symm.trans hy)
        refine ⟨[], nofun, (apply_pure o (foldD a).num (foldD b).num (by omega) hba.1 hba.2 hbb.1 hbb.2).use ⟨rfl, rfl, rfl, trivial⟩ rfl rfl ?_⟩
        rw [show applyV o (foldD a).num (foldD b).num = twoV o (foldD a).num (foldD b).num from if_neg (by omega)]
        have hD : foldD (.two o n a b) = (match twoV o (foldD a).num (foldD b).num with
          | some v => .leaf 1 v
          | none => .two o n (foldD a) (foldD b)) := by rw [foldD, if_pos ⟨h1', h2'⟩]
        generalize twoV o (foldD a).num (foldD b).num = q at hD ⊢
        cases q with
        | none =>
          refine And.intro (fun h => absurd h nofun) (fun _ => ?_)
          exact ⟨l1, l2, l3, l4, last hD⟩
        | some v =>
          refine And.intro (fun _ => ?_) (fun h => absurd rfl h)
          refine retE ?_
          rw [hD]
          exact ⟨rfl, show (((i + 1 + a.size + b.size : Nat) : Int)) = ((i + (T.two o n a b).size : Nat) : Int) by omega, trivial⟩
      · have h2' : ¬ (foldD b).op = 1 := h2
        exact ⟨l1, l2, l3, l4, last (by rw [foldD, if_neg (fun h => h2' h.2)])⟩
    · have h1' : ¬ (foldD a).op = 1 := h1
      exact ⟨l1, l2, l3, l4, last (by rw [foldD, if_neg (fun h => h1' h.1)])⟩

set_option maxRecDepth 10000 in
theorem TermFoldsTo_pure (la : List (Int × Int)) (ha : la.length ≤ maxLen) (wa : (ofX la).Wf) :
    PureF gT 7 [.sl 2 (la.map nodeP)] .tt := by
  have hsz := ofX_size la
  refine Spec.enter gTok P7 100 Tryd.func7 rfl (by kernel_rfl) ?_
  refine ⟨[], nofun, anchor_pure.use trivial rfl rfl ?_⟩
  refine ⟨[], nofun, (of_pure la ha).use ⟨rfl, trivial⟩ rfl rfl ?_⟩
  refine And.intro (fun h1 => retE trivial) (fun h1 => ?_)
  have ta := ofOk_wf h1
  have hs1 := foldT_size (t := ofX la)
  have hl : (foldT (ofX la)).nodes.length ≤ 1000000 := by rw [T.nodes_length]; omega
  refine ⟨[], nofun, (flat_pure 3000 (ofX la) (by omega) (by omega)).use ⟨⟨rfl, rfl, rfl, trivial⟩, rfl, trivial⟩ rfl rfl ?_⟩
  refine ⟨[], nofun, (foldr_pure (ofX la).nodes (by rw [T.nodes_length]; omega) (ofX la) 0 wa ta ⟨[], [], by simp, rfl⟩).use ⟨rfl, rfl, trivial⟩ rfl rfl ?_⟩
  rw [foldD_eq ta]
  refine ⟨[], nofun, (fold_pure _ wa).use ⟨⟨rfl, rfl, rfl, trivial⟩, trivial⟩ rfl rfl ?_⟩
  refine ⟨[], nofun, (flat_pure 3000 (foldT (ofX la)) (by omega) (by omega)).use ⟨⟨rfl, rfl, rfl, trivial⟩, rfl, trivial⟩ rfl rfl ?_⟩
  refine ⟨[], nofun, (alike_pure _ hl).use ⟨rfl, rfl, trivial⟩ rfl rfl ?_⟩
  refine ⟨[], nofun, (fold_pure _ wa).use ⟨⟨rfl, rfl, rfl, trivial⟩, trivial⟩ rfl rfl ?_⟩
  refine ⟨[], nofun, (fold_pure _ (foldT_wf wa)).use ⟨⟨rfl, rfl, rfl, trivial⟩, trivial⟩ rfl rfl ?_⟩
  rw [foldT_idem ta]
  refine ⟨[], nofun, (flat_pure 3000 (foldT (ofX la)) (by omega) (by omega)).use ⟨⟨rfl, rfl, rfl, trivial⟩, rfl, trivial⟩ rfl rfl ?_⟩
  refine ⟨[], nofun, (alike_pure _ hl).use ⟨rfl, rfl, trivial⟩ rfl rfl ?_⟩
  exact retE trivial
theorem TermFoldsTo_pure' (x0 : PV) (s0 : SNodes x0) : PureF gT 7 [x0] .tt := by
  obtain ⟨la, ⟨ha, _⟩, wa, rfl⟩ := s0
  exact TermFoldsTo_pure la ha (wf_of wa)

end Go.Proofs.YtnjmfedleimlmaaDoor.Pw

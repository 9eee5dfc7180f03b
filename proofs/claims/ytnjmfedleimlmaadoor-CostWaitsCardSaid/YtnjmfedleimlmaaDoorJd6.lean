/- What the laws of this claim are proved with, joined (join.py) of 9 texts: no condition. -/
import Derived.Test.YtnjmfedleimlmaaDoorJdTermF
import Derived.Test.YtnjmfedleimlmaaDoorJdTermO
import Derived.Test.YtnjmfedleimlmaaDoorJdTermP
import Derived.Test.YtnjmfedleimlmaaDoorJd4
import Derived.Test.YtnjmfedleimlmaaDoorJd5
import Derived.Test.YtnjmfedleimlmaaDoorJdTermM
import Derived.Test.YtnjmfedleimlmaaDoorJdTermH
import Derived.Test.YtnjmfedleimlmaaDoorJdTermL
set_option linter.unusedVariables false

/- Plain lemmas on terms that nodes make. -/
namespace Go.Proofs.YtnjmfedleimlmaaDoor.Pw
open Go Go.RowKit

theorem builtT_wf : ∀ (k : Nat) (l : List (Int × Int)) (i : Nat), (∀ y ∈ l, 0 ≤ y.2 ∧ y.2 ≤ 4294967295) → (builtT k l i).1.Wf
  | 0, l, i, _ => by simp only [builtT, T.Wf]; omega
  | k + 1, l, i, h => by
    unfold builtT
    cases hx : l[i]? with
    | none => simp only [T.Wf]; omega
    | some x =>
      have h1 := builtT_wf k l (i + 1) h
      have h2 := builtT_wf k l (builtT k l (i + 1)).2 h
      dsimp only
      split
      · exact ⟨by omega, h1, h2⟩
      · split
        · exact ⟨by omega, h1⟩
        · exact h x (List.mem_of_getElem? hx)
theorem ofX_wf (l : List (Int × Int)) (h : ∀ y ∈ l, 0 ≤ y.2 ∧ y.2 ≤ 4294967295) : (ofX l).Wf := by
  unfold ofX
  split
  · exact builtT_wf 41 l 0 h
  · simp only [T.Wf]; omega
theorem ofOk_shaped {l : List (Int × Int)} (h : ofOk l = true) : l.length ≤ 60 ∧ (ofX l).shaped = true := by
  unfold ofOk at h
  simp only [Bool.and_eq_true, decide_eq_true_eq] at h
  refine ⟨h.1, ?_⟩
  have := h.2
  unfold ofB at this
  rw [T.shaped_nodes] at this
  unfold ofX; rw [if_pos h.1]; exact this
theorem ofOk_not {l : List (Int × Int)} (h : ofOk l = false) (hl : l.length ≤ 60) : (ofX l).shaped = false := by
  unfold ofOk at h
  rw [decide_eq_true hl, Bool.true_and] at h
  unfold ofB at h
  rw [T.shaped_nodes] at h
  unfold ofX; rw [if_pos hl]; exact h
theorem shaped_one {o n : Int} {a : T} (h : (T.one o n a).shaped = true) : (3 ≤ o ∧ o ≤ 4) ∧ a.shaped = true := by
  simp only [T.shaped, goodN, Bool.and_eq_true, decide_eq_true_eq] at h
  refine ⟨?_, h.2⟩
  have h1 := h.1.2.2.1
  unfold needsN at h1
  (repeat' split at h1) <;> omega
theorem shaped_two {o n : Int} {a b : T} (h : (T.two o n a b).shaped = true) : (5 ≤ o ∧ o ≤ 17) ∧ a.shaped = true ∧ b.shaped = true := by
  simp only [T.shaped, goodN, Bool.and_eq_true, decide_eq_true_eq] at h
  refine ⟨?_, h.2⟩
  have h1 := h.1.2.2.1
  have h2 := h.1.2.1
  unfold needsN at h1
  (repeat' split at h1) <;> omega

theorem shaped_leaf' {o n : Int} (h : (T.leaf o n).shaped = true) : o = 1 ∨ o = 2 := by
  simp only [T.shaped, goodN, decide_eq_true_eq] at h
  have h1 := h.2.2.1
  unfold needsN at h1
  (repeat' split at h1) <;> omega

end Go.Proofs.YtnjmfedleimlmaaDoor.Pw

/- Trial. -/
namespace Go.Proofs.YtnjmfedleimlmaaDoor.Pw
open Go Go.RowKit

def needsT (op : Int) : Int := if op ≤ 2 then 0 else if op ≤ 4 then 1 else 2
theorem needs_pure (op : Int) : PureF gx 74 [.int .i64 op] (.int .i64 (needsT op)) := by
  refine Spec.enter gxok [] 100 Tryd.func74 rfl (by kernel_rfl) ?_
  repeat' refine And.intro (fun _ => ?_) (fun _ => ?_)
  all_goals (refine retE ?_; unfold needsT; show _ = _; (repeat' split) <;> omega)

/-- a term's list -/
def kidsP : T → List PV
  | .leaf .. => []
  | .one _ _ a => [.agg [.int .i64 a.op, .int .u32 a.num, .sl 3 (kidsP a)]]
  | .two _ _ a b => [.agg [.int .i64 a.op, .int .u32 a.num, .sl 3 (kidsP a)], .agg [.int .i64 b.op, .int .u32 b.num, .sl 3 (kidsP b)]]
def tpv (t : T) : PV := .agg [.int .i64 t.op, .int .u32 t.num, .sl 3 (kidsP t)]
def kidsL : T → List T
  | .leaf .. => []
  | .one _ _ a => [a]
  | .two _ _ a b => [a, b]
theorem kidsP_eq (t : T) : kidsP t = (kidsL t).map tpv := by cases t <;> rfl
def wordsP (ws : List Int) : List PV := ws.map (PV.int .u32)

set_option maxRecDepth 10000 in
theorem leaf_pure (t : T) (ws : List Int) (hn : 0 ≤ t.num ∧ t.num ≤ 4294967295) : PureF gx 43 [tpv t, .sl 1 (wordsP ws)] (.int .u32 (leafV t.op t.num ws)) := by
  refine Spec.enter gxok [] 100 Tryd.func43 rfl (by kernel_rfl) ?_
  refine And.intro (fun h1 => ?_) (fun h1 => ?_)
  · refine retE ?_
    show _ = _
    unfold leafV
    rw [if_pos h1]
  · refine .inl ⟨inR_i64 (by omega), fun hm => And.intro (fun h2 => ?_) (fun h2 => ?_)⟩
    · refine ⟨_, ws, PV.int .u32, rfl, hn.1, by rw [wordsP, List.length_map] at h2; exact h2, fun x hx => retE ?_⟩
      show _ = _
      unfold leafV
      rw [if_neg h1, hx]; rfl
    · refine retE ?_
      show _ = _
      rw [wordsP, List.length_map] at h2
      unfold leafV
      rw [if_neg h1, List.getElem?_eq_none (by omega)]; rfl

end Go.Proofs.YtnjmfedleimlmaaDoor.Pw

/- Chapter 11 over values: what comes in, what 'of' makes, values of terms. -/
namespace Go.Proofs.YtnjmfedleimlmaaDoor.Pw
open Go Go.RowKit

theorem entersT {f : FuncId} {fn : Func} {c : Code} (hf : Tryd.prog.funcs[f]? = some fn) (hb : fn.body = some c) (hn : (fn.name == "runtime.NumGoroutine") = false) : Ev.Enters gT.cx.P f := Ev.enters_of hf hb hn

theorem isLn {w : World} {I : Nat → Prop} {β : Places} : IsL w I [] β [] := by simp only [IsL]
theorem isLc {w : World} {I : Nat → Prop} {β : Places} {x : PV} {v : Value} {xs : List PV} {vs : List Value} (h : x.Is w I β v) (h' : IsL w I xs β vs) : IsL w I (x :: xs) β (v :: vs) := by simp only [IsL]; exact ⟨h, h'⟩
theorem is_bool {w : World} {I : Nat → Prop} {β : Places} (b : Bool) : (PV.bool (b = true)).Is w I β (.bool b) := by simp only [PV.Is]; rw [pb_dec]; simp
theorem is_int {w : World} {I : Nat → Prop} {β : Places} (k : IntKind) (n : Int) : (PV.int k n).Is w I β (.int k n) := by simp only [PV.Is]
theorem is_tup {w : World} {I : Nat → Prop} {β : Places} {xs : List PV} {vs : Array Value} (h : IsL w I xs β vs.toList) : (PV.tup xs).Is w I β (.tuple vs) := by simp only [PV.Is]; exact ⟨vs, rfl, h⟩
theorem is_agg {w : World} {I : Nat → Prop} {β : Places} {xs : List PV} {vs : Array Value} (h : IsL w I xs β vs.toList) : (PV.agg xs).Is w I β (.agg vs) := by simp only [PV.Is]; exact ⟨vs, rfl, h⟩

/-! ### scalars -/
theorem isL1 {w : World} {I : Nat → Prop} {β : Places} {x : PV} {vals : List Value} (h : IsL w I [x] β vals) : ∃ v, vals = [v] ∧ x.Is w I β v := by
  match vals, h with
  | [v], h => exact ⟨v, rfl, by simpa only [IsL, and_true] using h⟩
theorem isL2 {w : World} {I : Nat → Prop} {β : Places} {x y : PV} {vals : List Value} (h : IsL w I [x, y] β vals) : ∃ v u, vals = [v, u] ∧ x.Is w I β v ∧ y.Is w I β u := by
  match vals, h with
  | [v, u], h => exact ⟨v, u, rfl, by simpa only [IsL, and_true] using h⟩
theorem isL3 {w : World} {I : Nat → Prop} {β : Places} {x y z : PV} {vals : List Value} (h : IsL w I [x, y, z] β vals) : ∃ v u t, vals = [v, u, t] ∧ x.Is w I β v ∧ y.Is w I β u ∧ z.Is w I β t := by
  match vals, h with
  | [v, u, t], h => exact ⟨v, u, t, rfl, by simpa only [IsL, and_true] using h⟩
theorem one_pure (op x : Int) (h0 : 0 ≤ x) (h1 : x ≤ 4294967295) : PureF gT 45 [.int .i64 op, .int .u32 x] (.int .u32 (oneV op x)) :=
  PureF.of_same (entersT Tryd.func45 rfl (by kernel_rfl)) [.int .i64 op, .int .u32 x] _ (fun w I β vals h => by obtain ⟨v, u, rfl, h1, h2⟩ := isL2 h; simp only [PV.Is] at h1 h2; rw [h1, h2]) (fun w I β => by simp only [PV.Is]) (fun w => tone_any op x w h0 h1)
def optP (o : Option Int) : PV := .tup [.int .u32 (o.getD 0), .bool (o.isSome = true)]
theorem optP_is (o : Option Int) (w : World) (I : Nat → Prop) (β : Places) : (optP o).Is w I β (optV o) := by
  unfold optP optV
  exact is_tup (isLc (is_int ..) (isLc (is_bool _) isLn))
theorem two_pure (op x y : Int) (h0 : 0 ≤ x) (h1 : x ≤ 4294967295) (k0 : 0 ≤ y) (k1 : y ≤ 4294967295) : PureF gT 46 [.int .i64 op, .int .u32 x, .int .u32 y] (optP (twoV op x y)) :=
  PureF.of_same (entersT Tryd.func46 rfl (by kernel_rfl)) [.int .i64 op, .int .u32 x, .int .u32 y] (optV (twoV op x y)) (fun w I β vals h => by obtain ⟨v, u, t, rfl, h1, h2, h3⟩ := isL3 h; simp only [PV.Is] at h1 h2 h3; rw [h1, h2, h3]) (optP_is _) (fun w => two_any op x y w h0 h1 k0 k1)
theorem truth_pure (b : Prop) : PureF gT 44 [.bool b] (.int .u32 (if pb b then 1 else 0)) :=
  PureF.of_same (entersT Tryd.func44 rfl (by kernel_rfl)) [.bool (pb b)] _ (fun w I β vals h => by obtain ⟨v, rfl, h1⟩ := isL1 h; simp only [PV.Is] at h1; rw [h1]) (fun w I β => by simp only [PV.Is]) (fun w => ttruth_any _ w)
theorem anchor_pure : PureF gT 14 [] .tt :=
  PureF.of_calls (entersT Tryd.func14 rfl (by kernel_rfl)) [] (.bool true) (fun w I β vals h => by cases vals with
    | nil => rfl
    | cons => simp only [IsL] at h) (fun w I β => by simp only [PV.Is]) (fun w => anchor11_calls w)

/-! ### nodes, terms -/
def nodeP (y : Int × Int) : PV := .agg [.int .i64 y.1, .int .u32 y.2]
theorem isS_is {w : World} {I : Nat → Prop} {β : Places} : ∀ {t : T} {s : Value} {bl : List Nat}, t.IsS w s bl → (∀ b ∈ bl, I b) → (PV.sl 3 (kidsP t)).Is w I β s
  | .leaf .., s, bl, h, _ => by
    obtain ⟨rfl, _⟩ := h
    simp only [kidsP, PV.Is]
    exact ⟨none, 0, rfl, Nat.le_refl _, by simp, nofun, fun h => absurd rfl h⟩
  | .one _ _ a, s, bl, h, hI => by
    obtain ⟨g, cap, cur, fr, sa, bla, rfl, h2, h3, h4, h5, h6, h7, rfl⟩ := h
    have ia := isS_is (β := no) (I := I) h7 fun b hb => hI b (by simp [hb])
    have ca : ∀ j, w.cell? ⟨g, j, none⟩ = cur[j]? := fun j => by simp [World.cell?, h3]
    simp only [kidsP, PV.Is, IsEs, IsAt, List.length_cons, List.length_nil]
    exact ⟨_, cap, rfl, h2, by unfold maxLen; omega, fun g' o' e => by
      cases e
      exact ⟨⟨trivial, ⟨_, by rw [ca]; exact h4, rfl, rfl⟩, ⟨_, by rw [ca]; exact h5, rfl, rfl⟩, ⟨sa, by rw [ca]; exact h6, by simpa only [PV.Is] using ia, h7.one⟩, trivial⟩, trivial⟩, fun _ => ⟨g, 0, rfl, hI g (by simp), by omega⟩⟩
  | .two _ _ a b, s, bl, h, hI => by
    obtain ⟨g, cap, cur, fr, sa, bla, sb, blb, rfl, h2, h3, h4, h5, h6, h4', h5', h6', h7, h8, rfl⟩ := h
    have ia := isS_is (β := no) (I := I) h7 fun b hb => hI b (by simp [hb])
    have ib := isS_is (β := no) (I := I) h8 fun b hb => hI b (by simp [hb])
    have ca : ∀ j, w.cell? ⟨g, j, none⟩ = cur[j]? := fun j => by simp [World.cell?, h3]
    simp only [kidsP, PV.Is, IsEs, IsAt, List.length_cons, List.length_nil]
    exact ⟨_, cap, rfl, h2, by unfold maxLen; omega, fun g' o' e => by
      cases e
      exact ⟨⟨trivial, ⟨_, by rw [ca]; exact h4, rfl, rfl⟩, ⟨_, by rw [ca]; exact h5, rfl, rfl⟩, ⟨sa, by rw [ca]; exact h6, by simpa only [PV.Is] using ia, h7.one⟩, trivial⟩, ⟨trivial, ⟨_, by rw [ca]; exact h4', rfl, rfl⟩, ⟨_, by rw [ca]; exact h5', rfl, rfl⟩, ⟨sb, by rw [ca]; exact h6', by simpa only [PV.Is] using ib, h8.one⟩, trivial⟩, trivial⟩, fun _ => ⟨g, 0, rfl, hI g (by simp), by omega⟩⟩
theorem nodesAt_of {w : World} {I : Nat → Prop} {β : Places} {l : List (Int × Int)} {v : Value} (hI : ∀ g, I g → g < w.heap.size) (h : (PV.sl 2 (l.map nodeP)).Is w I β v) : ∃ a cap, v = .slice a l.length cap ∧ NodesAt w a l w.heap.size := by
  simp only [PV.Is] at h
  obtain ⟨a, cap, rfl, _, _, h1, h2⟩ := h
  refine ⟨a, cap, by rw [List.length_map], fun i x hx => ?_⟩
  have hlt : i < l.length := (List.getElem?_eq_some_iff.1 hx).1
  obtain ⟨g, o, rfl, hg, _⟩ := h2 (by rw [List.length_map]; omega)
  have he := (h1 g o rfl).get (i := i) (e := nodeP x) (by simp [hx])
  obtain ⟨_, he⟩ := he
  obtain ⟨v0, c0, i0, _⟩ := he.get (i := 0) rfl
  obtain ⟨v1, c1, i1, _⟩ := he.get (i := 1) rfl
  simp only [PV.Is] at i0 i1
  subst i0; subst i1
  exact ⟨g, o, rfl, hI g hg, hI g hg, c0, c1⟩
theorem of_pure (l : List (Int × Int)) (hl : l.length ≤ maxLen) : PureF gT 15 [.sl 2 (l.map nodeP)] (.tup [tpv (ofX l), .bool (ofOk l = true)]) :=
  PureF.of_new (entersT Tryd.func15 rfl (by kernel_rfl)) (fun I β w vals hM hA => by
    obtain ⟨v, rfl, hv⟩ := isL1 hA
    obtain ⟨a, cap, rfl, hN⟩ := nodesAt_of hM.imm hv
    refine (of_any l a cap w (by unfold maxLen at hl; omega) hN).mono ?_
    rintro e w' ⟨p, c, bl, rfl, hS, hb, hB⟩
    refine ⟨_, rfl, hB, ?_⟩
    have hs := isS_is (β := no) (I := NewI I w w') hS fun b hb' => .inr (hb b hb')
    exact is_tup (isLc (is_agg (isLc (is_int ..) (isLc (is_int ..) (isLc hs isLn)))) (isLc (is_bool _) isLn))) rfl

end Go.Proofs.YtnjmfedleimlmaaDoor.Pw

/- Chapter 11 over values: Eval. -/
namespace Go.Proofs.YtnjmfedleimlmaaDoor.Pw
open Go Go.RowKit

theorem leaf_pureT (t : T) (ws : List Int) (hn : 0 ≤ t.num ∧ t.num ≤ 4294967295) : PureF gT 43 [tpv t, .sl 1 (wordsP ws)] (.int .u32 (leafV t.op t.num ws)) := by
  refine Spec.enter gTok [] 100 Tryd.func43 rfl (by kernel_rfl) ?_
  refine And.intro (fun h1 => ?_) (fun h1 => ?_)
  · refine retE ?_
    show _ = _
    unfold leafV
    rw [if_pos h1]
  · refine .inl ⟨inR_i64 (by omega), fun hm => And.intro (fun h2 => ?_) (fun h2 => ?_)⟩
    · refine ⟨_, ws, PV.int .u32, rfl, hn.1, by rw [wordsP, List.length_map] at h2; exact h2, fun x hx => retE ?_⟩
      show _ = _
      unfold leafV
      rw [if_neg h1, hx]; rfl
    · refine retE ?_
      show _ = _
      rw [wordsP, List.length_map] at h2
      unfold leafV
      rw [if_neg h1, List.getElem?_eq_none (by omega)]; rfl

theorem truth_tt : PureF gT 44 [.tt] (.int .u32 1) :=
  PureF.of_same (entersT Tryd.func44 rfl (by kernel_rfl)) [.bool true] _ (fun w I β vals h => by obtain ⟨v, rfl, h1⟩ := isL1 h; simp only [PV.Is] at h1; rw [h1]) (fun w I β => is_int ..) (fun w => ttruth_any true w)
theorem truth_ff : PureF gT 44 [.ff] (.int .u32 0) :=
  PureF.of_same (entersT Tryd.func44 rfl (by kernel_rfl)) [.bool false] _ (fun w I β vals h => by obtain ⟨v, rfl, h1⟩ := isL1 h; simp only [PV.Is] at h1; rw [h1]) (fun w I β => is_int ..) (fun w => ttruth_any false w)

set_option maxRecDepth 10000 in
theorem eval_pure (ws : List Int) (hw : WordsOk ws) : ∀ t : T, t.Wf → PureF gT 17 [tpv t, .sl 1 (wordsP ws)] (optP (t.evalT ws))
  | .leaf o n, hwf => by
    refine Spec.enter gTok P17 100 Tryd.func17 rfl (by kernel_rfl) ?_
    refine fun _ => And.intro (fun _ => ?_) (fun h => absurd rfl h)
    refine ⟨[], nofun, (leaf_pureT (.leaf o n) ws hwf).use ⟨⟨rfl, rfl, rfl, trivial⟩, rfl, trivial⟩ rfl rfl ?_⟩
    exact retE ⟨rfl, rfl, trivial⟩
  | .one o n a, hwf => by
    have iha := eval_pure ws hw a hwf.2
    refine Spec.enter gTok P17 100 Tryd.func17 rfl (by kernel_rfl) ?_
    refine fun _ => And.intro (fun h => absurd h (by simp [kidsP])) (fun _ => ?_)
    refine ⟨T, [a], tpv, rfl, Int.le_refl 0, Int.zero_lt_one, fun x hx => ?_⟩
    obtain rfl : a = x := by simpa using hx
    refine ⟨[], nofun, iha.use ⟨⟨rfl, rfl, rfl, trivial⟩, rfl, trivial⟩ rfl rfl ?_⟩
    have he : (T.one o n a).evalT ws = (a.evalT ws).map (oneV o) := rfl
    have hb : ∀ v, a.evalT ws = some v → 0 ≤ v ∧ v ≤ 4294967295 := fun v h => T.evalT_bd hw hwf.2 h
    rw [he]
    generalize a.evalT ws = q at hb ⊢
    cases q with
    | none =>
      refine And.intro (fun _ => ?_) (fun h => absurd nofun h)
      refine ⟨[], nofun, truth_ff.use ⟨nofun, trivial⟩ rfl rfl ?_⟩
      refine ⟨[], nofun, (one_pure o 0 (by omega) (by omega)).use ⟨rfl, rfl, trivial⟩ rfl rfl ?_⟩
      refine .inl ⟨inR_u32 (by simp), ?_⟩
      exact retE ⟨Int.zero_mul _, Iff.rfl, trivial⟩
    | some v =>
      obtain ⟨h0, h1⟩ := hb v rfl
      have h2 := oneV_bd (op := o) h0 h1
      refine And.intro (fun h => absurd rfl h) (fun _ => ?_)
      refine fun _ => And.intro (fun _ => ?_) (fun h => absurd rfl h)
      refine ⟨[], nofun, truth_tt.use ⟨rfl, trivial⟩ rfl rfl ?_⟩
      refine ⟨[], nofun, (one_pure o v h0 h1).use ⟨rfl, rfl, trivial⟩ rfl rfl ?_⟩
      refine .inl ⟨inR_u32 (by rw [Int.one_mul]; exact h2), ?_⟩
      exact retE ⟨Int.one_mul _, Iff.rfl, trivial⟩
  | .two o n a b, hwf => by
    have iha := eval_pure ws hw a hwf.2.1
    have ihb := eval_pure ws hw b hwf.2.2
    refine Spec.enter gTok P17 100 Tryd.func17 rfl (by kernel_rfl) ?_
    refine fun _ => And.intro (fun h => absurd h (by simp [kidsP])) (fun _ => ?_)
    refine ⟨T, [a, b], tpv, rfl, Int.le_refl 0, by simp, fun x hx => ?_⟩
    obtain rfl : a = x := by simpa using hx
    refine ⟨[], nofun, iha.use ⟨⟨rfl, rfl, rfl, trivial⟩, rfl, trivial⟩ rfl rfl ?_⟩
    have he : (T.two o n a b).evalT ws = (a.evalT ws).bind fun x => (b.evalT ws).bind fun y => twoV o x y := rfl
    have hba : ∀ v, a.evalT ws = some v → 0 ≤ v ∧ v ≤ 4294967295 := fun v h => T.evalT_bd hw hwf.2.1 h
    have hbb : ∀ v, b.evalT ws = some v → 0 ≤ v ∧ v ≤ 4294967295 := fun v h => T.evalT_bd hw hwf.2.2 h
    rw [he]
    generalize a.evalT ws = q at hba ⊢
    cases q with
    | none =>
      refine And.intro (fun _ => ?_) (fun h => absurd nofun h)
      refine ⟨[], nofun, truth_ff.use ⟨nofun, trivial⟩ rfl rfl ?_⟩
      refine ⟨[], nofun, (one_pure o 0 (by omega) (by omega)).use ⟨rfl, rfl, trivial⟩ rfl rfl ?_⟩
      refine .inl ⟨inR_u32 (by simp), ?_⟩
      exact retE ⟨Int.zero_mul _, Iff.rfl, trivial⟩
    | some v =>
      obtain ⟨h0, h1⟩ := hba v rfl
      refine And.intro (fun h => absurd rfl h) (fun _ => ?_)
      refine fun _ => And.intro (fun h => absurd h (by simp [kidsP])) (fun _ => ?_)
      refine ⟨T, [a, b], tpv, rfl, by decide, by simp, fun x hx => ?_⟩
      obtain rfl : b = x := by simpa using hx
      refine ⟨[], nofun, ihb.use ⟨⟨rfl, rfl, rfl, trivial⟩, rfl, trivial⟩ rfl rfl ?_⟩
      generalize b.evalT ws = q at hbb ⊢
      cases q with
      | none =>
        refine And.intro (fun _ => ?_) (fun h => absurd nofun h)
        exact retE ⟨rfl, nofun, trivial⟩
      | some u =>
        obtain ⟨k0, k1⟩ := hbb u rfl
        refine And.intro (fun h => absurd rfl h) (fun _ => ?_)
        refine ⟨[], nofun, (two_pure o v u h0 h1 k0 k1).use ⟨rfl, rfl, rfl, trivial⟩ rfl rfl ?_⟩
        exact retE ⟨rfl, Iff.rfl, trivial⟩

end Go.Proofs.YtnjmfedleimlmaaDoor.Pw

/- Chapter 11 over values: Fold. -/
namespace Go.Proofs.YtnjmfedleimlmaaDoor.Pw
open Go Go.RowKit

/-- a node whose terms are folded -/
def foldN (t : T) (c : Bool) : T := if c then (match t.evalT [] with
  | some v => .leaf 1 v
  | none => t) else t
def foldT : T → T
  | .leaf o n => foldN (.leaf o n) (decide (o ≠ 2))
  | .one o n a => foldN (.one o n (foldT a)) (decide (o ≠ 2) && decide ((foldT a).op = 1))
  | .two o n a b => foldN (.two o n (foldT a) (foldT b)) ((decide (o ≠ 2) && decide ((foldT a).op = 1)) && decide ((foldT b).op = 1))
theorem wordsOk_nil : WordsOk [] := ⟨by simp, by simp⟩
theorem foldN_wf {t : T} {c : Bool} (h : t.Wf) : (foldN t c).Wf := by
  unfold foldN
  split
  · split
    · rename_i v hv
      exact T.evalT_bd wordsOk_nil h hv
    · exact h
  · exact h
theorem foldT_wf : ∀ {t : T}, t.Wf → (foldT t).Wf
  | .leaf o n, h => foldN_wf h
  | .one o n a, h => by unfold foldT; exact foldN_wf ⟨h.1, foldT_wf h.2⟩
  | .two o n a b, h => by unfold foldT; exact foldN_wf ⟨h.1, foldT_wf h.2.1, foldT_wf h.2.2⟩
theorem of_pureT (n : Int) : PureF gT 39 [.int .u32 n] (tpv (.leaf 1 n)) := by
  refine Spec.enter gTok P39 100 Tryd.func39 rfl (by kernel_rfl) ?_
  exact retE ⟨rfl, rfl, rfl, trivial⟩

set_option maxRecDepth 10000 in
theorem fold_pure : ∀ t : T, t.Wf → PureF gT 24 [tpv t] (tpv (foldT t))
  | .leaf o n, hwf => by
    have hf : foldT (.leaf o n) = foldN (T.leaf o n) (decide (o ≠ 2)) := by rw [foldT]
    refine Spec.enter gTok P24 100 Tryd.func24 rfl (by kernel_rfl) ?_
    refine fun _ => SW.rounds gTok P24 (by kernel_rfl) (N := 60) 3 ?_
    refine And.intro (fun h => absurd (show (0 : Int) < 0 from h) (by decide)) (fun _ => ?_)
    refine And.intro (fun h0 => ?_) (fun h0 => ?_)
    · have k : o = 2 := Classical.not_not.1 h0
      rw [hf, show (decide (o ≠ 2)) = false by simp [k]]
      refine retE ?_
      rw [show foldN (T.leaf o n) false = T.leaf o n from rfl]
      exact ⟨rfl, rfl, rfl, trivial⟩
    · have k : ¬ o = 2 := Classical.not_not.1 h0
      rw [hf, show (decide (o ≠ 2)) = true by simp [k]]
      refine ⟨[], nofun, (eval_pure [] wordsOk_nil (T.leaf o n) hwf).useB [] ⟨⟨rfl, rfl, rfl, trivial⟩, rfl, trivial⟩ rfl rfl ?_⟩
      cases hq : (T.leaf o n).evalT [] with
      | none =>
        refine And.intro (fun h => absurd h nofun) (fun _ => ?_)
        refine retE ?_
        rw [show foldN (T.leaf o n) true = T.leaf o n by unfold foldN; rw [hq]; rfl]
        exact ⟨rfl, rfl, rfl, trivial⟩
      | some v =>
        refine And.intro (fun _ => ?_) (fun h => absurd rfl h)
        refine ⟨[], nofun, (of_pureT v).use ⟨rfl, trivial⟩ rfl rfl ?_⟩
        refine retE ?_
        rw [show foldN (T.leaf o n) true = .leaf 1 v by unfold foldN; rw [hq]; rfl]
        exact ⟨rfl, rfl, rfl, trivial⟩
  | .one o n a, hwf => by
    have iha := fold_pure a hwf.2
    have hf : foldT (.one o n a) = foldN (T.one o n (foldT a)) (decide (o ≠ 2) && decide ((foldT a).op = 1)) := by rw [foldT]
    refine Spec.enter gTok P24 100 Tryd.func24 rfl (by kernel_rfl) ?_
    refine fun _ => SW.rounds gTok P24 (by kernel_rfl) (N := 60) 3 ?_
    refine And.intro (fun _ => ?_) (fun h => absurd (show (0 : Int) < 1 by decide) h)
    refine ⟨T, [a], tpv, rfl, (show (0 : Int) ≤ 0 by decide), (show (0 : Int) < 1 by decide), fun x hx => ?_⟩
    obtain rfl : a = x := Option.some.inj hx
    refine ⟨[], nofun, iha.use ⟨⟨rfl, rfl, rfl, trivial⟩, trivial⟩ rfl rfl ?_⟩
    refine And.intro (fun g0 => ?_) (fun g0 => ?_)
    · have c0 : ¬ o = 2 := g0
      refine And.intro (fun h => absurd (show (1 : Int) < 1 from h) (by decide)) (fun _ => ?_)
      refine And.intro (fun h1 => ?_) (fun h1 => ?_)
      · have k : ¬ (foldT a).op = 1 := h1
        rw [hf, show (decide (o ≠ 2) && decide ((foldT a).op = 1)) = false by simp [c0, k]]
        refine retE ?_
        rw [show foldN (T.one o n (foldT a)) false = T.one o n (foldT a) from rfl]
        exact ⟨rfl, rfl, rfl, trivial⟩
      · have k : (foldT a).op = 1 := Classical.not_not.1 h1
        rw [hf, show (decide (o ≠ 2) && decide ((foldT a).op = 1)) = true by simp [c0, k]]
        refine ⟨[], nofun, (eval_pure [] wordsOk_nil (T.one o n (foldT a)) ⟨hwf.1, foldT_wf hwf.2⟩).useB [6] ⟨⟨rfl, rfl, .inl rfl, trivial⟩, rfl, trivial⟩ rfl rfl ?_⟩
        cases hq : (T.one o n (foldT a)).evalT [] with
        | none =>
          refine And.intro (fun h => absurd h nofun) (fun _ => ?_)
          refine retE ?_
          rw [show foldN (T.one o n (foldT a)) true = T.one o n (foldT a) by unfold foldN; rw [hq]; rfl]
          exact ⟨rfl, rfl, rfl, trivial⟩
        | some v =>
          refine And.intro (fun _ => ?_) (fun h => absurd rfl h)
          refine ⟨[], nofun, (of_pureT v).use ⟨rfl, trivial⟩ rfl rfl ?_⟩
          refine retE ?_
          rw [show foldN (T.one o n (foldT a)) true = .leaf 1 v by unfold foldN; rw [hq]; rfl]
          exact ⟨rfl, rfl, rfl, trivial⟩
    · have c0 : o = 2 := Classical.not_not.1 g0
      refine And.intro (fun h => absurd (show (1 : Int) < 1 from h) (by decide)) (fun _ => ?_)
      rw [hf, show (decide (o ≠ 2) && decide ((foldT a).op = 1)) = false by simp [c0]]
      refine retE ?_
      rw [show foldN (T.one o n (foldT a)) false = T.one o n (foldT a) from rfl]
      exact ⟨rfl, rfl, rfl, trivial⟩
  | .two o n a b, hwf => by
    have iha := fold_pure a hwf.2.1
    have ihb := fold_pure b hwf.2.2
    have hf : foldT (.two o n a b) = foldN (T.two o n (foldT a) (foldT b)) ((decide (o ≠ 2) && decide ((foldT a).op = 1)) && decide ((foldT b).op = 1)) := by rw [foldT]
    refine Spec.enter gTok P24 100 Tryd.func24 rfl (by kernel_rfl) ?_
    refine fun _ => SW.rounds gTok P24 (by kernel_rfl) (N := 60) 3 ?_
    refine And.intro (fun _ => ?_) (fun h => absurd (show (0 : Int) < 2 by decide) h)
    refine ⟨T, [a, b], tpv, rfl, (show (0 : Int) ≤ 0 by decide), (show (0 : Int) < 2 by decide), fun x hx => ?_⟩
    obtain rfl : a = x := Option.some.inj hx
    refine ⟨[], nofun, iha.use ⟨⟨rfl, rfl, rfl, trivial⟩, trivial⟩ rfl rfl ?_⟩
    refine And.intro (fun g0 => ?_) (fun g0 => ?_)
    · have c0 : ¬ o = 2 := g0
      refine And.intro (fun _ => ?_) (fun h => absurd (show (1 : Int) < 2 by decide) h)
      refine ⟨T, [a, b], tpv, rfl, (show (0 : Int) ≤ 1 by decide), (show (1 : Int) < 2 by decide), fun x hx => ?_⟩
      obtain rfl : b = x := Option.some.inj hx
      refine ⟨[], nofun, ihb.use ⟨⟨rfl, rfl, rfl, trivial⟩, trivial⟩ rfl rfl ?_⟩
      refine And.intro (fun g1 => ?_) (fun g1 => ?_)
      · have c1 : (foldT a).op = 1 := g1
        refine And.intro (fun h => absurd (show (2 : Int) < 2 from h) (by decide)) (fun _ => ?_)
        refine And.intro (fun h2 => ?_) (fun h2 => ?_)
        · have k : ¬ (foldT b).op = 1 := h2
          rw [hf, show ((decide (o ≠ 2) && decide ((foldT a).op = 1)) && decide ((foldT b).op = 1)) = false by simp [c0, c1, k]]
          refine retE ?_
          rw [show foldN (T.two o n (foldT a) (foldT b)) false = T.two o n (foldT a) (foldT b) from rfl]
          exact ⟨rfl, rfl, rfl, trivial⟩
        · have k : (foldT b).op = 1 := Classical.not_not.1 h2
          rw [hf, show ((decide (o ≠ 2) && decide ((foldT a).op = 1)) && decide ((foldT b).op = 1)) = true by simp [c0, c1, k]]
          refine ⟨[], nofun, (eval_pure [] wordsOk_nil (T.two o n (foldT a) (foldT b)) ⟨hwf.1, foldT_wf hwf.2.1, foldT_wf hwf.2.2⟩).useB [10] ⟨⟨rfl, rfl, .inl rfl, trivial⟩, rfl, trivial⟩ rfl rfl ?_⟩
          cases hq : (T.two o n (foldT a) (foldT b)).evalT [] with
          | none =>
            refine And.intro (fun h => absurd h nofun) (fun _ => ?_)
            refine retE ?_
            rw [show foldN (T.two o n (foldT a) (foldT b)) true = T.two o n (foldT a) (foldT b) by unfold foldN; rw [hq]; rfl]
            exact ⟨rfl, rfl, rfl, trivial⟩
          | some v =>
            refine And.intro (fun _ => ?_) (fun h => absurd rfl h)
            refine ⟨[], nofun, (of_pureT v).use ⟨rfl, trivial⟩ rfl rfl ?_⟩
            refine retE ?_
            rw [show foldN (T.two o n (foldT a) (foldT b)) true = .leaf 1 v by unfold foldN; rw [hq]; rfl]
            exact ⟨rfl, rfl, rfl, trivial⟩
      · have c1 : ¬ (foldT a).op = 1 := g1
        refine And.intro (fun h => absurd (show (2 : Int) < 2 from h) (by decide)) (fun _ => ?_)
        rw [hf, show ((decide (o ≠ 2) && decide ((foldT a).op = 1)) && decide ((foldT b).op = 1)) = false by simp [c0, c1]]
        refine retE ?_
        rw [show foldN (T.two o n (foldT a) (foldT b)) false = T.two o n (foldT a) (foldT b) from rfl]
        exact ⟨rfl, rfl, rfl, trivial⟩
    · have c0 : o = 2 := Classical.not_not.1 g0
      refine And.intro (fun _ => ?_) (fun h => absurd (show (1 : Int) < 2 by decide) h)
      refine ⟨T, [a, b], tpv, rfl, (show (0 : Int) ≤ 1 by decide), (show (1 : Int) < 2 by decide), fun x hx => ?_⟩
      obtain rfl : b = x := Option.some.inj hx
      refine ⟨[], nofun, ihb.use ⟨⟨rfl, rfl, rfl, trivial⟩, trivial⟩ rfl rfl ?_⟩
      refine And.intro (fun h => absurd (show (2 : Int) < 2 from h) (by decide)) (fun _ => ?_)
      rw [hf, show ((decide (o ≠ 2) && decide ((foldT a).op = 1)) && decide ((foldT b).op = 1)) = false by simp [c0]]
      refine retE ?_
      rw [show foldN (T.two o n (foldT a) (foldT b)) false = T.two o n (foldT a) (foldT b) from rfl]
      exact ⟨rfl, rfl, rfl, trivial⟩

end Go.Proofs.YtnjmfedleimlmaaDoor.Pw

/- Chapter 11 over values: flat, Count. -/
namespace Go.Proofs.YtnjmfedleimlmaaDoor.Pw
open Go Go.RowKit

def nP (x : Int × Int × Int) : PV := .agg [.int .i64 x.1, .int .u32 x.2.1, .int .i64 x.2.2]

set_option maxRecDepth 10000 in
theorem flat_pure (most : Int) : ∀ t : T, (t.size : Int) ≤ most → t.size ≤ 1000000 → PureF gT 19 [tpv t, .int .i64 most] (.sl 3 (t.nodes.map nP))
  | .leaf o n, hm, hs => by
    refine Spec.enter gTok P19 100 Tryd.func19 rfl (by kernel_rfl) ?_
    refine fun _ => fun _ => SW.rounds gTok P19 (by kernel_rfl) (N := 60) 3 ?_
    refine And.intro (fun h => absurd (show (0 : Int) < 0 from h) (by decide)) (fun _ => ?_)
    refine retE ?_
    exact (show _ = _ from rfl)
  | .one o n a, hm, hs => by
    have sz : (T.one o n a).size = 1 + a.size := rfl
    have iha := flat_pure most a (by omega) (by omega)
    refine Spec.enter gTok P19 100 Tryd.func19 rfl (by kernel_rfl) ?_
    refine fun _ => fun _ => SW.rounds gTok P19 (by kernel_rfl) (N := 60) 3 ?_
    refine And.intro (fun _ => ?_) (fun h => absurd (show (0 : Int) < 1 by decide) h)
    refine ⟨T, [a], tpv, rfl, (show (0 : Int) ≤ 0 by decide), (show (0 : Int) < 1 by decide), fun x hx => ?_⟩
    obtain rfl : a = x := Option.some.inj hx
    refine And.intro (fun h => absurd (show most < 1 from h) (by omega)) (fun _ => ?_)
    refine ⟨[], nofun, iha.use ⟨⟨rfl, rfl, rfl, trivial⟩, rfl, trivial⟩ rfl rfl ?_⟩
    have el : (a.nodes.map nP).length = a.size := by rw [List.length_map, T.nodes_length]
    refine ⟨show 1 + (a.nodes.map nP).length ≤ maxLen by rw [el]; unfold maxLen; omega, show (1 + (a.nodes.map nP).length) * 24 ≤ 140737488355328 by rw [el]; omega, ?_⟩
    refine And.intro (fun h => absurd (show (1 : Int) < 1 from h) (by decide)) (fun _ => ?_)
    refine retE ?_
    exact (show _ = _ from rfl)
  | .two o n a b, hm, hs => by
    have sz : (T.two o n a b).size = 1 + a.size + b.size := rfl
    have iha := flat_pure most a (by omega) (by omega)
    have ihb := flat_pure most b (by omega) (by omega)
    have el : (a.nodes.map nP).length = a.size := by rw [List.length_map, T.nodes_length]
    have el2 : (b.nodes.map nP).length = b.size := by rw [List.length_map, T.nodes_length]
    refine Spec.enter gTok P19 100 Tryd.func19 rfl (by kernel_rfl) ?_
    refine fun _ => fun _ => SW.rounds gTok P19 (by kernel_rfl) (N := 60) 3 ?_
    refine And.intro (fun _ => ?_) (fun h => absurd (show (0 : Int) < 2 by decide) h)
    refine ⟨T, [a, b], tpv, rfl, (show (0 : Int) ≤ 0 by decide), (show (0 : Int) < 2 by decide), fun x hx => ?_⟩
    obtain rfl : a = x := Option.some.inj hx
    refine And.intro (fun h => absurd (show most < 1 from h) (by omega)) (fun _ => ?_)
    refine ⟨[], nofun, iha.use ⟨⟨rfl, rfl, rfl, trivial⟩, rfl, trivial⟩ rfl rfl ?_⟩
    refine ⟨show 1 + (a.nodes.map nP).length ≤ maxLen by rw [el]; unfold maxLen; omega, show (1 + (a.nodes.map nP).length) * 24 ≤ 140737488355328 by rw [el]; omega, ?_⟩
    refine And.intro (fun _ => ?_) (fun h => absurd (show (1 : Int) < 2 by decide) h)
    refine ⟨T, [a, b], tpv, rfl, (show (0 : Int) ≤ 1 by decide), (show (1 : Int) < 2 by decide), fun x hx => ?_⟩
    obtain rfl : b = x := Option.some.inj hx
    have e1 : ([nP (o, n, 2)] ++ a.nodes.map nP).length = 1 + a.size := by rw [List.length_append, el]; rfl
    refine fun _ => And.intro (fun h => absurd (show most < (([nP (o, n, 2)] ++ a.nodes.map nP).length : Int) from h) (by rw [e1]; omega)) (fun _ => ?_)
    refine ⟨[], nofun, ihb.use ⟨⟨rfl, rfl, rfl, trivial⟩, rfl, trivial⟩ rfl rfl ?_⟩
    refine ⟨show ([nP (o, n, 2)] ++ a.nodes.map nP).length + (b.nodes.map nP).length ≤ maxLen by rw [e1, el2]; unfold maxLen; omega, show (([nP (o, n, 2)] ++ a.nodes.map nP).length + (b.nodes.map nP).length) * 24 ≤ 140737488355328 by rw [e1, el2]; omega, ?_⟩
    refine And.intro (fun h => absurd (show (2 : Int) < 2 from h) (by decide)) (fun _ => ?_)
    refine retE ?_
    exact (show ([nP (o, n, 2)] ++ a.nodes.map nP) ++ b.nodes.map nP = _ by simp [T.nodes])

set_option maxRecDepth 10000 in
theorem count_pure : ∀ t : T, t.size ≤ 1000000 → PureF gT 27 [tpv t] (.int .i64 t.size)
  | .leaf o n, hs => by
    refine Spec.enter gTok P27 100 Tryd.func27 rfl (by kernel_rfl) ?_
    refine fun _ => SW.rounds gTok P27 (by kernel_rfl) (N := 60) 3 ?_
    refine And.intro (fun h => absurd (show (0 : Int) < 0 from h) (by decide)) (fun _ => ?_)
    exact retE rfl
  | .one o n a, hs => by
    have sz : (T.one o n a).size = 1 + a.size := rfl
    have iha := count_pure a (by omega)
    refine Spec.enter gTok P27 100 Tryd.func27 rfl (by kernel_rfl) ?_
    refine fun _ => SW.rounds gTok P27 (by kernel_rfl) (N := 60) 3 ?_
    refine And.intro (fun _ => ?_) (fun h => absurd (show (0 : Int) < 1 by decide) h)
    refine ⟨T, [a], tpv, rfl, (show (0 : Int) ≤ 0 by decide), (show (0 : Int) < 1 by decide), fun x hx => ?_⟩
    obtain rfl : a = x := Option.some.inj hx
    refine ⟨[], nofun, iha.use ⟨⟨rfl, rfl, rfl, trivial⟩, trivial⟩ rfl rfl ?_⟩
    refine .inl ⟨inR_i64 (by omega), ?_⟩
    refine And.intro (fun h => absurd (show (1 : Int) < 1 from h) (by decide)) (fun _ => ?_)
    refine retE ?_
    exact (show (1 : Int) + a.size = ((T.one o n a).size : Nat) by omega)
  | .two o n a b, hs => by
    have sz : (T.two o n a b).size = 1 + a.size + b.size := rfl
    have iha := count_pure a (by omega)
    have ihb := count_pure b (by omega)
    refine Spec.enter gTok P27 100 Tryd.func27 rfl (by kernel_rfl) ?_
    refine fun _ => SW.rounds gTok P27 (by kernel_rfl) (N := 60) 3 ?_
    refine And.intro (fun _ => ?_) (fun h => absurd (show (0 : Int) < 2 by decide) h)
    refine ⟨T, [a, b], tpv, rfl, (show (0 : Int) ≤ 0 by decide), (show (0 : Int) < 2 by decide), fun x hx => ?_⟩
    obtain rfl : a = x := Option.some.inj hx
    refine ⟨[], nofun, iha.use ⟨⟨rfl, rfl, rfl, trivial⟩, trivial⟩ rfl rfl ?_⟩
    refine .inl ⟨inR_i64 (by omega), ?_⟩
    refine And.intro (fun _ => ?_) (fun h => absurd (show (1 : Int) < 2 by decide) h)
    refine ⟨T, [a, b], tpv, rfl, (show (0 : Int) ≤ 1 by decide), (show (1 : Int) < 2 by decide), fun x hx => ?_⟩
    obtain rfl : b = x := Option.some.inj hx
    refine ⟨[], nofun, ihb.use ⟨⟨rfl, rfl, rfl, trivial⟩, trivial⟩ rfl rfl ?_⟩
    refine .inl ⟨inR_i64 (by omega), ?_⟩
    refine And.intro (fun h => absurd (show (2 : Int) < 2 from h) (by decide)) (fun _ => ?_)
    refine retE ?_
    exact (show (1 : Int) + a.size + b.size = ((T.two o n a b).size : Nat) by omega)

end Go.Proofs.YtnjmfedleimlmaaDoor.Pw

/- Chapter 11 over values: Right. -/
namespace Go.Proofs.YtnjmfedleimlmaaDoor.Pw
open Go Go.RowKit

theorem needs_pureT (op : Int) : PureF gT 74 [.int .i64 op] (.int .i64 (needsT op)) := by
  refine Spec.enter gTok P74 100 Tryd.func74 rfl (by kernel_rfl) ?_
  repeat' refine And.intro (fun _ => ?_) (fun _ => ?_)
  all_goals (refine retE ?_; unfold needsT; show _ = _; (repeat' split) <;> omega)
theorem needsT_eq {op : Int} (h1 : 1 ≤ op) (h2 : op ≤ 17) : needsT op = needsN op := by
  unfold needsT needsN
  rw [if_neg (show ¬ (op < 1 ∨ 17 < op) by omega)]
  by_cases k1 : op ≤ 2
  · rw [if_pos k1, if_pos (show op < 3 by omega)]
  · rw [if_neg k1, if_neg (show ¬ op < 3 by omega)]
    by_cases k2 : op ≤ 4
    · rw [if_pos k2, if_pos (show op < 5 by omega)]
    · rw [if_neg k2, if_neg (show ¬ op < 5 by omega)]
theorem root_iff (t : T) : t.root = true ↔ 1 ≤ t.op ∧ t.op ≤ 17 ∧ needsN t.op = t.kids ∧ (2 < t.op → t.num = 0) ∧ (t.op = 2 → t.num ≤ 255) := by
  cases t <;> exact decide_eq_true_iff
theorem kidsP_len (t : T) : ((kidsP t).length : Int) = (t.kids : Nat) := by cases t <;> rfl
theorem shaped_root {t : T} (h : t.shaped = true) : t.root = true ∧ t.kidsOk = true := by rw [T.shaped_eq, Bool.and_eq_true] at h; exact h
def sClo : PV := .clo 76 []

set_option maxRecDepth 10000 in
theorem shaped_step (t : T) (hn : 0 ≤ t.num ∧ t.num ≤ 4294967295) (hc : PureF gT 75 [.sl 3 (kidsP t), sClo] (.bool (¬ t.kidsOk = true))) : PureF gT 50 [tpv t] (.bool (t.shaped = true)) := by
  have hk := kidsP_len t
  have bad : ∀ {p : Prop}, (1 ≤ t.op → t.op ≤ 17 → needsT t.op = (kidsP t).length → (2 < t.op → t.num = 0) → (t.op = 2 → t.num ≤ 255) → False) → t.shaped = true → p := fun h hs => by
    have hr := (root_iff t).1 (shaped_root hs).1
    exact absurd hr.2.2.2.2 (fun h5 => h hr.1 hr.2.1 (by rw [needsT_eq hr.1 hr.2.1, hk]; exact hr.2.2.1) hr.2.2.2.1 h5)
  refine Spec.enter gTok P50 100 Tryd.func50 rfl (by kernel_rfl) ?_
  refine And.intro (fun h1 => ?_) (fun h1 => And.intro (fun h2 => ?_) (fun h2 => ?_))
  · refine retE ?_
    exact fun hs => bad (by omega) hs
  · refine retE ?_
    exact fun hs => bad (by omega) hs
  refine fun _ => ?_
  refine ⟨[], nofun, (needs_pureT t.op).use ⟨rfl, trivial⟩ rfl rfl ?_⟩
  have fin_ : ∀ (h3 : ¬ ¬ ((kidsP t).length : Int) = needsT t.op) (h4 : 2 < t.op → t.num = 0) (h5 : t.op = 2 → t.num ≤ 255), (¬ ¬ t.kidsOk = true ↔ t.shaped = true) := fun h3 h4 h5 => by
    have hr : t.root = true := (root_iff t).2 ⟨by omega, by omega, by rw [← needsT_eq (by omega) (by omega), ← hk]; omega, h4, h5⟩
    rw [T.shaped_eq, hr, Bool.true_and]; exact Classical.not_not
  refine And.intro (fun h3 => ?_) (fun h3 => And.intro (fun h4 => And.intro (fun h5 => ?_) (fun h5 => And.intro (fun h6 => ?_) (fun h6 => ?_))) (fun h4 => And.intro (fun h6 => And.intro (fun h7 => ?_) (fun h7 => ?_)) (fun h6 => ?_)))
  · refine retE ?_
    exact fun hs => bad (by omega) hs
  · refine retE ?_
    exact fun hs => bad (by omega) hs
  · exact absurd h6 (by omega)
  · refine ⟨[], nofun, hc.use ⟨rfl, trivial, trivial⟩ rfl rfl ?_⟩
    refine retE ?_
    exact fin_ h3 (by omega) (by omega)
  · refine retE ?_
    exact fun hs => bad (by omega) hs
  · refine ⟨[], nofun, hc.use ⟨rfl, trivial, trivial⟩ rfl rfl ?_⟩
    refine retE ?_
    exact fin_ h3 (by omega) (by omega)
  · refine ⟨[], nofun, hc.use ⟨rfl, trivial, trivial⟩ rfl rfl ?_⟩
    refine retE ?_
    exact fin_ h3 (by omega) (by omega)

end Go.Proofs.YtnjmfedleimlmaaDoor.Pw

/- Chapter 11 over values: Right, the rest. -/
namespace Go.Proofs.YtnjmfedleimlmaaDoor.Pw
open Go Go.RowKit

theorem shaped1_pure (a : T) (ha : PureF gT 50 [tpv a] (.bool (a.shaped = true))) : PureF gT 76 [tpv a] (.bool (¬ a.shaped = true)) := by
  refine Spec.enter gTok P76 100 Tryd.func76 rfl (by kernel_rfl) ?_
  refine ⟨[], nofun, ha.use ⟨⟨rfl, rfl, rfl, trivial⟩, trivial⟩ rfl rfl ?_⟩
  exact retE Iff.rfl
def idxT : T → Int
  | .leaf .. => -1
  | .one _ _ a => if a.shaped then -1 else 0
  | .two _ _ a b => if a.shaped then (if b.shaped then -1 else 1) else 0
theorem idxT_iff (t : T) : 0 ≤ idxT t ↔ ¬ t.kidsOk = true := by
  cases t with
  | leaf => simp [idxT, T.kidsOk]
  | one o n a => cases h : a.shaped <;> simp [idxT, T.kidsOk, h]
  | two o n a b => cases h : a.shaped <;> cases h2 : b.shaped <;> simp [idxT, T.kidsOk, h, h2]
theorem contains_pure (t : T) (hi : PureF gT 98 [.sl 3 (kidsP t), sClo] (.int .i64 (idxT t))) : PureF gT 75 [.sl 3 (kidsP t), sClo] (.bool (¬ t.kidsOk = true)) := by
  refine Spec.enter gTok P75 100 Tryd.func75 rfl (by kernel_rfl) ?_
  refine ⟨[], nofun, hi.use ⟨rfl, trivial, trivial⟩ rfl rfl ?_⟩
  exact retE (idxT_iff t)

set_option maxRecDepth 10000 in
theorem index_leaf (o n : Int)   : PureF gT 98 [.sl 3 (kidsP (.leaf o n )), sClo] (.int .i64 (idxT (.leaf o n ))) := by
  refine Spec.enter gTok P98 100 Tryd.func98 rfl (by kernel_rfl) ?_
  refine fun _ => SW.rounds gTok P98 (by kernel_rfl) (N := 60) 3 ?_
  refine And.intro (fun h => absurd (show (0 : Int) < 0 from h) (by decide)) (fun _ => ?_)
  refine retE ?_
  exact (show (-1 : Int) = idxT _ by simp [idxT])

set_option maxRecDepth 10000 in
theorem index_one (o n : Int) (a : T) (ha : PureF gT 76 [tpv a] (.bool (¬ a.shaped = true))) : PureF gT 98 [.sl 3 (kidsP (.one o n a)), sClo] (.int .i64 (idxT (.one o n a))) := by
  refine Spec.enter gTok P98 100 Tryd.func98 rfl (by kernel_rfl) ?_
  refine fun _ => SW.rounds gTok P98 (by kernel_rfl) (N := 60) 3 ?_
  refine And.intro (fun _ => ?_) (fun h => absurd (show (0 : Int) < 1 by decide) h)
  refine ⟨T, [a], tpv, rfl, (show (0 : Int) ≤ 0 by decide), (show (0 : Int) < 1 by decide), fun x hx => ?_⟩
  obtain rfl : a = x := Option.some.inj hx
  refine ⟨[], nofun, ha.use ⟨⟨rfl, rfl, rfl, trivial⟩, trivial⟩ rfl rfl ?_⟩
  refine And.intro (fun s0 => ?_) (fun s0 => ?_)
  · refine retE ?_
    exact (show (0 : Int) = idxT _ by simp [idxT, s0])
  replace s0 := Classical.not_not.1 s0
  refine And.intro (fun h => absurd (show (1 : Int) < 1 from h) (by decide)) (fun _ => ?_)
  refine retE ?_
  exact (show (-1 : Int) = idxT _ by simp [idxT, s0])

set_option maxRecDepth 10000 in
theorem index_two (o n : Int) (a b : T) (ha : PureF gT 76 [tpv a] (.bool (¬ a.shaped = true))) (hb : PureF gT 76 [tpv b] (.bool (¬ b.shaped = true))) : PureF gT 98 [.sl 3 (kidsP (.two o n a b)), sClo] (.int .i64 (idxT (.two o n a b))) := by
  refine Spec.enter gTok P98 100 Tryd.func98 rfl (by kernel_rfl) ?_
  refine fun _ => SW.rounds gTok P98 (by kernel_rfl) (N := 60) 3 ?_
  refine And.intro (fun _ => ?_) (fun h => absurd (show (0 : Int) < 2 by decide) h)
  refine ⟨T, [a, b], tpv, rfl, (show (0 : Int) ≤ 0 by decide), (show (0 : Int) < 2 by decide), fun x hx => ?_⟩
  obtain rfl : a = x := Option.some.inj hx
  refine ⟨[], nofun, ha.use ⟨⟨rfl, rfl, rfl, trivial⟩, trivial⟩ rfl rfl ?_⟩
  refine And.intro (fun s0 => ?_) (fun s0 => ?_)
  · refine retE ?_
    exact (show (0 : Int) = idxT _ by simp [idxT, s0])
  replace s0 := Classical.not_not.1 s0
  refine And.intro (fun _ => ?_) (fun h => absurd (show (1 : Int) < 2 by decide) h)
  refine ⟨T, [a, b], tpv, rfl, (show (0 : Int) ≤ 1 by decide), (show (1 : Int) < 2 by decide), fun x hx => ?_⟩
  obtain rfl : b = x := Option.some.inj hx
  refine ⟨[], nofun, hb.use ⟨⟨rfl, rfl, rfl, trivial⟩, trivial⟩ rfl rfl ?_⟩
  refine And.intro (fun s1 => ?_) (fun s1 => ?_)
  · refine retE ?_
    exact (show (1 : Int) = idxT _ by simp [idxT, s0, s1])
  replace s1 := Classical.not_not.1 s1
  refine And.intro (fun h => absurd (show (2 : Int) < 2 from h) (by decide)) (fun _ => ?_)
  refine retE ?_
  exact (show (-1 : Int) = idxT _ by simp [idxT, s0, s1])

theorem shaped_pure : ∀ t : T, t.Wf → PureF gT 50 [tpv t] (.bool (t.shaped = true))
  | .leaf o n, h => shaped_step _ h (contains_pure _ (index_leaf o n))
  | .one o n a, h => shaped_step _ h.1 (contains_pure _ (index_one o n a (shaped1_pure a (shaped_pure a h.2))))
  | .two o n a b, h => shaped_step _ h.1 (contains_pure _ (index_two o n a b (shaped1_pure a (shaped_pure a h.2.1)) (shaped1_pure b (shaped_pure b h.2.2))))
theorem right_pure (t : T) (h : t.Wf) (hs : t.size ≤ 16384) : PureF gT 25 [tpv t] (.bool (t.shaped = true)) := by
  refine Spec.enter gTok P25 100 Tryd.func25 rfl (by kernel_rfl) ?_
  refine ⟨[], nofun, (count_pure t (by omega)).use ⟨⟨rfl, rfl, rfl, trivial⟩, trivial⟩ rfl rfl ?_⟩
  refine And.intro (fun _ => ?_) (fun h => absurd (show (t.size : Int) ≤ 16384 by omega) h)
  refine ⟨[], nofun, (shaped_pure t h).use ⟨⟨rfl, rfl, rfl, trivial⟩, trivial⟩ rfl rfl ?_⟩
  exact retE Iff.rfl

end Go.Proofs.YtnjmfedleimlmaaDoor.Pw

/- What comes in to chapter 11's laws, opened; the table of all words. -/
namespace Go.Proofs.YtnjmfedleimlmaaDoor.Pw
open Go Go.RowKit

def NodeOk (y : Int × Int) : Prop := (-9223372036854775808 ≤ y.1 ∧ y.1 ≤ 9223372036854775807) ∧ 0 ≤ y.2 ∧ y.2 ≤ 4294967295
def U32Ok (v : Int) : Prop := 0 ≤ v ∧ v ≤ 4294967295
theorem inR_u32' {z : Int} (h : InR .u32 z) : 0 ≤ z ∧ z ≤ 4294967295 := by unfold InR Ev.kmin Ev.kmax at h; simp only [IntKind.signed, IntKind.bits] at h; simpa using h
theorem inR_i64' {z : Int} (h : InR .i64 z) : -9223372036854775808 ≤ z ∧ z ≤ 9223372036854775807 := by unfold InR Ev.kmin Ev.kmax at h; simp only [IntKind.signed, IntKind.bits] at h; simpa using h
set_option maxRecDepth 100000 in
theorem opNodes : Op Tryd.prog 22 (SLs 2 16 nodeP NodeOk) :=
  opList (opSlice (opAgg (Ss := [SInt .i64, SInt .u32]) Tryd.underlying115 ⟨rfl, opInt Tryd.underlying3 (by kernel_rfl), (show _ = _ by kernel_rfl), opInt Tryd.underlying25 (by kernel_rfl), (show _ = _ by kernel_rfl)⟩) 2 16 (by kernel_rfl) Tryd.underlying22 (by kernel_rfl) (by decide) (by kernel_rfl)) fun x ⟨xs, h, e⟩ => by
    obtain ⟨_, _, rfl, ⟨a, ha, rfl⟩, h1⟩ := all2_cons h
    obtain ⟨_, _, rfl, ⟨b, hb, rfl⟩, h2⟩ := all2_cons h1
    obtain rfl := all2_nil h2
    exact ⟨(a, b), ⟨inR_i64' ha, inR_u32' hb⟩, e⟩
theorem opWords : Op Tryd.prog 23 (SLs 1 4 (PV.int .u32) U32Ok) :=
  opList (opSlice (opInt Tryd.underlying25 (by kernel_rfl)) 1 4 (by kernel_rfl) Tryd.underlying23 (by kernel_rfl) (by decide) (by kernel_rfl)) fun x ⟨a, ha, e⟩ => ⟨a, inR_u32' ha, e⟩

end Go.Proofs.YtnjmfedleimlmaaDoor.Pw

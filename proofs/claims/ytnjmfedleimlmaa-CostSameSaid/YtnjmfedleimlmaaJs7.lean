/- What the laws of this claim are proved with, joined (join.py) of 13 texts: no condition. -/
import Derived.Test.YtnjmfedleimlmaaJs6
import Derived.Test.YtnjmfedleimlmaaJs5
import Derived.Test.YtnjmfedleimlmaaJsAluA
import Derived.Laws.Externs
import Derived.Lib.ItoaNum
import Derived.Test.YtnjmfedleimlmaaJs4
set_option linter.unusedVariables false

/- Chapter 21 over values: costs, what reckons them. -/
namespace Go.Proofs.Ytnjmfedleimlmaa.Pw
open Go Go.RowKit

/-- a cost -/
inductive C where
  | mk (kind cyc mis word size : Int) (a b : T) (l : List C)
namespace C
def kind : C → Int | .mk k _ _ _ _ _ _ _ => k
def cyc : C → Int | .mk _ c _ _ _ _ _ _ => c
def mis : C → Int | .mk _ _ m _ _ _ _ _ => m
def word : C → Int | .mk _ _ _ w _ _ _ _ => w
def size : C → Int | .mk _ _ _ _ s _ _ _ => s
def a : C → T | .mk _ _ _ _ _ a _ _ => a
def b : C → T | .mk _ _ _ _ _ _ b _ => b
def l : C → List C | .mk _ _ _ _ _ _ _ l => l
end C
theorem C.ind {p : C → Prop} (h : ∀ k cy mi wo si a b l, (∀ x ∈ l, p x) → p (.mk k cy mi wo si a b l)) : ∀ c, p c
  | .mk k cy mi wo si a b l => h k cy mi wo si a b l fun x _ => C.ind h x

mutual
def kidsC : C → List PV
  | .mk _ _ _ _ _ _ _ l => kidsCL l
def kidsCL : List C → List PV
  | [] => []
  | c :: l => .agg [.int .i64 c.kind, .int .i64 c.cyc, .int .i64 c.mis, .int .i64 c.word, .int .i64 c.size, .int .i64 c.a.op, .int .u32 c.a.num, .sl 3 (kidsP c.a), .int .i64 c.b.op, .int .u32 c.b.num, .sl 3 (kidsP c.b), .sl 12 (kidsC c)] :: kidsCL l
end
def cpvL (c : C) : List PV := [.int .i64 c.kind, .int .i64 c.cyc, .int .i64 c.mis, .int .i64 c.word, .int .i64 c.size, .int .i64 c.a.op, .int .u32 c.a.num, .sl 3 (kidsP c.a), .int .i64 c.b.op, .int .u32 c.b.num, .sl 3 (kidsP c.b), .sl 12 (kidsC c)]
def cpv (c : C) : PV := .agg (cpvL c)
theorem kidsCL_eq : ∀ l : List C, kidsCL l = l.map cpv
  | [] => rfl
  | c :: l => by rw [kidsCL, kidsCL_eq l]; rfl
theorem kidsC_eq (c : C) : kidsC c = c.l.map cpv := by cases c; exact kidsCL_eq _

/-- what reckons -/
structure R where
  ws : List Int
  fuel : Int
  sum : Int
  trap : Int
  e : Int
namespace R
structure Ok (r : R) : Prop where
  len : r.ws.length = 254
  ws : ∀ v ∈ r.ws, 0 ≤ v ∧ v ≤ 4294967295
  fuel : -9223372036854775808 ≤ r.fuel ∧ r.fuel ≤ 9223372036854775807
  sum : 0 ≤ r.sum ∧ r.sum ≤ 18446744073709551615
def fin (r : R) : Bool := decide (r.trap ≠ 0 ∨ r.e ≠ 0)
def add (r : R) (n : Int) : R := { r with sum := min (r.sum + n) 18446744073709551615 }
def val (r : R) (t : T) : Int := (t.evalT r.ws).getD 0
def evl (r : R) (t : T) : R := { r with trap := if (t.evalT r.ws).isSome then r.trap else 2 }
theorem Ok.words {r : R} (h : r.Ok) : WordsOk r.ws := ⟨by rw [h.len]; omega, h.ws⟩
theorem Ok.add {r : R} (h : r.Ok) {n : Int} (hn : 0 ≤ n) : (r.add n).Ok := ⟨h.len, h.ws, h.fuel, by have := h.sum; simp only [R.add]; omega⟩
theorem Ok.evl {r : R} (h : r.Ok) (t : T) : (r.evl t).Ok := ⟨h.len, h.ws, h.fuel, h.sum⟩
theorem Ok.val {r : R} (h : r.Ok) {t : T} (ht : t.Wf) : 0 ≤ r.val t ∧ r.val t ≤ 4294967295 := by
  unfold R.val
  cases hv : t.evalT r.ws with
  | none => simp
  | some v => exact T.evalT_bd h.words ht hv
end R

def wB (ws : List Int) : PBlk := ⟨.dyn, 24, 1, .w, true, wordsP ws⟩
def rB (wt : Int) (r : R) : PBlk := ⟨.loc, 58, 1, .w, true, [.wref 1, .int .i64 wt, .int .i64 r.fuel, .int .u64 r.sum, .int .i64 r.trap, .int .i64 r.e]⟩
def xB (c0 : C) : PBlk := ⟨.loc, 30, 1, .w, true, cpvL c0⟩
def sR (c0 : C) (wt : Int) (r : R) : List PBlk := [xB c0, wB r.ws, rB wt r]
/-- a function of the reckoner's: it leaves it as r', and yields res -/
def Runs (f : FuncId) (args : List PV) (c0 : C) (wt : Int) (r : R) (res : PV) (r' : R) : Prop := Spec gT f args (sR c0 wt r) [] fun x S' => x = res ∧ S' = sR c0 wt r'
theorem stLe_app {S T : List PBlk} {k : List PBlk → Prop} (hl : S.all (fun b => b.live) = true) (hr : ∀ b ∈ S, leL le1 b.cs b.cs) (h : k T) : stLe (S ++ T) S k := by
  unfold stLe
  induction S with
  | nil => exact h
  | cons b S ih =>
    rw [List.all_cons, Bool.and_eq_true] at hl
    refine ⟨?_, ih hl.2 fun b hb => hr b (by simp [hb])⟩
    obtain ⟨k, ty, n, m, live, cs⟩ := b
    have hlv : live = true := hl.1
    subst hlv
    have h1 : ∀ n : Nat, Nat.beq n n = true := fun n => Nat.beq_refl n
    have h2 : Md.beq m m = true := by cases m <;> rfl
    have h3 : BK.beq k k = true := by cases k <;> rfl
    unfold leBlk
    simp only [h1, h2, h3, Bool.and_self, cond_true]
    have := hr ⟨k, ty, n, m, true, cs⟩ (by simp)
    cases k <;> first | exact this | exact trivial | rfl
theorem Runs.go {f : FuncId} {args args' : List PV} {c0 : C} {wt : Int} {r r' : R} {res : PV} {T : List PBlk} {K : PV → List PBlk → Prop} (h : Runs f args' c0 wt r res r') (hle : leL leK args args') (hu : (usesL args').all (fun l => Nat.blt l 3) = true) (hr0 : res.uses.all (fun l => Nat.blt l 3) = true)
    (hK : frBB (sR c0 wt r') fun S1 => appK S1 T (K res)) : Spec gT f args (sR c0 wt r ++ T) [] K := by
  refine Spec.useS h rfl rfl hu hr0 hle (stLe_app rfl (fun b hb => ?_) hK)
  simp only [sR, List.mem_cons, List.not_mem_nil, or_false] at hb
  rcases hb with rfl | rfl | rfl
  · repeat' first | exact trivial | exact rfl | refine And.intro ?_ ?_
  · show leL le1 (wordsP r.ws) (wordsP r.ws)
    induction r.ws with
    | nil => trivial
    | cons x l ih => exact ⟨rfl, ih⟩
  · repeat' first | exact trivial | exact rfl | refine And.intro ?_ ?_

theorem add64_px (x y : Int) (hx : 0 ≤ x) (hy : 0 ≤ y) : PureX gT 26 [.int .u64 x, .int .u64 y, .lit .u64 0] (.tup [.int .u64 ((x + y) % 18446744073709551616), .int .u64 ((x + y) / 18446744073709551616)]) := fun I β w vals h => by
  match vals, h with
  | [v, u, t], h =>
    simp only [IsL, PV.Is, and_true] at h
    obtain ⟨rfl, rfl, rfl⟩ := h
    refine ⟨.tuple #[.int .u64 ((x + y) % 18446744073709551616), .int .u64 ((x + y) / 18446744073709551616)], ?_, is_tup (isLc (is_int ..) (isLc (is_int ..) isLn))⟩
    rw [run_callFunc_extern (show gT.cx.P.funcs[26]? = some _ from Try.func26) (by kernel_rfl) (by kernel_rfl) (by kernel_rfl) (e := add64Entry) (by kernel_rfl), run_add64 x y 0 hx hy (by omega) (by omega), Int.add_zero]
    rfl

set_option maxRecDepth 10000 in
theorem add_runs {c0 : C} {wt : Int} {r : R} (hr : r.Ok) (n : Int) (hn : 0 ≤ n ∧ n ≤ 18446744073709551615) : Runs 19 [.ptr 2 0, .int .u64 n] c0 wt r (.tup []) (r.add n) := by
  refine Spec.leS (Spec.enter gTok P19 100 Try.func19 rfl (by kernel_rfl) ?_)
  have h0 := hr.sum
  refine pext_ok (f := 26) ?_
  refine ⟨_, add64_px _ _ h0.1 hn.1, ?_⟩
  refine And.intro (fun h => ?_) (fun h => ?_)
  · refine retS trivial ?_
    repeat' first | exact trivial | exact rfl | refine And.intro ?_ ?_
    exact (show (18446744073709551615 : Int) = min (r.sum + n) 18446744073709551615 by omega)
  · refine retS trivial ?_
    repeat' first | exact trivial | exact rfl | refine And.intro ?_ ?_
    exact (show (r.sum + n) % 18446744073709551616 = min (r.sum + n) 18446744073709551615 by omega)

theorem ended_runs {c0 : C} {wt : Int} {r : R} : Runs 22 [.ptr 2 0] c0 wt r (.bool (r.fin = true)) r := by
  refine Spec.leS (Spec.enter gTok P22 100 Try.func22 rfl (by kernel_rfl) ?_)
  refine And.intro (fun h => ?_) (fun h => ?_)
  · refine retS (show r.fin = true from decide_eq_true (.inl h)) (by repeat' first | exact trivial | exact rfl | exact Iff.rfl | exact Or.inl rfl | refine And.intro ?_ ?_)
  · refine retS (show (¬ r.e = 0) ↔ r.fin = true from ?_) (by repeat' first | exact trivial | exact rfl | exact Iff.rfl | exact Or.inl rfl | refine And.intro ?_ ?_)
    unfold R.fin
    rw [decide_eq_true_iff]
    omega

set_option maxRecDepth 10000 in
theorem eval_runs {c0 : C} {wt : Int} {r : R} (hr : r.Ok) (t : T) (ht : t.Wf) : Runs 21 [.ptr 2 0, tpv t] c0 wt r (.int .u32 (r.val t)) (r.evl t) := by
  refine Spec.leS (Spec.enter gTok P21 100 Try.func21 rfl (by kernel_rfl) ?_)
  refine ⟨[], nofun, (eval_pure r.ws hr.words t ht).useB [1] (by repeat' first | exact trivial | exact rfl | exact Iff.rfl | exact Or.inl rfl | refine And.intro ?_ ?_) rfl rfl ?_⟩
  unfold R.val R.evl
  generalize t.evalT r.ws = o
  cases o with
  | none =>
    refine And.intro (fun h => ?_) (fun h => absurd (show ¬ (none : Option Int).isSome = true by simp) h)
    (refine retS (by repeat' first | exact trivial | exact rfl | exact Iff.rfl | refine And.intro ?_ ?_) ?_; repeat' first | exact trivial | exact rfl | exact Iff.rfl | exact Or.inl rfl | refine And.intro ?_ ?_)
  | some v =>
    refine And.intro (fun h => absurd (show (some v).isSome = true from rfl) h) (fun h => ?_)
    (refine retS (by repeat' first | exact trivial | exact rfl | exact Iff.rfl | refine And.intro ?_ ?_) ?_; repeat' first | exact trivial | exact rfl | exact Iff.rfl | exact Or.inl rfl | refine And.intro ?_ ?_)

end Go.Proofs.Ytnjmfedleimlmaa.Pw

/- Chapter 21 over values: what a cost costs; lists of costs. -/
namespace Go.Proofs.Ytnjmfedleimlmaa.Pw
open Go Go.RowKit

/-- a division's cycles -/
def divV (a b : Int) : Int := if b = 0 ∨ (Lib.bitLen a.toNat : Int) - Lib.bitLen b.toNat < 0 then 2 else 3 + ((Lib.bitLen a.toNat : Int) - Lib.bitLen b.toNat) / 4
theorem bitLen_u32 {x : Int} (h : x ≤ 4294967295) : Lib.bitLen x.toNat ≤ 32 := by
  by_cases h0 : x.toNat = 0
  · rw [h0]; unfold Lib.bitLen; rw [Lib.bitLenAux_zero]; omega
  · obtain ⟨h1, h2, _⟩ := Lib.bitLenAux_bounds 64 x.toNat (by omega) h0
    unfold Lib.bitLen
    rcases Nat.lt_or_ge 32 (Lib.bitLenAux 64 x.toNat) with hlt | hge
    · have := Nat.pow_le_pow_right (n := 2) (by omega) (show 32 ≤ Lib.bitLenAux 64 x.toNat - 1 by omega)
      omega
    · exact hge
theorem divV_bd {a b : Int} (ha : a ≤ 4294967295) : 2 ≤ divV a b ∧ divV a b ≤ 11 := by
  have := bitLen_u32 ha
  unfold divV
  split <;> omega

/-- rounds of a sum -/
def rndR (f : R → R) (wo : Nat) : Nat → Int → R → R
  | 0, _, r => r
  | n + 1, i, r => if r.fin then r else rndR f wo n (i + 1) (f { r with ws := r.ws.set wo i })
mutual
/-- a cost is reckoned -/
def oneR (wt : Int) : C → R → R
  | .mk k cy mi wo si a b l, r =>
    if r.fuel ≤ 0 then { r with e := 70 } else
    let r := { r with fuel := r.fuel - 1 }
    if k = 1 then r.add (cy + mi * wt)
    else if k = 2 then allR wt l r
    else if k = 3 then
      if (r.evl a).fin then r.evl a else if r.val a ≠ 0 then nthR wt l 0 (r.evl a) else nthR wt l 1 (r.evl a)
    else if k = 4 then
      if (r.evl a).fin then r.evl a else
        let r2 := (r.evl a).evl b
        let r3 := rndR (fun r => allR wt l r) wo.toNat (((r.evl a).val b) - r.val a).toNat (r.val a) r2
        { r3 with ws := r3.ws.set wo.toNat ((r2.ws[wo.toNat]?).getD 0) }
    else if k = 5 then
      if 0 < si ∧ ¬ (a.evalT r.ws).isSome = true then { r with trap := 2 }
      else if (0 < si ∧ r.val a < si) ∨ (si = 0 ∧ (a.evalT r.ws).isSome = true ∧ r.val a ≠ 0) then r
      else
        let r2 := allR wt l r
        if r2.fin then r2 else { r2 with trap := if 0 < si then 1 else 2 }
    else if k = 6 then
      if (r.evl a).fin then r.evl a else
        let r2 := (r.evl a).evl b
        if r2.fin then r2 else r2.add (divV (r.val a) ((r.evl a).val b) - 2)
    else r
def allR (wt : Int) : List C → R → R
  | [], r => r
  | c :: l, r => if r.fin then r else allR wt l (oneR wt c r)
def nthR (wt : Int) : List C → Nat → R → R
  | [], _, r => r
  | c :: _, 0, r => oneR wt c r
  | _ :: l, n + 1, r => nthR wt l n r
end

theorem len_pure (x : Int) (hx : 0 ≤ x ∧ x ≤ 4294967295) : PureF gT 33 [.int .u32 x] (.int .i64 (Lib.bitLen x.toNat)) :=
  PureF.of_same (entersT Try.func33 rfl (by kernel_rfl)) [.int .u32 x] (.int .i64 (Lib.bitLen x.toNat)) (fun w I β vals h => by
    obtain ⟨v, rfl, h1⟩ := isL1 h
    simp only [PV.Is] at h1; rw [h1]) (fun w I β => is_int ..) (fun w => (len_any x w hx.1 hx.2).mono fun e w' ⟨h1, h2⟩ => ⟨h1, h2.symm⟩)
theorem div_pure (a b : Int) (ha : 0 ≤ a ∧ a ≤ 4294967295) (hb : 0 ≤ b ∧ b ≤ 4294967295) : PureF gT 28 [.int .u32 a, .int .u32 b] (.int .i64 (divV a b)) := by
  have h1 := bitLen_u32 ha.2
  have h2 := bitLen_u32 hb.2
  refine Spec.enter gTok P28 100 Try.func28 rfl (by kernel_rfl) ?_
  refine ⟨[], nofun, (len_pure a ha).use (by repeat' first | exact trivial | exact rfl | exact Iff.rfl | exact Or.inl rfl | refine And.intro ?_ ?_) rfl rfl ?_⟩
  refine ⟨[], nofun, (len_pure b hb).use (by repeat' first | exact trivial | exact rfl | exact Iff.rfl | exact Or.inl rfl | refine And.intro ?_ ?_) rfl rfl ?_⟩
  refine .inl ⟨inR_i64 (by omega), ?_⟩
  refine And.intro (fun h => ?_) (fun h => And.intro (fun h3 => ?_) (fun h3 => ?_))
  · refine retE ?_
    exact (show (2 : Int) = divV a b by unfold divV; rw [if_pos (.inl h)])
  · refine retE ?_
    exact (show (2 : Int) = divV a b by unfold divV; rw [if_pos (.inr h3)])
  · refine ⟨by decide, .inl ⟨by omega, show (Lib.bitLen a.toNat : Int) - Lib.bitLen b.toNat ≤ 9223372036854775807 by omega, by decide, ?_⟩⟩
    refine .inl ⟨inR_i64 (by omega), ?_⟩
    refine retE ?_
    exact (show (3 : Int) + _ = divV a b by unfold divV; rw [if_neg (by omega)])

set_option maxRecDepth 10000 in
theorem divide_runs {c0 : C} {wt : Int} {r : R} (hr : r.Ok) (c : C) (ha : c.a.Wf) (hb : c.b.Wf) : Runs 25 [.ptr 2 0, cpv c] c0 wt r (.tup []) (if (r.evl c.a).fin then r.evl c.a else if ((r.evl c.a).evl c.b).fin then (r.evl c.a).evl c.b else ((r.evl c.a).evl c.b).add (divV (r.val c.a) ((r.evl c.a).val c.b) - 2)) := by
  refine Spec.leS (Spec.enter gTok P25 100 Try.func25 rfl (by kernel_rfl) ?_)
  refine ⟨[], nofun, (eval_runs hr c.a ha).go (by repeat' first | exact trivial | exact rfl | exact Iff.rfl | exact Or.inl rfl | refine And.intro ?_ ?_) rfl rfl ?_⟩
  refine ⟨[], nofun, ended_runs.go (by repeat' first | exact trivial | exact rfl | exact Iff.rfl | exact Or.inl rfl | refine And.intro ?_ ?_) rfl rfl ?_⟩
  refine And.intro (fun h => ?_) (fun h => ?_)
  · rw [if_pos h]
    (refine retS (by repeat' first | exact trivial | exact rfl | exact Iff.rfl | refine And.intro ?_ ?_) ?_; repeat' first | exact trivial | exact rfl | exact Iff.rfl | exact Or.inl rfl | refine And.intro ?_ ?_)
  rw [if_neg h]
  refine ⟨[], nofun, (eval_runs (hr.evl c.a) c.b hb).go (by repeat' first | exact trivial | exact rfl | exact Iff.rfl | exact Or.inl rfl | refine And.intro ?_ ?_) rfl rfl ?_⟩
  refine ⟨[], nofun, ended_runs.go (by repeat' first | exact trivial | exact rfl | exact Iff.rfl | exact Or.inl rfl | refine And.intro ?_ ?_) rfl rfl ?_⟩
  refine And.intro (fun h => ?_) (fun h => ?_)
  · rw [if_neg h]
    have h1 := hr.val ha
    have h2 := (hr.evl c.a).val hb
    have hd := divV_bd (b := (r.evl c.a).val c.b) h1.2
    refine ⟨[], nofun, (div_pure _ _ h1 h2).use (by repeat' first | exact trivial | exact rfl | exact Iff.rfl | exact Or.inl rfl | refine And.intro ?_ ?_) rfl rfl ?_⟩
    refine .inl ⟨inR_i64 (by omega), ?_⟩
    refine .inl ⟨inR_u64 (by omega), ?_⟩
    refine ⟨[], nofun, (add_runs ((hr.evl c.a).evl c.b) (divV (r.val c.a) ((r.evl c.a).val c.b) - 2) (by omega)).go (by repeat' first | exact trivial | exact rfl | exact Iff.rfl | exact Or.inl rfl | refine And.intro ?_ ?_) rfl rfl ?_⟩
    (refine retS (by repeat' first | exact trivial | exact rfl | exact Iff.rfl | refine And.intro ?_ ?_) ?_; repeat' first | exact trivial | exact rfl | exact Iff.rfl | exact Or.inl rfl | refine And.intro ?_ ?_)
  · rw [if_pos (Classical.not_not.1 h)]
    (refine retS (by repeat' first | exact trivial | exact rfl | exact Iff.rfl | refine And.intro ?_ ?_) ?_; repeat' first | exact trivial | exact rfl | exact Iff.rfl | exact Or.inl rfl | refine And.intro ?_ ?_)

set_option maxRecDepth 10000 in
theorem all_runs {c0 : C} {wt : Int} (l : List C) (hone : ∀ c ∈ l, ∀ r : R, r.Ok → Runs 16 [.ptr 2 0, cpv c] c0 wt r (.tup []) (oneR wt c r) ∧ (oneR wt c r).Ok) (r : R) (hr : r.Ok) :
    Runs 20 [.ptr 2 0, .sl 12 (l.map cpv)] c0 wt r (.tup []) (allR wt l r) := by
  refine Spec.leS (Spec.enter gTok P20 100 Try.func20 rfl (by kernel_rfl) ?_)
  intro hm
  rw [List.length_map] at hm
  obtain ⟨r1, hr1⟩ : ∃ r1, r1 = allR wt l r := ⟨_, rfl⟩
  rw [← hr1]
  refine SW.loopW gTok P20 (by kernel_rfl) (α := {p : Nat × R // p.2.Ok ∧ allR wt (l.drop p.1) p.2 = r1 ∧ p.1 ≤ l.length}) (fun x => [(8, .int .i64 x.1.1)]) (fun x => sR c0 wt x.1.2) (fun x => l.length - x.1.1) ⟨(0, r), hr, hr1.symm, Nat.zero_le _⟩ 60 [some 0, some 1, some 2] ?_ ?_
  · repeat' first | exact trivial | exact rfl | refine And.intro ?_ ?_
  rintro ⟨⟨i, q⟩, hq, hall, hi⟩
  dsimp only at hq hall hi
  have cons : ∀ {x : C}, l[i]? = some x → r1 = if q.fin then q else allR wt (l.drop (i + 1)) (oneR wt x q) := fun {x} hx => by
    obtain ⟨hlt, hx⟩ := List.getElem?_eq_some_iff.1 hx
    rw [← hall, List.drop_eq_getElem_cons hlt, hx, allR]
  refine And.intro (fun h => ?_) (fun h => ?_)
  · have hlt : i < l.length := by
      have h' : (i : Int) < ((l.map cpv).length : Nat) := h
      rw [List.length_map] at h'; omega
    refine ⟨C, l, cpv, rfl, show (0 : Int) ≤ (i : Int) by omega, show (i : Int) < (l.length : Int) by omega, fun x hx => ?_⟩
    have hx' : l[i]? = some x := hx
    refine ⟨[], nofun, ended_runs.go (by repeat' first | exact trivial | exact rfl | exact Iff.rfl | exact Or.inl rfl | refine And.intro ?_ ?_) rfl rfl ?_⟩
    refine And.intro (fun hf => ?_) (fun hf => ?_)
    · have e := cons hx'
      rw [if_pos hf] at e
      subst e
      (refine retS (by repeat' first | exact trivial | exact rfl | exact Iff.rfl | refine And.intro ?_ ?_) ?_; repeat' first | exact trivial | exact rfl | exact Iff.rfl | exact Or.inl rfl | refine And.intro ?_ ?_)
    · obtain ⟨h1, h2⟩ := hone x (List.mem_of_getElem? hx') q hq
      refine ⟨[], nofun, h1.go (by repeat' first | exact trivial | exact rfl | exact Iff.rfl | exact Or.inl rfl | refine And.intro ?_ ?_) rfl rfl ?_⟩
      unfold maxLen at hm
      refine .inl ⟨inR_i64 (show _ ≤ (i : Int) + 1 ∧ (i : Int) + 1 ≤ _ by omega), ⟨(i + 1, oneR wt x q), h2, by rw [cons hx', if_neg hf], hlt⟩, [some 0, some 1, some 2], show l.length - (i + 1) < l.length - i by omega, ?_⟩
      repeat' first | exact trivial | exact rfl | refine And.intro ?_ ?_
  · have hge : l.length ≤ i := by
      have h' : ¬ (i : Int) < ((l.map cpv).length : Nat) := h
      rw [List.length_map] at h'; omega
    have e : r1 = q := by rw [← hall, List.drop_of_length_le hge, allR]
    subst e
    (refine retS (by repeat' first | exact trivial | exact rfl | exact Iff.rfl | refine And.intro ?_ ?_) ?_; repeat' first | exact trivial | exact rfl | exact Iff.rfl | exact Or.inl rfl | refine And.intro ?_ ?_)

end Go.Proofs.Ytnjmfedleimlmaa.Pw

/- Chapter 21 over values: which costs may be; stop, rounds. -/
namespace Go.Proofs.Ytnjmfedleimlmaa.Pw
open Go Go.RowKit

def wtnB (n lo hi : Int) (t : Bool) : Bool := if t then decide (lo ≤ n ∧ n ≤ hi) else decide (n = 0)
def lowT : T → Bool
  | .leaf o n => decide (o ≠ 2 ∨ n < 254)
  | .one o n a => decide (o ≠ 2 ∨ n < 254) && lowT a
  | .two o n a b => decide (o ≠ 2 ∨ n < 254) && (lowT a && lowT b)
def termB (t : T) (there : Bool) : Bool := if there then t.shaped && lowT t else decide (t.op = 0 ∧ t.num = 0 ∧ t.kids = 0)
def leastN (k : Int) : Int := if k = 3 then 2 else if k = 4 ∨ k = 5 then 1 else 0
def mostN (k : Int) : Int := if k = 2 then 2147483647 else if k = 3 then 2 else if k = 4 ∨ k = 5 then 1 else 0
def numsB (k cy mi wo si : Int) : Bool := wtnB cy 0 2147483647 (decide (k = 1)) && (wtnB mi 0 2147483647 (decide (k = 1)) && (wtnB wo 4 253 (decide (k = 4)) && wtnB si 0 1024 (decide (k = 5))))
mutual
/-- a cost's nodes may be -/
def shC : C → Bool
  | .mk k cy mi wo si a b l => decide (1 ≤ k ∧ k ≤ 6) && (numsB k cy mi wo si && (decide (leastN k ≤ (l.length : Nat) ∧ ((l.length : Nat) : Int) ≤ mostN k) && (termB a (decide (3 ≤ k)) && (termB b (decide (k = 4 ∨ k = 6)) && shL l))))
def shL : List C → Bool
  | [] => true
  | c :: l => shC c && shL l
end
mutual
def C.Wf : C → Prop
  | .mk _ _ _ _ _ a b l => a.Wf ∧ b.Wf ∧ wfL l
def wfL : List C → Prop
  | [] => True
  | c :: l => c.Wf ∧ wfL l
end
theorem shL_all : ∀ {l : List C}, shL l = true → ∀ c ∈ l, shC c = true
  | c :: l, h, x, hx => by
    simp only [shL, Bool.and_eq_true] at h
    rcases List.mem_cons.1 hx with rfl | hx
    · exact h.1
    · exact shL_all h.2 x hx
theorem wfL_all : ∀ {l : List C}, wfL l → ∀ c ∈ l, c.Wf
  | c :: l, h, x, hx => by
    simp only [wfL] at h
    rcases List.mem_cons.1 hx with rfl | hx
    · exact h.1
    · exact wfL_all h.2 x hx

theorem wordsP_set (ws : List Int) (n : Nat) (v : Int) : (wordsP ws).set n (.int .u32 v) = wordsP (ws.set n v) := by unfold wordsP; rw [List.map_set]
namespace R
def fuelMore (r : R) : R := { r with fuel := r.fuel - 1 }
theorem Ok.trap {r : R} (h : r.Ok) (t : Int) : ({ r with trap := t } : R).Ok := ⟨h.len, h.ws, h.fuel, h.sum⟩
theorem Ok.err {r : R} (h : r.Ok) (t : Int) : ({ r with e := t } : R).Ok := ⟨h.len, h.ws, h.fuel, h.sum⟩
theorem Ok.set {r : R} (h : r.Ok) (n : Nat) {v : Int} (hv : 0 ≤ v ∧ v ≤ 4294967295) : ({ r with ws := r.ws.set n v } : R).Ok := ⟨by simp [h.len], fun x hx => by
  rcases List.mem_or_eq_of_mem_set hx with hx | rfl
  · exact h.ws x hx
  · exact hv, h.fuel, h.sum⟩
end R
theorem Runs.use {f : FuncId} {args args' : List PV} {c0 : C} {wt : Int} {r r' : R} {res : PV} {st : List PBlk} {K : PV → List PBlk → Prop} (h : Runs f args' c0 wt r res r') (hle : leL leK args args') (hu : (usesL args').all (fun l => Nat.blt l 3) = true) (hr0 : res.uses.all (fun l => Nat.blt l 3) = true)
    (hK : stLe st (sR c0 wt r) fun T => frBB (sR c0 wt r') fun S1 => appK S1 T (K res)) : Spec gT f args st [] K := Spec.useS h rfl rfl hu hr0 hle hK

/-- a stop -/
def stopR (wt : Int) (c : C) (r : R) : R :=
  if 0 < c.size ∧ ¬ (c.a.evalT r.ws).isSome = true then { r with trap := 2 }
  else if (0 < c.size ∧ r.val c.a < c.size) ∨ (c.size = 0 ∧ (c.a.evalT r.ws).isSome = true ∧ r.val c.a ≠ 0) then r
  else if (allR wt c.l r).fin then allR wt c.l r else { allR wt c.l r with trap := if 0 < c.size then 1 else 2 }
def AllRuns (c0 : C) (wt : Int) (c : C) : Prop := ∀ r : R, r.Ok → Runs 20 [.ptr 2 0, .sl 12 (kidsC c)] c0 wt r (.tup []) (allR wt c.l r) ∧ (allR wt c.l r).Ok

set_option maxRecDepth 10000 in
theorem stop_runs {c0 : C} {wt : Int} (c : C) (ha : c.a.Wf) (hs : 0 ≤ c.size ∧ c.size ≤ 1024) (hall : AllRuns c0 wt c) {r : R} (hr : r.Ok) : Runs 24 [.ptr 2 0, cpv c] c0 wt r (.tup []) (stopR wt c r) := by
  have hv := hr.val ha
  refine Spec.leS (Spec.enter gTok P24 100 Try.func24 rfl (by kernel_rfl) ?_)
  refine ⟨[], nofun, (eval_pure r.ws hr.words c.a ha).useB [1] (by repeat' first | exact trivial | exact rfl | exact Iff.rfl | exact Or.inl rfl | refine And.intro ?_ ?_) rfl rfl ?_⟩
  unfold stopR
  unfold R.val at hv ⊢
  generalize c.a.evalT r.ws = o at hv ⊢
  refine And.intro (fun h1 => And.intro (fun h2 => ?_) (fun h2 => ?_)) (fun h1 => ?_)
  · rw [if_pos ⟨h1, h2⟩]
    (refine retS (by repeat' first | exact trivial | exact rfl | exact Iff.rfl | refine And.intro ?_ ?_) ?_; repeat' first | exact trivial | exact rfl | exact Iff.rfl | exact Or.inl rfl | refine And.intro ?_ ?_)
  · rw [if_neg (fun h => h2 h.2)]
    refine And.intro (fun h3 => ?_) (fun h3 => absurd h1 h3)
    refine .inl ⟨inR_u32 (by omega), ?_⟩
    refine And.intro (fun h4 => ?_) (fun h4 => ?_)
    · rw [if_pos (.inl ⟨h1, h4⟩)]
      (refine retS (by repeat' first | exact trivial | exact rfl | exact Iff.rfl | refine And.intro ?_ ?_) ?_; repeat' first | exact trivial | exact rfl | exact Iff.rfl | exact Or.inl rfl | refine And.intro ?_ ?_)
    · refine And.intro (fun h5 => ?_) (fun h5 => ?_)
      · exact absurd h1 (by omega)
      rw [if_neg (fun h => h.elim (fun h => h4 h.2) (fun h => h5 h.1))]
      refine ⟨[], nofun, (hall r hr).1.go (by repeat' first | exact trivial | exact rfl | exact Iff.rfl | exact Or.inl rfl | refine And.intro ?_ ?_) rfl rfl ?_⟩
      refine ⟨[], nofun, ended_runs.go (by repeat' first | exact trivial | exact rfl | exact Iff.rfl | exact Or.inl rfl | refine And.intro ?_ ?_) rfl rfl ?_⟩
      refine And.intro (fun hf => ?_) (fun hf => And.intro (fun h6 => ?_) (fun h6 => ?_))
      · rw [if_pos hf]
        (refine retS (by repeat' first | exact trivial | exact rfl | exact Iff.rfl | refine And.intro ?_ ?_) ?_; repeat' first | exact trivial | exact rfl | exact Iff.rfl | exact Or.inl rfl | refine And.intro ?_ ?_)
      · rw [if_neg hf, if_pos h1]
        (refine retS (by repeat' first | exact trivial | exact rfl | exact Iff.rfl | refine And.intro ?_ ?_) ?_; repeat' first | exact trivial | exact rfl | exact Iff.rfl | exact Or.inl rfl | refine And.intro ?_ ?_)
      · exact absurd h1 h6
  · rw [if_neg (fun h => h1 h.1)]
    have h0 : c.size = 0 := by omega
    refine And.intro (fun h3 => absurd h3 h1) (fun h3 => And.intro (fun h5 => And.intro (fun h6 => And.intro (fun h7 => ?_) (fun h7 => ?_)) (fun h6 => ?_)) (fun h5 => absurd h0 h5))
    · rw [if_pos (.inr ⟨h0, h6, h7⟩)]
      (refine retS (by repeat' first | exact trivial | exact rfl | exact Iff.rfl | refine And.intro ?_ ?_) ?_; repeat' first | exact trivial | exact rfl | exact Iff.rfl | exact Or.inl rfl | refine And.intro ?_ ?_)
    · rw [if_neg (fun h => h.elim (fun h => h1 h.1) (fun h => h7 h.2.2))]
      refine ⟨[], nofun, (hall r hr).1.go (by repeat' first | exact trivial | exact rfl | exact Iff.rfl | exact Or.inl rfl | refine And.intro ?_ ?_) rfl rfl ?_⟩
      refine ⟨[], nofun, ended_runs.go (by repeat' first | exact trivial | exact rfl | exact Iff.rfl | exact Or.inl rfl | refine And.intro ?_ ?_) rfl rfl ?_⟩
      refine And.intro (fun hf => ?_) (fun hf => And.intro (fun h6 => absurd h6 h1) (fun h6 => ?_))
      · rw [if_pos hf]
        (refine retS (by repeat' first | exact trivial | exact rfl | exact Iff.rfl | refine And.intro ?_ ?_) ?_; repeat' first | exact trivial | exact rfl | exact Iff.rfl | exact Or.inl rfl | refine And.intro ?_ ?_)
      · rw [if_neg hf, if_neg h1]
        (refine retS (by repeat' first | exact trivial | exact rfl | exact Iff.rfl | refine And.intro ?_ ?_) ?_; repeat' first | exact trivial | exact rfl | exact Iff.rfl | exact Or.inl rfl | refine And.intro ?_ ?_)
    · rw [if_neg (fun h => h.elim (fun h => h1 h.1) (fun h => h6 h.2.1))]
      refine ⟨[], nofun, (hall r hr).1.go (by repeat' first | exact trivial | exact rfl | exact Iff.rfl | exact Or.inl rfl | refine And.intro ?_ ?_) rfl rfl ?_⟩
      refine ⟨[], nofun, ended_runs.go (by repeat' first | exact trivial | exact rfl | exact Iff.rfl | exact Or.inl rfl | refine And.intro ?_ ?_) rfl rfl ?_⟩
      refine And.intro (fun hf => ?_) (fun hf => And.intro (fun h6 => absurd h6 h1) (fun h6 => ?_))
      · rw [if_pos hf]
        (refine retS (by repeat' first | exact trivial | exact rfl | exact Iff.rfl | refine And.intro ?_ ?_) ?_; repeat' first | exact trivial | exact rfl | exact Iff.rfl | exact Or.inl rfl | refine And.intro ?_ ?_)
      · rw [if_neg hf, if_neg h1]
        (refine retS (by repeat' first | exact trivial | exact rfl | exact Iff.rfl | refine And.intro ?_ ?_) ?_; repeat' first | exact trivial | exact rfl | exact Iff.rfl | exact Or.inl rfl | refine And.intro ?_ ?_)

/-- rounds -/
def R.put (r : R) (n : Nat) (v : Int) : R := { r with ws := r.ws.set n v }
def roundsR (wt : Int) (c : C) (r : R) : R :=
  if (r.evl c.a).fin then r.evl c.a else (rndR (fun r => allR wt c.l r) c.word.toNat (((r.evl c.a).val c.b) - r.val c.a).toNat (r.val c.a) ((r.evl c.a).evl c.b)).put c.word.toNat ((((r.evl c.a).evl c.b).ws[c.word.toNat]?).getD 0)

set_option maxRecDepth 10000 in
theorem rounds_runs {c0 : C} {wt : Int} (c : C) (ha : c.a.Wf) (hb : c.b.Wf) (hs : 4 ≤ c.word ∧ c.word ≤ 253) (hall : AllRuns c0 wt c) {r : R} (hr : r.Ok) : Runs 23 [.ptr 2 0, cpv c] c0 wt r (.tup []) (roundsR wt c r) := by
  refine Spec.leS (Spec.enter gTok P23 100 Try.func23 rfl (by kernel_rfl) ?_)
  unfold roundsR
  refine ⟨[], nofun, (eval_runs hr c.a ha).go (by repeat' first | exact trivial | exact rfl | exact Iff.rfl | exact Or.inl rfl | refine And.intro ?_ ?_) rfl rfl ?_⟩
  refine ⟨[], nofun, ended_runs.go (by repeat' first | exact trivial | exact rfl | exact Iff.rfl | exact Or.inl rfl | refine And.intro ?_ ?_) rfl rfl ?_⟩
  refine And.intro (fun hf => ?_) (fun hf => ?_)
  · rw [if_pos hf]
    (refine retS (by repeat' first | exact trivial | exact rfl | exact Iff.rfl | refine And.intro ?_ ?_) ?_; repeat' first | exact trivial | exact rfl | exact Iff.rfl | exact Or.inl rfl | refine And.intro ?_ ?_)
  rw [if_neg hf]
  have h1 := hr.val ha
  have hr1 := hr.evl c.a
  have h2 := hr1.val hb
  refine ⟨[], nofun, (eval_runs hr1 c.b hb).go (by repeat' first | exact trivial | exact rfl | exact Iff.rfl | exact Or.inl rfl | refine And.intro ?_ ?_) rfl rfl ?_⟩
  have hr2 := hr1.evl c.b
  have hlen := hr2.len
  generalize ((r.evl c.a).val c.b) = hi at h2 ⊢
  generalize r.val c.a = lo at h1 ⊢
  generalize (r.evl c.a).evl c.b = r2 at hr2 hlen ⊢
  refine ⟨by omega, show c.word < ((wordsP r2.ws).length : Nat) by rw [wordsP, List.length_map]; omega, ?_⟩
  refine ⟨Int, r2.ws, PV.int .u32, rfl, by omega, fun was hwas => ?_⟩
  rw [hwas]
  have hwb := hr2.ws was (List.mem_of_getElem? hwas)
  obtain ⟨r1, hr1⟩ : ∃ q, q = rndR (fun r => allR wt c.l r) c.word.toNat (hi - lo).toNat lo r2 := ⟨_, rfl⟩
  rw [← hr1]
  have e1 : Option.getD (some was) 0 = was := rfl
  rw [e1]
  refine SW.loopW gTok P23 (by kernel_rfl) (α := {p : Int × R // p.2.Ok ∧ rndR (fun r => allR wt c.l r) c.word.toNat (hi - p.1).toNat p.1 p.2 = r1 ∧ 0 ≤ p.1 ∧ p.1 ≤ 4294967295}) (fun x => [(7, .int .u32 x.1.1)]) (fun x => sR c0 wt x.1.2 ++ [xB c]) (fun x => (hi - x.1.1).toNat) ⟨(lo, r2), hr2, hr1.symm, h1⟩ 60 [some 0, some 1, some 2, some 3] ?_ ?_
  · repeat' first | exact trivial | exact rfl | refine And.intro ?_ ?_
  rintro ⟨⟨i, q⟩, hq, hall2, hi0, hi1⟩
  dsimp only at hq hall2 hi0 hi1
  have hql := hq.len
  have fin_ : r1 = q → leSt [xB c0, ⟨.dyn, 24, 1, .w, true, (wordsP q.ws).set c.word.toNat (.int .u32 was)⟩, rB wt q] (sR c0 wt (r1.put c.word.toNat was)) := fun e => by
    subst e
    refine ⟨(by repeat' first | exact trivial | exact rfl | exact Iff.rfl | exact Or.inl rfl | refine And.intro ?_ ?_), wordsP_set .., (by repeat' first | exact trivial | exact rfl | exact Iff.rfl | exact Or.inl rfl | refine And.intro ?_ ?_)⟩
  refine And.intro (fun h => ?_) (fun h => ?_)
  · have h' : i < hi := h
    have step : r1 = if q.fin then q else rndR (fun r => allR wt c.l r) c.word.toNat (hi - (i + 1)).toNat (i + 1) (allR wt c.l (q.put c.word.toNat i)) := by
      rw [← hall2, show (hi - i).toNat = (hi - (i + 1)).toNat + 1 by omega, rndR]; rfl
    refine ⟨[], nofun, ended_runs.go (by repeat' first | exact trivial | exact rfl | exact Iff.rfl | exact Or.inl rfl | refine And.intro ?_ ?_) rfl rfl ?_⟩
    refine And.intro (fun hf => ?_) (fun hf => ?_)
    · rw [if_neg hf] at step
      refine ⟨by omega, show c.word < ((wordsP q.ws).length : Nat) by rw [wordsP, List.length_map]; omega, show c.word.toNat < (wordsP q.ws).length by rw [wordsP, List.length_map]; omega, ?_⟩
      obtain ⟨k1, k2⟩ := hall (q.put c.word.toNat i) (hq.set _ ⟨hi0, hi1⟩)
      refine ⟨[], nofun, k1.use (by repeat' first | exact trivial | exact rfl | exact Iff.rfl | exact Or.inl rfl | refine And.intro ?_ ?_) rfl rfl ?_⟩
      refine And.intro (by repeat' first | exact trivial | exact rfl | exact Iff.rfl | exact Or.inl rfl | refine And.intro ?_ ?_) (And.intro (wordsP_set ..) (And.intro (by repeat' first | exact trivial | exact rfl | exact Iff.rfl | exact Or.inl rfl | refine And.intro ?_ ?_) ?_))
      refine .inl ⟨inR_u32 (show 0 ≤ i + 1 ∧ i + 1 ≤ 4294967295 by omega), ⟨(i + 1, allR wt c.l (q.put c.word.toNat i)), k2, step.symm, show 0 ≤ i + 1 by omega, show i + 1 ≤ 4294967295 by omega⟩, [some 0, some 1, some 2, some 3], show (hi - (i + 1)).toNat < (hi - i).toNat by omega, ?_⟩
      repeat' first | exact trivial | exact rfl | refine And.intro ?_ ?_
    · rw [if_pos (Classical.not_not.1 hf)] at step
      refine ⟨by omega, show c.word < ((wordsP q.ws).length : Nat) by rw [wordsP, List.length_map]; omega, show c.word.toNat < (wordsP q.ws).length by rw [wordsP, List.length_map]; omega, ?_⟩
      exact retS (by repeat' first | exact trivial | exact rfl | exact Iff.rfl | exact Or.inl rfl | refine And.intro ?_ ?_) (fin_ step)
  · have h' : ¬ i < hi := h
    have step : r1 = q := by rw [← hall2, show (hi - i).toNat = 0 by omega, rndR]
    refine ⟨by omega, show c.word < ((wordsP q.ws).length : Nat) by rw [wordsP, List.length_map]; omega, show c.word.toNat < (wordsP q.ws).length by rw [wordsP, List.length_map]; omega, ?_⟩
    exact retS (by repeat' first | exact trivial | exact rfl | exact Iff.rfl | exact Or.inl rfl | refine And.intro ?_ ?_) (fin_ step)

end Go.Proofs.Ytnjmfedleimlmaa.Pw

/- Chapter 21 over values: a cost is reckoned; Eval. -/
namespace Go.Proofs.Ytnjmfedleimlmaa.Pw
open Go Go.RowKit

theorem C.ind' {p : C → Prop} (h : ∀ c : C, (∀ x ∈ c.l, p x) → p c) : ∀ c, p c := C.ind fun k cy mi wo si a b l ih => h (.mk k cy mi wo si a b l) ih
theorem shC_iff (c : C) : shC c = true ↔ (1 ≤ c.kind ∧ c.kind ≤ 6) ∧ numsB c.kind c.cyc c.mis c.word c.size = true ∧ (leastN c.kind ≤ (c.l.length : Nat) ∧ ((c.l.length : Nat) : Int) ≤ mostN c.kind) ∧ termB c.a (decide (3 ≤ c.kind)) = true ∧ termB c.b (decide (c.kind = 4 ∨ c.kind = 6)) = true ∧ shL c.l = true := by
  cases c with
  | mk k cy mi wo si a b l => simp only [shC, Bool.and_eq_true, decide_eq_true_eq, C.kind, C.cyc, C.mis, C.word, C.size, C.a, C.b, C.l]; exact Iff.rfl
theorem C.wf_iff (c : C) : c.Wf ↔ c.a.Wf ∧ c.b.Wf ∧ wfL c.l := by cases c; rfl
theorem wtnB_in {n lo hi : Int} (h : wtnB n lo hi true = true) : lo ≤ n ∧ n ≤ hi := by simpa [wtnB] using h
theorem wtnB_out {n lo hi : Int} (h : wtnB n lo hi false = true) : n = 0 := by simpa [wtnB] using h
structure Nums (c : C) : Prop where
  cyc : 0 ≤ c.cyc ∧ c.cyc ≤ 2147483647
  mis : 0 ≤ c.mis ∧ c.mis ≤ 2147483647
  word : c.kind = 4 → 4 ≤ c.word ∧ c.word ≤ 253
  size : 0 ≤ c.size ∧ c.size ≤ 1024
theorem wtnB_or {n lo hi : Int} {t : Bool} (h0 : lo ≤ 0) (h1 : 0 ≤ hi) (h : wtnB n lo hi t = true) : lo ≤ n ∧ n ≤ hi := by
  cases t with
  | true => exact wtnB_in h
  | false => rw [wtnB_out h]; exact ⟨h0, h1⟩
theorem nums_of {c : C} (h : numsB c.kind c.cyc c.mis c.word c.size = true) : Nums c := by
  simp only [numsB, Bool.and_eq_true] at h
  obtain ⟨h1, h2, h3, h4⟩ := h
  refine ⟨wtnB_or (by omega) (by omega) h1, wtnB_or (by omega) (by omega) h2, fun hk => ?_, wtnB_or (by omega) (by omega) h4⟩
  rw [decide_eq_true hk] at h3
  exact wtnB_in h3

def condR (wt : Int) (c : C) (r : R) : R := if (r.evl c.a).fin then r.evl c.a else if r.val c.a ≠ 0 then nthR wt c.l 0 (r.evl c.a) else nthR wt c.l 1 (r.evl c.a)
def divR (c : C) (r : R) : R := if (r.evl c.a).fin then r.evl c.a else if ((r.evl c.a).evl c.b).fin then (r.evl c.a).evl c.b else ((r.evl c.a).evl c.b).add (divV (r.val c.a) ((r.evl c.a).val c.b) - 2)
theorem oneR_eq (wt : Int) (c : C) (r : R) : oneR wt c r = if r.fuel ≤ 0 then { r with e := 70 } else if c.kind = 1 then r.fuelMore.add (c.cyc + c.mis * wt) else if c.kind = 2 then allR wt c.l r.fuelMore else if c.kind = 3 then condR wt c r.fuelMore
    else if c.kind = 4 then roundsR wt c r.fuelMore else if c.kind = 5 then stopR wt c r.fuelMore else if c.kind = 6 then divR c r.fuelMore else r.fuelMore := by cases c; rfl
theorem nthR_eq (wt : Int) : ∀ {l : List C} {n : Nat} {x : C} (r : R), l[n]? = some x → nthR wt l n r = oneR wt x r
  | c :: l, 0, x, r, h => by simp at h; subst h; rw [nthR]
  | c :: l, n + 1, x, r, h => by rw [nthR]; exact nthR_eq wt r (by simpa using h)
theorem allR_ok {wt : Int} : ∀ {l : List C}, (∀ c ∈ l, ∀ r : R, r.Ok → (oneR wt c r).Ok) → ∀ r : R, r.Ok → (allR wt l r).Ok
  | [], _, r, hr => by rw [allR]; exact hr
  | c :: l, h, r, hr => by
    rw [allR]
    split
    · exact hr
    · exact allR_ok (fun x hx => h x (by simp [hx])) _ (h c (by simp) r hr)
theorem rndR_ok {f : R → R} (hf : ∀ r : R, r.Ok → (f r).Ok) {wo : Nat} : ∀ (n : Nat) (i : Int) (r : R), 0 ≤ i → i + n ≤ 4294967296 → r.Ok → (rndR f wo n i r).Ok
  | 0, i, r, _, _, hr => by rw [rndR]; exact hr
  | n + 1, i, r, h0, h1, hr => by
    rw [rndR]
    split
    · exact hr
    · exact rndR_ok hf n (i + 1) _ (by omega) (by omega) (hf _ (hr.set wo ⟨h0, by omega⟩))
theorem R.Ok.fuelMore {r : R} (h : r.Ok) (h0 : ¬ r.fuel ≤ 0) : r.fuelMore.Ok := ⟨h.len, h.ws, by have := h.fuel; simp only [R.fuelMore]; omega, h.sum⟩
theorem getD_bd {ws : List Int} (h : ∀ v ∈ ws, 0 ≤ v ∧ v ≤ 4294967295) (n : Nat) : 0 ≤ (ws[n]?).getD 0 ∧ (ws[n]?).getD 0 ≤ 4294967295 := by
  cases hv : ws[n]? with
  | none => simp
  | some v => exact h v (List.mem_of_getElem? hv)
theorem oneR_ok {wt : Int} (hwt : 0 ≤ wt ∧ wt ≤ 7) : ∀ c : C, c.Wf → shC c = true → ∀ r : R, r.Ok → (oneR wt c r).Ok := C.ind' fun c ih hw hs r hr => by
  obtain ⟨hk, hn, hl, hta, htb, hsl⟩ := (shC_iff c).1 hs
  obtain ⟨ha, hb, hwl⟩ := (C.wf_iff c).1 hw
  have N := nums_of hn
  have hone : ∀ x ∈ c.l, ∀ r : R, r.Ok → (oneR wt x r).Ok := fun x hx => ih x hx (wfL_all hwl x hx) (shL_all hsl x hx)
  rw [oneR_eq]
  split
  · exact hr.err 70
  rename_i hf
  have hr1 := hr.fuelMore hf
  split
  · refine hr1.add ?_
    have := Int.mul_nonneg N.mis.1 hwt.1
    have := N.cyc.1
    omega
  split
  · exact allR_ok hone _ hr1
  split
  · unfold condR
    have nth : ∀ n (r : R), r.Ok → (nthR wt c.l n r).Ok := fun n r hr => by
      cases hx : c.l[n]? with
      | some x => rw [nthR_eq wt r hx]; exact hone x (List.mem_of_getElem? hx) r hr
      | none =>
        have key : ∀ (l : List C) (n : Nat), l[n]? = none → nthR wt l n r = r := fun l => by
          induction l with
          | nil => intro n _; rw [nthR]
          | cons c l ih => intro n h; cases n with
            | zero => simp at h
            | succ n => rw [nthR]; exact ih n (by simpa using h)
        rw [key _ _ hx]; exact hr
    split
    · exact hr1.evl _
    split
    · exact nth 0 _ (hr1.evl _)
    · exact nth 1 _ (hr1.evl _)
  split
  · unfold roundsR
    split
    · exact hr1.evl _
    · have b1 := hr1.val ha
      have b2 := (hr1.evl c.a).val hb
      exact (rndR_ok (fun r hr => allR_ok hone r hr) _ _ _ b1.1 (by omega) ((hr1.evl c.a).evl c.b)).set _ (getD_bd ((hr1.evl c.a).evl c.b).ws _)
  split
  · unfold stopR
    split
    · exact hr1.trap 2
    split
    · exact hr1
    split
    · exact allR_ok hone _ hr1
    · exact (allR_ok hone _ hr1).trap _
  split
  · unfold divR
    split
    · exact hr1.evl _
    split
    · exact (hr1.evl _).evl _
    · have := divV_bd (b := (r.fuelMore.evl c.a).val c.b) (hr1.val ha).2
      exact ((hr1.evl _).evl _).add (by omega)
  · exact hr1

set_option maxRecDepth 10000 in
theorem one_runs {c0 : C} {wt : Int} (hwt : 0 ≤ wt ∧ wt ≤ 7) : ∀ c : C, c.Wf → shC c = true → ∀ r : R, r.Ok → Runs 16 [.ptr 2 0, cpv c] c0 wt r (.tup []) (oneR wt c r) := C.ind' fun c ih hw hs r hr => by
  obtain ⟨hk, hn, hl, hta, htb, hsl⟩ := (shC_iff c).1 hs
  obtain ⟨ha, hb, hwl⟩ := (C.wf_iff c).1 hw
  have N := nums_of hn
  have hone : ∀ x ∈ c.l, ∀ r : R, r.Ok → Runs 16 [.ptr 2 0, cpv x] c0 wt r (.tup []) (oneR wt x r) ∧ (oneR wt x r).Ok := fun x hx r hr => ⟨ih x hx (wfL_all hwl x hx) (shL_all hsl x hx) r hr, oneR_ok hwt x (wfL_all hwl x hx) (shL_all hsl x hx) r hr⟩
  have hall : AllRuns c0 wt c := fun r hr => ⟨by rw [kidsC_eq]; exact all_runs c.l hone r hr, allR_ok (fun x hx r hr => (hone x hx r hr).2) r hr⟩
  rw [oneR_eq]
  refine Spec.leS (Spec.enter gTok P16 100 Try.func16 rfl (by kernel_rfl) ?_)
  refine And.intro (fun h0 => ?_) (fun h0 => ?_)
  · rw [if_pos h0]
    (refine retS (by repeat' first | exact trivial | exact rfl | exact Iff.rfl | refine And.intro ?_ ?_) ?_; repeat' first | exact trivial | exact rfl | exact Iff.rfl | exact Or.inl rfl | refine And.intro ?_ ?_)
  rw [if_neg h0]
  have hfu := hr.fuel
  have hr1 := hr.fuelMore h0
  refine .inl ⟨inR_i64 (by omega), ?_⟩
  refine And.intro (fun h1 => ?_) (fun h1 => And.intro (fun h2 => ?_) (fun h2 => And.intro (fun h3 => ?_) (fun h3 => And.intro (fun h4 => ?_) (fun h4 => And.intro (fun h5 => ?_) (fun h5 => And.intro (fun h6 => ?_) (fun h6 => ?_))))))
  · rw [if_pos h1]
    have hm := Int.mul_le_mul N.mis.2 hwt.2 hwt.1 (by omega)
    have hm0 := Int.mul_nonneg N.mis.1 hwt.1
    have c1 := N.cyc
    have m1 := N.mis
    refine .inl ⟨inR_u64 (by omega), .inl ⟨inR_u64 (by omega), .inl ⟨inR_u64 (by omega), .inl ⟨inR_u64 (by omega), .inl ⟨inR_u64 (by omega), ?_⟩⟩⟩⟩⟩
    refine ⟨[], nofun, (add_runs hr1 (c.cyc + c.mis * wt) (by omega)).go (by repeat' first | exact trivial | exact rfl | exact Iff.rfl | exact Or.inl rfl | refine And.intro ?_ ?_) rfl rfl ?_⟩
    (refine retS (by repeat' first | exact trivial | exact rfl | exact Iff.rfl | refine And.intro ?_ ?_) ?_; repeat' first | exact trivial | exact rfl | exact Iff.rfl | exact Or.inl rfl | refine And.intro ?_ ?_)
  · rw [if_neg h1, if_pos h2]
    refine ⟨[], nofun, (hall _ hr1).1.go (by repeat' first | exact trivial | exact rfl | exact Iff.rfl | exact Or.inl rfl | refine And.intro ?_ ?_) rfl rfl ?_⟩
    (refine retS (by repeat' first | exact trivial | exact rfl | exact Iff.rfl | refine And.intro ?_ ?_) ?_; repeat' first | exact trivial | exact rfl | exact Iff.rfl | exact Or.inl rfl | refine And.intro ?_ ?_)
  · rw [if_neg h1, if_neg h2, if_pos h3]
    have hlen : c.l.length = 2 := by
      have h7 := hl
      rw [h3] at h7
      have e1 : leastN 3 = 2 := by decide
      have e2 : mostN 3 = 2 := by decide
      omega
    unfold condR
    refine ⟨[], nofun, (eval_runs hr1 c.a ha).go (by repeat' first | exact trivial | exact rfl | exact Iff.rfl | exact Or.inl rfl | refine And.intro ?_ ?_) rfl rfl ?_⟩
    refine ⟨[], nofun, ended_runs.go (by repeat' first | exact trivial | exact rfl | exact Iff.rfl | exact Or.inl rfl | refine And.intro ?_ ?_) rfl rfl ?_⟩
    refine And.intro (fun hf => ?_) (fun hf => ?_)
    · rw [if_pos hf]
      (refine retS (by repeat' first | exact trivial | exact rfl | exact Iff.rfl | refine And.intro ?_ ?_) ?_; repeat' first | exact trivial | exact rfl | exact Iff.rfl | exact Or.inl rfl | refine And.intro ?_ ?_)
    rw [if_neg hf]
    refine And.intro (fun hv => ?_) (fun hv => ?_)
    · rw [if_pos hv]
      refine ⟨C, c.l, cpv, kidsC_eq c, by decide, show (0 : Int) < (c.l.length : Int) by omega, fun x hx => ?_⟩
      have hx' : c.l[0]? = some x := hx
      rw [nthR_eq wt _ hx']
      refine ⟨[], nofun, (hone x (List.mem_of_getElem? hx') _ (hr1.evl _)).1.go (by repeat' first | exact trivial | exact rfl | exact Iff.rfl | exact Or.inl rfl | refine And.intro ?_ ?_) rfl rfl ?_⟩
      (refine retS (by repeat' first | exact trivial | exact rfl | exact Iff.rfl | refine And.intro ?_ ?_) ?_; repeat' first | exact trivial | exact rfl | exact Iff.rfl | exact Or.inl rfl | refine And.intro ?_ ?_)
    · rw [if_neg hv]
      refine ⟨C, c.l, cpv, kidsC_eq c, by decide, show (1 : Int) < (c.l.length : Int) by omega, fun x hx => ?_⟩
      have hx' : c.l[1]? = some x := hx
      rw [nthR_eq wt _ hx']
      refine ⟨[], nofun, (hone x (List.mem_of_getElem? hx') _ (hr1.evl _)).1.go (by repeat' first | exact trivial | exact rfl | exact Iff.rfl | exact Or.inl rfl | refine And.intro ?_ ?_) rfl rfl ?_⟩
      (refine retS (by repeat' first | exact trivial | exact rfl | exact Iff.rfl | refine And.intro ?_ ?_) ?_; repeat' first | exact trivial | exact rfl | exact Iff.rfl | exact Or.inl rfl | refine And.intro ?_ ?_)
  · rw [if_neg h1, if_neg h2, if_neg h3, if_pos h4]
    refine ⟨[], nofun, (rounds_runs c ha hb (N.word h4) hall hr1).go (by repeat' first | exact trivial | exact rfl | exact Iff.rfl | exact Or.inl rfl | refine And.intro ?_ ?_) rfl rfl ?_⟩
    (refine retS (by repeat' first | exact trivial | exact rfl | exact Iff.rfl | refine And.intro ?_ ?_) ?_; repeat' first | exact trivial | exact rfl | exact Iff.rfl | exact Or.inl rfl | refine And.intro ?_ ?_)
  · rw [if_neg h1, if_neg h2, if_neg h3, if_neg h4, if_pos h5]
    refine ⟨[], nofun, (stop_runs c ha N.size hall hr1).go (by repeat' first | exact trivial | exact rfl | exact Iff.rfl | exact Or.inl rfl | refine And.intro ?_ ?_) rfl rfl ?_⟩
    (refine retS (by repeat' first | exact trivial | exact rfl | exact Iff.rfl | refine And.intro ?_ ?_) ?_; repeat' first | exact trivial | exact rfl | exact Iff.rfl | exact Or.inl rfl | refine And.intro ?_ ?_)
  · rw [if_neg h1, if_neg h2, if_neg h3, if_neg h4, if_neg h5, if_pos h6]
    refine ⟨[], nofun, (divide_runs hr1 c ha hb).go (by repeat' first | exact trivial | exact rfl | exact Iff.rfl | exact Or.inl rfl | refine And.intro ?_ ?_) rfl rfl ?_⟩
    (refine retS (by repeat' first | exact trivial | exact rfl | exact Iff.rfl | refine And.intro ?_ ?_) ?_; repeat' first | exact trivial | exact rfl | exact Iff.rfl | exact Or.inl rfl | refine And.intro ?_ ?_)
  · exact absurd hk (by omega)

end Go.Proofs.Ytnjmfedleimlmaa.Pw

/- Chapter 21 over values: Eval, the document's example. -/
namespace Go.Proofs.Ytnjmfedleimlmaa.Pw
open Go Go.RowKit

def fillW (ws : List Int) : List Int := ws.take 254 ++ List.replicate (254 - ws.length) 0
def r0 (ws : List Int) (fuel : Int) : R := ⟨fillW ws, fuel, 0, 0, 0⟩
theorem r0_ok {ws : List Int} {fuel : Int} (hw : ∀ v ∈ ws, 0 ≤ v ∧ v ≤ 4294967295) (hf : -9223372036854775808 ≤ fuel ∧ fuel ≤ 9223372036854775807) : (r0 ws fuel).Ok := by
  refine ⟨?_, fun v hv => ?_, hf, by simp [r0]⟩
  · simp only [r0, fillW, List.length_append, List.length_take, List.length_replicate]; omega
  · simp only [r0, fillW, List.mem_append] at hv
    rcases hv with hv | hv
    · exact hw v (List.mem_of_mem_take hv)
    · rw [(List.mem_replicate.1 hv).2]; omega
theorem fillW_eq (ws : List Int) : (wordsP ws).take (List.replicate 254 (PV.int .u32 0)).length ++ (List.replicate 254 (PV.int .u32 0)).drop (wordsP ws).length = wordsP (fillW ws) := by
  unfold wordsP fillW
  rw [List.length_replicate, List.length_map, List.drop_replicate, List.map_append, List.map_take, List.map_replicate]
def EvR (q : R) : Int × Int × Int := if q.e = 0 then (q.sum, q.trap, 0) else (0, 0, q.e)
/-- a cost's value, its trap, an error -/
def evC (c : C) (ws : List Int) (wait fuel : Int) : Int × Int × Int := if wait < 0 ∨ 7 < wait then (0, 0, 11) else EvR (oneR wait c (r0 ws fuel))
def triP (x : Int × Int × Int) : PV := .tup [.int .u64 x.1, .int .i64 x.2.1, .int .i64 x.2.2]

set_option maxRecDepth 10000 in
theorem evalC_pure (c : C) (hw : c.Wf) (hs : shC c = true) (ws : List Int) (hws : ∀ v ∈ ws, 0 ≤ v ∧ v ≤ 4294967295) (wait fuel : Int) (hf : -9223372036854775808 ≤ fuel ∧ fuel ≤ 9223372036854775807) : PureF gT 9 [cpv c, .sl 1 (wordsP ws), .int .i64 wait, .int .i64 fuel] (triP (evC c ws wait fuel)) := by
  refine Spec.enter gTok P9 100 Try.func9 rfl (by kernel_rfl) ?_
  unfold evC
  refine And.intro (fun h1 => ?_) (fun h1 => And.intro (fun h2 => ?_) (fun h2 => ?_))
  · rw [if_pos (.inl h1)]
    (refine retE ?_; repeat' first | exact trivial | exact rfl | exact Iff.rfl | exact Or.inl rfl | refine And.intro ?_ ?_)
  · rw [if_pos (.inr h2)]
    (refine retE ?_; repeat' first | exact trivial | exact rfl | exact Iff.rfl | exact Or.inl rfl | refine And.intro ?_ ?_)
  rw [if_neg (by omega)]
  refine pmake_ok gTok ?_
  refine pcopy_ok gTok ?_
  refine ⟨show 254 ≠ 0 by decide, ?_⟩
  have hr := r0_ok hws hf
  refine ⟨[], nofun, (one_runs (c0 := c) (wt := wait) (by omega) c hw hs (r0 ws fuel) hr).use (by repeat' first | exact trivial | exact rfl | exact Iff.rfl | exact Or.inl rfl | refine And.intro ?_ ?_) rfl rfl ?_⟩
  refine And.intro (by repeat' first | exact trivial | exact rfl | exact Iff.rfl | exact Or.inl rfl | refine And.intro ?_ ?_) (And.intro (fillW_eq ws) (And.intro (by repeat' first | exact trivial | exact rfl | exact Iff.rfl | exact Or.inl rfl | refine And.intro ?_ ?_) ?_))
  generalize oneR wait c (r0 ws fuel) = q
  unfold EvR
  refine And.intro (fun h => ?_) (fun h => ?_)
  · rw [if_neg h]
    (refine retE ?_; repeat' first | exact trivial | exact rfl | exact Iff.rfl | exact Or.inl rfl | refine And.intro ?_ ?_)
  · rw [if_pos (Classical.not_not.1 h)]
    (refine retE ?_; repeat' first | exact trivial | exact rfl | exact Iff.rfl | exact Or.inl rfl | refine And.intro ?_ ?_)

def leaf0 : T := .leaf 0 0
def flatC (cy mi : Int) : C := .mk 1 cy mi 0 0 leaf0 leaf0 []
set_option maxRecDepth 10000 in
theorem fixed_pure (cy mi : Int) : PureF gT 11 [.int .i64 cy, .int .i64 mi] (cpv (flatC cy mi)) := by
  refine Spec.enter gTok P11 100 Try.func11 rfl (by kernel_rfl) ?_
  (refine retE ?_; repeat' first | exact trivial | exact rfl | exact Iff.rfl | exact Or.inl rfl | refine And.intro ?_ ?_)
def anchorC : C := .mk 4 0 0 4 0 (.leaf 1 0) (.leaf 1 10) [flatC 3 1]

set_option maxRecDepth 10000 in
theorem anchor21_pure : PureF gT 4 [] .tt := by
  refine Spec.enter gTok P4 100 Try.func4 rfl (by kernel_rfl) ?_
  refine ⟨[], nofun, (of_pureT 0).use (by repeat' first | exact trivial | exact rfl | exact Iff.rfl | exact Or.inl rfl | refine And.intro ?_ ?_) rfl rfl ?_⟩
  refine ⟨[], nofun, (of_pureT 10).use (by repeat' first | exact trivial | exact rfl | exact Iff.rfl | exact Or.inl rfl | refine And.intro ?_ ?_) rfl rfl ?_⟩
  refine ⟨[], nofun, (fixed_pure 3 1).use (by repeat' first | exact trivial | exact rfl | exact Iff.rfl | exact Or.inl rfl | refine And.intro ?_ ?_) rfl rfl ?_⟩
  have he : evC anchorC [] 1 100 = (40, 0, 0) := by kernel_rfl
  have hp := evalC_pure anchorC (by refine ⟨⟨?_, ?_⟩, ⟨?_, ?_⟩, ⟨⟨?_, ?_⟩, ⟨?_, ?_⟩, trivial⟩, trivial⟩ <;> decide) (by kernel_rfl) [] (by simp) 1 100 (by omega)
  rw [he] at hp
  refine ⟨[], nofun, hp.useB [0] (by repeat' first | exact trivial | exact rfl | exact Iff.rfl | exact Or.inl rfl | refine And.intro ?_ ?_) rfl rfl ?_⟩
  refine And.intro (fun _ => And.intro (fun _ => ?_) (fun h => absurd rfl h)) (fun h => absurd rfl h)
  (refine retE ?_; repeat' first | exact trivial | exact rfl | exact Iff.rfl | exact Or.inl rfl | refine And.intro ?_ ?_)

end Go.Proofs.Ytnjmfedleimlmaa.Pw

/- Chapter 21 over values: the costs that items make. -/
namespace Go.Proofs.Ytnjmfedleimlmaa.Pw
open Go Go.RowKit

/-- an item -/
structure IT where
  kind : Int
  cyc : Int
  mis : Int
  word : Int
  size : Int
  aop : Int
  au : Int
  aw : Int
  bop : Int
  bu : Int
  bw : Int
  kids : Int
def itP (x : IT) : PV := .agg [.int .i64 x.kind, .int .i64 x.cyc, .int .i64 x.mis, .int .i64 x.word, .int .i64 x.size, .int .i64 x.aop, .int .u32 x.au, .int .i64 x.aw, .int .i64 x.bop, .int .u32 x.bu, .int .i64 x.bw, .int .i64 x.kids]
structure IT.Ok (x : IT) : Prop where
  au : 0 ≤ x.au ∧ x.au ≤ 4294967295
  bu : 0 ≤ x.bu ∧ x.bu ≤ 4294967295
def termOfT (op u w : Int) : T := if op = 1 then .leaf 1 u else if op = 2 then .leaf 2 (IntKind.u32.wrap w) else if op = 3 ∨ op = 4 then .one op 0 (.leaf 2 (IntKind.u32.wrap w)) else if 5 ≤ op ∧ op ≤ 17 then .two op 0 (.leaf 2 (IntKind.u32.wrap w)) (.leaf 1 u) else .leaf op 0
theorem wrap32 (w : Int) : 0 ≤ IntKind.u32.wrap w ∧ IntKind.u32.wrap w ≤ 4294967295 := by rw [IntKind.wrap_u32']; omega
theorem termOfT_wf {op u w : Int} (h : 0 ≤ u ∧ u ≤ 4294967295) : (termOfT op u w).Wf := by
  have := wrap32 w
  unfold termOfT
  repeat' split
  · exact h
  · exact this
  · exact ⟨by omega, this⟩
  · exact ⟨by omega, this, h⟩
  · exact ⟨by omega, by omega⟩

theorem nil_sl {w : World} {I : Nat → Prop} {β : Places} {n : Nat} {v : Value} (h : (PV.nil).Is w I β v) : (PV.sl n []).Is w I β v := by
  simp only [PV.Is] at h ⊢
  subst h
  exact ⟨none, 0, rfl, Nat.le_refl _, by simp, nofun, fun h => absurd rfl h⟩
theorem sl_ple {n : Nat} {es es' : List PV} (hl : es.length = es'.length) (h : ∀ w I g o, IsEs w I es n g o → IsEs w I es' n g o) : PLe (.sl n es) (.sl n es') := fun w I β v hv => by
  simp only [PV.Is] at hv ⊢
  obtain ⟨a, cap, h1, h2, h3, h4, h5⟩ := hv
  exact ⟨a, cap, by rw [← hl]; exact h1, by rw [← hl]; exact h2, by rw [← hl]; exact h3, fun g o e => h w I g o (h4 g o e), fun h0 => h5 (by rw [hl]; exact h0)⟩
theorem agg3_ple {a b : Int} {s s' : PV} (h : PLe s s') : PLe (.agg [.int .i64 a, .lit .u32 b, s]) (.agg [.int .i64 a, .int .u32 b, s']) := fun w I β v hv => by
  simp only [PV.Is] at hv ⊢
  obtain ⟨vs, rfl, hv⟩ := hv
  refine ⟨vs, rfl, ?_⟩
  match hvs : vs.toList, hv with
  | [x, y, z], hv =>
    simp only [IsL, PV.Is] at hv ⊢
    exact ⟨hv.1, hv.2.1, h w I β z hv.2.2.1, trivial⟩
theorem at_nil {w : World} {I : Nat → Prop} {g o : Nat} {a b : PV} (h : IsAt w I [a, b, .nil] g o) : IsAt w I [a, b, .sl 3 []] g o := by
  simp only [IsAt] at h ⊢
  obtain ⟨h1, h2, ⟨v, h3, h4, h5⟩, _⟩ := h
  exact ⟨h1, h2, ⟨v, h3, nil_sl h4, h5⟩, trivial⟩

theorem one_ple (op w : Int) : PLe (.agg [.int .i64 op, .lit .u32 0, .sl 3 [.agg [.int .i64 2, .int .u32 w, .nil]]]) (tpv (.one op 0 (.leaf 2 w))) :=
  agg3_ple (sl_ple rfl fun w I g o h => by
    rw [IsEs.cons] at h
    refine IsEs.cons.2 ⟨⟨rfl, at_nil h.1.2⟩, by simp only [IsEs]⟩)
theorem two_ple (op w u : Int) : PLe (.agg [.int .i64 op, .lit .u32 0, .sl 3 [.agg [.int .i64 2, .int .u32 w, .nil], .agg [.int .i64 1, .int .u32 u, .sl 3 []]]]) (tpv (.two op 0 (.leaf 2 w) (.leaf 1 u))) :=
  agg3_ple (sl_ple rfl fun w I g o h => by
    rw [IsEs.cons] at h
    refine IsEs.cons.2 ⟨⟨rfl, at_nil h.1.2⟩, h.2⟩)

set_option maxRecDepth 10000 in
theorem termOf_pure (op u w : Int) : PureF gT 17 [.agg [.int .i64 op, .int .u32 u, .int .i64 w]] (tpv (termOfT op u w)) := by
  refine Spec.enter gTok P17 100 Try.func17 rfl (by kernel_rfl) ?_
  unfold termOfT
  refine And.intro (fun h1 => ?_) (fun h1 => And.intro (fun h2 => ?_) (fun h2 => And.intro (fun h3 => ?_) (fun h3 => And.intro (fun h4 => ?_) (fun h4 => And.intro (fun h5 => And.intro (fun h6 => ?_) (fun h6 => ?_)) (fun h5 => ?_)))))
  · rw [if_pos h1]
    refine ⟨[], no_rl, (of_pureT u).use (by repeat' first | exact trivial | exact rfl | exact Iff.rfl | exact Or.inl rfl | refine And.intro ?_ ?_) rfl rfl ?_⟩
    (refine retE ?_; repeat' first | exact trivial | exact rfl | exact Iff.rfl | exact Or.inl rfl | refine And.intro ?_ ?_)
  · rw [if_neg h1, if_pos h2]
    refine .inr ?_
    (refine retE ?_; repeat' first | exact trivial | exact rfl | exact Iff.rfl | exact Or.inl rfl | refine And.intro ?_ ?_)
  · rw [if_neg h1, if_neg h2, if_pos (.inl h3)]
    refine .inr ?_
    exact ⟨_, one_ple op (IntKind.u32.wrap w), rfl⟩
  · rw [if_neg h1, if_neg h2, if_pos (.inr h4)]
    refine .inr ?_
    exact ⟨_, one_ple op (IntKind.u32.wrap w), rfl⟩
  · rw [if_neg h1, if_neg h2, if_neg (by omega), if_pos ⟨h5, h6⟩]
    refine .inr ?_
    refine ⟨[], no_rl, (of_pureT u).use (by repeat' first | exact trivial | exact rfl | exact Iff.rfl | exact Or.inl rfl | refine And.intro ?_ ?_) rfl rfl ?_⟩
    exact ⟨_, two_ple op (IntKind.u32.wrap w) u, rfl⟩
  · rw [if_neg h1, if_neg h2, if_neg (by omega), if_neg (fun h => h6 h.2)]
    (refine retE ?_; repeat' first | exact trivial | exact rfl | exact Iff.rfl | exact Or.inl rfl | refine And.intro ?_ ?_)
  · rw [if_neg h1, if_neg h2, if_neg (by omega), if_neg (fun h => h5 h.1)]
    (refine retE ?_; repeat' first | exact trivial | exact rfl | exact Iff.rfl | exact Or.inl rfl | refine And.intro ?_ ?_)

/-- kids, one behind the other -/
def kidsN (f : Nat → C × Nat) : Nat → Nat → List C × Nat
  | 0, i => ([], i)
  | n + 1, i => ((kidsN f n i).1 ++ [(f (kidsN f n i).2).1], (f (kidsN f n i).2).2)
/-- the cost that a list's items make, from the i-th on -/
def builtC (l : List IT) : Nat → Nat → C × Nat
  | 0, i => (flatC 1 0, i)
  | k + 1, i => match l[i]? with
    | none => (flatC 1 0, i)
    | some x => (.mk x.kind x.cyc x.mis x.word x.size (termOfT x.aop x.au x.aw) (termOfT x.bop x.bu x.bw) (kidsN (builtC l k) (max (min x.kids 4) 0).toNat (i + 1)).1, (kidsN (builtC l k) (max (min x.kids 4) 0).toNat (i + 1)).2)

theorem kidsN_le {f : Nat → C × Nat} {m : Nat} (hf : ∀ j, j ≤ m → (f j).2 ≤ m) : ∀ n i, i ≤ m → (kidsN f n i).2 ≤ m
  | 0, i, h => h
  | n + 1, i, h => hf _ (kidsN_le hf n i h)
theorem builtC_le {l : List IT} : ∀ (k i : Nat), i ≤ l.length → (builtC l k i).2 ≤ l.length
  | 0, i, h => h
  | k + 1, i, h => by
    rw [builtC]
    split
    · exact h
    · rename_i x hx
      exact kidsN_le (fun j hj => builtC_le k j hj) _ _ (List.getElem?_eq_some_iff.1 hx).1

def zB : PBlk := ⟨.loc, 30, 1, .w, true, [.lit .i64 0, .lit .i64 0, .lit .i64 0, .lit .i64 0, .lit .i64 0, .lit .i64 0, .lit .u32 0, .nil, .lit .i64 0, .lit .u32 0, .nil, .nil]⟩
def aB (i : Nat) : PBlk := ⟨.loc, 3, 1, .w, true, [.int .i64 i]⟩
def Bld (l : List IT) (k i : Nat) : Prop := Spec gT 12 [.sl 12 (l.map itP), .ptr 1 0, .int .i64 (13 - (k : Int))] [zB, aB i] [] fun x S' => x = cpv (builtC l k i).1 ∧ S' = [zB, aB (builtC l k i).2]
theorem Bld.go {l : List IT} {k i : Nat} {args : List PV} {T : List PBlk} {K : PV → List PBlk → Prop} (h : Bld l k i) (hle : leL leK args [.sl 12 (l.map itP), .ptr 1 0, .int .i64 (13 - (k : Int))])
    (hK : frBB [zB, aB (builtC l k i).2] fun S1 => appK S1 T (K (cpv (builtC l k i).1))) : Spec gT 12 args ([zB, aB i] ++ T) [] K := by
  refine Spec.useS h rfl rfl rfl rfl hle (stLe_app rfl (fun b hb => ?_) hK)
  simp only [List.mem_cons, List.not_mem_nil, or_false] at hb
  rcases hb with rfl | rfl
  · exact (by repeat' first | exact trivial | exact rfl | exact Iff.rfl | exact Or.inl rfl | refine And.intro ?_ ?_)
  · exact (by repeat' first | exact trivial | exact rfl | exact Iff.rfl | exact Or.inl rfl | refine And.intro ?_ ?_)

theorem Bld.use2 {l : List IT} {k i : Nat} {args : List PV} {st : List PBlk} {K : PV → List PBlk → Prop} (h : Bld l k i) (hle : leL leK args [.sl 12 (l.map itP), .ptr 1 0, .int .i64 (13 - (k : Int))])
    (hK : stLe st [zB, aB i] fun T => frBB [zB, aB (builtC l k i).2] fun S1 => appK S1 T (K (cpv (builtC l k i).1))) : Spec gT 12 args st [] K := Spec.useS h rfl rfl rfl rfl hle hK

set_option maxHeartbeats 4000000 in
set_option maxRecDepth 10000 in
theorem built_spec {l : List IT} (hl : l.length ≤ maxLen) : ∀ (k i : Nat), k ≤ 13 → i ≤ l.length → Bld l k i := by
  have hl0 : l.length ≤ 9223372036854775807 := by unfold maxLen at hl; omega
  intro k
  induction k with
  | zero =>
    intro i hk hi
    refine Spec.leS (Spec.enter gTok P12 100 Try.func12 rfl (by kernel_rfl) ?_)
    intro hm
    rw [List.length_map] at hm
    refine And.intro (fun h => ?_) (fun h => And.intro (fun h2 => ?_) (fun h2 => absurd (show (12 : Int) < 13 - ((0 : Nat) : Int) by omega) h2))
    · refine ⟨[], no_rl, (fixed_pure 1 0).use (by repeat' first | exact trivial | exact rfl | exact Iff.rfl | exact Or.inl rfl | refine And.intro ?_ ?_) rfl rfl ?_⟩
      (refine retS (by repeat' first | exact trivial | exact rfl | exact Iff.rfl | refine And.intro ?_ ?_) ?_; repeat' first | exact trivial | exact rfl | exact Iff.rfl | exact Or.inl rfl | refine And.intro ?_ ?_)
    · refine ⟨[], no_rl, (fixed_pure 1 0).use (by repeat' first | exact trivial | exact rfl | exact Iff.rfl | exact Or.inl rfl | refine And.intro ?_ ?_) rfl rfl ?_⟩
      (refine retS (by repeat' first | exact trivial | exact rfl | exact Iff.rfl | refine And.intro ?_ ?_) ?_; repeat' first | exact trivial | exact rfl | exact Iff.rfl | exact Or.inl rfl | refine And.intro ?_ ?_)
  | succ k ih =>
    intro i hk hi
    refine Spec.leS (Spec.enter gTok P12 100 Try.func12 rfl (by kernel_rfl) ?_)
    intro hm
    rw [List.length_map] at hm
    refine And.intro (fun h => ?_) (fun h => And.intro (fun h2 => absurd (show (12 : Int) < 13 - ((k + 1 : Nat) : Int) from h2) (by omega)) (fun h2 => ?_))
    · have h' : ((l.map itP).length : Int) ≤ (i : Int) := h
      rw [List.length_map] at h'
      have e : builtC l (k + 1) i = (flatC 1 0, i) := by rw [builtC, List.getElem?_eq_none (by omega)]
      rw [e]
      refine ⟨[], no_rl, (fixed_pure 1 0).use (by repeat' first | exact trivial | exact rfl | exact Iff.rfl | exact Or.inl rfl | refine And.intro ?_ ?_) rfl rfl ?_⟩
      (refine retS (by repeat' first | exact trivial | exact rfl | exact Iff.rfl | refine And.intro ?_ ?_) ?_; repeat' first | exact trivial | exact rfl | exact Iff.rfl | exact Or.inl rfl | refine And.intro ?_ ?_)
    have h' : ¬ ((l.map itP).length : Int) ≤ (i : Int) := h
    rw [List.length_map] at h'
    refine ⟨IT, l, itP, rfl, show (0 : Int) ≤ (i : Int) by omega, show (i : Int) < (l.length : Int) by omega, fun x hx => ?_⟩
    have hx' : l[i]? = some x := hx
    refine .inl ⟨inR_i64 (by omega), ?_⟩
    refine ⟨[], no_rl, (termOf_pure x.aop x.au x.aw).use (by repeat' first | exact trivial | exact rfl | exact Iff.rfl | exact Or.inl rfl | refine And.intro ?_ ?_) rfl rfl ?_⟩
    refine ⟨[], no_rl, (termOf_pure x.bop x.bu x.bw).use (by repeat' first | exact trivial | exact rfl | exact Iff.rfl | exact Or.inl rfl | refine And.intro ?_ ?_) rfl rfl ?_⟩
    have pos : ∀ n, (kidsN (builtC l k) n (i + 1)).2 ≤ l.length := fun n => kidsN_le (fun j hj => builtC_le k j hj) n (i + 1) (by omega)
    have sp : ∀ n, Bld l k (kidsN (builtC l k) n (i + 1)).2 := fun n => ih _ (by omega) (pos n)
    have e : ∀ n : Nat, max (min x.kids 4) 0 = (n : Int) → builtC l (k + 1) i = (.mk x.kind x.cyc x.mis x.word x.size (termOfT x.aop x.au x.aw) (termOfT x.bop x.bu x.bw) (kidsN (builtC l k) n (i + 1)).1, (kidsN (builtC l k) n (i + 1)).2) := fun n hn => by
      rw [builtC, hx']; dsimp only; rw [hn]; rfl
    refine And.intro (And.intro ?_ (And.intro ?_ trivial)) (And.intro ?_ trivial)
    rotate_left 1
    · refine Exists.intro [] (And.intro no_rl ?_)
      refine (termOf_pure x.aop x.au x.aw).use (by repeat' first | exact trivial | exact rfl | exact Iff.rfl | exact Or.inl rfl | refine And.intro ?_ ?_) rfl rfl ?_
      refine Exists.intro [] (And.intro no_rl ?_)
      refine (termOf_pure x.bop x.bu x.bw).use (by repeat' first | exact trivial | exact rfl | exact Iff.rfl | exact Or.inl rfl | refine And.intro ?_ ?_) rfl rfl ?_
      exact rfl
    · refine Exists.intro [] (And.intro no_rl ?_)
      refine (termOf_pure x.bop x.bu x.bw).use (by repeat' first | exact trivial | exact rfl | exact Iff.rfl | exact Or.inl rfl | refine And.intro ?_ ?_) rfl rfl ?_
      exact rfl
    refine SW.rounds gTok P12 (by kernel_rfl) (N := 60) 6 ?_
    refine And.intro (fun g0 => ?_) (fun g0 => ?_)
    rotate_left 1
    · rw [e 0 (by have q0 : ¬ ((0 : Nat) : Int) < max (min x.kids 4) 0 := g0; omega)]
      (refine retS (by repeat' first | exact trivial | exact rfl | exact Iff.rfl | refine And.intro ?_ ?_) ?_; repeat' first | exact trivial | exact rfl | exact Iff.rfl | exact Or.inl rfl | refine And.intro ?_ ?_)
    refine .inl ⟨inR_i64 (by omega), ?_⟩
    refine ⟨[], no_rl, (sp 0).go (by repeat' first | exact trivial | exact rfl | exact Or.inl rfl | (show (_ : Int) = _; omega) | refine And.intro ?_ ?_) ?_⟩
    refine And.intro (fun g1 => ?_) (fun g1 => ?_)
    rotate_left 1
    · rw [e 1 (by have q0 : ((0 : Nat) : Int) < max (min x.kids 4) 0 := g0; have q1 : ¬ ((1 : Nat) : Int) < max (min x.kids 4) 0 := g1; omega)]
      (refine retS (by repeat' first | exact trivial | exact rfl | exact Iff.rfl | refine And.intro ?_ ?_) ?_; repeat' first | exact trivial | exact rfl | exact Iff.rfl | exact Or.inl rfl | refine And.intro ?_ ?_)
    refine .inl ⟨inR_i64 (by omega), ?_⟩
    refine ⟨[], no_rl, (sp 1).go (by repeat' first | exact trivial | exact rfl | exact Or.inl rfl | (show (_ : Int) = _; omega) | refine And.intro ?_ ?_) ?_⟩
    refine And.intro (fun g2 => ?_) (fun g2 => ?_)
    rotate_left 1
    · rw [e 2 (by have q0 : ((0 : Nat) : Int) < max (min x.kids 4) 0 := g0; have q1 : ((1 : Nat) : Int) < max (min x.kids 4) 0 := g1; have q2 : ¬ ((2 : Nat) : Int) < max (min x.kids 4) 0 := g2; omega)]
      (refine retS (by repeat' first | exact trivial | exact rfl | exact Iff.rfl | refine And.intro ?_ ?_) ?_; repeat' first | exact trivial | exact rfl | exact Iff.rfl | exact Or.inl rfl | refine And.intro ?_ ?_)
    refine .inl ⟨inR_i64 (by omega), ?_⟩
    refine ⟨[], no_rl, (sp 2).go (by repeat' first | exact trivial | exact rfl | exact Or.inl rfl | (show (_ : Int) = _; omega) | refine And.intro ?_ ?_) ?_⟩
    refine And.intro (fun g3 => ?_) (fun g3 => ?_)
    rotate_left 1
    · rw [e 3 (by have q0 : ((0 : Nat) : Int) < max (min x.kids 4) 0 := g0; have q1 : ((1 : Nat) : Int) < max (min x.kids 4) 0 := g1; have q2 : ((2 : Nat) : Int) < max (min x.kids 4) 0 := g2; have q3 : ¬ ((3 : Nat) : Int) < max (min x.kids 4) 0 := g3; omega)]
      (refine retS (by repeat' first | exact trivial | exact rfl | exact Iff.rfl | refine And.intro ?_ ?_) ?_; repeat' first | exact trivial | exact rfl | exact Iff.rfl | exact Or.inl rfl | refine And.intro ?_ ?_)
    refine .inl ⟨inR_i64 (by omega), ?_⟩
    refine ⟨[], no_rl, (sp 3).go (by repeat' first | exact trivial | exact rfl | exact Or.inl rfl | (show (_ : Int) = _; omega) | refine And.intro ?_ ?_) ?_⟩
    refine And.intro (fun g4 => ?_) (fun g4 => ?_)
    rotate_left 1
    · rw [e 4 (by have q0 : ((0 : Nat) : Int) < max (min x.kids 4) 0 := g0; have q1 : ((1 : Nat) : Int) < max (min x.kids 4) 0 := g1; have q2 : ((2 : Nat) : Int) < max (min x.kids 4) 0 := g2; have q3 : ((3 : Nat) : Int) < max (min x.kids 4) 0 := g3; have q4 : ¬ ((4 : Nat) : Int) < max (min x.kids 4) 0 := g4; omega)]
      (refine retS (by repeat' first | exact trivial | exact rfl | exact Iff.rfl | refine And.intro ?_ ?_) ?_; repeat' first | exact trivial | exact rfl | exact Iff.rfl | exact Or.inl rfl | refine And.intro ?_ ?_)
    exact absurd (show ((4 : Nat) : Int) < max (min x.kids 4) 0 from g4) (by omega)

end Go.Proofs.Ytnjmfedleimlmaa.Pw

/- Chapter 21 over values: what a list of items makes; the document's form of it. -/
namespace Go.Proofs.Ytnjmfedleimlmaa.Pw
open Go Go.RowKit

def madeC (l : List IT) : C := (builtC l 13 0).1
set_option maxRecDepth 10000 in
theorem made_pure (l : List IT) (hl : l.length ≤ maxLen) : PureF gT 5 [.sl 12 (l.map itP)] (.tup [cpv (madeC l), .bool (l.length ≤ 30)]) := by
  refine Spec.enter gTok P5 100 Try.func5 rfl (by kernel_rfl) ?_
  refine ⟨[], no_rl, (built_spec hl 13 0 (Nat.le_refl _) (Nat.zero_le _)).use2 (by repeat' first | exact trivial | exact rfl | exact Iff.rfl | exact Or.inl rfl | refine And.intro ?_ ?_) ?_⟩
  refine And.intro (by repeat' first | exact trivial | exact rfl | exact Iff.rfl | exact Or.inl rfl | refine And.intro ?_ ?_) (And.intro (by repeat' first | exact trivial | exact rfl | exact Iff.rfl | exact Or.inl rfl | refine And.intro ?_ ?_) ?_)
  intro _
  refine retE ?_
  repeat' first | exact trivial | exact rfl | refine And.intro ?_ ?_
  refine (show ((l.map itP).length : Int) ≤ 30 ↔ l.length ≤ 30 from ?_)
  rw [List.length_map]; omega

def flatT : T → List (Int × Int × Int)
  | .leaf o n => if o = 0 ∧ n = 0 then [] else [(o, n, 0)]
  | .one o n a => (o, n, 1) :: flatT a
  | .two o n a b => (o, n, 2) :: (flatT a ++ flatT b)
theorem flatT_len : ∀ t : T, (flatT t).length ≤ t.size
  | .leaf o n => by unfold flatT; split <;> simp [T.size]
  | .one o n a => by have := flatT_len a; simp only [flatT, T.size, List.length_cons]; omega
  | .two o n a b => by have := flatT_len a; have := flatT_len b; simp only [flatT, T.size, List.length_cons, List.length_append]; omega

set_option maxRecDepth 10000 in
theorem flat21_pure : ∀ t : T, t.size ≤ 1000000 → PureF gT 15 [tpv t] (.sl 3 ((flatT t).map nP))
  | .leaf o n, hs => by
    refine Spec.enter gTok P15 100 Try.func15 rfl (by kernel_rfl) ?_
    refine And.intro (fun h1 => And.intro (fun h2 => fun _ => And.intro (fun h3 => ?_) (fun h3 => absurd rfl h3)) (fun h2 => ?_)) (fun h1 => ?_)
    · rw [show flatT (.leaf o n) = [] from if_pos ⟨h1, h2⟩]
      (refine retE ?_; repeat' first | exact trivial | exact rfl | exact Iff.rfl | exact Or.inl rfl | refine And.intro ?_ ?_)
    · rw [show flatT (.leaf o n) = [(o, n, 0)] from if_neg (fun h => h2 h.2)]
      refine fun _ => fun _ => SW.rounds gTok P15 (by kernel_rfl) (N := 60) 3 ?_
      refine And.intro (fun h => absurd (show (0 : Int) < 0 from h) (by decide)) (fun _ => ?_)
      (refine retE ?_; repeat' first | exact trivial | exact rfl | exact Iff.rfl | exact Or.inl rfl | refine And.intro ?_ ?_)
    · rw [show flatT (.leaf o n) = [(o, n, 0)] from if_neg (fun h => h1 h.1)]
      refine fun _ => fun _ => SW.rounds gTok P15 (by kernel_rfl) (N := 60) 3 ?_
      refine And.intro (fun h => absurd (show (0 : Int) < 0 from h) (by decide)) (fun _ => ?_)
      (refine retE ?_; repeat' first | exact trivial | exact rfl | exact Iff.rfl | exact Or.inl rfl | refine And.intro ?_ ?_)
  | .one o n a, hs => by
    have sz : (T.one o n a).size = 1 + a.size := rfl
    have iha := flat21_pure a (by omega)
    have el : ((flatT a).map nP).length ≤ a.size := by rw [List.length_map]; exact flatT_len a
    refine Spec.enter gTok P15 100 Try.func15 rfl (by kernel_rfl) ?_
    refine And.intro (fun h1 => And.intro (fun h2 => fun _ => And.intro (fun h3 => absurd (show (1 : Int) = 0 from h3) (by decide)) (fun h3 => ?_)) (fun h2 => ?_)) (fun h1 => ?_)
    all_goals
      refine fun _ => fun _ => SW.rounds gTok P15 (by kernel_rfl) (N := 60) 3 ?_
      refine And.intro (fun _ => ?_) (fun h => absurd (show (0 : Int) < 1 by decide) h)
      refine ⟨T, [a], tpv, rfl, (show (0 : Int) ≤ 0 by decide), (show (0 : Int) < 1 by decide), fun x hx => ?_⟩
      obtain rfl : a = x := Option.some.inj hx
      refine ⟨[], no_rl, iha.use (by repeat' first | exact trivial | exact rfl | exact Iff.rfl | exact Or.inl rfl | refine And.intro ?_ ?_) rfl rfl ?_⟩
      refine ⟨show 1 + ((flatT a).map nP).length ≤ maxLen by unfold maxLen; omega, show (1 + ((flatT a).map nP).length) * 24 ≤ 140737488355328 by omega, ?_⟩
      refine And.intro (fun h => absurd (show (1 : Int) < 1 from h) (by decide)) (fun _ => ?_)
      (refine retE ?_; repeat' first | exact trivial | exact rfl | exact Iff.rfl | exact Or.inl rfl | refine And.intro ?_ ?_)
  | .two o n a b, hs => by
    have sz : (T.two o n a b).size = 1 + a.size + b.size := rfl
    have iha := flat21_pure a (by omega)
    have ihb := flat21_pure b (by omega)
    have el : ((flatT a).map nP).length ≤ a.size := by rw [List.length_map]; exact flatT_len a
    have el2 : ((flatT b).map nP).length ≤ b.size := by rw [List.length_map]; exact flatT_len b
    have e1 : ([nP (o, n, 2)] ++ (flatT a).map nP).length = 1 + ((flatT a).map nP).length := by rw [List.length_append]; rfl
    refine Spec.enter gTok P15 100 Try.func15 rfl (by kernel_rfl) ?_
    refine And.intro (fun h1 => And.intro (fun h2 => fun _ => And.intro (fun h3 => absurd (show (2 : Int) = 0 from h3) (by decide)) (fun h3 => ?_)) (fun h2 => ?_)) (fun h1 => ?_)
    all_goals
      refine fun _ => fun _ => SW.rounds gTok P15 (by kernel_rfl) (N := 60) 3 ?_
      refine And.intro (fun _ => ?_) (fun h => absurd (show (0 : Int) < 2 by decide) h)
      refine ⟨T, [a, b], tpv, rfl, (show (0 : Int) ≤ 0 by decide), (show (0 : Int) < 2 by decide), fun x hx => ?_⟩
      obtain rfl : a = x := Option.some.inj hx
      refine ⟨[], no_rl, iha.use (by repeat' first | exact trivial | exact rfl | exact Iff.rfl | exact Or.inl rfl | refine And.intro ?_ ?_) rfl rfl ?_⟩
      refine ⟨show 1 + ((flatT a).map nP).length ≤ maxLen by unfold maxLen; omega, show (1 + ((flatT a).map nP).length) * 24 ≤ 140737488355328 by omega, ?_⟩
      refine And.intro (fun _ => ?_) (fun h => absurd (show (1 : Int) < 2 by decide) h)
      refine ⟨T, [a, b], tpv, rfl, (show (0 : Int) ≤ 1 by decide), (show (1 : Int) < 2 by decide), fun x hx => ?_⟩
      obtain rfl : b = x := Option.some.inj hx
      refine ⟨[], no_rl, ihb.use (by repeat' first | exact trivial | exact rfl | exact Iff.rfl | exact Or.inl rfl | refine And.intro ?_ ?_) rfl rfl ?_⟩
      refine ⟨show ([nP (o, n, 2)] ++ (flatT a).map nP).length + ((flatT b).map nP).length ≤ maxLen by rw [e1]; unfold maxLen; omega, show (([nP (o, n, 2)] ++ (flatT a).map nP).length + ((flatT b).map nP).length) * 24 ≤ 140737488355328 by rw [e1]; omega, ?_⟩
      refine And.intro (fun h => absurd (show (2 : Int) < 2 from h) (by decide)) (fun _ => ?_)
      refine retE ?_
      exact (show ([nP (o, n, 2)] ++ (flatT a).map nP) ++ (flatT b).map nP = _ by simp [flatT])

end Go.Proofs.Ytnjmfedleimlmaa.Pw

/- Chapter 21 over values: the document's form of a cost. -/
namespace Go.Proofs.Ytnjmfedleimlmaa.Pw
open Go Go.RowKit

mutual
def kidsD : C → List PV
  | .mk _ _ _ _ _ _ _ l => kidsDL l
def kidsDL : List C → List PV
  | [] => []
  | c :: l => .agg [.int .i64 c.kind, .int .i64 c.cyc, .int .i64 c.mis, .int .i64 c.word, .int .i64 c.size, .sl 3 ((flatT c.a).map nP), .sl 3 ((flatT c.b).map nP), .sl 8 (kidsD c)] :: kidsDL l
end
def dcv (c : C) : PV := .agg [.int .i64 c.kind, .int .i64 c.cyc, .int .i64 c.mis, .int .i64 c.word, .int .i64 c.size, .sl 3 ((flatT c.a).map nP), .sl 3 ((flatT c.b).map nP), .sl 8 (kidsD c)]
theorem kidsDL_eq : ∀ l : List C, kidsDL l = l.map dcv
  | [] => rfl
  | c :: l => by rw [kidsDL, kidsDL_eq l]; rfl
theorem kidsD_eq (c : C) : kidsD c = c.l.map dcv := by cases c; exact kidsDL_eq _
mutual
def C.AllT (p : T → Prop) : C → Prop
  | .mk _ _ _ _ _ a b l => p a ∧ p b ∧ allTL p l
def allTL (p : T → Prop) : List C → Prop
  | [] => True
  | c :: l => c.AllT p ∧ allTL p l
end
theorem allTL_all {p : T → Prop} : ∀ {l : List C}, allTL p l → ∀ c ∈ l, c.AllT p
  | c :: l, h, x, hx => by
    simp only [allTL] at h
    rcases List.mem_cons.1 hx with rfl | hx
    · exact h.1
    · exact allTL_all h.2 x hx
theorem C.allT_iff {p : T → Prop} (c : C) : c.AllT p ↔ p c.a ∧ p c.b ∧ allTL p c.l := by cases c; rfl
mutual
/-- lists that a machine bears -/
def C.Sm : C → Prop
  | .mk _ _ _ _ _ _ _ l => l.length ≤ 1000000 ∧ smL l
def smL : List C → Prop
  | [] => True
  | c :: l => c.Sm ∧ smL l
end
theorem smL_all : ∀ {l : List C}, smL l → ∀ c ∈ l, c.Sm
  | c :: l, h, x, hx => by
    simp only [smL] at h
    rcases List.mem_cons.1 hx with rfl | hx
    · exact h.1
    · exact smL_all h.2 x hx
theorem C.sm_iff (c : C) : c.Sm ↔ c.l.length ≤ 1000000 ∧ smL c.l := by cases c; rfl

def d0B : PBlk := ⟨.loc, 38, 1, .w, true, [.lit .i64 0, .lit .i64 0, .lit .i64 0, .lit .i64 0, .lit .i64 0, .nil, .nil, .nil]⟩
def dB (c : C) (x : PV) : PBlk := ⟨.loc, 38, 1, .w, true, [.int .i64 c.kind, .int .i64 c.cyc, .int .i64 c.mis, .int .i64 c.word, .int .i64 c.size, .sl 3 ((flatT c.a).map nP), .sl 3 ((flatT c.b).map nP), x]⟩

set_option maxHeartbeats 4000000 in
set_option maxRecDepth 10000 in
theorem of21_pure : ∀ c : C, c.AllT (fun t => t.size ≤ 1000000) → c.Sm → PureF gT 8 [cpv c] (dcv c) := C.ind' fun c ih hT hS => by
  obtain ⟨ha, hb, hTl⟩ := (C.allT_iff c).1 hT
  obtain ⟨hlen, hSl⟩ := (C.sm_iff c).1 hS
  refine Spec.enter gTok P8 100 Try.func8 rfl (by kernel_rfl) ?_
  refine ⟨[], no_rl, (flat21_pure c.a ha).use (by repeat' first | exact trivial | exact rfl | exact Iff.rfl | exact Or.inl rfl | refine And.intro ?_ ?_) rfl rfl ?_⟩
  refine ⟨[], no_rl, (flat21_pure c.b hb).use (by repeat' first | exact trivial | exact rfl | exact Iff.rfl | exact Or.inl rfl | refine And.intro ?_ ?_) rfl rfl ?_⟩
  refine And.intro (And.intro ?_ (And.intro ?_ trivial)) (And.intro ?_ trivial)
  rotate_left 1
  · refine Exists.intro [] (And.intro no_rl ?_)
    refine (flat21_pure c.a ha).use (by repeat' first | exact trivial | exact rfl | exact Iff.rfl | exact Or.inl rfl | refine And.intro ?_ ?_) rfl rfl ?_
    refine Exists.intro [] (And.intro no_rl ?_)
    refine (flat21_pure c.b hb).use (by repeat' first | exact trivial | exact rfl | exact Iff.rfl | exact Or.inl rfl | refine And.intro ?_ ?_) rfl rfl ?_
    exact rfl
  · refine Exists.intro [] (And.intro no_rl ?_)
    refine (flat21_pure c.b hb).use (by repeat' first | exact trivial | exact rfl | exact Iff.rfl | exact Or.inl rfl | refine And.intro ?_ ?_) rfl rfl ?_
    exact rfl
  have ek : (kidsC c).length = c.l.length := by rw [kidsC_eq, List.length_map]
  refine fun _ => SW.loopW gTok P8 (by kernel_rfl) (fun i : Nat => [(26, .int .i64 i)]) (fun i => [xB c, d0B, dB c (.wref 3), ⟨.dyn, 38, 8, .w, true, (c.l.take i).map dcv⟩]) (fun i => c.l.length - i) 0 60 [some 0, some 1, some 2, none] ?_ fun i => ?_
  · repeat' first | exact trivial | exact rfl | refine And.intro ?_ ?_
  refine And.intro (fun h => ?_) (fun h => ?_)
  · have h' : (i : Int) < ((kidsC c).length : Nat) := h
    have hi : i < c.l.length := by omega
    refine ⟨C, c.l, cpv, kidsC_eq c, show (0 : Int) ≤ (i : Int) by omega, show (i : Int) < (c.l.length : Int) by omega, fun x hx => ?_⟩
    have hx' : c.l[i]? = some x := hx
    have hm := List.mem_of_getElem? hx'
    have el : ((c.l.take i).map dcv).length = i := by rw [List.length_map, List.length_take]; omega
    have es : (c.l.take (i + 1)).map dcv = (c.l.take i).map dcv ++ [dcv x] := by
      rw [List.take_add_one, hx', Option.toList_some, List.map_append]; rfl
    refine ⟨[], no_rl, (ih x hm (allTL_all hTl x hm) (smL_all hSl x hm)).use (by repeat' first | exact trivial | exact rfl | exact Iff.rfl | exact Or.inl rfl | refine And.intro ?_ ?_) rfl rfl ?_⟩
    refine ⟨show ((c.l.take i).map dcv).length + 1 ≤ maxLen by rw [el]; unfold maxLen; omega, show (((c.l.take i).map dcv).length + 1) * 112 ≤ 140737488355328 by rw [el]; omega, ?_⟩
    refine .inl ⟨inR_i64 (by omega), ⟨i + 1, [some 0, some 1, some 2, some 6], by omega, ?_⟩⟩
    repeat' first | exact trivial | exact rfl | refine And.intro ?_ ?_
    exact (show (c.l.take i).map dcv ++ [dcv x] = _ from es.symm)
  · have h' : ¬ (i : Int) < ((kidsC c).length : Nat) := h
    have e : (c.l.take i).map dcv = kidsD c := by rw [kidsD_eq, List.take_of_length_le (by omega)]
    refine retE ?_
    repeat' first | exact trivial | exact rfl | refine And.intro ?_ ?_
    show le1 (.sl 8 ((c.l.take i).map dcv)) (.sl 8 (kidsD c))
    rw [e]
    repeat' first | exact trivial | exact rfl | refine And.intro ?_ ?_

end Go.Proofs.Ytnjmfedleimlmaa.Pw

/- Chapter 21 over values: the library's IndexFunc, ContainsFunc, EqualFunc at terms and at costs. Written by gen_tci.py. -/
namespace Go.Proofs.Ytnjmfedleimlmaa.Pw
open Go Go.RowKit

open Classical in
noncomputable def idxL {α : Type} (p : α → Prop) : List α → Nat → Int
  | [], _ => -1
  | x :: l, i => if p x then (i : Int) else idxL p l (i + 1)
theorem idxL_iff {α : Type} {p : α → Prop} : ∀ {l : List α} {i : Nat}, 0 ≤ idxL p l i ↔ ∃ x ∈ l, p x
  | [], i => by simp [idxL]
  | x :: l, i => by
    rw [idxL]
    by_cases h : p x
    · rw [if_pos h]
      exact ⟨fun _ => ⟨x, by simp, h⟩, fun _ => by omega⟩
    · rw [if_neg h, idxL_iff (l := l)]
      refine ⟨fun ⟨y, hy, hp⟩ => ⟨y, by simp [hy], hp⟩, fun ⟨y, hy, hp⟩ => ?_⟩
      rcases List.mem_cons.1 hy with rfl | hy
      · exact absurd hp h
      · exact ⟨y, hy, hp⟩
theorem idxL_step {α : Type} {p : α → Prop} {l : List α} {i : Nat} {x : α} (h : l[i]? = some x) : (p x → idxL p (l.drop i) i = i) ∧ (¬ p x → idxL p (l.drop i) i = idxL p (l.drop (i + 1)) (i + 1)) := by
  obtain ⟨hlt, hx⟩ := List.getElem?_eq_some_iff.1 h
  rw [List.drop_eq_getElem_cons hlt, hx, idxL]
  exact ⟨fun h => if_pos h, fun h => if_neg h⟩

set_option maxRecDepth 10000 in
theorem eqf_T (L M : List T) (hp : ∀ x ∈ L, ∀ y ∈ M, PureF gT 13 [tpv x, tpv y] (.bool (x = y))) : PureF gT 18 [.sl 3 (L.map tpv), .sl 3 (M.map tpv), .clo 13 []] (.bool (L = M)) := by
  refine Spec.enter gTok P18 100 Try.func18 rfl (by kernel_rfl) ?_
  intro hm hm2
  rw [List.length_map] at hm hm2
  refine And.intro (fun h0 => ?_) (fun h0 => ?_)
  · have h0' : ¬ ((L.map tpv).length : Int) = ((M.map tpv).length : Nat) := h0
    rw [List.length_map, List.length_map] at h0'
    refine retE ?_
    exact (show ¬ L = M from fun e => h0' (by rw [e]))
  have h0' : ((L.map tpv).length : Int) = ((M.map tpv).length : Nat) := Classical.not_not.1 h0
  rw [List.length_map, List.length_map] at h0'
  intro _
  refine SW.loopS gTok P18 (by kernel_rfl) (α := {i : Nat // i ≤ L.length ∧ L.take i = M.take i}) (fun i => [(17, .int .i64 i.1)]) (fun i => L.length - i.1) ⟨0, Nat.zero_le _, by simp⟩ 60 ?_ ?_
  · repeat' first | exact trivial | exact rfl | refine And.intro ?_ ?_
  rintro ⟨i, hle, hi⟩
  refine And.intro (fun h => ?_) (fun h => ?_)
  · have h' : (i : Int) < ((L.map tpv).length : Nat) := h
    rw [List.length_map] at h'
    refine ⟨T, L, tpv, rfl, show (0 : Int) ≤ (i : Int) by omega, show (i : Int) < (L.length : Int) by omega, fun x hx => ?_⟩
    have hx' : L[i]? = some x := hx
    refine ⟨T, M, tpv, rfl, show (0 : Int) ≤ (i : Int) by omega, show (i : Int) < (M.length : Int) by omega, fun y hy => ?_⟩
    have hy' : M[i]? = some y := hy
    refine ⟨[], no_rl, (hp x (List.mem_of_getElem? hx') y (List.mem_of_getElem? hy')).use (by repeat' first | exact trivial | exact rfl | exact Iff.rfl | exact Or.inl rfl | refine And.intro ?_ ?_) rfl rfl ?_⟩
    refine And.intro (fun hne => ?_) (fun he => ?_)
    · refine retE ?_
      exact (show ¬ L = M from fun e => hne (by rw [e, hy'] at hx'; exact (Option.some.inj hx').symm))
    · have he' : x = y := Classical.not_not.1 he
      unfold maxLen at hm
      refine .inl ⟨inR_i64 (show _ ≤ (i : Int) + 1 ∧ (i : Int) + 1 ≤ _ by omega), ⟨⟨i + 1, by omega, by rw [List.take_add_one, List.take_add_one, hi, hx', hy', he']⟩, show L.length - (i + 1) < L.length - i by omega, ?_⟩⟩
      repeat' first | exact trivial | exact rfl | refine And.intro ?_ ?_
  · have h' : ¬ (i : Int) < ((L.map tpv).length : Nat) := h
    rw [List.length_map] at h'
    refine retE ?_
    exact (show L = M by rw [List.take_of_length_le (by omega), List.take_of_length_le (by omega)] at hi; exact hi)

set_option maxRecDepth 10000 in
theorem eqf_C (L M : List C) (hp : ∀ x ∈ L, ∀ y ∈ M, PureF gT 6 [cpv x, cpv y] (.bool (x = y))) : PureF gT 14 [.sl 12 (L.map cpv), .sl 12 (M.map cpv), .clo 6 []] (.bool (L = M)) := by
  refine Spec.enter gTok P14 100 Try.func14 rfl (by kernel_rfl) ?_
  intro hm hm2
  rw [List.length_map] at hm hm2
  refine And.intro (fun h0 => ?_) (fun h0 => ?_)
  · have h0' : ¬ ((L.map cpv).length : Int) = ((M.map cpv).length : Nat) := h0
    rw [List.length_map, List.length_map] at h0'
    refine retE ?_
    exact (show ¬ L = M from fun e => h0' (by rw [e]))
  have h0' : ((L.map cpv).length : Int) = ((M.map cpv).length : Nat) := Classical.not_not.1 h0
  rw [List.length_map, List.length_map] at h0'
  intro _
  refine SW.loopS gTok P14 (by kernel_rfl) (α := {i : Nat // i ≤ L.length ∧ L.take i = M.take i}) (fun i => [(17, .int .i64 i.1)]) (fun i => L.length - i.1) ⟨0, Nat.zero_le _, by simp⟩ 60 ?_ ?_
  · repeat' first | exact trivial | exact rfl | refine And.intro ?_ ?_
  rintro ⟨i, hle, hi⟩
  refine And.intro (fun h => ?_) (fun h => ?_)
  · have h' : (i : Int) < ((L.map cpv).length : Nat) := h
    rw [List.length_map] at h'
    refine ⟨C, L, cpv, rfl, show (0 : Int) ≤ (i : Int) by omega, show (i : Int) < (L.length : Int) by omega, fun x hx => ?_⟩
    have hx' : L[i]? = some x := hx
    refine ⟨C, M, cpv, rfl, show (0 : Int) ≤ (i : Int) by omega, show (i : Int) < (M.length : Int) by omega, fun y hy => ?_⟩
    have hy' : M[i]? = some y := hy
    refine ⟨[], no_rl, (hp x (List.mem_of_getElem? hx') y (List.mem_of_getElem? hy')).use (by repeat' first | exact trivial | exact rfl | exact Iff.rfl | exact Or.inl rfl | refine And.intro ?_ ?_) rfl rfl ?_⟩
    refine And.intro (fun hne => ?_) (fun he => ?_)
    · refine retE ?_
      exact (show ¬ L = M from fun e => hne (by rw [e, hy'] at hx'; exact (Option.some.inj hx').symm))
    · have he' : x = y := Classical.not_not.1 he
      unfold maxLen at hm
      refine .inl ⟨inR_i64 (show _ ≤ (i : Int) + 1 ∧ (i : Int) + 1 ≤ _ by omega), ⟨⟨i + 1, by omega, by rw [List.take_add_one, List.take_add_one, hi, hx', hy', he']⟩, show L.length - (i + 1) < L.length - i by omega, ?_⟩⟩
      repeat' first | exact trivial | exact rfl | refine And.intro ?_ ?_
  · have h' : ¬ (i : Int) < ((L.map cpv).length : Nat) := h
    rw [List.length_map] at h'
    refine retE ?_
    exact (show L = M by rw [List.take_of_length_le (by omega), List.take_of_length_le (by omega)] at hi; exact hi)

theorem T.ind' {p : T → Prop} (h : ∀ t : T, (∀ x ∈ kidsL t, p x) → p t) : ∀ t, p t
  | .leaf o n => h _ (by simp [kidsL])
  | .one o n a => h _ (by simp only [kidsL, List.mem_singleton]; rintro x rfl; exact T.ind' h x)
  | .two o n a b => h _ (by
    simp only [kidsL, List.mem_cons, List.not_mem_nil, or_false]
    rintro x (rfl | rfl)
    · exact T.ind' h _
    · exact T.ind' h _)
theorem T.eq_iff (a b : T) : a = b ↔ a.op = b.op ∧ a.num = b.num ∧ kidsL a = kidsL b := by
  cases a <;> cases b <;> simp [T.op, T.num, kidsL]
theorem C.eq_iff (a b : C) : a = b ↔ (a.kind = b.kind ∧ a.cyc = b.cyc ∧ a.mis = b.mis ∧ a.word = b.word ∧ a.size = b.size) ∧ a.a = b.a ∧ a.b = b.b ∧ a.l = b.l := by
  cases a; cases b; simp only [C.mk.injEq, C.kind, C.cyc, C.mis, C.word, C.size, C.a, C.b, C.l]
  exact ⟨fun ⟨a, b, c, d, e, f, g, h⟩ => ⟨⟨a, b, c, d, e⟩, f, g, h⟩, fun ⟨⟨a, b, c, d, e⟩, f, g, h⟩ => ⟨a, b, c, d, e, f, g, h⟩⟩

set_option maxRecDepth 10000 in
theorem same_pure : ∀ a b : T, PureF gT 13 [tpv a, tpv b] (.bool (a = b)) := T.ind' fun a ih b => by
  refine Spec.enter gTok P13 100 Try.func13 rfl (by kernel_rfl) ?_
  refine And.intro (fun h1 => And.intro (fun h2 => ?_) (fun h2 => ?_)) (fun h1 => ?_)
  · have hk := eqf_T (kidsL a) (kidsL b) fun x hx y _ => ih x hx y
    rw [← kidsP_eq, ← kidsP_eq] at hk
    refine ⟨[], no_rl, hk.use (by repeat' first | exact trivial | exact rfl | exact Iff.rfl | exact Or.inl rfl | refine And.intro ?_ ?_) rfl rfl ?_⟩
    refine retE ?_
    exact (show (kidsL a = kidsL b) ↔ a = b by rw [T.eq_iff]; exact ⟨fun h => ⟨h1, h2, h⟩, fun h => h.2.2⟩)
  · refine retE ?_
    exact (show ¬ a = b from fun e => h2 (by rw [e]))
  · refine retE ?_
    exact (show ¬ a = b from fun e => h1 (by rw [e]))

set_option maxRecDepth 10000 in
theorem csame_pure : ∀ a b : C, PureF gT 6 [cpv a, cpv b] (.bool (a = b)) := C.ind' fun a ih b => by
  refine Spec.enter gTok P6 100 Try.func6 rfl (by kernel_rfl) ?_
  refine And.intro (fun h1 => ?_) (fun h1 => ?_)
  · refine ⟨[], no_rl, (same_pure a.a b.a).use (by repeat' first | exact trivial | exact rfl | exact Iff.rfl | exact Or.inl rfl | refine And.intro ?_ ?_) rfl rfl ?_⟩
    refine And.intro (fun h2 => ?_) (fun h2 => ?_)
    · refine ⟨[], no_rl, (same_pure a.b b.b).use (by repeat' first | exact trivial | exact rfl | exact Iff.rfl | exact Or.inl rfl | refine And.intro ?_ ?_) rfl rfl ?_⟩
      refine And.intro (fun h3 => ?_) (fun h3 => ?_)
      · have hk := eqf_C a.l b.l fun x hx y _ => ih x hx y
        rw [← kidsC_eq, ← kidsC_eq] at hk
        refine ⟨[], no_rl, hk.use (by repeat' first | exact trivial | exact rfl | exact Iff.rfl | exact Or.inl rfl | refine And.intro ?_ ?_) rfl rfl ?_⟩
        refine retE ?_
        obtain ⟨e1, e2, e3, e4, e5, _⟩ := h1
        exact (show (a.l = b.l) ↔ a = b by rw [C.eq_iff]; exact ⟨fun h => ⟨⟨e1, e2, e3, e4, e5⟩, h2, h3, h⟩, fun h => h.2.2.2⟩)
      · refine retE ?_
        exact (show ¬ a = b from fun e => h3 (by rw [e]))
    · refine retE ?_
      exact (show ¬ a = b from fun e => h2 (by rw [e]))
  · refine retE ?_
    exact (show ¬ a = b from fun e => h1 (by rw [e]; exact ⟨rfl, rfl, rfl, rfl, rfl, trivial⟩))

end Go.Proofs.Ytnjmfedleimlmaa.Pw

/- Chapter 21, plain: what items make. -/
namespace Go.Proofs.Ytnjmfedleimlmaa.Pw
open Go Go.RowKit

def szT (t : T) : Nat := if t.op = 0 then 0 else t.size
mutual
/-- how many nodes a cost has -/
def cN : C → Nat
  | .mk _ _ _ _ _ a b l => 1 + szT a + szT b + cNL l
def cNL : List C → Nat
  | [] => 0
  | c :: l => cN c + cNL l
end
theorem cN_eq (c : C) : cN c = 1 + szT c.a + szT c.b + cNL c.l := by cases c; rfl
theorem cNL_append : ∀ (l m : List C), cNL (l ++ m) = cNL l + cNL m
  | [], m => by simp [cNL]
  | c :: l, m => by rw [List.cons_append, cNL, cNL, cNL_append l m]; omega
theorem cN_pos (c : C) : 1 ≤ cN c := by rw [cN_eq]; omega
theorem cNL_len : ∀ l : List C, l.length ≤ cNL l
  | [] => Nat.le_refl _
  | c :: l => by have := cNL_len l; have := cN_pos c; rw [cNL, List.length_cons]; omega
theorem cNL_mem : ∀ {l : List C} {x : C}, x ∈ l → cN x ≤ cNL l
  | c :: l, x, hx => by
    rw [cNL]
    rcases List.mem_cons.1 hx with rfl | hx
    · omega
    · have := cNL_mem hx; omega
theorem cNL_take {l : List C} {i : Nat} {x : C} (h : l[i]? = some x) : cNL (l.take (i + 1)) = cNL (l.take i) + cN x := by
  rw [List.take_add_one, h, cNL_append]; simp [cNL]
theorem cNL_take_le (l : List C) (i : Nat) : cNL (l.take i) ≤ cNL l := by
  have := cNL_append (l.take i) (l.drop i)
  rw [List.take_append_drop] at this; omega

/-- a term that an item makes -/
def MT (t : T) : Prop := ∃ op u w, (0 ≤ u ∧ u ≤ 4294967295) ∧ t = termOfT op u w
theorem MT.cases {t : T} (h : MT t) : t.Wf ∧ t.size ≤ 3 ∧ ((t = .leaf 0 0 ∧ flatT t = []) ∨ (t.op ≠ 0 ∧ flatT t = t.nodes)) := by
  obtain ⟨op, u, w, hu, rfl⟩ := h
  refine ⟨termOfT_wf hu, ?_⟩
  unfold termOfT
  split
  · refine ⟨by simp [T.size], .inr ⟨by simp [T.op], by simp [flatT, T.nodes]⟩⟩
  split
  · refine ⟨by simp [T.size], .inr ⟨by simp [T.op], by simp [flatT, T.nodes]⟩⟩
  split
  · refine ⟨by simp [T.size], .inr ⟨by simp only [T.op]; omega, by simp [flatT, T.nodes]⟩⟩
  split
  · refine ⟨by simp [T.size], .inr ⟨by simp only [T.op]; omega, by simp [flatT, T.nodes]⟩⟩
  · refine ⟨by simp [T.size], ?_⟩
    by_cases h0 : op = 0
    · subst h0; exact .inl ⟨rfl, by simp [flatT]⟩
    · exact .inr ⟨h0, by simp [flatT, T.nodes, h0]⟩
theorem MT.sz {t : T} (h : MT t) : szT t = (flatT t).length ∧ szT t ≤ 3 := by
  obtain ⟨_, h2, h3⟩ := h.cases
  rcases h3 with ⟨rfl, h3⟩ | ⟨h4, h3⟩
  · rw [h3]; exact ⟨rfl, by simp [szT, T.op]⟩
  · rw [h3, T.nodes_length, szT, if_neg h4]; exact ⟨rfl, h2⟩

theorem MT.wf {t : T} (h : MT t) : t.Wf := h.cases.1
theorem MT.small {t : T} (h : MT t) : t.size ≤ 16384 := by have := h.cases.2.1; omega
/-! ### what items make -/
mutual
theorem C.AllT.mono {p q : T → Prop} (h : ∀ t, p t → q t) : ∀ c : C, c.AllT p → c.AllT q
  | .mk _ _ _ _ _ a b l, hc => ⟨h a hc.1, h b hc.2.1, allTL.mono h l hc.2.2⟩
theorem allTL.mono {p q : T → Prop} (h : ∀ t, p t → q t) : ∀ l : List C, allTL p l → allTL q l
  | [], _ => trivial
  | c :: l, hc => ⟨C.AllT.mono h c hc.1, allTL.mono h l hc.2⟩
end
mutual
theorem sm_of : ∀ c : C, cN c ≤ 1000000 → c.Sm
  | .mk k cy mi wo si a b l, h => by
    have h2 : 1 + szT a + szT b + cNL l ≤ 1000000 := h
    exact ⟨by have := cNL_len l; omega, smL_of l (by omega)⟩
theorem smL_of : ∀ l : List C, cNL l ≤ 1000000 → smL l
  | [], _ => trivial
  | c :: l, h => by
    have h2 : cN c + cNL l ≤ 1000000 := h
    exact ⟨sm_of c (by omega), smL_of l (by omega)⟩
end
mutual
theorem wf_of_MT : ∀ c : C, c.AllT MT → c.Wf
  | .mk _ _ _ _ _ _ _ l, h => ⟨h.1.wf, h.2.1.wf, wfL_of_MT l h.2.2⟩
theorem wfL_of_MT : ∀ l : List C, allTL MT l → wfL l
  | [], _ => trivial
  | c :: l, h => ⟨wf_of_MT c h.1, wfL_of_MT l h.2⟩
end
theorem allTL_append {p : T → Prop} : ∀ {l m : List C}, allTL p l → allTL p m → allTL p (l ++ m)
  | [], m, _, h => h
  | c :: l, m, h, h2 => ⟨h.1, allTL_append h.2 h2⟩
theorem MT.zero : MT leaf0 := ⟨0, 0, 0, by omega, rfl⟩
theorem kidsN_MT {f : Nat → C × Nat} (hf : ∀ i, (f i).1.AllT MT) : ∀ n i, allTL MT (kidsN f n i).1
  | 0, i => trivial
  | n + 1, i => allTL_append (kidsN_MT hf n i) ⟨hf _, trivial⟩
theorem builtC_MT {l : List IT} (hl : ∀ x ∈ l, x.Ok) : ∀ k i, (builtC l k i).1.AllT MT
  | 0, i => ⟨MT.zero, MT.zero, trivial⟩
  | k + 1, i => by
    rw [builtC]
    split
    · exact ⟨MT.zero, MT.zero, trivial⟩
    · rename_i x hx
      have ok := hl x (List.mem_of_getElem? hx)
      exact ⟨⟨_, _, _, ok.au, rfl⟩, ⟨_, _, _, ok.bu, rfl⟩, kidsN_MT (builtC_MT hl k) _ _⟩
theorem kidsN_up {f : Nat → C × Nat} (hf : ∀ i, i ≤ (f i).2) : ∀ n i, i ≤ (kidsN f n i).2
  | 0, i => Nat.le_refl _
  | n + 1, i => Nat.le_trans (kidsN_up hf n i) (hf _)
theorem builtC_up {l : List IT} : ∀ k i, i ≤ (builtC l k i).2
  | 0, i => Nat.le_refl _
  | k + 1, i => by
    rw [builtC]
    split
    · exact Nat.le_refl _
    · exact Nat.le_trans (Nat.le_succ i) (kidsN_up (builtC_up k) _ _)
theorem kidsN_cN {f : Nat → C × Nat} (hu : ∀ i, i ≤ (f i).2) (hf : ∀ i, cN (f i).1 + 28 * i ≤ 7 + 28 * (f i).2) : ∀ n i, cNL (kidsN f n i).1 + 28 * i ≤ 7 * n + 28 * (kidsN f n i).2
  | 0, i => by simp [kidsN, cNL]
  | n + 1, i => by
    have h1 := kidsN_cN hu hf n i
    have h2 := hf (kidsN f n i).2
    rw [kidsN, cNL_append]
    have h3 : cNL [(f (kidsN f n i).2).1] = cN (f (kidsN f n i).2).1 := by simp [cNL]
    rw [h3]
    show _ ≤ 7 * (n + 1) + 28 * (f (kidsN f n i).2).2
    omega
theorem flat1_cN : cN (flatC 1 0) = 1 := by decide
theorem builtC_cN {l : List IT} (hl : ∀ x ∈ l, x.Ok) : ∀ k i, cN (builtC l k i).1 + 28 * i ≤ 7 + 28 * (builtC l k i).2
  | 0, i => by
    have := flat1_cN
    simp only [builtC]; omega
  | k + 1, i => by
    rw [builtC]
    split
    · have := flat1_cN
      show cN (flatC 1 0) + 28 * i ≤ 7 + 28 * i
      omega
    · rename_i x hx
      have ok := hl x (List.mem_of_getElem? hx)
      have h1 := kidsN_cN (builtC_up k) (builtC_cN hl k) (max (min x.kids 4) 0).toNat (i + 1)
      have h2 := (show MT (termOfT x.aop x.au x.aw) from ⟨_, _, _, ok.au, rfl⟩).sz.2
      have h3 := (show MT (termOfT x.bop x.bu x.bw) from ⟨_, _, _, ok.bu, rfl⟩).sz.2
      show 1 + szT (termOfT x.aop x.au x.aw) + szT (termOfT x.bop x.bu x.bw) + cNL (kidsN (builtC l k) (max (min x.kids 4) 0).toNat (i + 1)).1 + 28 * i ≤ 7 + 28 * (kidsN (builtC l k) (max (min x.kids 4) 0).toNat (i + 1)).2
      omega
theorem madeC_cN {l : List IT} (hl : ∀ x ∈ l, x.Ok) (h : l.length ≤ 30) : cN (madeC l) ≤ 847 := by
  have h1 := builtC_cN hl 13 0
  have h2 := builtC_le (l := l) 13 0 (Nat.zero_le _)
  unfold madeC
  omega

end Go.Proofs.Ytnjmfedleimlmaa.Pw

/- Chapter 21 over values: CostSame. -/
namespace Go.Proofs.Ytnjmfedleimlmaa.Pw
open Go Go.RowKit

theorem nodes_inj : ∀ (a b : T) (r r' : List (Int × Int × Int)), a.nodes ++ r = b.nodes ++ r' → a = b ∧ r = r'
  | .leaf o n, b, r, r', h => by
    cases b <;> simp only [T.nodes, List.cons_append, List.nil_append, List.cons.injEq, Prod.mk.injEq] at h
    · obtain ⟨⟨rfl, rfl, _⟩, rfl⟩ := h; exact ⟨rfl, rfl⟩
    · exact absurd h.1.2.2 (by decide)
    · exact absurd h.1.2.2 (by decide)
  | .one o n a, b, r, r', h => by
    cases b <;> simp only [T.nodes, List.cons_append, List.nil_append, List.cons.injEq, Prod.mk.injEq] at h
    · exact absurd h.1.2.2 (by decide)
    · obtain ⟨⟨rfl, rfl, _⟩, h⟩ := h
      obtain ⟨rfl, rfl⟩ := nodes_inj a _ _ _ h
      exact ⟨rfl, rfl⟩
    · exact absurd h.1.2.2 (by decide)
  | .two o n a b, c, r, r', h => by
    cases c <;> simp only [T.nodes, List.cons_append, List.nil_append, List.cons.injEq, Prod.mk.injEq, List.append_assoc] at h
    · exact absurd h.1.2.2 (by decide)
    · exact absurd h.1.2.2 (by decide)
    · obtain ⟨⟨rfl, rfl, _⟩, h⟩ := h
      obtain ⟨rfl, h2⟩ := nodes_inj a _ _ _ h
      obtain ⟨rfl, rfl⟩ := nodes_inj b _ _ _ h2
      exact ⟨rfl, rfl⟩
theorem MT.inj {a b : T} (ha : MT a) (hb : MT b) (h : flatT a = flatT b) : a = b := by
  obtain ⟨_, _, h1⟩ := ha.cases
  obtain ⟨_, _, h2⟩ := hb.cases
  have ne : ∀ t : T, t.nodes ≠ [] := fun t => by cases t <;> simp [T.nodes]
  rcases h1 with ⟨rfl, e1⟩ | ⟨_, e1⟩ <;> rcases h2 with ⟨rfl, e2⟩ | ⟨_, e2⟩
  · rfl
  · rw [e1, e2] at h; exact absurd h.symm (ne _)
  · rw [e1, e2] at h; exact absurd h (ne _)
  · rw [e1, e2] at h
    exact (nodes_inj a b [] [] (by simpa using h)).1

set_option maxHeartbeats 8000000 in
set_option maxRecDepth 10000 in
theorem alike21_pure : ∀ x : C, x.AllT MT → ∀ y : C, y.AllT MT → PureF gT 7 [dcv x, dcv y] (.bool (x = y)) := C.ind' fun x ih hx y hy => by
  obtain ⟨xa, xb, xl⟩ := (C.allT_iff x).1 hx
  obtain ⟨ya, yb, yl⟩ := (C.allT_iff y).1 hy
  refine Spec.enter gTok P7 100 Try.func7 rfl (by kernel_rfl) ?_
  have lx := xa.sz
  have lxb := xb.sz
  have ek : (kidsD x).length = x.l.length := by rw [kidsD_eq, List.length_map]
  have ek2 : (kidsD y).length = y.l.length := by rw [kidsD_eq, List.length_map]
  refine And.intro (fun h => ?_) (fun h1 => ?_)
  · (refine retE ?_; exact (show ¬ x = y from fun e => h (by rw [e])))
  refine And.intro (fun h => ?_) (fun h2 => ?_)
  · (refine retE ?_; exact (show ¬ x = y from fun e => h (by rw [e])))
  refine And.intro (fun h => ?_) (fun h3 => ?_)
  · (refine retE ?_; exact (show ¬ x = y from fun e => h (by rw [e])))
  refine And.intro (fun h => ?_) (fun h4 => ?_)
  · (refine retE ?_; exact (show ¬ x = y from fun e => h (by rw [e])))
  refine And.intro (fun h => ?_) (fun h5 => ?_)
  · (refine retE ?_; exact (show ¬ x = y from fun e => h (by rw [e])))
  refine fun _ => fun _ => And.intro (fun h => ?_) (fun h6 => ?_)
  · (refine retE ?_; exact (show ¬ x = y from fun e => h (by rw [e])))
  refine fun _ => fun _ => And.intro (fun h => ?_) (fun h7 => ?_)
  · (refine retE ?_; exact (show ¬ x = y from fun e => h (by rw [e])))
  refine fun _ => fun hm => And.intro (fun h => ?_) (fun h8 => ?_)
  · (refine retE ?_; exact (show ¬ x = y from fun e => h (by rw [e])))
  have l6 : (((flatT x.a).map nP).length : Int) = (((flatT y.a).map nP).length : Nat) := Classical.not_not.1 h6
  have l7 : (((flatT x.b).map nP).length : Int) = (((flatT y.b).map nP).length : Nat) := Classical.not_not.1 h7
  have l8 : ((kidsD x).length : Int) = ((kidsD y).length : Nat) := Classical.not_not.1 h8
  rw [List.length_map, List.length_map] at l6 l7
  intro _
  refine SW.loopS gTok P7 (by kernel_rfl) (α := {i : Nat // (flatT x.a).take i = (flatT y.a).take i}) (fun i => [(71, .int .i64 i.1)]) (fun i => (flatT x.a).length - i.1) ⟨0, by simp⟩ 60 ?_ ?_
  · repeat' first | exact trivial | exact rfl | exact Iff.rfl | refine And.intro ?_ ?_
  rintro ⟨i, hi⟩
  refine And.intro (fun h => ?_) (fun h => ?_)
  · have h' : (i : Int) < (((flatT x.a).map nP).length : Nat) := h
    rw [List.length_map] at h'
    refine ⟨Int × Int × Int, flatT x.a, nP, rfl, show (0 : Int) ≤ (i : Int) by omega, show (i : Int) < ((flatT x.a).length : Int) by omega, fun p hp => ?_⟩
    have hp' : (flatT x.a)[i]? = some p := hp
    refine ⟨Int × Int × Int, flatT y.a, nP, rfl, show (0 : Int) ≤ (i : Int) by omega, show (i : Int) < ((flatT y.a).length : Int) by omega, fun q hq => ?_⟩
    have hq' : (flatT y.a)[i]? = some q := hq
    refine And.intro (fun hn => ?_) (fun hn => ?_)
    · refine retE ?_
      exact (show ¬ x = y from fun e => hn (by rw [e, hq'] at hp'; obtain rfl := Option.some.inj hp'; exact ⟨rfl, rfl, rfl, trivial⟩))
    · obtain ⟨n1, n2, n3, _⟩ := Classical.not_not.1 hn
      have epq : p = q := Prod.ext n1 (Prod.ext n2 n3)
      refine .inl ⟨inR_i64 (show _ ≤ (i : Int) + 1 ∧ (i : Int) + 1 ≤ _ by omega), ⟨⟨i + 1, by rw [List.take_add_one, List.take_add_one, hi, hp', hq', epq]⟩, show (flatT x.a).length - (i + 1) < (flatT x.a).length - i by omega, ?_⟩⟩
      repeat' first | exact trivial | exact rfl | exact Iff.rfl | refine And.intro ?_ ?_
  have h' : ¬ (i : Int) < (((flatT x.a).map nP).length : Nat) := h
  rw [List.length_map] at h'
  rw [List.take_of_length_le (by omega), List.take_of_length_le (by omega)] at hi
  have ea := hi
  intro _
  refine SW.loopS gTok P7 (by kernel_rfl) (α := {i : Nat // (flatT x.b).take i = (flatT y.b).take i}) (fun i => [(89, .int .i64 i.1)]) (fun i => (flatT x.b).length - i.1) ⟨0, by simp⟩ 60 ?_ ?_
  · repeat' first | exact trivial | exact rfl | exact Iff.rfl | refine And.intro ?_ ?_
  rintro ⟨i, hi⟩
  refine And.intro (fun h => ?_) (fun h => ?_)
  · have h' : (i : Int) < (((flatT x.b).map nP).length : Nat) := h
    rw [List.length_map] at h'
    refine ⟨Int × Int × Int, flatT x.b, nP, rfl, show (0 : Int) ≤ (i : Int) by omega, show (i : Int) < ((flatT x.b).length : Int) by omega, fun p hp => ?_⟩
    have hp' : (flatT x.b)[i]? = some p := hp
    refine ⟨Int × Int × Int, flatT y.b, nP, rfl, show (0 : Int) ≤ (i : Int) by omega, show (i : Int) < ((flatT y.b).length : Int) by omega, fun q hq => ?_⟩
    have hq' : (flatT y.b)[i]? = some q := hq
    refine And.intro (fun hn => ?_) (fun hn => ?_)
    · refine retE ?_
      exact (show ¬ x = y from fun e => hn (by rw [e, hq'] at hp'; obtain rfl := Option.some.inj hp'; exact ⟨rfl, rfl, rfl, trivial⟩))
    · obtain ⟨n1, n2, n3, _⟩ := Classical.not_not.1 hn
      have epq : p = q := Prod.ext n1 (Prod.ext n2 n3)
      refine .inl ⟨inR_i64 (show _ ≤ (i : Int) + 1 ∧ (i : Int) + 1 ≤ _ by omega), ⟨⟨i + 1, by rw [List.take_add_one, List.take_add_one, hi, hp', hq', epq]⟩, show (flatT x.b).length - (i + 1) < (flatT x.b).length - i by omega, ?_⟩⟩
      repeat' first | exact trivial | exact rfl | exact Iff.rfl | refine And.intro ?_ ?_
  have h' : ¬ (i : Int) < (((flatT x.b).map nP).length : Nat) := h
  rw [List.length_map] at h'
  rw [List.take_of_length_le (by omega), List.take_of_length_le (by omega)] at hi
  have eb := hi
  intro _
  refine SW.loopS gTok P7 (by kernel_rfl) (α := {i : Nat // x.l.take i = y.l.take i}) (fun i => [(107, .int .i64 i.1)]) (fun i => x.l.length - i.1) ⟨0, by simp⟩ 60 ?_ ?_
  · repeat' first | exact trivial | exact rfl | exact Iff.rfl | refine And.intro ?_ ?_
  rintro ⟨i, hi⟩
  refine And.intro (fun h => ?_) (fun h => ?_)
  · have h' : (i : Int) < ((kidsD x).length : Nat) := h
    refine ⟨C, x.l, dcv, kidsD_eq x, show (0 : Int) ≤ (i : Int) by omega, show (i : Int) < (x.l.length : Int) by omega, fun p hp => ?_⟩
    have hp' : x.l[i]? = some p := hp
    refine ⟨C, y.l, dcv, kidsD_eq y, show (0 : Int) ≤ (i : Int) by omega, show (i : Int) < (y.l.length : Int) by omega, fun q hq => ?_⟩
    have hq' : y.l[i]? = some q := hq
    have mp := List.mem_of_getElem? hp'
    have mq := List.mem_of_getElem? hq'
    refine ⟨[], no_rl, (ih p mp (allTL_all xl p mp) q (allTL_all yl q mq)).use (by repeat' first | exact trivial | exact rfl | exact Iff.rfl | exact Or.inl rfl | refine And.intro ?_ ?_) rfl rfl ?_⟩
    refine And.intro (fun hn => ?_) (fun hn => ?_)
    · refine retE ?_
      exact (show ¬ x = y from fun e => hn (by rw [e, hq'] at hp'; exact (Option.some.inj hp').symm))
    · have epq : p = q := Classical.not_not.1 hn
      unfold maxLen at hm
      refine .inl ⟨inR_i64 (show _ ≤ (i : Int) + 1 ∧ (i : Int) + 1 ≤ _ by omega), ⟨⟨i + 1, by rw [List.take_add_one, List.take_add_one, hi, hp', hq', epq]⟩, show x.l.length - (i + 1) < x.l.length - i by omega, ?_⟩⟩
      repeat' first | exact trivial | exact rfl | exact Iff.rfl | refine And.intro ?_ ?_
  have h' : ¬ (i : Int) < ((kidsD x).length : Nat) := h
  rw [List.take_of_length_le (by omega), List.take_of_length_le (by omega)] at hi
  refine retE ?_
  exact (show x = y from (C.eq_iff x y).2 ⟨⟨Classical.not_not.1 h1, Classical.not_not.1 h2, Classical.not_not.1 h3, Classical.not_not.1 h4, Classical.not_not.1 h5⟩, xa.inj ya ea, xb.inj yb eb, hi⟩)

set_option maxHeartbeats 2000000 in
set_option maxRecDepth 10000 in
theorem CostSame_pure (l m : List IT) (hl : l.length ≤ maxLen) (hx : ∀ x ∈ l, x.Ok) (hm : m.length ≤ maxLen) (hy : ∀ x ∈ m, x.Ok) : PureF gT 3 [.sl 12 (l.map itP), .sl 12 (m.map itP)] .tt := by
  refine Spec.enter gTok P3 100 Try.func3 rfl (by kernel_rfl) ?_
  refine ⟨[], no_rl, anchor21_pure.use trivial rfl rfl ?_⟩
  refine ⟨[], no_rl, (made_pure l hl).use (by repeat' first | exact trivial | exact rfl | exact Iff.rfl | exact Or.inl rfl | refine And.intro ?_ ?_) rfl rfl ?_⟩
  refine ⟨[], no_rl, (made_pure m hm).use (by repeat' first | exact trivial | exact rfl | exact Iff.rfl | exact Or.inl rfl | refine And.intro ?_ ?_) rfl rfl ?_⟩
  refine And.intro (fun h => ?_) (fun h => And.intro (fun h2 => ?_) (fun h2 => ?_))
  · exact retE trivial
  · exact retE trivial
  have hT : (madeC l).AllT MT := builtC_MT hx 13 0
  have hT2 : (madeC l).AllT fun t => t.size ≤ 1000000 := C.AllT.mono (fun t ht => by have := ht.small; omega) _ hT
  have hN := madeC_cN hx (Classical.not_not.1 h)
  have kT : (madeC m).AllT MT := builtC_MT hy 13 0
  have kT2 : (madeC m).AllT fun t => t.size ≤ 1000000 := C.AllT.mono (fun t ht => by have := ht.small; omega) _ kT
  have kN := madeC_cN hy (Classical.not_not.1 h2)
  generalize madeC l = c at *
  generalize madeC m = d at *
  refine ⟨[], no_rl, (csame_pure c d).use (by repeat' first | exact trivial | exact rfl | exact Iff.rfl | exact Or.inl rfl | refine And.intro ?_ ?_) rfl rfl ?_⟩
  refine ⟨[], no_rl, (of21_pure c hT2 (sm_of c (by omega))).use (by repeat' first | exact trivial | exact rfl | exact Iff.rfl | exact Or.inl rfl | refine And.intro ?_ ?_) rfl rfl ?_⟩
  refine ⟨[], no_rl, (of21_pure d kT2 (sm_of d (by omega))).use (by repeat' first | exact trivial | exact rfl | exact Iff.rfl | exact Or.inl rfl | refine And.intro ?_ ?_) rfl rfl ?_⟩
  refine ⟨[], no_rl, (alike21_pure c hT d kT).use (by repeat' first | exact trivial | exact rfl | exact Iff.rfl | exact Or.inl rfl | refine And.intro ?_ ?_) rfl rfl ?_⟩
  refine retE ?_
  exact Iff.rfl

end Go.Proofs.Ytnjmfedleimlmaa.Pw

/- Items that come in to chapter 21's laws, opened. -/
namespace Go.Proofs.Ytnjmfedleimlmaa.Pw
open Go Go.RowKit

theorem inR_u32b {z : Int} (h : InR .u32 z) : 0 ≤ z ∧ z ≤ 4294967295 := by unfold InR Ev.kmin Ev.kmax at h; simp only [IntKind.signed, IntKind.bits] at h; simpa using h
theorem opT : Op Try.prog 61 (SAgg [SInt .i64, SInt .u32, SInt .i64]) :=
  opAgg (Ss := [SInt .i64, SInt .u32, SInt .i64]) Try.underlying61 ⟨rfl, opInt Try.underlying3 (by kernel_rfl), (show _ = _ by kernel_rfl), opInt Try.underlying24 (by kernel_rfl), (show _ = _ by kernel_rfl), opInt Try.underlying3 (by kernel_rfl), (show _ = _ by kernel_rfl)⟩
set_option maxRecDepth 100000 in
theorem opItems : Op Try.prog 22 (SLs 12 96 itP IT.Ok) :=
  opList (opSlice (opAgg (Ss := [SInt .i64, SInt .i64, SInt .i64, SInt .i64, SInt .i64, SAgg [SInt .i64, SInt .u32, SInt .i64], SAgg [SInt .i64, SInt .u32, SInt .i64], SInt .i64]) Try.underlying63
    ⟨rfl, opInt Try.underlying3 (by kernel_rfl), (show _ = _ by kernel_rfl), opInt Try.underlying3 (by kernel_rfl), (show _ = _ by kernel_rfl), opInt Try.underlying3 (by kernel_rfl), (show _ = _ by kernel_rfl), opInt Try.underlying3 (by kernel_rfl), (show _ = _ by kernel_rfl), opInt Try.underlying3 (by kernel_rfl), (show _ = _ by kernel_rfl),
      opT, (show _ = _ by kernel_rfl), opT, (show _ = _ by kernel_rfl), opInt Try.underlying3 (by kernel_rfl), (show _ = _ by kernel_rfl)⟩) 12 96 (by kernel_rfl) Try.underlying22 (by kernel_rfl) (by decide) (by kernel_rfl)) fun x ⟨xs, h, e⟩ => by
    obtain ⟨_, _, rfl, ⟨k, _, rfl⟩, h_1⟩ := all2_cons h
    obtain ⟨_, _, rfl, ⟨cy, _, rfl⟩, h_2⟩ := all2_cons h_1
    obtain ⟨_, _, rfl, ⟨mi, _, rfl⟩, h_3⟩ := all2_cons h_2
    obtain ⟨_, _, rfl, ⟨wo, _, rfl⟩, h_4⟩ := all2_cons h_3
    obtain ⟨_, _, rfl, ⟨si, _, rfl⟩, h_5⟩ := all2_cons h_4
    obtain ⟨_, _, rfl, ⟨as_, ha, rfl⟩, h_6⟩ := all2_cons h_5
    obtain ⟨_, _, rfl, ⟨bs_, hb, rfl⟩, h_7⟩ := all2_cons h_6
    obtain ⟨_, _, rfl, ⟨n, _, rfl⟩, h_8⟩ := all2_cons h_7
    obtain rfl := all2_nil h_8
    obtain ⟨_, _, rfl, ⟨ao, _, rfl⟩, ha_1⟩ := all2_cons ha
    obtain ⟨_, _, rfl, ⟨au, hau, rfl⟩, ha_2⟩ := all2_cons ha_1
    obtain ⟨_, _, rfl, ⟨aw, _, rfl⟩, ha_3⟩ := all2_cons ha_2
    obtain rfl := all2_nil ha_3
    obtain ⟨_, _, rfl, ⟨bo, _, rfl⟩, hb_1⟩ := all2_cons hb
    obtain ⟨_, _, rfl, ⟨bu, hbu, rfl⟩, hb_2⟩ := all2_cons hb_1
    obtain ⟨_, _, rfl, ⟨bw, _, rfl⟩, hb_3⟩ := all2_cons hb_2
    obtain rfl := all2_nil hb_3
    exact ⟨⟨k, cy, mi, wo, si, ao, au, aw, bo, bu, bw, n⟩, ⟨inR_u32b hau, inR_u32b hbu⟩, e⟩
abbrev SItems := SLs 12 96 itP IT.Ok

end Go.Proofs.Ytnjmfedleimlmaa.Pw

/- CostSame as its frame wants it. -/
namespace Go.Proofs.Ytnjmfedleimlmaa.Pw
open Go Go.RowKit

theorem CostSame_pure' (x : PV) (s : SItems x) (y : PV) (t : SItems y) : PureF gT 3 [x, y] .tt := by
  obtain ⟨l, h1, h2, rfl⟩ := s
  obtain ⟨m, k1, k2, rfl⟩ := t
  exact CostSame_pure l m h1.1 h2 k1.1 k2
theorem immS {W : World} : ImmOk gT (In W) W := ⟨fun _ h => h, fun g cs h => by cases h⟩

end Go.Proofs.Ytnjmfedleimlmaa.Pw

/- Instructions of every form, set against a law that asks their fields and four more arguments. -/
import Derived.Test.YthpkejlmelednaaDoorClkE
namespace Go.Proofs.YthpkejlmelednaaDoor.Ev
open Go Go.RowKit

def instL (f r : E) : List E := f :: ((List.range 9).map fun i => .var (i + 1)) ++ [r]
def instAr (f r : E) : AV := .v (.g ((instL f r).map (.int .i64)))
theorem is_den {ρ : Env} {β : Pl} {k : IntKind} : ∀ es : List E, All2 (AT.Is ρ β) (es.map (.int k)) ((es.map (E.den ρ)).map (Value.int k))
  | [] => trivial
  | e :: es => ⟨rfl, is_den es⟩
theorem instAr_is {ρ : Env} {β : Pl} {f r : E} {l : List Int} (h : (instL f r).map (E.den ρ) = l) : AV.Is ρ β (instAr f r) (instVals l) := ⟨_, rfl, h ▸ is_den (instL f r)⟩
/-- an instruction's fields, some arguments: 1 a truth, 2 a word -/
def moreL : Nat → List Nat → FL
  | _, [] => []
  | n, k :: l => (.var n, 0, if k = 1 then 1 else 4294967295) :: moreL (n + 1) l
def moreA : Nat → List Nat → List AV
  | _, [] => []
  | n, k :: l => (if k = 1 then .v (.c (.bool (.var n))) else .v (.c (.int .u32 (.var n)))) :: moreA (n + 1) l
def clkPc (b : Int × Int) (ks : List Nat) (fl : FL) : PC := pcOf (fl ++ ((.var 0, b) :: (rightL ++ moreL 11 ks)))
noncomputable def clkOk (d : Bool) (fn : FuncId) (ks : List Nat) (b : Int × Int) (f r : E) (fl : FL) : Bool := (rest [] (evFn (cxC d) 1000 fn (tabBlks [shTab]) (clkPc b ks fl) (instAr f r :: moreA 11 ks))).isEmpty
attribute [irreducible] clkOk
def noneF (f : Int) : FL := [(.ap 2 (mkL (instL (.lit f) (.var 10))), 0, 0)]
/-- a law of all instructions -/
structure ClkAll (fn : FuncId) (ks : List Nat) : Prop where
  low : clkOk false fn ks (-9223372036854775808, 41) (.var 0) (.var 10) [] = true
  high : clkOk false fn ks (44, 9223372036854775807) (.var 0) (.var 10) [] = true
  push : clkOk false fn ks (42, 42) (.lit 42) (.var 10) (noneF 42) = true
  pop : clkOk false fn ks (43, 43) (.lit 43) (.var 10) (noneF 43) = true
  push1 : clkOk true fn ks (42, 42) (.lit 42) (.var 10) [(.var 10, 1, 255)] = true
  push2 : clkOk true fn ks (42, 42) (.lit 42) (.var 10) [(.var 10, 16384, 16639)] = true
  pop1 : clkOk true fn ks (43, 43) (.lit 43) (.var 10) [(.var 10, 1, 255)] = true
  pop2 : clkOk true fn ks (43, 43) (.lit 43) (.var 10) [(.var 10, 32768, 33023)] = true

def moreV : List Nat → List Int → List Value
  | k :: ks, x :: xs => (if k = 1 then .bool (tb x) else .int .u32 x) :: moreV ks xs
  | _, _ => []
def moreB : List Nat → List Int → Prop
  | [], [] => True
  | k :: ks, x :: xs => (0 ≤ x ∧ x ≤ (if k = 1 then 1 else 4294967295)) ∧ moreB ks xs
  | _, _ => False
theorem moreL_ok {ρ : Env} : ∀ {ks : List Nat} {xs : List Int} {n : Nat}, moreB ks xs → (∀ (j : Nat) x, xs[j]? = some x → ρ.v (n + j) = x) → flOk ρ (moreL n ks)
  | [], _, _, _, _ => fun f hf => by simp [moreL] at hf
  | k :: ks, [], n, h, _ => h.elim
  | k :: ks, x :: xs, n, h, hv => by
    have e : ρ.v n = x := hv 0 x rfl
    refine flOk_cons ?_ (moreL_ok h.2 fun j y hy => by rw [← hv (j + 1) y (by simpa using hy)]; congr 1; omega)
    show 0 ≤ ρ.v n ∧ ρ.v n ≤ (if k = 1 then 1 else 4294967295)
    rw [e]; exact h.1
theorem moreA_is {ρ : Env} {β : Pl} : ∀ {ks : List Nat} {xs : List Int} {n : Nat}, moreB ks xs → (∀ (j : Nat) x, xs[j]? = some x → ρ.v (n + j) = x) → All2 (AV.Is ρ β) (moreA n ks) (moreV ks xs)
  | [], [], _, _, _ => trivial
  | [], _ :: _, _, h, _ => h.elim
  | k :: ks, [], n, h, _ => h.elim
  | k :: ks, x :: xs, n, h, hv => by
    have e : ρ.v n = x := hv 0 x rfl
    refine ⟨?_, moreA_is h.2 fun j y hy => by rw [← hv (j + 1) y (by simpa using hy)]; congr 1; omega⟩
    by_cases hk : k = 1
    · rw [if_pos hk, if_pos hk, ← e]; rfl
    · rw [if_neg hk, if_neg hk, ← e]; rfl
theorem clk_run {d : Bool} {fn : FuncId} {ks : List Nat} {l xs : List Int} (hl : l.length = 11) (hb : ∀ x ∈ l, -9223372036854775808 ≤ x ∧ x ≤ 9223372036854775807) (hx : moreB ks xs) {b : Int × Int} {f r : E} {fl : FL} (h : clkOk d fn ks b f r fl = true)
    (hin : b.1 ≤ l.getD 0 0 ∧ l.getD 0 0 ≤ b.2) (hf : f.den (envC (l ++ xs)) = l.getD 0 0) (hr : r.den (envC (l ++ xs)) = l.getD 10 0) (hfl : flOk (envC (l ++ xs)) fl) (W : World) (hS : TabOk W facTab ∧ TabOk W shTab) :
    Calls Tryd.prog fn (instVals l :: moreV ks xs).toArray W fun e w' => e = .returned (.bool true) ∧ Below W.heap.size W w' := by
  have hv : ∀ (j : Nat) x, xs[j]? = some x → (envC (l ++ xs)).v (11 + j) = x := fun j x hx => by
    show (l ++ xs).getD (11 + j) 0 = x
    rw [List.getD_eq_getElem?_getD, List.getElem?_append_right (by omega), hl, show 11 + j - 11 = j by omega, hx]; rfl
  have hget : ∀ i, i < 11 → (envC (l ++ xs)).v i = l.getD i 0 := fun i hi => by
    show (l ++ xs).getD i 0 = _
    rw [List.getD_eq_getElem?_getD, List.getElem?_append_left (by omega), ← List.getD_eq_getElem?_getD]
  have hp : pcOk (envC (l ++ xs)) (clkPc b ks fl) := by
    refine pcOf_ok (flOk_append hfl (flOk_cons ?_ (flOk_append ?_ (moreL_ok hx hv))))
    · show b.1 ≤ (envC (l ++ xs)).v 0 ∧ (envC (l ++ xs)).v 0 ≤ b.2
      rw [hget 0 (by omega)]; exact hin
    · intro g hg
      obtain ⟨i, hi, rfl⟩ := List.mem_map.1 hg
      have hi' : i + 1 < 11 := by have := List.mem_range.1 hi; omega
      show _ ≤ (envC (l ++ xs)).v (i + 1) ∧ (envC (l ++ xs)).v (i + 1) ≤ _
      rw [hget _ hi', List.getD_eq_getElem?_getD, List.getElem?_eq_getElem (by omega), Option.getD_some]
      exact hb _ (List.getElem_mem _)
  have hi : AV.Is (envC (l ++ xs)) (tabPl [shTab]) (instAr f r) (instVals l) := by
    refine instAr_is ?_
    clear hp hget hv h hin hfl hb hS hx
    match l, hl with
    | [a0, a1, a2, a3, a4, a5, a6, a7, a8, a9, a10], _ =>
      show [f.den _, a1, a2, a3, a4, a5, a6, a7, a8, a9, r.den _] = _
      rw [hf, hr]; rfl
  unfold clkOk at h
  exact law_ok (cx := cxC d) (jx := jx2) (ρ := envC (l ++ xs)) (vals := instVals l :: moreV ks xs) (cxOk _ _) cxC_sums (rest_isNil h) rfl (fun t ht => by rw [List.mem_singleton] at ht; subst ht; exact hS.2) hp (jx2_mk hS.1 hS.2) ⟨hi, moreA_is hx hv⟩
theorem noneF_ok {l xs : List Int} (hl : l.length = 11) {f : Int} (hf : l.getD 0 0 = f) (h : rightB l = false) : flOk (envC (l ++ xs)) (noneF f) := by
  refine flOk_one ?_
  have e : (mkL (instL (.lit f) (.var 10))).denL (envC (l ++ xs)) = l := by
    rw [mkL_denL]
    match l, hl with
    | [a0, a1, a2, a3, a4, a5, a6, a7, a8, a9, a10], _ =>
      have : a0 = f := hf
      subst this
      rfl
  show 0 ≤ truth (rightB _) ∧ truth (rightB _) ≤ 0
  rw [e, h]; exact ⟨Int.le_refl _, Int.le_refl _⟩
theorem clk_all {fn : FuncId} {ks : List Nat} (A : ClkAll fn ks) {l xs : List Int} (hl : l.length = 11) (hb : ∀ x ∈ l, -9223372036854775808 ≤ x ∧ x ≤ 9223372036854775807) (hx : moreB ks xs) (W : World) (hS : TabOk W facTab ∧ TabOk W shTab) :
    Calls Tryd.prog fn (instVals l :: moreV ks xs).toArray W fun e w' => e = .returned (.bool true) ∧ Below W.heap.size W w' := by
  have h0 : -9223372036854775808 ≤ l.getD 0 0 ∧ l.getD 0 0 ≤ 9223372036854775807 := hb _ (by rw [List.getD_eq_getElem?_getD, List.getElem?_eq_getElem (by omega), Option.getD_some]; exact List.getElem_mem _)
  have hget : ∀ i, i < 11 → (E.var i).den (envC (l ++ xs)) = l.getD i 0 := fun i hi => by
    show (l ++ xs).getD i 0 = _
    rw [List.getD_eq_getElem?_getD, List.getElem?_append_left (by omega), ← List.getD_eq_getElem?_getD]
  have hj := jx2_mk hS.1 hS.2
  by_cases c1 : l.getD 0 0 ≤ 41
  · exact clk_run hl hb hx A.low ⟨h0.1, c1⟩ (hget 0 (by omega)) (hget 10 (by omega)) flOk_nil W hS
  by_cases c2 : 44 ≤ l.getD 0 0
  · exact clk_run hl hb hx A.high ⟨c2, h0.2⟩ (hget 0 (by omega)) (hget 10 (by omega)) flOk_nil W hS
  by_cases c3 : l.getD 0 0 = 42
  · have hin : (42, 42).1 ≤ l.getD 0 0 ∧ l.getD 0 0 ≤ ((42, 42) : Int × Int).2 := by rw [c3]; exact ⟨Int.le_refl _, Int.le_refl _⟩
    by_cases hr : l.getD 10 0 ≤ 0 ∨ (256 ≤ l.getD 10 0 ∧ l.getD 10 0 ≤ 16383) ∨ 16640 ≤ l.getD 10 0
    · exact clk_run hl hb hx A.push hin c3.symm (hget 10 (by omega)) (noneF_ok hl c3 (rightB_push l hl hb W hj c3 hr)) W hS
    · by_cases hr2 : l.getD 10 0 ≤ 255
      · exact clk_run hl hb hx A.push1 hin c3.symm (hget 10 (by omega)) (flOk_one (by rw [hget 10 (by omega)]; exact ⟨by show 1 ≤ _; omega, hr2⟩)) W hS
      · exact clk_run hl hb hx A.push2 hin c3.symm (hget 10 (by omega)) (flOk_one (by rw [hget 10 (by omega)]; exact ⟨by show 16384 ≤ _; omega, by show _ ≤ 16639; omega⟩)) W hS
  · have c4 : l.getD 0 0 = 43 := by omega
    have hin : (43, 43).1 ≤ l.getD 0 0 ∧ l.getD 0 0 ≤ ((43, 43) : Int × Int).2 := by rw [c4]; exact ⟨Int.le_refl _, Int.le_refl _⟩
    by_cases hr : l.getD 10 0 ≤ 0 ∨ (256 ≤ l.getD 10 0 ∧ l.getD 10 0 ≤ 32767) ∨ 33024 ≤ l.getD 10 0
    · exact clk_run hl hb hx A.pop hin c4.symm (hget 10 (by omega)) (noneF_ok hl c4 (rightB_pop l hl hb W hj c4 hr)) W hS
    · by_cases hr2 : l.getD 10 0 ≤ 255
      · exact clk_run hl hb hx A.pop1 hin c4.symm (hget 10 (by omega)) (flOk_one (by rw [hget 10 (by omega)]; exact ⟨by show 1 ≤ _; omega, hr2⟩)) W hS
      · exact clk_run hl hb hx A.pop2 hin c4.symm (hget 10 (by omega)) (flOk_one (by rw [hget 10 (by omega)]; exact ⟨by show 32768 ≤ _; omega, by show _ ≤ 33023; omega⟩)) W hS

end Go.Proofs.YthpkejlmelednaaDoor.Ev

/- Tables and instructions as the evaluator sees them. -/
import Derived.Test.YthpkejlmelednaaDoorKi2
import Derived.Test.YthpkejlmelednaaDoorKiNumsF
namespace Go.Proofs.YthpkejlmelednaaDoor.Ev
open Go Go.RowKit

def shTab : Tab := (0, .i64, Rm.shapesL)
noncomputable def cx0 : Cx := cxOf (tabGlob 0 [shTab]) []

theorem enters_fn {f : FuncId} {fn : Func} (hf : Tryd.prog.funcs[f]? = some fn) (hb : fn.body.isSome = true) (hn : (fn.name == "runtime.NumGoroutine") = false) : Enters Tryd.prog f := by
  obtain ⟨c, hc⟩ := Option.isSome_iff_exists.1 hb
  exact enters_of hf hc hn

def instVals (l : List Int) : Value := .agg (l.map (Value.int .i64)).toArray
def instA : AV := .v (.g ((List.range 11).map fun i => .int .i64 (.var i)))
def i64L (n : Nat) : FL := (List.range n).map fun i => (.var i, -9223372036854775808, 9223372036854775807)
def i64s (n : Nat) : PC := pcOf (i64L n)
theorem is_ints {k : IntKind} {ρ : Env} {β : Pl} : ∀ (l : List Int) (is : List Nat), l.length = is.length → (∀ (j i : Nat), is[j]? = some i → l[j]? = some (ρ.v i)) → All2 (AT.Is ρ β) (is.map fun i => .int k (.var i)) (l.map (Value.int k))
  | [], [], _, _ => trivial
  | x :: l, i :: is, h, hv => ⟨by have := hv 0 i rfl; simp at this; rw [this]; rfl, is_ints l is (by simpa using h) fun j i' hj => by simpa using hv (j + 1) i' (by simpa using hj)⟩
  | [], _ :: _, h, _ => by simp at h
  | _ :: _, [], h, _ => by simp at h
theorem i64s_ok (l : List Int) (n : Nat) (φ : Nat → List Int → Int) (o : Nat → Value) (hl : l.length = n) (hb : ∀ x ∈ l, -9223372036854775808 ≤ x ∧ x ≤ 9223372036854775807) : pcOk ⟨fun i => l.getD i 0, φ, o⟩ (i64s n) := by
  refine pcOf_ok fun f hf => ?_
  obtain ⟨i, hi, rfl⟩ := List.mem_map.1 hf
  have hi' : i < l.length := by rw [hl]; exact List.mem_range.1 hi
  have e : (E.var i).den ⟨fun i => l.getD i 0, φ, o⟩ = l[i] := by simp only [E.den, List.getD, List.getElem?_eq_getElem hi', Option.getD_some]
  dsimp only
  rw [e]
  exact hb _ (List.getElem_mem hi')
theorem instA_is (l m : List Int) (hl : l.length = 11) (φ : Nat → List Int → Int) (o : Nat → Value) (β : Pl) : AV.Is ⟨fun i => (l ++ m).getD i 0, φ, o⟩ β instA (instVals l) := by
  refine ⟨_, rfl, ?_⟩
  refine is_ints l (List.range 11) (by simp [hl]) fun j i hji => ?_
  have hj11 : j < 11 := by have := (List.getElem?_eq_some_iff.1 hji).1; simpa using this
  have : i = j := by rw [List.getElem?_range hj11] at hji; cases hji; rfl
  subst this
  dsimp only
  rw [List.getD_eq_getElem?_getD, List.getElem?_append_left (by omega), List.getElem?_eq_getElem (by omega), Option.getD_some]

end Go.Proofs.YthpkejlmelednaaDoor.Ev

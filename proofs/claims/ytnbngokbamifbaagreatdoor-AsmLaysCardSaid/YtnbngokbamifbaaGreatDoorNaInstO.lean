/- Tables and instructions as the evaluator sees them. -/
import Derived.Test.YtnbngokbamifbaaGreatDoorNa5
import Derived.Test.YtnbngokbamifbaaGreatDoorNaNumsF
namespace Go.Proofs.YtnbngokbamifbaaGreatDoor.Ev
open Go Go.RowKit

def shTab : Tab := (0, .i64, Rm.shapesL)
theorem enters_fn {f : FuncId} {fn : Func} (hf : Tryz.prog.funcs[f]? = some fn) (hb : fn.body.isSome = true) (hn : (fn.name == "runtime.NumGoroutine") = false) : Enters Tryz.prog f := by
  obtain ⟨c, hc⟩ := Option.isSome_iff_exists.1 hb
  exact enters_of hf hc hn

def instVals (l : List Int) : Value := .agg (l.map (Value.int .i64)).toArray
theorem is_ints {k : IntKind} {ρ : Env} {β : Pl} : ∀ (l : List Int) (is : List Nat), l.length = is.length → (∀ (j i : Nat), is[j]? = some i → l[j]? = some (ρ.v i)) → All2 (AT.Is ρ β) (is.map fun i => .int k (.var i)) (l.map (Value.int k))
  | [], [], _, _ => trivial
  | x :: l, i :: is, h, hv => ⟨by have := hv 0 i rfl; simp at this; rw [this]; rfl, is_ints l is (by simpa using h) fun j i' hj => by simpa using hv (j + 1) i' (by simpa using hj)⟩
  | [], _ :: _, h, _ => by simp at h
  | _ :: _, [], h, _ => by simp at h
end Go.Proofs.YtnbngokbamifbaaGreatDoor.Ev

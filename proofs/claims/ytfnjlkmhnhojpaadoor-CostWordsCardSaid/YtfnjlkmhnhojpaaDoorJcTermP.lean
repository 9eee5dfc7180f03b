/- A term's value: the walk of Eval. -/
import Derived.Test.YtfnjlkmhnhojpaaDoorJcTermM
import Derived.Test.YtfnjlkmhnhojpaaDoorJcTermE
namespace Go.Proofs.YtfnjlkmhnhojpaaDoor
open Go Go.RowKit

/-- words that came in -/
def WordsAt (w : World) (pw : Option Addr) (ws : List Int) : Prop :=
  ∀ i v, ws[i]? = some v → ∃ b off, pw = some ⟨b, off, none⟩ ∧ b < w.heap.size ∧ w.cell? ⟨b, off + i, none⟩ = some (.int .u32 v)
theorem WordsAt.below {w w' : World} {pw : Option Addr} {ws : List Int} (h : WordsAt w pw ws) (hB : Below w.heap.size w w') : WordsAt w' pw ws := fun i v hv => by
  obtain ⟨b, off, h1, h2, h3⟩ := h i v hv
  exact ⟨b, off, h1, Nat.lt_of_lt_of_le h2 hB.size, (hB.cell (p := ⟨b, off + i, none⟩) h2).trans h3⟩
def WordsOk (ws : List Int) : Prop := ws.length ≤ 9223372036854775807 ∧ ∀ v ∈ ws, 0 ≤ v ∧ v ≤ 4294967295
def leafV (op n : Int) (ws : List Int) : Int := if op = 1 then n else (ws[n.toNat]?).getD 0
theorem leafV_bd {op n : Int} {ws : List Int} (hn : 0 ≤ n ∧ n ≤ 4294967295) (hw : WordsOk ws) : 0 ≤ leafV op n ws ∧ leafV op n ws ≤ 4294967295 := by
  unfold leafV
  split
  · exact hn
  · cases h : ws[n.toNat]? with
    | none => simp
    | some v => exact hw.2 v (List.mem_of_getElem? h)
namespace T
def evalT (ws : List Int) : T → Option Int
  | .leaf o n => some (leafV o n ws)
  | .one o _ a => (a.evalT ws).map (oneV o)
  | .two o _ a b => (a.evalT ws).bind fun x => (b.evalT ws).bind fun y => twoV o x y
/-- all numbers are words -/
def Wf : T → Prop
  | .leaf _ n => 0 ≤ n ∧ n ≤ 4294967295
  | .one _ n a => (0 ≤ n ∧ n ≤ 4294967295) ∧ a.Wf
  | .two _ n a b => (0 ≤ n ∧ n ≤ 4294967295) ∧ a.Wf ∧ b.Wf
theorem evalT_bd {ws : List Int} (hw : WordsOk ws) : ∀ {t : T} {v : Int}, t.Wf → t.evalT ws = some v → 0 ≤ v ∧ v ≤ 4294967295
  | .leaf o n, v, h, hv => by simp only [evalT, Option.some.injEq] at hv; subst hv; exact leafV_bd h hw
  | .one o n a, v, h, hv => by
    simp only [evalT, Option.map_eq_some_iff] at hv
    obtain ⟨x, hx, rfl⟩ := hv
    have := evalT_bd hw h.2 hx
    exact oneV_bd this.1 this.2
  | .two o n a b, v, h, hv => by
    simp only [evalT, Option.bind_eq_some_iff] at hv
    obtain ⟨x, hx, y, hy, hv⟩ := hv
    have h1 := evalT_bd hw h.2.1 hx
    have h2 := evalT_bd hw h.2.2 hy
    exact twoV_bd h1 h2 hv
end T
def optV (o : Option Int) : Value := .tuple #[.int .u32 (o.getD 0), .bool o.isSome]
def EvalPost (w : World) (o : Option Int) (e : Ending) (w' : World) : Prop := e = .returned (.tuple #[.int .u32 (o.getD 0), .bool o.isSome]) ∧ Below w.heap.size w w'

set_option maxRecDepth 100000 in
theorem leaf_calls (o n : Int) (s : Value) (hs : s = .slice none 0 0) (ws : List Int) (pw : Option Addr) (cw : Nat) (w : World) (hn : 0 ≤ n ∧ n ≤ 4294967295) (hw : WordsOk ws) (hW : WordsAt w pw ws) :
    Calls Tryd.prog 62 #[.agg #[.int .i64 o, .int .u32 n, s], .slice pw ws.length cw] w fun e w' => e = .returned (.int .u32 (leafV o n ws)) ∧ Below w.heap.size w w' := by
  subst hs
  have hl := hw.1
  by_cases h1 : o = 1
  · subst h1
    go_enter Tryd.func62, Tryd.ntmps62
    go_wp2
    go_ret
    exact ⟨rfl, (Below.refl _ w).alloc (Nat.le_refl _) _⟩
  · have hb : (o == 1) = false := by simpa using h1
    cases hx : ws[n.toNat]? with
    | none =>
      have hge : ws.length ≤ n.toNat := by simpa using hx
      have HE := Lib.hid (show leafV o n ws = 0 by unfold leafV; rw [if_neg h1, hx]; rfl)
      clear hx
      go_enter Tryd.func62, Tryd.ntmps62
      go_wp2
      go_ret
      exact ⟨congrArg Ending.returned (congrArg (Value.int IntKind.u32) HE.out.symm), (Below.refl _ w).alloc (Nat.le_refl _) _⟩
    | some v =>
      have hlt : n.toNat < ws.length := (List.getElem?_eq_some_iff.1 hx).1
      obtain ⟨b, off, rfl, hb1, hb2⟩ := hW _ v hx
      have HE := Lib.hid (show leafV o n ws = v by unfold leafV; rw [if_neg h1, hx]; rfl)
      obtain ⟨m, rfl⟩ : ∃ m : Nat, n = m := ⟨n.toNat, by omega⟩
      rw [Int.toNat_natCast] at hb2 hlt
      clear hx
      go_enter Tryd.func62, Tryd.ntmps62
      go_wp2
      go_ret
      exact ⟨congrArg Ending.returned (congrArg (Value.int IntKind.u32) HE.out.symm), (Below.refl _ w).alloc (Nat.le_refl _) _⟩

end Go.Proofs.YtfnjlkmhnhojpaaDoor

/- A struct of integers of one kind, by value: its cells. No program in sight. -/
import Derived.Lib.SmallJoins
import Derived.ProofKit
import Derived.OpenShut
import Derived.Deep.Fields
namespace Go.Proofs.YthpkejlmelednaaDoor
open Go.Joins Go.ChangeShapes Go.WideShapes Go.RowKit Go.Deep

section
variable {H : Type} {enc : TypeId × Value → H} {P : Program} {w : World} {base : Nat} {spare : Nat → Bool} {held : Bool}
theorem open_ints_struct {r : Reach} {b0 : Nat} {t : TypeId} {k : IntKind} {fs : Array Field} {v : Value} {d : DataW H} {p : List MemPlace} (hs : P.underlying t = some (.struct fs)) (hone : oneCellFields P fs = true) (hC : P.cellsOf t = fs.size)
    (hint : ∀ (i : Nat) (f : Field), fs[i]? = some f → P.underlying f.type = some (.int k)) (hv : Value.okWide P w r b0 t v) (h : DataW.Trod enc P w base spare held t v d p) :
    ∃ l : List Int, l.length = fs.size ∧ v = .agg (l.map (Value.int k)).toArray ∧ ∀ x ∈ l, (Lit.int k x).wf = true := by
  obtain ⟨cs, rfl, hsz⟩ := okWide_struct hs hv
  obtain ⟨fuel, hf⟩ := h
  obtain ⟨xs, n, _, _, hlen, hxl, hg⟩ := DataW.trod_struct hs hf
  rw [hC] at hsz
  have key : ∀ i, i < fs.size → ∃ z, cs[i]? = some (.int k z) ∧ (Lit.int k z).wf = true := by
    intro i hi
    have hfi : fs[i]? = some fs[i] := Array.getElem?_eq_getElem hi
    obtain ⟨ho, hk⟩ := hone_of hone i _ hfi
    have h1 := hg i _ hfi
    rw [ho, hk] at h1
    have hxs : xs[i]? = some (xs[i]'(by omega)) := List.getElem?_eq_getElem (by omega)
    rw [hxs] at h1
    obtain ⟨z, hz, _, hw⟩ := DataW.trod_int (hint i _ hfi) h1
    refine ⟨z, ?_, hw⟩
    have : ((Value.agg cs).cells.toList.drop i).take 1 = [cs[i]'(by omega)] := by
      show (cs.toList.drop i).take 1 = _
      rw [List.drop_eq_getElem_cons (by simpa using by omega)]
      simp
    rw [this] at hz
    simp only [List.cons.injEq, and_true] at hz
    rw [Array.getElem?_eq_getElem (by omega), hz]
  have all : ∀ n, n ≤ fs.size → ∃ l : List Int, l.length = n ∧ (cs.toList.take n) = l.map (Value.int k) ∧ ∀ x ∈ l, (Lit.int k x).wf = true := by
    intro n
    induction n with
    | zero => intro _; exact ⟨[], rfl, rfl, fun x hx => by cases hx⟩
    | succ n ih =>
      intro hn
      obtain ⟨l, h1, h2, h3⟩ := ih (by omega)
      obtain ⟨z, hz, hw⟩ := key n (by omega)
      refine ⟨l ++ [z], by simp [h1], ?_, fun x hx => ?_⟩
      · have hz' : cs.toList[n]? = some (.int k z) := by simpa using hz
        rw [List.take_add_one, hz', h2]; simp
      · rcases List.mem_append.1 hx with h | h
        · exact h3 x h
        · rw [List.mem_singleton] at h; rw [h]; exact hw
  obtain ⟨l, h1, h2, h3⟩ := all fs.size (Nat.le_refl _)
  refine ⟨l, h1, ?_, h3⟩
  rw [← h2, List.take_of_length_le (by simp [hsz])]
end

end Go.Proofs.YthpkejlmelednaaDoor

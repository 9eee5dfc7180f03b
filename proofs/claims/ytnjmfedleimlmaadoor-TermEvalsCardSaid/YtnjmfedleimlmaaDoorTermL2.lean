/- Lists of words that come in, opened. -/
import Derived.Test.YtnjmfedleimlmaaDoorTermL
import Derived.Test.YtnjmfedleimlmaaDoorTermP
namespace Go.Proofs.YtnjmfedleimlmaaDoor.termLaid
open Go.ChangeShapes Go.WideShapes Go.ChangeAt Go.RowKit Go.Deep

/-- words that came in: the list, where it lies, its capacity -/
abbrev InW := List Int × Option Addr × Nat
section
variable {H : Type} {enc : TypeId × Value → H} {w : World} {base : Nat} {held : Bool}
set_option maxRecDepth 100000 in
theorem open_words {r : Reach} {b0 : Nat} {v : Value} {d : DataW H} {p : List MemPlace} (hv : Value.okWide Tryd.prog w r b0 23 v) (h : DataW.Trod enc Tryd.prog w base (fun _ => true) held 23 v d p) :
    ∃ x : InW, v = .slice x.2.1 x.1.length x.2.2 ∧ WordsOk x.1 ∧ WordsAt w x.2.1 x.1 := by
  obtain ⟨a0, len0, cap0, rfl⟩ := okWide_slice Tryd.underlying23 hv
  obtain ⟨fuel, hf⟩ := h
  rcases open_ints Tryd.underlying23 Tryd.underlying25 (by kernel_rfl) hf with ⟨hcs, _⟩ | ⟨x, l, c, zs, hcs, _, hl, hm, hz, _, hcell, hwz⟩
  · simp [Value.cells] at hcs
    obtain ⟨rfl, rfl, rfl⟩ := hcs
    exact ⟨([], none, 0), rfl, ⟨by simp, by simp⟩, fun i x hx => by simp at hx⟩
  · simp [Value.cells] at hcs
    obtain ⟨rfl, rfl, rfl⟩ := hcs
    simp only [if_true] at hz
    have hlen : (zs.take len0).length = len0 := by rw [List.length_take]; omega
    refine ⟨(zs.take len0, some x, cap0), by simp only [hlen], ⟨by rw [hlen]; exact Nat.le_trans hl hm, fun y hy => Go.bounds_u32 (hwz y (List.mem_of_mem_take hy))⟩, fun i y hy => ?_⟩
    dsimp only at hy ⊢
    have hi : i < (zs.take len0).length := (List.getElem?_eq_some_iff.1 hy).1
    rw [List.getElem?_take, if_pos (by omega)] at hy
    have hc := hcell i (by omega)
    rw [List.getD_eq_getElem?_getD, hy] at hc
    obtain ⟨b, off, spot⟩ := x
    have h0 := hcell 0 (by omega)
    have hs : spot = none := by simpa [Addr.add] using World.cell?_spot h0
    subst hs
    have e : ∀ k, (⟨b, off, none⟩ : Addr).add k = ⟨b, off + k, none⟩ := fun k => by unfold Addr.add; split <;> simp_all
    rw [e] at hc
    exact ⟨b, off, rfl, World.block_lt_of_cell? w _ hc, hc⟩
end

end Go.Proofs.YtnjmfedleimlmaaDoor.termLaid

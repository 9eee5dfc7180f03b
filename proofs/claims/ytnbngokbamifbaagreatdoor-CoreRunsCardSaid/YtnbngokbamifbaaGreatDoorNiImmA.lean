/- Walks of the functions on numbers of twelve bits: turned words, a number's word, its carry, the document's word. -/
import Derived.Test.YtnbngokbamifbaaGreatDoorNiAluB
import Derived.Test.YtnbngokbamifbaaGreatDoorNiNumsJ
import Derived.Test.YtnbngokbamifbaaGreatDoorNiBase
namespace Go.Proofs.YtnbngokbamifbaaGreatDoor
open Go.RowKit

/-- the package's table, as the program's text lays it -/
def Fac (w : World) : Prop := ∃ t fr, w.heap[1]? = some (.cells #[.int .u32 1, .int .u32 65537, .int .u32 16777472, .int .u32 16843009] t fr)
theorem Fac.cells {w : World} (h : Fac w) : w.cell? ⟨1, 0, none⟩ = some (.int .u32 1) ∧ w.cell? ⟨1, 1, none⟩ = some (.int .u32 65537) ∧ w.cell? ⟨1, 2, none⟩ = some (.int .u32 16777472) ∧ w.cell? ⟨1, 3, none⟩ = some (.int .u32 16843009) := by
  obtain ⟨t, fr, h⟩ := h
  exact ⟨cell_of_row w _ 0 _ t fr h, cell_of_row w _ 1 _ t fr h, cell_of_row w _ 2 _ t fr h, cell_of_row w _ 3 _ t fr h⟩
theorem Fac.below {w w' : World} (h : Fac w) (hb : Below w.heap.size w w') : Fac w' := by
  obtain ⟨t, fr, h⟩ := h
  refine ⟨t, fr, (hb.block _ ?_).trans h⟩
  rcases Nat.lt_or_ge 1 w.heap.size with hlt | hge
  · exact hlt
  · rw [Array.getElem?_eq_none hge] at h; cases h

theorem lz32_any (x : Int) (w : World) (h0 : 0 ≤ x) (h1 : x ≤ 4294967295) :
    Calls Tryz.prog 146 #[.int .u32 x] w fun e w' => e = .returned (.int .i64 (32 - (Lib.bitLen x.toNat : Int))) ∧ w = w' := by
  have l := Rm.bitLen_le32 x.toNat (by omega)
  go_enter Tryz.func146, Tryz.ntmps146
  go_wp2_with (go_at_call 187; refine (len32_any x _ h0 h1).mono ?_; rintro e w' ⟨rfl, rfl⟩)
  go_ret
  exact ⟨rfl, rfl⟩

theorem word_any (n : Int) (w : World) (hF : Fac w) (hn0 : -9223372036854775808 ≤ n) (hn1 : n ≤ 9223372036854775807) :
    Calls Tryz.prog 181 #[.int .i64 n] w fun e w' => e = .returned (.tuple #[.int .u32 (Rm.wordX n), .int .i64 (Rm.wordE n)]) ∧ w = w' := by
  obtain ⟨c0, c1, c2, c3⟩ := hF.cells
  by_cases h1 : n < 0
  · have hx := Lib.hid (show Rm.wordX n = 0 by unfold Rm.wordX; rw [if_pos (.inl h1)])
    have he := Lib.hid (show Rm.wordE n = 11 by unfold Rm.wordE; rw [if_pos (.inl h1)])
    go_enter Tryz.func181, Tryz.ntmps181
    go_wp2
    go_ret2
    exact ⟨ret_2 hx.out.symm he.out.symm, rfl⟩
  by_cases h2 : 4095 < n
  · have hx := Lib.hid (show Rm.wordX n = 0 by unfold Rm.wordX; rw [if_pos (.inr h2)])
    have he := Lib.hid (show Rm.wordE n = 11 by unfold Rm.wordE; rw [if_pos (.inr h2)])
    go_enter Tryz.func181, Tryz.ntmps181
    go_wp2
    go_ret2
    exact ⟨ret_2 hx.out.symm he.out.symm, rfl⟩
  have n0 : 0 ≤ n := by omega
  have n1 : n ≤ 4095 := by omega
  clear h1 h2
  have e1 : bits .and .i64 n 127 = n % 128 := Rm.i64_mask n (by omega) (by omega) 128 127 rfl (by omega) nat_mask7
  have e2 : bits .or .i64 (n % 128) 128 = n % 128 + 128 := Rm.i64_top n
  have e3 : bits .and .i64 n 255 = n % 256 := Rm.i64_mask n (by omega) (by omega) 256 255 rfl (by omega) nat_mask8
  by_cases h3 : 1024 ≤ n
  · have hw : Rm.immW n.toNat = some (Rm.itW 3 (n / 128).toNat (n % 128 + 128).toNat) := by
      unfold Rm.immW; rw [if_pos (by omega)]
      rw [show n.toNat / 128 = (n / 128).toNat by omega, show n.toNat % 128 + 128 = (n % 128 + 128).toNat by omega]
    have hX := Lib.hid (Rm.wordX_some n _ n0 n1 hw)
    have hE := Lib.hid (Rm.wordE_some n _ n0 n1 hw)
    clear hw e3
    go_enter Tryz.func181, Tryz.ntmps181
    go_wp2_with (go_at_call 183; refine (shift_in 3 (n % 128 + 128) (n / 128) 0 _ (by omega) (by omega) (by omega) (by omega) (by omega) (by omega) (by omega)).mono ?_; rintro e w' ⟨rfl, rfl⟩)
    go_ret2
    exact ⟨ret_2 hX.out.symm hE.out.symm, rfl⟩
  have hq : n / 256 = 0 ∨ n / 256 = 1 ∨ n / 256 = 2 ∨ n / 256 = 3 := by omega
  clear e1 e2
  by_cases hz : n % 256 = 0 ∧ 256 ≤ n
  · have hw := Rm.immW_none n hz.2 (by omega) hz.1
    have hX := Lib.hid (Rm.wordX_none n n0 n1 hw)
    have hE := Lib.hid (Rm.wordE_none n n0 n1 hw)
    obtain ⟨z1, z2⟩ := hz
    clear hw hq
    go_enter Tryz.func181, Tryz.ntmps181
    go_wp2
    go_ret2
    exact ⟨ret_2 hX.out.symm hE.out.symm, rfl⟩
  rcases hq with hq | hq | hq | hq
  · have hw := Rm.immW_row n 0 1 n0 (by omega) hq rfl (.inl rfl)
    have hX := Lib.hid (Rm.wordX_some n _ n0 n1 hw)
    have hE := Lib.hid (Rm.wordE_some n _ n0 n1 hw)
    clear hw hz
    go_enter Tryz.func181, Tryz.ntmps181
    go_wp2
    go_ret2
    exact ⟨ret_2 (by rw [hX.out]; omega) hE.out.symm, rfl⟩
  · have hb : (n % 256 == 0) = false := by rw [beq_eq_false_iff_ne]; omega
    have hw := Rm.immW_row n 1 65537 n0 (by omega) hq rfl (.inr (by omega))
    have hX := Lib.hid (Rm.wordX_some n _ n0 n1 hw)
    have hE := Lib.hid (Rm.wordE_some n _ n0 n1 hw)
    clear hw hz
    go_enter Tryz.func181, Tryz.ntmps181
    go_wp2
    go_ret2
    exact ⟨ret_2 (by rw [hX.out]; omega) hE.out.symm, rfl⟩
  · have hb : (n % 256 == 0) = false := by rw [beq_eq_false_iff_ne]; omega
    have hw := Rm.immW_row n 2 16777472 n0 (by omega) hq rfl (.inr (by omega))
    have hX := Lib.hid (Rm.wordX_some n _ n0 n1 hw)
    have hE := Lib.hid (Rm.wordE_some n _ n0 n1 hw)
    clear hw hz
    go_enter Tryz.func181, Tryz.ntmps181
    go_wp2
    go_ret2
    exact ⟨ret_2 (by rw [hX.out]; omega) hE.out.symm, rfl⟩
  · have hb : (n % 256 == 0) = false := by rw [beq_eq_false_iff_ne]; omega
    have hw := Rm.immW_row n 3 16843009 n0 (by omega) hq rfl (.inr (by omega))
    have hX := Lib.hid (Rm.wordX_some n _ n0 n1 hw)
    have hE := Lib.hid (Rm.wordE_some n _ n0 n1 hw)
    clear hw hz
    go_enter Tryz.func181, Tryz.ntmps181
    go_wp2
    go_ret2
    exact ⟨ret_2 (by rw [hX.out]; omega) hE.out.symm, rfl⟩

end Go.Proofs.YtnbngokbamifbaaGreatDoor

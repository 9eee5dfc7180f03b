/- Walks of the functions that find a word's number: the tries of a repeated byte, the number of a word, the document's search. -/
import Derived.Test.YtnbngokbamifbaaGreatDoorNiImmA
set_option linter.unusedVariables false
namespace Go.Proofs.YtnbngokbamifbaaGreatDoor
open Go.RowKit

theorem carry_any (n c : Int) (w : World) (hF : Fac w) (hn0 : -9223372036854775808 ≤ n) (hn1 : n ≤ 9223372036854775807) (hc0 : 0 ≤ c) :
    Calls Tryz.prog 182 #[.int .i64 n, .int .u32 c] w fun e w' => e = .returned (.tuple #[.int .u32 (Rm.carryX n c), .int .i64 (Rm.wordE n)]) ∧ w = w' := by
  have hb := Rm.wordX_bd n
  by_cases he : Rm.wordE n = 0
  · have hE := Lib.hid he
    have hn := Rm.wordE_zero n he
    by_cases h : n < 1024
    · have hX := Lib.hid (show Rm.carryX n c = min c 1 by unfold Rm.carryX; rw [if_pos he, if_pos h])
      clear he
      go_enter Tryz.func182, Tryz.ntmps182
      go_wp2_with fail
      refine (word_any n _ hF hn0 hn1).mono ?_
      rintro e w' ⟨rfl, rfl⟩
      rw [hE.out]
      go_wp2
      go_ret2
      exact ⟨ret_2 hX.out.symm hE.out.symm, rfl⟩
    · have hX := Lib.hid (show Rm.carryX n c = Rm.wordX n / 2147483648 by unfold Rm.carryX; rw [if_pos he, if_neg h])
      clear he
      go_enter Tryz.func182, Tryz.ntmps182
      go_wp2_with fail
      refine (word_any n _ hF hn0 hn1).mono ?_
      rintro e w' ⟨rfl, rfl⟩
      rw [hE.out]
      go_wp2
      go_ret2
      exact ⟨ret_2 hX.out.symm hE.out.symm, rfl⟩
  · have hX := Lib.hid (show Rm.carryX n c = 0 by unfold Rm.carryX; rw [if_neg he])
    have hbe : (Rm.wordE n != 0) = true := by rw [bne_iff_ne]; exact he
    clear he
    go_enter Tryz.func182, Tryz.ntmps182
    go_wp2_with fail
    refine (word_any n _ hF hn0 hn1).mono ?_
    rintro e w' ⟨rfl, rfl⟩
    go_wp2
    go_ret2
    exact ⟨ret_2 hX.out.symm rfl, rfl⟩

end Go.Proofs.YtnbngokbamifbaaGreatDoor

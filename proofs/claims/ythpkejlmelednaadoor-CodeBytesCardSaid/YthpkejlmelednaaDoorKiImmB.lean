/- Walks of the functions that find a word's number: the tries of a repeated byte, the number of a word, the document's search. -/
import Derived.Test.YthpkejlmelednaaDoorKiImmA
namespace Go.Proofs.YthpkejlmelednaaDoor
open Go.RowKit

set_option maxRecDepth 100000 in
/-- the document's search: the least number whose word it is, or -1 -/
theorem refof_any (x : Int) (w : World) (hx0 : 0 ≤ x) (hx1 : x ≤ 4294967295) :
    Calls Tryd.prog 116 #[.int .u32 x] w fun e w' => e = .returned (.int .i64 (Rm.ofM x)) ∧ w = w' := by
  go_enter Tryd.func116, Tryd.ntmps116
  go_wp2
  go_loop [2, 3, 4, 5] (fun _ i _ _ => ∃ j : Nat, j ≤ 4096 ∧ i = .int .i64 j ∧ Hid (∀ m : Nat, m < j → Rm.immW m ≠ some x.toNat)) (fun _ i _ _ => (4096 - intOf i).toNat)
  case atStart => exact ⟨0, by omega, rfl, Lib.hid (fun m hm => by omega)⟩
  case round =>
    obtain ⟨j, hj, rfl, hn⟩ := hrel
    by_cases hlt : j < 4096
    · by_cases hs : Rm.immW j = some x.toNat
      · have hX := Rm.wordX_some j x.toNat (by omega) (by omega) hs
        have hS : (Rm.immW j).isSome = true := by rw [hs]; rfl
        have hfin := Lib.hid (show Rm.ofM x = (j : Int) by unfold Rm.ofM Rm.ofN; rw [Rm.dec_of j x.toNat (by omega) hs]; rfl)
        have ex : ((x.toNat : Nat) : Int) = x := by omega
        rw [ex] at hX
        clear hs ex
        go_wp2_with (go_at_call 135; refine (refword_any _ _ (by omega) (by omega)).mono ?_; rintro e w' ⟨rfl, rfl⟩)
        go_ret
        exact ⟨ret_i hfin.out.symm, rfl⟩
      · have hN : Hid (∀ m : Nat, m < j + 1 → Rm.immW m ≠ some x.toNat) := Lib.hid (fun m hm => by
          by_cases e : m = j
          · rw [e]; exact hs
          · exact hn.out m (by omega))
        clear hn
        cases hi : Rm.immW j with
        | none =>
          have hS : (Rm.immW j).isSome = false := by rw [hi]; rfl
          clear hs hi
          go_wp2_with (go_at_call 135; refine (refword_any _ _ (by omega) (by omega)).mono ?_; rintro e w' ⟨rfl, rfl⟩)
          all_goals exact ⟨⟨j + 1, by omega, by go_num, hN⟩, by simp [intOf]; omega⟩
        | some y =>
          have hS : (Rm.immW j).isSome = true := by rw [hi]; rfl
          have hX := Rm.wordX_some j y (by omega) (by omega) hi
          have hne : (x == (y : Int)) = false := by
            rw [beq_eq_false_iff_ne]
            rintro rfl
            exact hs (by rw [hi, Int.toNat_natCast])
          clear hs hi
          go_wp2_with (go_at_call 135; refine (refword_any _ _ (by omega) (by omega)).mono ?_; rintro e w' ⟨rfl, rfl⟩)
          all_goals exact ⟨⟨j + 1, by omega, by go_num, hN⟩, by simp [intOf]; omega⟩
    · have hfin := Lib.hid (show Rm.ofM x = -1 by
        unfold Rm.ofM
        cases hd : Rm.dec x.toNat with
        | none => rfl
        | some m => exact absurd (Rm.dec_ok x.toNat m (by omega) hd).1 (hn.out m (by have := (Rm.dec_ok x.toNat m (by omega) hd).2; omega)))
      clear hn
      go_wp2
      go_ret
      exact ⟨ret_i hfin.out.symm, rfl⟩

end Go.Proofs.YthpkejlmelednaaDoor

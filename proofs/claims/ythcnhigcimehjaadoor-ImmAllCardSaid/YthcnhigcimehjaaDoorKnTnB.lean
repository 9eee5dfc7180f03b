/- Chapter 2: all numbers that have words: the iterator's contract. -/
import Derived.RangeFuncNested
import Derived.RangeFuncBound
import Derived.RangeFuncCalls
import Derived.RangeFuncLeaves
import Derived.RangeFuncFrom
import Derived.Shelf.Abstract
import Derived.Shelf.RegionOpen
import Derived.WalkKit
import Derived.OwnWalkIn
import Derived.TacticsInMore
import Derived.LoopNIn
import Derived.LoopIn
import Derived.Test.YthcnhigcimehjaaDoorKnTnA
import Derived.Test.YthcnhigcimehjaaDoorKnImmD
namespace Go.Proofs.YthcnhigcimehjaaDoor
open Go Go.RowKit Go.Shelf
attribute [local go_sem] Oper.semAt_some

abbrev encW (x : WN) : Array Value := #[.int .i64 x.1, .int .u32 (Rm.wordX x.1)]
theorem Fac.belowN {n₀ : Nat} {w w' : World} (h : Fac w) (hg : 0 < n₀) (hb : Below n₀ w w') : Fac w' := by
  obtain ⟨t, fr, h⟩ := h
  exact ⟨t, fr, (hb.block _ hg).trans h⟩
theorem word_in (F : Nat) (k : Int) (w : World) (hF : Fac w) (h0 : 0 ≤ k ∧ k ≤ 4096) : CallsIn Fence.wide F Tryd.prog 6 #[.int .i64 k] w fun e w' => e = .returned (.tuple #[.int .u32 (Rm.wordX k), .int .i64 (Rm.wordE k)]) ∧ w = w' :=
  callsIn_wide.2 (word_any k w hF (by omega) (by omega))
set_option maxRecDepth 100000 in
set_option maxHeartbeats 2000000 in
theorem all1_in (n : Nat) (hn : 1 ≤ n) (l n₀ : Nat) (J Jx : List WN → World → Prop)
    (hY : ∀ pre x W, J pre W → pre.length < 4096 → YieldAt Fence.wide (n - 1) Tryd.prog l (encW x) W fun e W' => (e = .returned (.bool true) ∧ J (pre ++ [x]) W' ∧ Below n₀ W W') ∨ (e = .returned (.bool false) ∧ Jx (pre ++ [x]) W'))
    (W : World) (hF : Fac W) (hg : 0 < n₀) (h0 : J [] W) :
    CallsIn Fence.wide n Tryd.prog 9 #[.func (.yield l) #[] #[]] W fun e W' => (∃ v, e = .returned v) ∧ ((∃ ys, ys = allW ∧ J ys W') ∨ (∃ pre, pre <+: allW ∧ Jx pre W')) := by
  refine callsIn_of_wp Tryd.func9 rfl trivial ?_ rfl
  simp only [Tryd.ntmps9, List.size_toArray, List.length_cons, List.length_nil, Nat.reduceAdd, Nat.reduceSub, Array.replicate_succ, Array.replicate_zero, List.push_toArray, List.append_toArray, List.nil_append, List.cons_append]
  gi_wp2
  gi_loopw [5] (fun p wr => ∃ k : Nat, p = .int .i64 (k : Int) ∧ k ≤ 4096 ∧ J (uptoW k) wr ∧ Fac wr) (fun p _ => 4096 - (Lib.intOf p).toNat)
  case atStart => exact ⟨0, rfl, by omega, h0, hF⟩
  case round =>
    obtain ⟨k, rfl, hk, hJ, hFr⟩ := hrel
    by_cases hlt : k < 4096
    · have hlt' : (k : Int) < 4096 := by omega
      cases hi : Rm.immW k with
      | none =>
        have e1 := Rm.wordE_none (k : Int) (by omega) (by omega) (by rw [Int.toNat_natCast]; exact hi)
        have e2 : (Rm.wordE (k : Int) == 0) = false := by rw [e1]; rfl
        have hup : uptoW (k + 1) = uptoW k := uptoW_succ_none (by unfold toWN; rw [dif_neg]; rintro ⟨_, h⟩; rw [hi] at h; simp at h)
        gi_wp2_with (refine ⟨trivial, ?_⟩; gi_at_call 6; refine (word_in _ (k : Int) _ hFr (by omega)).mono ?_; rintro e w' ⟨rfl, rfl⟩)
        refine ⟨fun _ h => (by cases h), ?_⟩
        gi_wp2
        go_roundw
        case rel => exact ⟨k + 1, by rw [Int.natCast_succ], by omega, by rw [hup]; exact hJ, hFr⟩
        case measure => simp [Lib.intOf]; omega
      | some x =>
        have hs : (Rm.immW k).isSome = true := by rw [hi]; rfl
        have e1 := Rm.wordE_some (k : Int) x (by omega) (by omega) (by rw [Int.toNat_natCast]; exact hi)
        have e2 : (Rm.wordE (k : Int) == 0) = true := by rw [e1]; rfl
        have hup : uptoW (k + 1) = uptoW k ++ [⟨k, hlt, hs⟩] := uptoW_succ_some (by unfold toWN; rw [dif_pos ⟨hlt, hs⟩])
        obtain ⟨fn, tmps, assign, body, hy, hR⟩ := hY (uptoW k) ⟨k, hlt, hs⟩ wr hJ (by have := uptoW_len k; omega)
        dsimp only [encW] at hy
        gi_wp2_with (refine ⟨trivial, ?_⟩; gi_at_call 6; refine (word_in _ (k : Int) _ hFr (by omega)).mono ?_; rintro e w' ⟨rfl, rfl⟩)
        refine hR.mono ?_
        rintro e W3 (⟨rfl, hJ3, hk3⟩ | ⟨rfl, hJx3⟩)
        · gi_wp2
          go_roundw
          case rel => exact ⟨k + 1, by rw [Int.natCast_succ], by omega, by rw [hup]; exact hJ3, hFr.belowN hg hk3⟩
          case measure => simp [Lib.intOf]; omega
        · gi_wp2
          refine bodyPost_ret (results_none rfl _ _ _) rfl ?_
          have hp := uptoW_prefix (k + 1) (4096 - (k + 1))
          rw [show k + 1 + (4096 - (k + 1)) = 4096 by omega, hup] at hp
          exact ⟨⟨_, rfl⟩, .inr ⟨_, hp, hJx3⟩⟩
    · obtain rfl : k = 4096 := by omega
      gi_wp2
      go_end0
      exact ⟨⟨_, rfl⟩, .inl ⟨_, rfl, hJ⟩⟩

theorem all_stops (n : Nat) (hn : 1 ≤ n) (n₀ : Nat) (w : World) (hF : Fac w) (hg : 0 < n₀) (h0 : n₀ ≤ w.heap.size) :
    SeqStopsK Fence.wide n Tryd.prog 9 #[] encW (Below n₀) (fun ys => ys = allW) (fun pre => pre <+: allW) 4096 w := fun l J Jx W hW _ _ hY h0' =>
  all1_in n hn l n₀ J Jx hY W (hF.belowN hg (hW.mono h0)) hg h0'

end Go.Proofs.YthcnhigcimehjaaDoor

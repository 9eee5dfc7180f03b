/- The walk of ClockBetween. -/
import Derived.Test.YtcpalglmnondmaaClkL
namespace Go.Proofs.Ytcpalglmnondmaa
open Go.RowKit

namespace Rm
/-- the line that a buffer has behind an instruction of s bytes at a -/
def lastLine (a : Int) (s : Int) : Int := if s = 4 then (a + 2) % 4294967296 / 16 else a / 16
def missS (full : Bool) (line a s : Int) : Int := if s = 4 then missN full line (a / 16) + missN true (a / 16) ((a + 2) % 4294967296 / 16) else missN full line (a / 16)
def bytes (b : Bool) : Int := if b then 4 else 2
theorem missS_bd (full : Bool) (line a s : Int) : 0 ≤ missS full line a s ∧ missS full line a s ≤ 2 := by
  have h1 := missN_bd full line (a / 16)
  have h2 := missN_bd true (a / 16) ((a + 2) % 4294967296 / 16)
  unfold missS; split <;> omega
end Rm

theorem fetch_any (full : Bool) (line at_ s : Int) (w : World) (h0 : 0 ≤ at_) (h1 : at_ ≤ 4294967295) (hs : s = 2 ∨ s = 4) :
    Calls Try.prog 15 #[.agg #[.bool full, .int .u32 line], .int .u32 at_, .int .i64 s] w fun e w' =>
      e = .returned (.tuple #[.agg #[.bool true, .int .u32 (Rm.lastLine at_ s)], .int .i64 (Rm.missS full line at_ s)]) ∧ Below w.heap.size w w' := by
  rcases hs with rfl | rfl
  · exact fetch_two full line at_ w h0 h1
  · exact fetch_four full line at_ w h0 h1

set_option maxHeartbeats 1000000 in
theorem between_any (a s b t : Int) (w : World) (ha0 : 0 ≤ a) (ha1 : a ≤ 4294967295) (hb0 : 0 ≤ b) (hb1 : b ≤ 4294967295) (hs : s = 2 ∨ s = 4) (ht : t = 2 ∨ t = 4) :
    Calls Try.prog 26 #[.int .u32 a, .int .u32 s, .int .u32 b, .int .u32 t] w fun e w' => e = .returned (.int .i64 (Rm.missS true (Rm.lastLine a s) b t)) ∧ Below w.heap.size w w' := by
  have s0 : 2 ≤ s ∧ s ≤ 4 := by omega
  have t0 : 2 ≤ t ∧ t ≤ 4 := by omega
  have HS := Lib.hid hs
  have HT := Lib.hid ht
  clear hs ht
  go_enter Try.func26, Try.ntmps26
  go_wp2_with fail
  refine (sized_yes s _ HS.out).mono ?_; rintro e w' ⟨rfl, rfl⟩
  go_wp2_with fail
  refine (sized_yes t _ HT.out).mono ?_; rintro e w' ⟨rfl, rfl⟩
  go_wp2_with fail
  refine (fetch_any false 0 a s _ ha0 ha1 HS.out).mono ?_; rintro e wa ⟨rfl, hba⟩
  go_wp2_with fail
  refine (fetch_any true _ b t _ hb0 hb1 HT.out).mono ?_; rintro e wb ⟨rfl, hbb⟩
  go_wp2_with fail
  go_ret
  have h := (hba.alloc hba.size (.cells #[.bool true, .int .u32 (Rm.lastLine a s)] 25)).trans (hbb.mono (by have := hba.size; simp; omega))
  exact ⟨rfl, h.alloc h.size _⟩

theorem between_no (a s b t : Int) (w : World) (hs0 : 0 ≤ s) (hs1 : s ≤ 100) (ht0 : 0 ≤ t) (ht1 : t ≤ 100) (h : (s ≠ 2 ∧ s ≠ 4) ∨ (s = 2 ∧ t ≠ 2 ∧ t ≠ 4)) :
    Calls Try.prog 26 #[.int .u32 a, .int .u32 s, .int .u32 b, .int .u32 t] w fun e w' => e = .returned (.int .i64 0) ∧ w = w' := by
  rcases h with ⟨h2, h4⟩ | ⟨rfl, h2, h4⟩
  · have H2 := Lib.hid h2
    have H4 := Lib.hid h4
    clear h2 h4
    go_enter Try.func26, Try.ntmps26
    go_wp2_with fail
    refine (sized_no s _ H2.out H4.out).mono ?_; rintro e w' ⟨rfl, rfl⟩
    go_wp2_with fail
    go_ret
    exact ⟨rfl, rfl⟩
  · have H2 := Lib.hid h2
    have H4 := Lib.hid h4
    clear h2 h4
    go_enter Try.func26, Try.ntmps26
    go_wp2_with fail
    refine (sized_yes 2 _ (.inl rfl)).mono ?_; rintro e w' ⟨rfl, rfl⟩
    go_wp2_with fail
    refine (sized_no t _ H2.out H4.out).mono ?_; rintro e w' ⟨rfl, rfl⟩
    go_wp2_with fail
    go_ret
    exact ⟨rfl, rfl⟩

theorem blk_put {W w2 : World} {B : Nat} {t : TypeId} {x y a b : Value} {o : Obj} (hb : Below W.heap.size W w2) (hB : W.heap.size ≤ B) (k : Blk w2 B t #[a, b]) :
    Below W.heap.size W (((w2.setCell ⟨B, 0, none⟩ x).setCell ⟨B, 1, none⟩ y).alloc o) ∧ Blk (((w2.setCell ⟨B, 0, none⟩ x).setCell ⟨B, 1, none⟩ y).alloc o) B t #[x, y] :=
  have h := (hb.setCell (p := ⟨B, 0, none⟩) hB x).setCell (p := ⟨B, 1, none⟩) hB y
  ⟨h.alloc h.size o, ((k.set_ 0 x).set_ 1 y).alloc o⟩

theorem blk_put2 {W w2 : World} {B : Nat} {t : TypeId} {x y a b : Value} (hb : Below W.heap.size W w2) (hB : W.heap.size ≤ B) (k : Blk w2 B t #[a, b]) :
    Below W.heap.size W ((w2.setCell ⟨B, 0, none⟩ x).setCell ⟨B, 1, none⟩ y) ∧ Blk ((w2.setCell ⟨B, 0, none⟩ x).setCell ⟨B, 1, none⟩ y) B t #[x, y] :=
  ⟨(hb.setCell (p := ⟨B, 0, none⟩) hB x).setCell (p := ⟨B, 1, none⟩) hB y, (k.set_ 0 x).set_ 1 y⟩

set_option maxHeartbeats 4000000 in
theorem between_small (a0 : Option Addr) (len0 cap0 : Nat) (z0 : Nat → Int) (W : World) (w0 : IsRow (fun i => .int .u32 (z0 i)) W a0 len0 cap0) (y0 : ∀ i, 0 ≤ z0 i ∧ z0 i ≤ 4294967295) (a1 : Option Addr) (len1 cap1 : Nat) (z1 : Nat → Bool) (w1 : IsRow (fun i => .bool (z1 i)) W a1 len1 cap1) (hl : len0 ≤ 60) (hm : len0 ≤ len1) :
    Calls Try.prog 11 #[.slice a0 len0 cap0, .slice a1 len1 cap1] W fun e w' => e = .returned (.bool true) ∧ Below W.heap.size W w' := by
  have hlc0 : len0 ≤ cap0 := w0.1
  have hcm0 : cap0 ≤ 9223372036854775807 := w0.2.1
  have hlc1 : len1 ≤ cap1 := w1.1
  have hcm1 : cap1 ≤ 9223372036854775807 := w1.2.1
  have d1 : decide ((60 : Int) < len0) = false := by simp; omega
  have d2 : decide (len1 < len0) = false := by simp; omega
  have HY := Lib.hid y0
  clear y0
  go_enter Try.func11, Try.ntmps11
  go_wp2_with fail
  refine (anchor05_any _).mono ?_
  rintro e wa ⟨rfl, hba⟩
  go_wp2_with fail
  go_loopw [27] (fun i wr => ∃ (k : Nat) (line : Int) (full : Bool), k ≤ len0 ∧ i = .int .i64 k ∧ Hid (0 < k → full = true ∧ line = Rm.lastLine (z0 (k - 1)) (Rm.bytes (z1 (k - 1)))) ∧ Below W.heap.size W wr ∧ W.heap.size ≤ wa.heap.size ∧ Blk wr wa.heap.size 25 #[.bool full, .int .u32 line]) (fun i _ => len0 - (intOf i).toNat)
  case atStart => exact ⟨0, 0, false, by omega, rfl, Lib.hid (fun h => absurd h (by omega)), hba.alloc hba.size _, hba.size, Blk.new _ _ _⟩
  case round =>
    obtain ⟨k, line, full, hk, rfl, hr, hbw, hsz, hblk⟩ := hrel
    have c0 : wr.cell? ⟨wa.heap.size, 0, none⟩ = some (.bool full) := hblk.cell 0
    have c1 : wr.cell? ⟨wa.heap.size, 1, none⟩ = some (.int .u32 line) := hblk.cell 1
    have hltB := hblk.lt
    by_cases hlt : k < len0
    · obtain ⟨bb, off, rfl, hbl, hcell⟩ := w0.2.2 (by omega)
      obtain ⟨bc, og, rfl, hbl1, hcell1⟩ := w1.2.2 (by omega)
      have hc : wr.cell? ⟨bb, off + k, none⟩ = some (.int .u32 (z0 k)) := (hbw.cell (p := ⟨bb, off + k, none⟩) hbl).trans (hcell k (by omega))
      have hd : wr.cell? ⟨bc, og + k, none⟩ = some (.bool (z1 k)) := (hbw.cell (p := ⟨bc, og + k, none⟩) hbl1).trans (hcell1 k (by omega))
      by_cases hk0 : k = 0
      · subst hk0
        have y := HY.out 0
        rw [Nat.add_zero] at hc hd
        clear hcell hcell1
        cases hz : z1 0
        all_goals
          rw [hz] at hd
          have hz2 := Lib.hid hz
          clear hz
          go_wp2_with fail
          refine Calls.mono (fetch_any full line (z0 0) _ _ y.1 y.2 ?_) ?_
          · omega
          rintro e w2 ⟨rfl, hb2⟩
          have k2 := hblk.below hb2 hltB
          have g0 := k2.frozen 0
          have g1 := k2.frozen 1
          have d0 : w2.cell? ⟨wa.heap.size, 0, none⟩ = some (.bool full) := k2.cell 0
          have d1 : w2.cell? ⟨wa.heap.size, 1, none⟩ = some (.int .u32 line) := k2.cell 1
          have hl2 := k2.lt
          have hb3 := hbw.trans (hb2.mono hbw.size)
          go_wp2_with fail
          refine ⟨?_, by simp [intOf]; omega⟩
          refine ⟨1, _, true, by omega, ?_, Lib.hid (fun _ => ⟨rfl, ?_⟩), (blk_put hb3 hsz k2).1, hsz, (blk_put hb3 hsz k2).2⟩
          · go_num
          · show _ = Rm.lastLine (z0 0) (Rm.bytes (z1 0))
            rw [hz2.out]; rfl
      · obtain ⟨j, rfl⟩ : ∃ j, k = j + 1 := ⟨k - 1, by omega⟩
        have y := HY.out (j + 1)
        have yj := HY.out j
        have hc' : wr.cell? ⟨bb, off + j, none⟩ = some (.int .u32 (z0 j)) := (hbw.cell (p := ⟨bb, off + j, none⟩) hbl).trans (hcell j (by omega))
        have hd' : wr.cell? ⟨bc, og + j, none⟩ = some (.bool (z1 j)) := (hbw.cell (p := ⟨bc, og + j, none⟩) hbl1).trans (hcell1 j (by omega))
        obtain ⟨r1, r2⟩ := hr.out (by omega)
        have r2' : line = Rm.lastLine (z0 j) (Rm.bytes (z1 j)) := r2
        subst r1
        clear hcell hcell1 r2 hr hk0
        cases hz : z1 (j + 1)
        all_goals cases hv : z1 j
        all_goals
          rw [hz] at hd
          rw [hv] at hd' r2'
          simp only [Rm.bytes, if_true, if_false, Bool.false_eq_true] at r2'
          subst r2'
          have hz2 := Lib.hid hz
          clear hz hv
          go_wp2_with fail
          refine Calls.mono (fetch_any true _ (z0 (j + 1)) _ _ y.1 y.2 ?_) ?_
          · omega
          rintro e w2 ⟨rfl, hb2⟩
          have k2 := hblk.below hb2 hltB
          have hb3 := hbw.trans (hb2.mono hbw.size)
          have e0 := (hb2.cell (p := ⟨bb, off + j, none⟩) (Nat.lt_of_lt_of_le hbl hbw.size)).trans hc'
          have e1 := (hb2.cell (p := ⟨bc, og + j, none⟩) (Nat.lt_of_lt_of_le hbl1 hbw.size)).trans hd'
          have l0 : bb < w2.heap.size := Nat.lt_of_lt_of_le hbl hb3.size
          have l1 : bc < w2.heap.size := Nat.lt_of_lt_of_le hbl1 hb3.size
          go_wp2_with fail
          refine Calls.mono (between_any (z0 j) _ (z0 (j + 1)) _ _ yj.1 yj.2 y.1 y.2 ?_ ?_) ?_
          · omega
          · omega
          rintro e w3 ⟨rfl, hb4⟩
          have kc := (Blk.new w2 _ _).below hb4 (by simp)
          have kb := (k2.alloc _).below hb4 (by have := k2.lt; simp; omega)
          have hb5 := (hb3.alloc hb3.size _).trans (hb4.mono (by have := hb3.size; simp; omega))
          have q0 := kc.cell 0
          have q1 := kc.cell 1
          have p0 := kb.cell 0
          have p1 := kb.cell 1
          have g0 := kb.frozen 0
          have g1 := kb.frozen 1
          have n1 := k2.lt
          have n2 := kc.lt
          have n3 := kb.lt
          go_wp2_with fail
          refine ⟨?_, by simp [intOf]; omega⟩
          refine ⟨j + 1 + 1, _, true, by omega, ?_, Lib.hid (fun _ => ⟨rfl, ?_⟩), (blk_put2 hb5 hsz kb).1, hsz, (blk_put2 hb5 hsz kb).2⟩
          · go_num
          · show _ = Rm.lastLine (z0 (j + 1)) (Rm.bytes (z1 (j + 1)))
            rw [hz2.out]; rfl
    · have hkl : k = len0 := by omega
      subst hkl
      go_wp2_with fail
      refine (between_no 0 3 0 2 _ (by omega) (by omega) (by omega) (by omega) (.inl ⟨by omega, by omega⟩)).mono ?_
      rintro e w' ⟨rfl, rfl⟩
      go_wp2_with fail
      refine (between_no 0 2 0 1 _ (by omega) (by omega) (by omega) (by omega) (.inr ⟨rfl, by omega, by omega⟩)).mono ?_
      rintro e w' ⟨rfl, rfl⟩
      go_wp2_with fail
      go_ret
      exact ⟨rfl, hbw⟩

theorem ClockBetween_walk (a0 : Option Addr) (len0 cap0 : Nat) (z0 : Nat → Int) (W : World) (w0 : IsRow (fun i => .int .u32 (z0 i)) W a0 len0 cap0) (y0 : ∀ i, 0 ≤ z0 i ∧ z0 i ≤ 4294967295) (a1 : Option Addr) (len1 cap1 : Nat) (z1 : Nat → Bool) (w1 : IsRow (fun i => .bool (z1 i)) W a1 len1 cap1) :
    Calls Try.prog 11 #[.slice a0 len0 cap0, .slice a1 len1 cap1] W fun e w' => e = .returned (.bool true) ∧ Below W.heap.size W w' := by
  have hlc0 : len0 ≤ cap0 := w0.1
  have hcm0 : cap0 ≤ 9223372036854775807 := w0.2.1
  have hlc1 : len1 ≤ cap1 := w1.1
  have hcm1 : cap1 ≤ 9223372036854775807 := w1.2.1
  by_cases hl : 60 < len0
  · clear w0 w1 y0
    go_enter Try.func11, Try.ntmps11
    go_wp2_with (go_at_call 14; refine (anchor05_any _).mono ?_; rintro e wa ⟨rfl, hba⟩)
    go_ret
    exact ⟨rfl, hba⟩
  · by_cases hm : len1 < len0
    · clear w0 w1 y0
      go_enter Try.func11, Try.ntmps11
      go_wp2_with (go_at_call 14; refine (anchor05_any _).mono ?_; rintro e wa ⟨rfl, hba⟩)
      go_ret
      exact ⟨rfl, hba⟩
    · exact between_small a0 len0 cap0 z0 W w0 y0 a1 len1 cap1 z1 w1 (by omega) (by omega)

end Go.Proofs.Ytcpalglmnondmaa

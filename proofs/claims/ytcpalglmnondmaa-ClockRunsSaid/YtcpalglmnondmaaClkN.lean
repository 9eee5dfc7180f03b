/- The walk of ClockRuns. -/
import Derived.Test.YtcpalglmnondmaaClkL
import Derived.Laws.DeepBits32
namespace Go.Proofs.Ytcpalglmnondmaa
open Go.RowKit

namespace Rm
theorem even_down (x : Int) (h0 : 0 ≤ x) (h1 : x ≤ 4294967295) : bits .andNot .u32 x 1 = x - x % 2 := by
  rw [u32_andNot x 1 h0 (by omega) (by omega) (by omega)]
  have e : x.toNat &&& (4294967295 - (1 : Int).toNat) = x.toNat - x.toNat % 2 := and_even x.toNat (by omega)
  rw [e]; omega
/-- what a run has fetched: h halves from at on; the buffer; the misses -/
def Ran (at_ h : Int) (full : Bool) (line sum : Int) : Prop :=
  (h = 0 ∧ full = false ∧ line = 0 ∧ sum = 0) ∨ (1 ≤ h ∧ full = true ∧ line = (at_ + 2 * h - 2) / 16 ∧ sum = (at_ + 2 * h - 2) / 16 - at_ / 16 + 1)
theorem Ran.bd {at_ h : Int} {full : Bool} {line sum : Int} (r : Ran at_ h full line sum) (ha : 0 ≤ at_) (hh : h ≤ 400) : 0 ≤ sum ∧ sum ≤ 1000 := by
  rcases r with ⟨r1, _, _, r4⟩ | ⟨r1, _, _, r4⟩
  · omega
  · omega
theorem Ran.two {at_ h : Int} {full : Bool} {line sum : Int} (r : Ran at_ h full line sum) (ha : at_ % 2 = 0) : Ran at_ (h + 1) true ((at_ + 2 * h) / 16) (sum + missN full line ((at_ + 2 * h) / 16)) := by
  have e : at_ + 2 * (h + 1) - 2 = at_ + 2 * h := by omega
  unfold Ran
  rw [e]
  rcases r with ⟨rfl, rfl, rfl, rfl⟩ | ⟨r1, rfl, rfl, rfl⟩
  · refine .inr ⟨by omega, rfl, rfl, ?_⟩
    rw [missN_f]; omega
  · refine .inr ⟨by omega, rfl, rfl, ?_⟩
    rw [missN_t]; split <;> omega
theorem Ran.four {at_ h : Int} {full : Bool} {line sum : Int} (r : Ran at_ h full line sum) (ha : at_ % 2 = 0) :
    Ran at_ (h + 2) true ((at_ + 2 * h + 2) / 16) (sum + (missN full line ((at_ + 2 * h) / 16) + missN true ((at_ + 2 * h) / 16) ((at_ + 2 * h + 2) / 16))) := by
  have r2 := (r.two ha).two ha
  have e : at_ + 2 * (h + 1) = at_ + 2 * h + 2 := by omega
  have e2 : h + 1 + 1 = h + 2 := by omega
  have e3 : sum + missN full line ((at_ + 2 * h) / 16) + missN true ((at_ + 2 * h) / 16) ((at_ + 2 * h + 2) / 16) = sum + (missN full line ((at_ + 2 * h) / 16) + missN true ((at_ + 2 * h) / 16) ((at_ + 2 * h + 2) / 16)) := Int.add_assoc _ _ _
  rw [e, e2, e3] at r2
  exact r2
end Rm

theorem blk_step {W w2 : World} {B : Nat} {t : TypeId} {x y a b : Value} {o : Obj} (hb : Below W.heap.size W w2) (hB : W.heap.size ≤ B) (k : Blk w2 B t #[a, b]) :
    Below W.heap.size W (((w2.setCell ⟨B, 0, none⟩ x).setCell ⟨B, 1, none⟩ y).alloc o) ∧ Blk (((w2.setCell ⟨B, 0, none⟩ x).setCell ⟨B, 1, none⟩ y).alloc o) B t #[x, y] :=
  have h := (hb.setCell (p := ⟨B, 0, none⟩) hB x).setCell (p := ⟨B, 1, none⟩) hB y
  ⟨h.alloc h.size o, ((k.set_ 0 x).set_ 1 y).alloc o⟩

set_option maxHeartbeats 4000000 in
theorem runs_small (a0 : Int) (b0 : 0 ≤ a0 ∧ a0 ≤ 4294967295) (a1 : Option Addr) (len1 cap1 : Nat) (z1 : Nat → Bool) (W : World) (w1 : IsRow (fun i => .bool (z1 i)) W a1 len1 cap1) (hl : len1 ≤ 200) (ha : a0 ≤ 1073741824) :
    Calls Try.prog 4 #[.int .u32 a0, .slice a1 len1 cap1] W fun e w' => e = .returned (.bool true) ∧ Below W.heap.size W w' := by
  have e1 := Rm.even_down a0 b0.1 b0.2
  obtain ⟨at_, hat⟩ : ∃ at_, a0 - a0 % 2 = at_ := ⟨_, rfl⟩
  rw [hat] at e1
  have hA0 : 0 ≤ at_ ∧ at_ ≤ 1073741824 := by omega
  have hA2 : at_ % 2 = 0 := by omega
  have HA2 := Lib.hid hA2
  have hlc : len1 ≤ cap1 := w1.1
  have hcm : cap1 ≤ 9223372036854775807 := w1.2.1
  clear hat hA2
  go_enter Try.func4, Try.ntmps4
  go_wp2_with fail
  refine (anchor05_any _).mono ?_
  rintro e wa ⟨rfl, hba⟩
  go_wp2_with fail
  go_loopw [6, 7, 28] (fun s en i wr => ∃ (k : Nat) (h sum line : Int) (full : Bool), k ≤ len1 ∧ 0 ≤ h ∧ h ≤ 2 * k ∧ (k : Int) ≤ h ∧ s = .int .i64 sum ∧ en = .int .u32 (at_ + 2 * h) ∧ i = .int .i64 k ∧ Hid (Rm.Ran at_ h full line sum) ∧ Below W.heap.size W wr ∧ W.heap.size ≤ wa.heap.size ∧ Blk wr wa.heap.size 25 #[.bool full, .int .u32 line]) (fun _ _ i _ => len1 - (intOf i).toNat)
  case atStart => exact ⟨0, 0, 0, 0, false, by omega, by omega, by omega, by omega, rfl, by congr 1; omega, rfl, Lib.hid (.inl ⟨rfl, rfl, rfl, rfl⟩), hba.alloc hba.size _, hba.size, Blk.new _ _ _⟩
  case round =>
    obtain ⟨k, h, sum, line, full, hk, hh0, hh1, hh2, rfl, rfl, rfl, hr, hbw, hsz, hblk⟩ := hrel
    have hbd := hr.out.bd hA0.1 (by omega)
    have c0 : wr.cell? ⟨wa.heap.size, 0, none⟩ = some (.bool full) := hblk.cell 0
    have c1 : wr.cell? ⟨wa.heap.size, 1, none⟩ = some (.int .u32 line) := hblk.cell 1
    have hltB := hblk.lt
    by_cases hlt : k < len1
    · obtain ⟨bb, off, rfl, hbl, hcell⟩ := w1.2.2 (by omega)
      have hc : wr.cell? ⟨bb, off + k, none⟩ = some (.bool (z1 k)) := (hbw.cell (p := ⟨bb, off + k, none⟩) hbl).trans (hcell k (by omega))
      have HR := hr
      clear hcell hr
      have m1 := Rm.missN_bd full line ((at_ + 2 * h) / 16)
      have m2 := Rm.missN_bd true ((at_ + 2 * h) / 16) ((at_ + 2 * h + 2) / 16)
      cases hz : z1 k
      · rw [hz] at hc
        clear hz
        go_wp2_with fail
        refine (fetch_two full line (at_ + 2 * h) _ (by omega) (by omega)).mono ?_
        rintro e w2 ⟨rfl, hb2⟩
        have k2 := hblk.below hb2 hltB
        have d0 : w2.cell? ⟨wa.heap.size, 0, none⟩ = some (.bool full) := k2.cell 0
        have d1 : w2.cell? ⟨wa.heap.size, 1, none⟩ = some (.int .u32 line) := k2.cell 1
        have g0 := k2.frozen 0
        have g1 := k2.frozen 1
        have hl2 := k2.lt
        have hb3 := hbw.trans (hb2.mono hbw.size)
        go_wp2_with fail
        obtain ⟨f1, f2⟩ := blk_step (x := .bool true) (y := .int .u32 ((at_ + 2 * h) / 16)) (o := .cells #[.bool true, .int .u32 ((at_ + 2 * h) / 16)] 25) hb3 hsz k2
        exact ⟨⟨k + 1, h + 1, _, _, true, by omega, by omega, by omega, by omega, rfl, by congr 1; omega, by go_num, Lib.hid (HR.out.two HA2.out), f1, hsz, f2⟩, by simp [intOf]; omega⟩
      · rw [hz] at hc
        clear hz
        have ew : (at_ + 2 * h + 2) % 4294967296 = at_ + 2 * h + 2 := by omega
        go_wp2_with fail
        refine (fetch_four full line (at_ + 2 * h) _ (by omega) (by omega)).mono ?_
        rintro e w2 ⟨rfl, hb2⟩
        rw [ew]
        clear ew
        have k2 := hblk.below hb2 hltB
        have d0 : w2.cell? ⟨wa.heap.size, 0, none⟩ = some (.bool full) := k2.cell 0
        have d1 : w2.cell? ⟨wa.heap.size, 1, none⟩ = some (.int .u32 line) := k2.cell 1
        have g0 := k2.frozen 0
        have g1 := k2.frozen 1
        have hl2 := k2.lt
        have hb3 := hbw.trans (hb2.mono hbw.size)
        go_wp2_with fail
        obtain ⟨f1, f2⟩ := blk_step (x := .bool true) (y := .int .u32 ((at_ + 2 * h + 2) / 16)) (o := .cells #[.bool true, .int .u32 ((at_ + 2 * h + 2) / 16)] 25) hb3 hsz k2
        exact ⟨⟨k + 1, h + 2, _, _, true, by omega, by omega, by omega, by omega, rfl, by congr 1; omega, by go_num, Lib.hid (HR.out.four HA2.out), f1, hsz, f2⟩, by simp [intOf]; omega⟩
    · have hkl : k = len1 := by omega
      subst hkl
      rcases hr.out with ⟨r1, r2, r3, r4⟩ | ⟨r1, r2, r3, r4⟩
      · subst r1; subst r2; subst r3; subst r4
        have hk0 : k = 0 := by omega
        subst hk0
        clear hr hlt
        go_wp2_with fail
        go_ret
        exact ⟨rfl, hbw⟩
      · subst r2; subst r3; subst r4
        have hkb : ((k : Int) == 0) = false := by rw [beq_eq_false_iff_ne]; omega
        have hfin : ((at_ + 2 * h - 2) / 16 - at_ / 16 + 1 == (at_ + 2 * h - 2) / 16 - at_ / 16 + 1) = true := by simp
        clear hr hlt
        go_wp2_with fail
        go_ret
        exact ⟨rfl, hbw⟩

theorem ClockRuns_walk (a0 : Int) (b0 : 0 ≤ a0 ∧ a0 ≤ 4294967295) (a1 : Option Addr) (len1 cap1 : Nat) (z1 : Nat → Bool) (W : World) (w1 : IsRow (fun i => .bool (z1 i)) W a1 len1 cap1) :
    Calls Try.prog 4 #[.int .u32 a0, .slice a1 len1 cap1] W fun e w' => e = .returned (.bool true) ∧ Below W.heap.size W w' := by
  have hlc : len1 ≤ cap1 := w1.1
  have hcm : cap1 ≤ 9223372036854775807 := w1.2.1
  by_cases hl : 200 < len1
  · clear w1
    go_enter Try.func4, Try.ntmps4
    go_wp2_with (go_at_call 14; refine (anchor05_any _).mono ?_; rintro e wa ⟨rfl, hba⟩)
    go_ret
    exact ⟨rfl, hba⟩
  · by_cases ha : 1073741824 < a0
    · clear w1
      go_enter Try.func4, Try.ntmps4
      go_wp2_with (go_at_call 14; refine (anchor05_any _).mono ?_; rintro e wa ⟨rfl, hba⟩)
      go_ret
      exact ⟨rfl, hba⟩
    · exact runs_small a0 b0 a1 len1 cap1 z1 W w1 (by omega) (by omega)

end Go.Proofs.Ytcpalglmnondmaa

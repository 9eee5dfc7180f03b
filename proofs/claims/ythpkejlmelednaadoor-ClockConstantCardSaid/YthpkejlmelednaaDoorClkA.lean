/- Walks of the clock's functions: a line, a division's time, a buffer that takes a line, that fetches an instruction. -/
import Derived.Test.YthpkejlmelednaaDoorAluB
import Derived.Below
import Derived.Deep.QuietTactic
import Derived.BigQuiet
import Derived.Deep.RegionHeld3
import Derived.Deep.RegionLaw
import Derived.Deep.DeepCutAuto
import Derived.Test.YthpkejlmelednaaDoorBase
namespace Go.Proofs.YthpkejlmelednaaDoor
open Go.RowKit

namespace Rm
/-- a division's cycles -/
def divN (a b : Int) : Int := if b = 0 ∨ (Lib.bitLen a.toNat : Int) < Lib.bitLen b.toNat then 2 else 3 + ((Lib.bitLen a.toNat : Int) - Lib.bitLen b.toNat) / 4
/-- what a buffer misses of a line -/
def missN (full : Bool) (line l : Int) : Int := if full = true ∧ line = l then 0 else 1
theorem missN_bd (full : Bool) (line l : Int) : 0 ≤ missN full line l ∧ missN full line l ≤ 1 := by unfold missN; split <;> omega
end Rm

theorem line_any (a : Int) (w : World) (h0 : 0 ≤ a) (h1 : a ≤ 4294967295) :
    Calls Tryd.prog 89 #[.int .u32 a] w fun e w' => e = .returned (.int .u32 (a / 16)) ∧ w = w' := by
  go_enter Tryd.func89, Tryd.ntmps89
  go_wp2
  go_ret
  exact ⟨rfl, rfl⟩

theorem div_any (a b : Int) (w : World) (ha0 : 0 ≤ a) (ha1 : a ≤ 4294967295) (hb0 : 0 ≤ b) (hb1 : b ≤ 4294967295) :
    Calls Tryd.prog 18 #[.int .u32 a, .int .u32 b] w fun e w' => e = .returned (.int .i64 (Rm.divN a b)) ∧ w = w' := by
  have h1 := Rm.bitLen_le32 a.toNat (by omega)
  have h2 := Rm.bitLen_le32 b.toNat (by omega)
  by_cases hb : b = 0
  · subst hb
    go_enter Tryd.func18, Tryd.ntmps18
    go_wp2_with fail
    refine (len_any a _ ha0 ha1).mono ?_; rintro e w' ⟨rfl, rfl⟩
    go_wp2_with fail
    refine (len_any 0 _ hb0 hb1).mono ?_; rintro e w' ⟨rfl, rfl⟩
    go_wp2_with fail
    all_goals
      go_ret
      exact ⟨ret_i (by unfold Rm.divN; rw [if_pos (.inl rfl)]), rfl⟩
  · have bb : (b == 0) = false := by simpa using hb
    by_cases hl : Lib.bitLen a.toNat < Lib.bitLen b.toNat
    · go_enter Tryd.func18, Tryd.ntmps18
      go_wp2_with fail
      refine (len_any a _ ha0 ha1).mono ?_; rintro e w' ⟨rfl, rfl⟩
      go_wp2_with fail
      refine (len_any b _ hb0 hb1).mono ?_; rintro e w' ⟨rfl, rfl⟩
      go_wp2_with fail
      go_ret
      exact ⟨ret_i (by unfold Rm.divN; rw [if_pos (.inr (by omega))]), rfl⟩
    · go_enter Tryd.func18, Tryd.ntmps18
      go_wp2_with fail
      refine (len_any a _ ha0 ha1).mono ?_; rintro e w' ⟨rfl, rfl⟩
      go_wp2_with fail
      refine (len_any b _ hb0 hb1).mono ?_; rintro e w' ⟨rfl, rfl⟩
      go_wp2_with fail
      go_ret
      exact ⟨ret_i (by unfold Rm.divN; rw [if_neg (by omega)]), rfl⟩

theorem sized_yes (n : Int) (w : World) (h : n = 2 ∨ n = 4) :
    Calls Tryd.prog 87 #[.int .i64 n] w fun e w' => e = .returned (.bool true) ∧ w = w' := by
  rcases h with rfl | rfl
  all_goals
    go_enter Tryd.func87, Tryd.ntmps87
    go_wp2
    go_ret
    exact ⟨rfl, rfl⟩

theorem sized_no (n : Int) (w : World) (h2 : n ≠ 2) (h4 : n ≠ 4) :
    Calls Tryd.prog 87 #[.int .i64 n] w fun e w' => e = .returned (.bool false) ∧ w = w' := by
  have b2 : (n == 2) = false := by simpa using h2
  have b4 : (n == 4) = false := by simpa using h4
  go_enter Tryd.func87, Tryd.ntmps87
  go_wp2
  go_ret
  exact ⟨rfl, rfl⟩

theorem bcell {W w1 : World} (hb : Below W.heap.size W w1) : (∀ b o, b < W.heap.size → w1.cell? ⟨b, o, none⟩ = W.cell? ⟨b, o, none⟩) ∧ (∀ b o, b < W.heap.size → w1.frozen? ⟨b, o, none⟩ = W.frozen? ⟨b, o, none⟩) :=
  ⟨fun b o h => hb.cell (p := ⟨b, o, none⟩) h, fun b o h => hb.frozen (p := ⟨b, o, none⟩) h⟩

theorem take_any (full : Bool) (line l : Int) (w : World) :
    Calls Tryd.prog 88 #[.agg #[.bool full, .int .u32 line], .int .u32 l] w fun e w' => e = .returned (.tuple #[.agg #[.bool true, .int .u32 l], .int .i64 (Rm.missN full line l)]) ∧ Below w.heap.size w w' := by
  by_cases h : full = true ∧ line = l
  · obtain ⟨rfl, rfl⟩ := h
    go_enter Tryd.func88, Tryd.ntmps88
    go_wp2
    refine bodyPost_ret (v := .tuple #[.agg #[.bool true, .int .u32 line], .int .i64 0]) (by simp [results, Tryd.results88, go_sem]) rfl ⟨by simp [Rm.missN], ?_⟩
    exact ((Below.refl _ _).alloc (Nat.le_refl _) _).alloc (by simp) _
  · have hm : Rm.missN full line l = 1 := by unfold Rm.missN; rw [if_neg h]
    cases full with
    | false =>
      clear h
      go_enter Tryd.func88, Tryd.ntmps88
      go_wp2
      refine bodyPost_ret (v := .tuple #[.agg #[.bool true, .int .u32 l], .int .i64 1]) (by simp [results, Tryd.results88, go_sem]) rfl ⟨by rw [hm], ?_⟩
      exact ((Below.refl _ _).alloc (Nat.le_refl _) _).alloc (by simp) _
    | true =>
      have hl : (line == l) = false := by simpa using h
      clear h
      go_enter Tryd.func88, Tryd.ntmps88
      go_wp2
      refine bodyPost_ret (v := .tuple #[.agg #[.bool true, .int .u32 l], .int .i64 1]) (by simp [results, Tryd.results88, go_sem]) rfl ⟨by rw [hm], ?_⟩
      exact ((Below.refl _ _).alloc (Nat.le_refl _) _).alloc (by simp) _

/-- neither two nor four bytes -/
theorem fetch_no (full : Bool) (line at_ n : Int) (w : World) (h2 : n ≠ 2) (h4 : n ≠ 4) :
    Calls Tryd.prog 39 #[.agg #[.bool full, .int .u32 line], .int .u32 at_, .int .i64 n] w fun e w' => e = .returned (.tuple #[.agg #[.bool full, .int .u32 line], .int .i64 0]) ∧ Below w.heap.size w w' := by
  go_enter Tryd.func39, Tryd.ntmps39
  go_wp2_with (go_at_call 87; refine (sized_no n _ h2 h4).mono ?_; rintro e w' ⟨rfl, rfl⟩)
  refine bodyPost_ret (v := .tuple #[.agg #[.bool full, .int .u32 line], .int .i64 0]) (by simp [results, Tryd.results39, go_sem]) rfl ⟨rfl, ?_⟩
  exact ((Below.refl _ _).alloc (Nat.le_refl _) _).alloc (by simp) _

/-- two boxes of a buffer, laid by the call: the first two blocks behind w's -/
def Two (w : World) (A B : Array Value) (W : World) : Prop := Below w.heap.size w W ∧ Blk W w.heap.size 74 A ∧ Blk W (w.heap.size + 1) 74 B

section
variable {w W w1 : World} {A B : Array Value}
theorem Two.start (w : World) (A B : Array Value) : Two w A B ((w.alloc (.cells A 74)).alloc (.cells B 74)) := by
  refine ⟨((Below.refl _ _).alloc (Nat.le_refl _) _).alloc (by simp) _, (Blk.new w _ A).alloc _, ?_⟩
  have h := Blk.new (w.alloc (.cells A 74)) 74 B
  simpa using h
theorem Two.drew (h : Two w A B W) : Two w A B W.drew := ⟨h.1.drew, h.2.1, h.2.2⟩
theorem Two.later (h : Two w A B W) (hb : Below W.heap.size W w1) : Two w A B w1 :=
  ⟨h.1.trans (hb.mono h.1.size), h.2.1.below hb h.2.1.lt, h.2.2.below hb h.2.2.lt⟩
theorem Two.start_later {w w1 : World} {A B : Array Value} (hb : Below ((w.alloc (.cells A 74)).alloc (.cells B 74)).drew.heap.size ((w.alloc (.cells A 74)).alloc (.cells B 74)).drew w1) : Two w A B w1 :=
  (Two.start w A B).drew.later hb
theorem Two.put {a b x y : Value} (h : Two w #[a, b] B W) : Two w #[x, y] B ((W.setCell ⟨w.heap.size, 0, none⟩ x).setCell ⟨w.heap.size, 1, none⟩ y) :=
  ⟨(h.1.setCell (by simp) _).setCell (by simp) _, (h.2.1.set_ 0 x).set_ 1 y, (h.2.2.far (by simp) _).far (by simp) _⟩
theorem Two.put2 {a b x y : Value} (h : Two w A #[a, b] W) : Two w A #[x, y] ((W.setCell ⟨w.heap.size + 1, 0, none⟩ x).setCell ⟨w.heap.size + 1, 1, none⟩ y) :=
  ⟨(h.1.setCell (by simp) _).setCell (by simp) _, (h.2.1.far (by simp) _).far (by simp) _, (h.2.2.set_ 0 x).set_ 1 y⟩
theorem Two.facts {a b c d : Value} (h : Two w #[a, b] #[c, d] W) :
    W.cell? ⟨w.heap.size, 0, none⟩ = some a ∧ W.cell? ⟨w.heap.size, 1, none⟩ = some b ∧ W.cell? ⟨w.heap.size + 1, 0, none⟩ = some c ∧ W.cell? ⟨w.heap.size + 1, 1, none⟩ = some d ∧
    W.frozen? ⟨w.heap.size, 0, none⟩ = false ∧ W.frozen? ⟨w.heap.size, 1, none⟩ = false ∧ W.frozen? ⟨w.heap.size + 1, 0, none⟩ = false ∧ W.frozen? ⟨w.heap.size + 1, 1, none⟩ = false :=
  ⟨h.2.1.cell 0, h.2.1.cell 1, h.2.2.cell 0, h.2.2.cell 1, h.2.1.frozen 0, h.2.1.frozen 1, h.2.2.frozen 0, h.2.2.frozen 1⟩
end

set_option maxHeartbeats 1000000 in
theorem fetch_two (full : Bool) (line at_ : Int) (w : World) (h0 : 0 ≤ at_) (h1 : at_ ≤ 4294967295) :
    Calls Tryd.prog 39 #[.agg #[.bool full, .int .u32 line], .int .u32 at_, .int .i64 2] w fun e w' =>
      e = .returned (.tuple #[.agg #[.bool true, .int .u32 (at_ / 16)], .int .i64 (Rm.missN full line (at_ / 16))]) ∧ Below w.heap.size w w' := by
  go_enter Tryd.func39, Tryd.ntmps39
  go_upto_region 3 with (go_at_call 87; refine (sized_yes 2 _ (.inl rfl)).mono ?_; rintro e w' ⟨rfl, rfl⟩)
  go_cut [8] (fun s8 wx => s8 = .int .i64 (Rm.missN full line (at_ / 16)) ∧ Two w #[.bool true, .int .u32 (at_ / 16)] #[.bool false, .int .u32 0] wx)
  case first =>
    go_region_with (first | (go_at_call 89; refine (line_any _ _ h0 h1).mono ?_; rintro e w' ⟨rfl, rfl⟩) | (go_at_call 88; refine (take_any _ _ _ _).mono ?_; rintro e w1 ⟨rfl, hb1⟩; have T := Two.start_later hb1; obtain ⟨c0, c1, _, _, f0, f1, _, _⟩ := T.facts))
    all_goals
      go_wp2_with fail
      go_meet
      exact ⟨rfl, T.put⟩
  case rest =>
    obtain ⟨rfl, T⟩ := hcut
    obtain ⟨c0, c1, c2, c3, f0, f1, f2, f3⟩ := T.facts
    go_wp2
    have T2 := T.put2 (x := .bool true) (y := .int .u32 (at_ / 16))
    obtain ⟨c0, c1, c2, c3, -, -, -, -⟩ := T2.facts
    refine bodyPost_ret (v := .tuple #[.agg #[.bool true, .int .u32 (at_ / 16)], .int .i64 (Rm.missN full line (at_ / 16))]) (by simp [results, Tryd.results39, go_sem, *]) rfl ⟨rfl, T2.1⟩

set_option maxHeartbeats 2000000 in
theorem fetch_four (full : Bool) (line at_ : Int) (w : World) (h0 : 0 ≤ at_) (h1 : at_ ≤ 4294967295) :
    Calls Tryd.prog 39 #[.agg #[.bool full, .int .u32 line], .int .u32 at_, .int .i64 4] w fun e w' =>
      e = .returned (.tuple #[.agg #[.bool true, .int .u32 ((at_ + 2) % 4294967296 / 16)], .int .i64 (Rm.missN full line (at_ / 16) + Rm.missN true (at_ / 16) ((at_ + 2) % 4294967296 / 16))]) ∧ Below w.heap.size w w' := by
  have m1 := Rm.missN_bd full line (at_ / 16)
  have m2 := Rm.missN_bd true (at_ / 16) ((at_ + 2) % 4294967296 / 16)
  go_enter Tryd.func39, Tryd.ntmps39
  go_upto_region 3 with (go_at_call 87; refine (sized_yes 4 _ (.inr rfl)).mono ?_; rintro e w' ⟨rfl, rfl⟩)
  go_cut [8] (fun s8 wx => s8 = .int .i64 (Rm.missN full line (at_ / 16)) ∧ Two w #[.bool true, .int .u32 (at_ / 16)] #[.bool false, .int .u32 0] wx)
  case first =>
    go_region_with (first | (go_at_call 89; refine (line_any _ _ h0 h1).mono ?_; rintro e w' ⟨rfl, rfl⟩) | (go_at_call 88; refine (take_any _ _ _ _).mono ?_; rintro e w1 ⟨rfl, hb1⟩; have T := Two.start_later hb1; obtain ⟨c0, c1, _, _, f0, f1, _, _⟩ := T.facts))
    all_goals
      go_wp2_with fail
      go_meet
      exact ⟨rfl, T.put⟩
  case rest =>
    obtain ⟨rfl, T⟩ := hcut
    obtain ⟨c0, c1, c2, c3, f0, f1, f2, f3⟩ := T.facts
    have hw : IntKind.u32.wrap (at_ + 2) = (at_ + 2) % 4294967296 := IntKind.wrap_u32' _
    go_upto_region 6 with fail
    go_cut [9] (fun s9 wx => s9 = .int .i64 (Rm.missN true (at_ / 16) ((at_ + 2) % 4294967296 / 16)) ∧ Two w #[.bool true, .int .u32 ((at_ + 2) % 4294967296 / 16)] #[.bool false, .int .u32 0] wx)
    case first =>
      go_region_with (first | (go_at_call 89; refine (line_any _ _ (by omega) (by omega)).mono ?_; rintro e w' ⟨rfl, rfl⟩) | (go_at_call 88; refine (take_any _ _ _ _).mono ?_; rintro e w1 ⟨rfl, hb1⟩; have T3 := T.drew.later hb1; clear c0 c1 c2 c3 f0 f1 f2 f3; obtain ⟨c0, c1, c2, c3, f0, f1, f2, f3⟩ := T3.facts))
      all_goals
        go_wp2_with fail
        go_meet
        exact ⟨rfl, T3.put⟩
    case rest =>
      clear c0 c1 c2 c3 f0 f1 f2 f3 T
      obtain ⟨rfl, T⟩ := hcut
      obtain ⟨c0, c1, c2, c3, f0, f1, f2, f3⟩ := T.facts
      go_wp2
      have T2 := T.put2 (x := .bool true) (y := .int .u32 ((at_ + 2) % 4294967296 / 16))
      obtain ⟨c0, c1, c2, c3, -, -, -, -⟩ := T2.facts
      refine bodyPost_ret (v := .tuple #[.agg #[.bool true, .int .u32 ((at_ + 2) % 4294967296 / 16)], .int .i64 (Rm.missN full line (at_ / 16) + Rm.missN true (at_ / 16) ((at_ + 2) % 4294967296 / 16))]) (by simp [results, Tryd.results39, go_sem, *]) rfl ⟨rfl, T2.1⟩

end Go.Proofs.YthpkejlmelednaaDoor

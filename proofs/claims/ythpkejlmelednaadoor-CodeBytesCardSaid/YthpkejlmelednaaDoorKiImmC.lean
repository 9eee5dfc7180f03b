/- The walk of the tries of a repeated byte: eight ways in which one is found, and none. -/
import Derived.Test.YthpkejlmelednaaDoorKiImmA
namespace Go.Proofs.YthpkejlmelednaaDoor
open Go.RowKit

/-- the result of the tries -/
def foundN (x : Int) : Int := (Rm.repI x).getD 0
theorem or_top8 (b k : Int) (h0 : 0 ≤ b) (h1 : b ≤ 255) (hk : k = 0 ∨ k = 256 ∨ k = 512 ∨ k = 768) : bits .or .i64 k b = k + b :=
  Rm.i64_join k b 8 (by omega) (by omega) h0 (by omega) (by rcases hk with rfl | rfl | rfl | rfl <;> decide) (by omega)
theorem idx0 : ∀ w, (Instr.index 156 (.agg #[.int .u32 1, .int .u32 65537, .int .u32 16777472, .int .u32 16843009]) (.int .i64 0)).run Tryd.prog w = .ok (.int .u32 1) w := fun _ => by kernel_rfl
theorem idx1 : ∀ w, (Instr.index 156 (.agg #[.int .u32 1, .int .u32 65537, .int .u32 16777472, .int .u32 16843009]) (.int .i64 1)).run Tryd.prog w = .ok (.int .u32 65537) w := fun _ => by kernel_rfl
theorem idx2 : ∀ w, (Instr.index 156 (.agg #[.int .u32 1, .int .u32 65537, .int .u32 16777472, .int .u32 16843009]) (.int .i64 2)).run Tryd.prog w = .ok (.int .u32 16777472) w := fun _ => by kernel_rfl
theorem idx3 : ∀ w, (Instr.index 156 (.agg #[.int .u32 1, .int .u32 65537, .int .u32 16777472, .int .u32 16843009]) (.int .i64 3)).run Tryd.prog w = .ok (.int .u32 16843009) w := fun _ => by kernel_rfl
theorem idx2a (p q : Value) : ∀ w, (Instr.index 159 (.agg #[p, q]) (.int .i64 0)).run Tryd.prog w = .ok p w := fun _ => by kernel_rfl
theorem idx2b (p q : Value) : ∀ w, (Instr.index 159 (.agg #[p, q]) (.int .i64 1)).run Tryd.prog w = .ok q w := fun _ => by kernel_rfl

set_option maxHeartbeats 4000000 in
theorem repeated_0 (x : Int) (w : World) (hF : Fac w) (hx0 : 0 ≤ x) (hx1 : x ≤ 4294967295)
    (h0 : x % 256 = x) :
    Calls Tryd.prog 139 #[.int .u32 x] w fun e w' => e = .returned (.tuple #[.int .i64 (x % 256), .bool true]) ∧ w = w' := by
  have b0 : (x % 256 == x) = true := by rw [beq_iff_eq]; exact h0
  have ho : bits .or .i64 0 (x % 256) = x % 256 := by have h := or_top8 (x % 256) 0 (by omega) (by omega) (by omega); omega
  clear h0
  have m1 : bits .and .u32 x 255 = x % 256 := Rm.u32_mask8 x hx0 hx1
  have m2 : bits .and .u32 (x / 256) 255 = x / 256 % 256 := Rm.u32_mask8 _ (by omega) (by omega)
  have i0 := idx0
  have i1 := idx1
  have i2 := idx2
  have i3 := idx3
  have j0 := idx2a (.int .u32 (x % 256)) (.int .u32 (x / 256 % 256))
  have j1 := idx2b (.int .u32 (x % 256)) (.int .u32 (x / 256 % 256))
  obtain ⟨t, fr, hg⟩ := hF
  have HG := Lib.hid hg
  clear hg
  go_enter Tryd.func139, Tryd.ntmps139
  go_wp2_with (refine wpList_load_row rfl 156 _ rfl 2 rfl t _ fr _ HG.out Tryd.underlying156 rfl (by kernel_rfl) ?_)
  refine wp_loop_rounds 5 ?_
  rw [rounds_succ]; go_wp2; refine wp_loop_rounds 3 ?_
  iterate 1 (rw [rounds_succ]; go_wp2)
  go_ret2
  exact ⟨rfl, rfl⟩

set_option maxHeartbeats 4000000 in
theorem repeated_1 (x : Int) (w : World) (hF : Fac w) (hx0 : 0 ≤ x) (hx1 : x ≤ 4294967295)
    (h0 : ¬ x % 256 = x) (h1 : x / 256 % 256 = x) :
    Calls Tryd.prog 139 #[.int .u32 x] w fun e w' => e = .returned (.tuple #[.int .i64 (x / 256 % 256), .bool true]) ∧ w = w' := by
  have b0 : (x % 256 == x) = false := by rw [beq_eq_false_iff_ne]; exact h0
  have b1 : (x / 256 % 256 == x) = true := by rw [beq_iff_eq]; exact h1
  have ho : bits .or .i64 0 (x / 256 % 256) = x / 256 % 256 := by have h := or_top8 (x / 256 % 256) 0 (by omega) (by omega) (by omega); omega
  clear h0 h1
  have m1 : bits .and .u32 x 255 = x % 256 := Rm.u32_mask8 x hx0 hx1
  have m2 : bits .and .u32 (x / 256) 255 = x / 256 % 256 := Rm.u32_mask8 _ (by omega) (by omega)
  have i0 := idx0
  have i1 := idx1
  have i2 := idx2
  have i3 := idx3
  have j0 := idx2a (.int .u32 (x % 256)) (.int .u32 (x / 256 % 256))
  have j1 := idx2b (.int .u32 (x % 256)) (.int .u32 (x / 256 % 256))
  obtain ⟨t, fr, hg⟩ := hF
  have HG := Lib.hid hg
  clear hg
  go_enter Tryd.func139, Tryd.ntmps139
  go_wp2_with (refine wpList_load_row rfl 156 _ rfl 2 rfl t _ fr _ HG.out Tryd.underlying156 rfl (by kernel_rfl) ?_)
  refine wp_loop_rounds 5 ?_
  rw [rounds_succ]; go_wp2; refine wp_loop_rounds 3 ?_
  iterate 2 (rw [rounds_succ]; go_wp2)
  go_ret2
  exact ⟨rfl, rfl⟩

set_option maxHeartbeats 4000000 in
theorem repeated_2 (x : Int) (w : World) (hF : Fac w) (hx0 : 0 ≤ x) (hx1 : x ≤ 4294967295)
    (h0 : ¬ x % 256 = x) (h1 : ¬ x / 256 % 256 = x) (h2 : x % 256 * 65537 = x) :
    Calls Tryd.prog 139 #[.int .u32 x] w fun e w' => e = .returned (.tuple #[.int .i64 (256 + x % 256), .bool true]) ∧ w = w' := by
  have b0 : (x % 256 == x) = false := by rw [beq_eq_false_iff_ne]; exact h0
  have b1 : (x / 256 % 256 == x) = false := by rw [beq_eq_false_iff_ne]; exact h1
  have b2 : (x % 256 * 65537 == x) = true := by rw [beq_iff_eq]; exact h2
  have bz : (x % 256 != 0) = true := by rw [bne_iff_ne]; omega
  have ho : bits .or .i64 256 (x % 256) = 256 + x % 256 := or_top8 _ _ (by omega) (by omega) (by omega)
  clear h0 h1 h2
  have m1 : bits .and .u32 x 255 = x % 256 := Rm.u32_mask8 x hx0 hx1
  have m2 : bits .and .u32 (x / 256) 255 = x / 256 % 256 := Rm.u32_mask8 _ (by omega) (by omega)
  have i0 := idx0
  have i1 := idx1
  have i2 := idx2
  have i3 := idx3
  have j0 := idx2a (.int .u32 (x % 256)) (.int .u32 (x / 256 % 256))
  have j1 := idx2b (.int .u32 (x % 256)) (.int .u32 (x / 256 % 256))
  obtain ⟨t, fr, hg⟩ := hF
  have HG := Lib.hid hg
  clear hg
  go_enter Tryd.func139, Tryd.ntmps139
  go_wp2_with (refine wpList_load_row rfl 156 _ rfl 2 rfl t _ fr _ HG.out Tryd.underlying156 rfl (by kernel_rfl) ?_)
  refine wp_loop_rounds 5 ?_
  rw [rounds_succ]; go_wp2; refine wp_loop_rounds 3 ?_
  iterate 3 (rw [rounds_succ]; go_wp2)
  rw [rounds_succ]; go_wp2; refine wp_loop_rounds 3 ?_
  iterate 1 (rw [rounds_succ]; go_wp2)
  go_ret2
  exact ⟨rfl, rfl⟩

set_option maxHeartbeats 4000000 in
theorem repeated_3 (x : Int) (w : World) (hF : Fac w) (hx0 : 0 ≤ x) (hx1 : x ≤ 4294967295)
    (h0 : ¬ x % 256 = x) (h1 : ¬ x / 256 % 256 = x) (h2 : ¬ x % 256 * 65537 = x) (h3 : x / 256 % 256 * 65537 = x) :
    Calls Tryd.prog 139 #[.int .u32 x] w fun e w' => e = .returned (.tuple #[.int .i64 (256 + x / 256 % 256), .bool true]) ∧ w = w' := by
  have b0 : (x % 256 == x) = false := by rw [beq_eq_false_iff_ne]; exact h0
  have b1 : (x / 256 % 256 == x) = false := by rw [beq_eq_false_iff_ne]; exact h1
  have b2 : (x % 256 * 65537 == x) = false := by rw [beq_eq_false_iff_ne]; exact h2
  have b3 : (x / 256 % 256 * 65537 == x) = true := by rw [beq_iff_eq]; exact h3
  have bz : (x / 256 % 256 != 0) = true := by rw [bne_iff_ne]; omega
  have ho : bits .or .i64 256 (x / 256 % 256) = 256 + x / 256 % 256 := or_top8 _ _ (by omega) (by omega) (by omega)
  clear h0 h1 h2 h3
  have m1 : bits .and .u32 x 255 = x % 256 := Rm.u32_mask8 x hx0 hx1
  have m2 : bits .and .u32 (x / 256) 255 = x / 256 % 256 := Rm.u32_mask8 _ (by omega) (by omega)
  have i0 := idx0
  have i1 := idx1
  have i2 := idx2
  have i3 := idx3
  have j0 := idx2a (.int .u32 (x % 256)) (.int .u32 (x / 256 % 256))
  have j1 := idx2b (.int .u32 (x % 256)) (.int .u32 (x / 256 % 256))
  obtain ⟨t, fr, hg⟩ := hF
  have HG := Lib.hid hg
  clear hg
  go_enter Tryd.func139, Tryd.ntmps139
  go_wp2_with (refine wpList_load_row rfl 156 _ rfl 2 rfl t _ fr _ HG.out Tryd.underlying156 rfl (by kernel_rfl) ?_)
  refine wp_loop_rounds 5 ?_
  rw [rounds_succ]; go_wp2; refine wp_loop_rounds 3 ?_
  iterate 3 (rw [rounds_succ]; go_wp2)
  rw [rounds_succ]; go_wp2; refine wp_loop_rounds 3 ?_
  iterate 2 (rw [rounds_succ]; go_wp2)
  go_ret2
  exact ⟨rfl, rfl⟩

set_option maxHeartbeats 4000000 in
theorem repeated_4 (x : Int) (w : World) (hF : Fac w) (hx0 : 0 ≤ x) (hx1 : x ≤ 4294967295)
    (h0 : ¬ x % 256 = x) (h1 : ¬ x / 256 % 256 = x) (h2 : ¬ x % 256 * 65537 = x) (h3 : ¬ x / 256 % 256 * 65537 = x) (h4 : x % 256 * 16777472 = x) :
    Calls Tryd.prog 139 #[.int .u32 x] w fun e w' => e = .returned (.tuple #[.int .i64 (512 + x % 256), .bool true]) ∧ w = w' := by
  have b0 : (x % 256 == x) = false := by rw [beq_eq_false_iff_ne]; exact h0
  have b1 : (x / 256 % 256 == x) = false := by rw [beq_eq_false_iff_ne]; exact h1
  have b2 : (x % 256 * 65537 == x) = false := by rw [beq_eq_false_iff_ne]; exact h2
  have b3 : (x / 256 % 256 * 65537 == x) = false := by rw [beq_eq_false_iff_ne]; exact h3
  have b4 : (x % 256 * 16777472 == x) = true := by rw [beq_iff_eq]; exact h4
  have bz : (x % 256 != 0) = true := by rw [bne_iff_ne]; omega
  have ho : bits .or .i64 512 (x % 256) = 512 + x % 256 := or_top8 _ _ (by omega) (by omega) (by omega)
  clear h0 h1 h2 h3 h4
  have m1 : bits .and .u32 x 255 = x % 256 := Rm.u32_mask8 x hx0 hx1
  have m2 : bits .and .u32 (x / 256) 255 = x / 256 % 256 := Rm.u32_mask8 _ (by omega) (by omega)
  have i0 := idx0
  have i1 := idx1
  have i2 := idx2
  have i3 := idx3
  have j0 := idx2a (.int .u32 (x % 256)) (.int .u32 (x / 256 % 256))
  have j1 := idx2b (.int .u32 (x % 256)) (.int .u32 (x / 256 % 256))
  obtain ⟨t, fr, hg⟩ := hF
  have HG := Lib.hid hg
  clear hg
  go_enter Tryd.func139, Tryd.ntmps139
  go_wp2_with (refine wpList_load_row rfl 156 _ rfl 2 rfl t _ fr _ HG.out Tryd.underlying156 rfl (by kernel_rfl) ?_)
  refine wp_loop_rounds 5 ?_
  rw [rounds_succ]; go_wp2; refine wp_loop_rounds 3 ?_
  iterate 3 (rw [rounds_succ]; go_wp2)
  rw [rounds_succ]; go_wp2; refine wp_loop_rounds 3 ?_
  iterate 3 (rw [rounds_succ]; go_wp2)
  rw [rounds_succ]; go_wp2; refine wp_loop_rounds 3 ?_
  iterate 1 (rw [rounds_succ]; go_wp2)
  go_ret2
  exact ⟨rfl, rfl⟩

set_option maxHeartbeats 4000000 in
theorem repeated_5 (x : Int) (w : World) (hF : Fac w) (hx0 : 0 ≤ x) (hx1 : x ≤ 4294967295)
    (h0 : ¬ x % 256 = x) (h1 : ¬ x / 256 % 256 = x) (h2 : ¬ x % 256 * 65537 = x) (h3 : ¬ x / 256 % 256 * 65537 = x) (h4 : ¬ x % 256 * 16777472 = x) (h5 : x / 256 % 256 * 16777472 = x) :
    Calls Tryd.prog 139 #[.int .u32 x] w fun e w' => e = .returned (.tuple #[.int .i64 (512 + x / 256 % 256), .bool true]) ∧ w = w' := by
  have b0 : (x % 256 == x) = false := by rw [beq_eq_false_iff_ne]; exact h0
  have b1 : (x / 256 % 256 == x) = false := by rw [beq_eq_false_iff_ne]; exact h1
  have b2 : (x % 256 * 65537 == x) = false := by rw [beq_eq_false_iff_ne]; exact h2
  have b3 : (x / 256 % 256 * 65537 == x) = false := by rw [beq_eq_false_iff_ne]; exact h3
  have b4 : (x % 256 * 16777472 == x) = false := by rw [beq_eq_false_iff_ne]; exact h4
  have b5 : (x / 256 % 256 * 16777472 == x) = true := by rw [beq_iff_eq]; exact h5
  have bz : (x / 256 % 256 != 0) = true := by rw [bne_iff_ne]; omega
  have ho : bits .or .i64 512 (x / 256 % 256) = 512 + x / 256 % 256 := or_top8 _ _ (by omega) (by omega) (by omega)
  clear h0 h1 h2 h3 h4 h5
  have m1 : bits .and .u32 x 255 = x % 256 := Rm.u32_mask8 x hx0 hx1
  have m2 : bits .and .u32 (x / 256) 255 = x / 256 % 256 := Rm.u32_mask8 _ (by omega) (by omega)
  have i0 := idx0
  have i1 := idx1
  have i2 := idx2
  have i3 := idx3
  have j0 := idx2a (.int .u32 (x % 256)) (.int .u32 (x / 256 % 256))
  have j1 := idx2b (.int .u32 (x % 256)) (.int .u32 (x / 256 % 256))
  obtain ⟨t, fr, hg⟩ := hF
  have HG := Lib.hid hg
  clear hg
  go_enter Tryd.func139, Tryd.ntmps139
  go_wp2_with (refine wpList_load_row rfl 156 _ rfl 2 rfl t _ fr _ HG.out Tryd.underlying156 rfl (by kernel_rfl) ?_)
  refine wp_loop_rounds 5 ?_
  rw [rounds_succ]; go_wp2; refine wp_loop_rounds 3 ?_
  iterate 3 (rw [rounds_succ]; go_wp2)
  rw [rounds_succ]; go_wp2; refine wp_loop_rounds 3 ?_
  iterate 3 (rw [rounds_succ]; go_wp2)
  rw [rounds_succ]; go_wp2; refine wp_loop_rounds 3 ?_
  iterate 2 (rw [rounds_succ]; go_wp2)
  go_ret2
  exact ⟨rfl, rfl⟩

set_option maxHeartbeats 4000000 in
theorem repeated_6 (x : Int) (w : World) (hF : Fac w) (hx0 : 0 ≤ x) (hx1 : x ≤ 4294967295)
    (h0 : ¬ x % 256 = x) (h1 : ¬ x / 256 % 256 = x) (h2 : ¬ x % 256 * 65537 = x) (h3 : ¬ x / 256 % 256 * 65537 = x) (h4 : ¬ x % 256 * 16777472 = x) (h5 : ¬ x / 256 % 256 * 16777472 = x) (h6 : x % 256 * 16843009 = x) :
    Calls Tryd.prog 139 #[.int .u32 x] w fun e w' => e = .returned (.tuple #[.int .i64 (768 + x % 256), .bool true]) ∧ w = w' := by
  have b0 : (x % 256 == x) = false := by rw [beq_eq_false_iff_ne]; exact h0
  have b1 : (x / 256 % 256 == x) = false := by rw [beq_eq_false_iff_ne]; exact h1
  have b2 : (x % 256 * 65537 == x) = false := by rw [beq_eq_false_iff_ne]; exact h2
  have b3 : (x / 256 % 256 * 65537 == x) = false := by rw [beq_eq_false_iff_ne]; exact h3
  have b4 : (x % 256 * 16777472 == x) = false := by rw [beq_eq_false_iff_ne]; exact h4
  have b5 : (x / 256 % 256 * 16777472 == x) = false := by rw [beq_eq_false_iff_ne]; exact h5
  have b6 : (x % 256 * 16843009 == x) = true := by rw [beq_iff_eq]; exact h6
  have bz : (x % 256 != 0) = true := by rw [bne_iff_ne]; omega
  have ho : bits .or .i64 768 (x % 256) = 768 + x % 256 := or_top8 _ _ (by omega) (by omega) (by omega)
  clear h0 h1 h2 h3 h4 h5 h6
  have m1 : bits .and .u32 x 255 = x % 256 := Rm.u32_mask8 x hx0 hx1
  have m2 : bits .and .u32 (x / 256) 255 = x / 256 % 256 := Rm.u32_mask8 _ (by omega) (by omega)
  have i0 := idx0
  have i1 := idx1
  have i2 := idx2
  have i3 := idx3
  have j0 := idx2a (.int .u32 (x % 256)) (.int .u32 (x / 256 % 256))
  have j1 := idx2b (.int .u32 (x % 256)) (.int .u32 (x / 256 % 256))
  obtain ⟨t, fr, hg⟩ := hF
  have HG := Lib.hid hg
  clear hg
  go_enter Tryd.func139, Tryd.ntmps139
  go_wp2_with (refine wpList_load_row rfl 156 _ rfl 2 rfl t _ fr _ HG.out Tryd.underlying156 rfl (by kernel_rfl) ?_)
  refine wp_loop_rounds 5 ?_
  rw [rounds_succ]; go_wp2; refine wp_loop_rounds 3 ?_
  iterate 3 (rw [rounds_succ]; go_wp2)
  rw [rounds_succ]; go_wp2; refine wp_loop_rounds 3 ?_
  iterate 3 (rw [rounds_succ]; go_wp2)
  rw [rounds_succ]; go_wp2; refine wp_loop_rounds 3 ?_
  iterate 3 (rw [rounds_succ]; go_wp2)
  rw [rounds_succ]; go_wp2; refine wp_loop_rounds 3 ?_
  iterate 1 (rw [rounds_succ]; go_wp2)
  go_ret2
  exact ⟨rfl, rfl⟩

set_option maxHeartbeats 4000000 in
theorem repeated_7 (x : Int) (w : World) (hF : Fac w) (hx0 : 0 ≤ x) (hx1 : x ≤ 4294967295)
    (h0 : ¬ x % 256 = x) (h1 : ¬ x / 256 % 256 = x) (h2 : ¬ x % 256 * 65537 = x) (h3 : ¬ x / 256 % 256 * 65537 = x) (h4 : ¬ x % 256 * 16777472 = x) (h5 : ¬ x / 256 % 256 * 16777472 = x) (h6 : ¬ x % 256 * 16843009 = x) (h7 : x / 256 % 256 * 16843009 = x) :
    Calls Tryd.prog 139 #[.int .u32 x] w fun e w' => e = .returned (.tuple #[.int .i64 (768 + x / 256 % 256), .bool true]) ∧ w = w' := by
  have b0 : (x % 256 == x) = false := by rw [beq_eq_false_iff_ne]; exact h0
  have b1 : (x / 256 % 256 == x) = false := by rw [beq_eq_false_iff_ne]; exact h1
  have b2 : (x % 256 * 65537 == x) = false := by rw [beq_eq_false_iff_ne]; exact h2
  have b3 : (x / 256 % 256 * 65537 == x) = false := by rw [beq_eq_false_iff_ne]; exact h3
  have b4 : (x % 256 * 16777472 == x) = false := by rw [beq_eq_false_iff_ne]; exact h4
  have b5 : (x / 256 % 256 * 16777472 == x) = false := by rw [beq_eq_false_iff_ne]; exact h5
  have b6 : (x % 256 * 16843009 == x) = false := by rw [beq_eq_false_iff_ne]; exact h6
  have b7 : (x / 256 % 256 * 16843009 == x) = true := by rw [beq_iff_eq]; exact h7
  have bz : (x / 256 % 256 != 0) = true := by rw [bne_iff_ne]; omega
  have ho : bits .or .i64 768 (x / 256 % 256) = 768 + x / 256 % 256 := or_top8 _ _ (by omega) (by omega) (by omega)
  clear h0 h1 h2 h3 h4 h5 h6 h7
  have m1 : bits .and .u32 x 255 = x % 256 := Rm.u32_mask8 x hx0 hx1
  have m2 : bits .and .u32 (x / 256) 255 = x / 256 % 256 := Rm.u32_mask8 _ (by omega) (by omega)
  have i0 := idx0
  have i1 := idx1
  have i2 := idx2
  have i3 := idx3
  have j0 := idx2a (.int .u32 (x % 256)) (.int .u32 (x / 256 % 256))
  have j1 := idx2b (.int .u32 (x % 256)) (.int .u32 (x / 256 % 256))
  obtain ⟨t, fr, hg⟩ := hF
  have HG := Lib.hid hg
  clear hg
  go_enter Tryd.func139, Tryd.ntmps139
  go_wp2_with (refine wpList_load_row rfl 156 _ rfl 2 rfl t _ fr _ HG.out Tryd.underlying156 rfl (by kernel_rfl) ?_)
  refine wp_loop_rounds 5 ?_
  rw [rounds_succ]; go_wp2; refine wp_loop_rounds 3 ?_
  iterate 3 (rw [rounds_succ]; go_wp2)
  rw [rounds_succ]; go_wp2; refine wp_loop_rounds 3 ?_
  iterate 3 (rw [rounds_succ]; go_wp2)
  rw [rounds_succ]; go_wp2; refine wp_loop_rounds 3 ?_
  iterate 3 (rw [rounds_succ]; go_wp2)
  rw [rounds_succ]; go_wp2; refine wp_loop_rounds 3 ?_
  iterate 2 (rw [rounds_succ]; go_wp2)
  go_ret2
  exact ⟨rfl, rfl⟩

set_option maxHeartbeats 4000000 in
theorem repeated_none (x : Int) (w : World) (hF : Fac w) (hx0 : 0 ≤ x) (hx1 : x ≤ 4294967295)
    (h0 : ¬ x % 256 = x) (h1 : ¬ x / 256 % 256 = x) (h2 : ¬ x % 256 * 65537 = x) (h3 : ¬ x / 256 % 256 * 65537 = x) (h4 : ¬ x % 256 * 16777472 = x) (h5 : ¬ x / 256 % 256 * 16777472 = x) (h6 : ¬ x % 256 * 16843009 = x) (h7 : ¬ x / 256 % 256 * 16843009 = x) :
    Calls Tryd.prog 139 #[.int .u32 x] w fun e w' => e = .returned (.tuple #[.int .i64 0, .bool false]) ∧ w = w' := by
  have b0 : (x % 256 == x) = false := by rw [beq_eq_false_iff_ne]; exact h0
  have b1 : (x / 256 % 256 == x) = false := by rw [beq_eq_false_iff_ne]; exact h1
  have b2 : (x % 256 * 65537 == x) = false := by rw [beq_eq_false_iff_ne]; exact h2
  have b3 : (x / 256 % 256 * 65537 == x) = false := by rw [beq_eq_false_iff_ne]; exact h3
  have b4 : (x % 256 * 16777472 == x) = false := by rw [beq_eq_false_iff_ne]; exact h4
  have b5 : (x / 256 % 256 * 16777472 == x) = false := by rw [beq_eq_false_iff_ne]; exact h5
  have b6 : (x % 256 * 16843009 == x) = false := by rw [beq_eq_false_iff_ne]; exact h6
  have b7 : (x / 256 % 256 * 16843009 == x) = false := by rw [beq_eq_false_iff_ne]; exact h7
  clear h0 h1 h2 h3 h4 h5 h6 h7
  have m1 : bits .and .u32 x 255 = x % 256 := Rm.u32_mask8 x hx0 hx1
  have m2 : bits .and .u32 (x / 256) 255 = x / 256 % 256 := Rm.u32_mask8 _ (by omega) (by omega)
  have i0 := idx0
  have i1 := idx1
  have i2 := idx2
  have i3 := idx3
  have j0 := idx2a (.int .u32 (x % 256)) (.int .u32 (x / 256 % 256))
  have j1 := idx2b (.int .u32 (x % 256)) (.int .u32 (x / 256 % 256))
  obtain ⟨t, fr, hg⟩ := hF
  have HG := Lib.hid hg
  clear hg
  go_enter Tryd.func139, Tryd.ntmps139
  go_wp2_with (refine wpList_load_row rfl 156 _ rfl 2 rfl t _ fr _ HG.out Tryd.underlying156 rfl (by kernel_rfl) ?_)
  refine wp_loop_rounds 5 ?_
  rw [rounds_succ]; go_wp2; refine wp_loop_rounds 3 ?_
  iterate 3 (rw [rounds_succ]; go_wp2)
  rw [rounds_succ]; go_wp2; refine wp_loop_rounds 3 ?_
  iterate 3 (rw [rounds_succ]; go_wp2)
  rw [rounds_succ]; go_wp2; refine wp_loop_rounds 3 ?_
  iterate 3 (rw [rounds_succ]; go_wp2)
  rw [rounds_succ]; go_wp2; refine wp_loop_rounds 3 ?_
  iterate 3 (rw [rounds_succ]; go_wp2)
  rw [rounds_succ]; go_wp2
  go_ret2
  exact ⟨rfl, rfl⟩

theorem repeated_any (x : Int) (w : World) (hF : Fac w) (hx0 : 0 ≤ x) (hx1 : x ≤ 4294967295) :
    Calls Tryd.prog 139 #[.int .u32 x] w fun e w' => e = .returned (.tuple #[.int .i64 (foundN x), .bool (Rm.repI x).isSome]) ∧ w = w' := by
  unfold foundN Rm.repI
  by_cases h0 : x % 256 = x
  · simp only [ if_pos h0]; exact repeated_0 x w hF hx0 hx1 h0
  by_cases h1 : x / 256 % 256 = x
  · simp only [if_neg h0,  if_pos h1]; exact repeated_1 x w hF hx0 hx1 h0 h1
  by_cases h2 : x % 256 * 65537 = x
  · simp only [if_neg h0, if_neg h1,  if_pos h2]; exact repeated_2 x w hF hx0 hx1 h0 h1 h2
  by_cases h3 : x / 256 % 256 * 65537 = x
  · simp only [if_neg h0, if_neg h1, if_neg h2,  if_pos h3]; exact repeated_3 x w hF hx0 hx1 h0 h1 h2 h3
  by_cases h4 : x % 256 * 16777472 = x
  · simp only [if_neg h0, if_neg h1, if_neg h2, if_neg h3,  if_pos h4]; exact repeated_4 x w hF hx0 hx1 h0 h1 h2 h3 h4
  by_cases h5 : x / 256 % 256 * 16777472 = x
  · simp only [if_neg h0, if_neg h1, if_neg h2, if_neg h3, if_neg h4,  if_pos h5]; exact repeated_5 x w hF hx0 hx1 h0 h1 h2 h3 h4 h5
  by_cases h6 : x % 256 * 16843009 = x
  · simp only [if_neg h0, if_neg h1, if_neg h2, if_neg h3, if_neg h4, if_neg h5,  if_pos h6]; exact repeated_6 x w hF hx0 hx1 h0 h1 h2 h3 h4 h5 h6
  by_cases h7 : x / 256 % 256 * 16843009 = x
  · simp only [if_neg h0, if_neg h1, if_neg h2, if_neg h3, if_neg h4, if_neg h5, if_neg h6,  if_pos h7]; exact repeated_7 x w hF hx0 hx1 h0 h1 h2 h3 h4 h5 h6 h7
  simp only [if_neg h0, if_neg h1, if_neg h2, if_neg h3, if_neg h4, if_neg h5, if_neg h6, if_neg h7]
  exact repeated_none x w hF hx0 hx1 h0 h1 h2 h3 h4 h5 h6 h7

end Go.Proofs.YthpkejlmelednaaDoor

/- Walks of the words' functions without a loop: a sum of 32 bits with a carry, its flags, the document's sum, a shift by one bit, a word's length, products, pairs. -/
import Derived.Test.YtnbngokbamifbaaGreatDoorChecked
import Derived.Test.YtnbngokbamifbaaGreatDoorNiNums
import Derived.Test.YtnbngokbamifbaaGreatDoorNiLen32
import Derived.WalkKit
import Derived.WalkSpells
import Derived.Lib.Strings
import Derived.Lib.Slices
import Derived.Lib.Small
import Derived.Lib.Walk
import Derived.Lib.BitFns
import Derived.Lib.Hide
namespace Go.Proofs.YtnbngokbamifbaaGreatDoor
open Go.RowKit

theorem ret_2 {k l : IntKind} {a b c d : Int} (h : a = b) (g : c = d) : Ending.returned (.tuple #[.int k a, .int l c]) = .returned (.tuple #[.int k b, .int l d]) := by rw [h, g]
theorem ret_3 {k l m : IntKind} {a b c d p q : Int} (h : a = b) (g : c = d) (f : p = q) : Ending.returned (.tuple #[.int k a, .int l c, .int m p]) = .returned (.tuple #[.int k b, .int l d, .int m q]) := by rw [h, g, f]
theorem add32_any (x y c : Int) (w : World) (hx0 : 0 ≤ x) (hx1 : x ≤ 4294967295) (hy0 : 0 ≤ y) (hy1 : y ≤ 4294967295) (hc0 : 0 ≤ c) (hc1 : c ≤ 1) :
    Calls Tryz.prog 186 #[.int .u32 x, .int .u32 y, .int .u32 c] w fun e w' => e = .returned (.tuple #[.int .u32 ((x + y + c) % 4294967296), .int .u32 ((x + y + c) / 4294967296)]) ∧ w = w' := by
  go_enter Tryz.func186, Tryz.ntmps186
  go_wp2
  go_ret2
  exact ⟨ret_2 (by omega) (by omega), rfl⟩

theorem add_any (x y c : Int) (w : World) (hx0 : 0 ≤ x) (hx1 : x ≤ 4294967295) (hy0 : 0 ≤ y) (hy1 : y ≤ 4294967295) (hc0 : 0 ≤ c) :
    Calls Tryz.prog 145 #[.int .u32 x, .int .u32 y, .int .u32 c] w fun e w' => e = .returned (.tuple #[.int .u32 (Rm.addS x y c), .int .u32 (Rm.addC x y c), .int .u32 (Rm.addV x y c)]) ∧ w = w' := by
  have hv := Lib.hid (Rm.addV_is x y c hc0 hx0 hx1 hy0 hy1)
  have hs : 0 ≤ (x + y + min c 1) % 4294967296 ∧ (x + y + min c 1) % 4294967296 ≤ 4294967295 := by omega
  go_enter Tryz.func145, Tryz.ntmps145
  go_wp2_with fail
  refine (add32_any _ _ _ _ hx0 hx1 hy0 hy1 (by omega) (by omega)).mono ?_
  rintro e w' ⟨rfl, rfl⟩
  go_wp2
  go_ret3
  exact ⟨ret_3 rfl rfl hv.out, rfl⟩

theorem mul32_any (x y : Int) (w : World) (hx0 : 0 ≤ x) (hx1 : x ≤ 4294967295) (hy0 : 0 ≤ y) (hy1 : y ≤ 4294967295) :
    Calls Tryz.prog 185 #[.int .u32 x, .int .u32 y] w fun e w' => e = .returned (.tuple #[.int .u32 (x * y / 4294967296), .int .u32 (x * y % 4294967296)]) ∧ w = w' := by
  have hp := prod_bound x y hx0 hx1 hy0 hy1
  go_enter Tryz.func185, Tryz.ntmps185
  go_wp2
  go_ret2
  exact ⟨ret_2 (by omega) (by omega), rfl⟩

theorem wide_any (x y : Int) (w : World) (hx0 : 0 ≤ x) (hx1 : x ≤ 4294967295) (hy0 : 0 ≤ y) (hy1 : y ≤ 4294967295) :
    Calls Tryz.prog 142 #[.int .u32 x, .int .u32 y] w fun e w' => e = .returned (.tuple #[.int .u32 (x * y % 4294967296), .int .u32 (x * y / 4294967296)]) ∧ w = w' := by
  go_enter Tryz.func142, Tryz.ntmps142
  go_wp2_with (go_at_call 185; refine (mul32_any _ _ _ hx0 hx1 hy0 hy1).mono ?_; rintro e w' ⟨rfl, rfl⟩)
  go_ret2
  exact ⟨rfl, rfl⟩

theorem len_any (x : Int) (w : World) (h0 : 0 ≤ x) (h1 : x ≤ 4294967295) :
    Calls Tryz.prog 156 #[.int .u32 x] w fun e w' => e = .returned (.int .i64 (Lib.bitLen x.toNat)) ∧ w = w' := by
  go_enter Tryz.func156, Tryz.ntmps156
  go_wp2_with (go_at_call 187; refine (len32_any _ _ h0 h1).mono ?_; rintro e w' ⟨rfl, rfl⟩)
  go_ret
  exact ⟨rfl, rfl⟩

end Go.Proofs.YtnbngokbamifbaaGreatDoor

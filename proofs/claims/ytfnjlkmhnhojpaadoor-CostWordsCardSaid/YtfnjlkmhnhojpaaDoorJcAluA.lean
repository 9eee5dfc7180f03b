/- Walks of the words' functions without a loop: a sum of 32 bits with a carry, its flags, the document's sum, a shift by one bit, a word's length, products, pairs. -/
import Derived.Test.YtfnjlkmhnhojpaaDoorChecked
import Derived.Test.YtfnjlkmhnhojpaaDoorJcNums
import Derived.Test.YtfnjlkmhnhojpaaDoorJcLen32
import Derived.WalkKit
import Derived.WalkSpells
import Derived.Lib.Strings
import Derived.Lib.Slices
import Derived.Lib.Small
import Derived.Lib.Walk
import Derived.Lib.BitFns
import Derived.Lib.Hide
namespace Go.Proofs.YtfnjlkmhnhojpaaDoor
open Go.RowKit

theorem ret_i {k : IntKind} {a b : Int} (h : a = b) : Ending.returned (.int k a) = .returned (.int k b) := by rw [h]
theorem ret_2 {k l : IntKind} {a b c d : Int} (h : a = b) (g : c = d) : Ending.returned (.tuple #[.int k a, .int l c]) = .returned (.tuple #[.int k b, .int l d]) := by rw [h, g]
theorem ret_3 {k l m : IntKind} {a b c d p q : Int} (h : a = b) (g : c = d) (f : p = q) : Ending.returned (.tuple #[.int k a, .int l c, .int m p]) = .returned (.tuple #[.int k b, .int l d, .int m q]) := by rw [h, g, f]
theorem ret_b {a b : Bool} (h : a = b) : Ending.returned (.bool a) = .returned (.bool b) := by rw [h]

theorem len_any (x : Int) (w : World) (h0 : 0 ≤ x) (h1 : x ≤ 4294967295) :
    Calls Tryd.prog 66 #[.int .u32 x] w fun e w' => e = .returned (.int .i64 (Lib.bitLen x.toNat)) ∧ w = w' := by
  go_enter Tryd.func66, Tryd.ntmps66
  go_wp2_with (go_at_call 57; refine (len32_any _ _ h0 h1).mono ?_; rintro e w' ⟨rfl, rfl⟩)
  go_ret
  exact ⟨rfl, rfl⟩

end Go.Proofs.YtfnjlkmhnhojpaaDoor

/- What this claim is proved with: no condition. -/
import Derived.Test.YtnbhdacpogplgaaGreatDoorChecked
import Derived.Test.YtnbhdacpogplgaaGreatDoorPvNums
import Derived.Test.YtnbhdacpogplgaaGreatDoorPvLen32
import Derived.WalkKit
import Derived.WalkSpells
import Derived.Lib.Strings
import Derived.Lib.Slices
import Derived.Lib.Small
import Derived.Lib.Walk
import Derived.Lib.BitFns
import Derived.Lib.Hide
set_option linter.unusedVariables false
set_option linter.unusedSimpArgs false
namespace Go.Proofs.YtnbhdacpogplgaaGreatDoor
open Go.RowKit
theorem ret_i {k:IntKind} {a b:Int} (h:a=b):Ending.returned (.int k a) = .returned (.int k b):=by rw[h]
theorem nd {k l:IntKind} {a b c d:Int} (h:a=b) (g:c=d):Ending.returned (.tuple #[.int k a,.int l c]) = .returned (.tuple #[.int k b,.int l d]):=by rw[h,g]
theorem Gr (x:Int) (w:World) (h0:0<=x) (h1:x<=4294967295) :
  Calls Tryz.prog 64 #[.int .u32 x] w fun e w'=>e = .returned (.int .i64 (Lib.bitLen x.toNat))/\w=w':=by
 go_enter Tryz.func64,Tryz.ntmps64
 go_wp2_with (go_at_call 109; refine (Iq _ _ h0 h1).mono ?_; rintro e w' ⟨rfl,rfl⟩)
 go_ret
 exact⟨rfl,rfl⟩
end Go.Proofs.YtnbhdacpogplgaaGreatDoor

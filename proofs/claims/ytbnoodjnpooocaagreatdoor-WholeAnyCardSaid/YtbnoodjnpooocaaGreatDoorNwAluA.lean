/- What this claim is proved with: no condition. -/
import Derived.Test.YtbnoodjnpooocaaGreatDoorChecked
import Derived.Test.YtbnoodjnpooocaaGreatDoorNwNums
import Derived.Test.YtbnoodjnpooocaaGreatDoorNwLen32
import Derived.WalkKit
import Derived.WalkSpells
import Derived.Lib.Strings
import Derived.Lib.Slices
import Derived.Lib.Small
import Derived.Lib.Walk
import Derived.Lib.BitFns
import Derived.Lib.Hide
set_option linter.unusedVariables false
set_option linter.unusedSimpArgs false
namespace Go.Proofs.YtbnoodjnpooocaaGreatDoor
open Go.RowKit
theorem iI {k l:IntKind} {a b c d:Int} (h:a=b) (g:c=d):Ending.returned (.tuple #[.int k a,.int l c]) = .returned (.tuple #[.int k b,.int l d]):=by rw[h,g]
theorem ret_3 {k l m:IntKind} {a b c d p q:Int} (h:a=b) (g:c=d) (f:p=q):Ending.returned (.tuple #[.int k a,.int l c,.int m p]) = .returned (.tuple #[.int k b,.int l d,.int m q]):=by rw[h,g,f]
theorem FD (x y c:Int) (w:World) (FB:0<=x) (Ff:x<=4294967295) (He:0<=y) (EX:y<=4294967295) (rZ:0<=c) (G6:c<=1) :
  Calls Tryz.prog 217 #[.int .u32 x,.int .u32 y,.int .u32 c] w fun e w'=>e = .returned (.tuple #[.int .u32 ((x+y+c) % 4294967296),.int .u32 ((x+y+c) / 4294967296)])/\w=w':=by
 go_enter Tryz.func217,Tryz.ntmps217
 go_wp2
 go_ret2
 exact⟨iI (by omega) (by omega),rfl⟩
theorem N7 (x y c:Int) (w:World) (FB:0<=x) (Ff:x<=4294967295) (He:0<=y) (EX:y<=4294967295) (rZ:0<=c) :
  Calls Tryz.prog 132 #[.int .u32 x,.int .u32 y,.int .u32 c] w fun e w'=>e = .returned (.tuple #[.int .u32 (Rm.ik x y c),.int .u32 (Rm.nk x y c),.int .u32 (Rm.pG x y c)])/\w=w':=by
 have hv:=Lib.hid (Rm.N5 x y c rZ FB Ff He EX)
 have hs:0<=(x+y+min c 1) % 4294967296/\(x+y+min c 1) % 4294967296<=4294967295:=by omega
 go_enter Tryz.func132,Tryz.ntmps132
 go_wp2_with fail
 refine (FD _ _ _ _ FB Ff He EX (by omega) (by omega)).mono ?_
 rintro e w' ⟨rfl,rfl⟩
 go_wp2
 go_ret3
 exact⟨ret_3 rfl rfl hv.out,rfl⟩
theorem FE (x y:Int) (w:World) (FB:0<=x) (Ff:x<=4294967295) (He:0<=y) (EX:y<=4294967295) :
  Calls Tryz.prog 216 #[.int .u32 x,.int .u32 y] w fun e w'=>e = .returned (.tuple #[.int .u32 (x*y / 4294967296),.int .u32 (x*y % 4294967296)])/\w=w':=by
 have hp:=prod_bound x y FB Ff He EX
 go_enter Tryz.func216,Tryz.ntmps216
 go_wp2
 go_ret2
 exact⟨iI (by omega) (by omega),rfl⟩
theorem J4 (x y:Int) (w:World) (FB:0<=x) (Ff:x<=4294967295) (He:0<=y) (EX:y<=4294967295) :
  Calls Tryz.prog 129 #[.int .u32 x,.int .u32 y] w fun e w'=>e = .returned (.tuple #[.int .u32 (x*y % 4294967296),.int .u32 (x*y / 4294967296)])/\w=w':=by
 go_enter Tryz.func129,Tryz.ntmps129
 go_wp2_with (go_at_call 216; refine (FE _ _ _ FB Ff He EX).mono ?_; rintro e w' ⟨rfl,rfl⟩)
 go_ret2
 exact⟨rfl,rfl⟩
theorem N8 (x:Int) (w:World) (h0:0<=x) (h1:x<=4294967295) :
  Calls Tryz.prog 144 #[.int .u32 x] w fun e w'=>e = .returned (.int .i64 (Lib.bitLen x.toNat))/\w=w':=by
 go_enter Tryz.func144,Tryz.ntmps144
 go_wp2_with (go_at_call 218; refine (v5 _ _ h0 h1).mono ?_; rintro e w' ⟨rfl,rfl⟩)
 go_ret
 exact⟨rfl,rfl⟩
end Go.Proofs.YtbnoodjnpooocaaGreatDoor

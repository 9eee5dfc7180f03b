/- What this claim is proved with: no condition. -/
import Derived.Test.YtlgkljpgagfndaaGreatDoorChecked
import Derived.Test.YtlgkljpgagfndaaGreatDoorNvNums
import Derived.Test.YtlgkljpgagfndaaGreatDoorNvLen32
import Derived.WalkKit
import Derived.WalkSpells
import Derived.Lib.Strings
import Derived.Lib.Slices
import Derived.Lib.Small
import Derived.Lib.Walk
import Derived.Lib.BitFns
import Derived.Lib.Hide
set_option linter.unusedVariables false
set_option linter.unusedSimpArgs false
namespace Go.Proofs.YtlgkljpgagfndaaGreatDoor
open Go.RowKit
theorem rb {k:IntKind} {a b:Int} (h:a=b):Ending.returned (.int k a) = .returned (.int k b):=by rw[h]
theorem eQ {k l:IntKind} {a b c d:Int} (h:a=b) (g:c=d):Ending.returned (.tuple #[.int k a,.int l c]) = .returned (.tuple #[.int k b,.int l d]):=by rw[h,g]
theorem Wh {k l m:IntKind} {a b c d p q:Int} (h:a=b) (g:c=d) (f:p=q):Ending.returned (.tuple #[.int k a,.int l c,.int m p]) = .returned (.tuple #[.int k b,.int l d,.int m q]):=by rw[h,g,f]
theorem B9 (x y c:Int) (w:World) (du:0<=x) (dF:x<=4294967295) (me:0<=y) (lT:y<=4294967295) (qu:0<=c) (hc1:c<=1) :
  Calls Tryz.prog 151 #[.int .u32 x,.int .u32 y,.int .u32 c] w fun e w'=>e = .returned (.tuple #[.int .u32 ((x+y+c) % 4294967296),.int .u32 ((x+y+c) / 4294967296)])/\w=w':=by
 go_enter Tryz.func151,Tryz.ntmps151
 go_wp2
 go_ret2
 exact⟨eQ (by omega) (by omega),rfl⟩
theorem Kg (x y c:Int) (w:World) (du:0<=x) (dF:x<=4294967295) (me:0<=y) (lT:y<=4294967295) (qu:0<=c) :
  Calls Tryz.prog 118 #[.int .u32 x,.int .u32 y,.int .u32 c] w fun e w'=>e = .returned (.tuple #[.int .u32 (Rm.fh x y c),.int .u32 (Rm.iR x y c),.int .u32 (Rm.mD x y c)])/\w=w':=by
 have hv:=Lib.hid (Rm.Ke x y c qu du dF me lT)
 have hs:0<=(x+y+min c 1) % 4294967296/\(x+y+min c 1) % 4294967296<=4294967295:=by omega
 go_enter Tryz.func118,Tryz.ntmps118
 go_wp2_with fail
 refine (B9 _ _ _ _ du dF me lT (by omega) (by omega)).mono ?_
 rintro e w' ⟨rfl,rfl⟩
 go_wp2
 go_ret3
 exact⟨Wh rfl rfl hv.out,rfl⟩
theorem B' (x y:Int) (w:World) (du:0<=x) (dF:x<=4294967295) (me:0<=y) (lT:y<=4294967295) :
  Calls Tryz.prog 150 #[.int .u32 x,.int .u32 y] w fun e w'=>e = .returned (.tuple #[.int .u32 (x*y / 4294967296),.int .u32 (x*y % 4294967296)])/\w=w':=by
 have hp:=prod_bound x y du dF me lT
 go_enter Tryz.func150,Tryz.ntmps150
 go_wp2
 go_ret2
 exact⟨eQ (by omega) (by omega),rfl⟩
theorem FO (x y:Int) (w:World) (du:0<=x) (dF:x<=4294967295) (me:0<=y) (lT:y<=4294967295) :
  Calls Tryz.prog 115 #[.int .u32 x,.int .u32 y] w fun e w'=>e = .returned (.tuple #[.int .u32 (x*y % 4294967296),.int .u32 (x*y / 4294967296)])/\w=w':=by
 go_enter Tryz.func115,Tryz.ntmps115
 go_wp2_with (go_at_call 150; refine (B' _ _ _ du dF me lT).mono ?_; rintro e w' ⟨rfl,rfl⟩)
 go_ret2
 exact⟨rfl,rfl⟩
theorem Kh (x:Int) (w:World) (h0:0<=x) (h1:x<=4294967295) :
  Calls Tryz.prog 129 #[.int .u32 x] w fun e w'=>e = .returned (.int .i64 (Lib.bitLen x.toNat))/\w=w':=by
 go_enter Tryz.func129,Tryz.ntmps129
 go_wp2_with (go_at_call 130; refine (tD _ _ h0 h1).mono ?_; rintro e w' ⟨rfl,rfl⟩)
 go_ret
 exact⟨rfl,rfl⟩
end Go.Proofs.YtlgkljpgagfndaaGreatDoor

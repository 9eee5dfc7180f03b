/- What this claim is proved with: no condition. -/
import Derived.Test.YtnbngokbamifbaaGreatDoorChecked
import Derived.Test.YtnbngokbamifbaaGreatDoorNrNums
import Derived.Test.YtnbngokbamifbaaGreatDoorNrLen32
import Derived.WalkKit
import Derived.WalkSpells
import Derived.Lib.Strings
import Derived.Lib.Slices
import Derived.Lib.Small
import Derived.Lib.Walk
import Derived.Lib.BitFns
import Derived.Lib.Hide
set_option linter.unusedVariables false
set_option linter.unusedSimpArgs false
namespace Go.Proofs.YtnbngokbamifbaaGreatDoor
open Go.RowKit
theorem qg {k:IntKind} {a b:Int} (h:a=b):Ending.returned (.int k a) = .returned (.int k b):=by rw[h]
theorem fE {k l:IntKind} {a b c d:Int} (h:a=b) (g:c=d):Ending.returned (.tuple #[.int k a,.int l c]) = .returned (.tuple #[.int k b,.int l d]):=by rw[h,g]
theorem Hm {k l m:IntKind} {a b c d p q:Int} (h:a=b) (g:c=d) (f:p=q):Ending.returned (.tuple #[.int k a,.int l c,.int m p]) = .returned (.tuple #[.int k b,.int l d,.int m q]):=by rw[h,g,f]
theorem D7 (x y c:Int) (w:World) (sD:0<=x) (qf:x<=4294967295) (Cj:0<=y) (At:y<=4294967295) (qW:0<=c) (P4:c<=1) :
  Calls Tryz.prog 186 #[.int .u32 x,.int .u32 y,.int .u32 c] w fun e w'=>e = .returned (.tuple #[.int .u32 ((x+y+c) % 4294967296),.int .u32 ((x+y+c) / 4294967296)])/\w=w':=by
 go_enter Tryz.func186,Tryz.ntmps186
 go_wp2
 go_ret2
 exact⟨fE (by omega) (by omega),rfl⟩
theorem sF (x:Int) (w:World) (sD:0<=x) (qf:x<=4294967295) :
  Calls Tryz.prog 213 #[.int .u32 x] w fun e w'=>e = .returned (.int .i64 (Rm.K3 x))/\w=w':=by
 by_cases h:x>=2147483648
 all_goals
  go_enter Tryz.func213,Tryz.ntmps213
  go_wp2
  go_ret
  exact⟨qg (by unfold Rm.K3; split<;>omega),rfl⟩
theorem K8 (x y c:Int) (w:World) (sD:0<=x) (qf:x<=4294967295) (Cj:0<=y) (At:y<=4294967295) (qW:0<=c) :
  Calls Tryz.prog 145 #[.int .u32 x,.int .u32 y,.int .u32 c] w fun e w'=>e = .returned (.tuple #[.int .u32 (Rm.eD x y c),.int .u32 (Rm.iB x y c),.int .u32 (Rm.jT x y c)])/\w=w':=by
 have hv:=Lib.hid (Rm.K6 x y c qW sD qf Cj At)
 have hs:0<=(x+y+min c 1) % 4294967296/\(x+y+min c 1) % 4294967296<=4294967295:=by omega
 go_enter Tryz.func145,Tryz.ntmps145
 go_wp2_with fail
 refine (D7 _ _ _ _ sD qf Cj At (by omega) (by omega)).mono ?_
 rintro e w' ⟨rfl,rfl⟩
 go_wp2
 go_ret3
 exact⟨Hm rfl rfl hv.out,rfl⟩
theorem AS (x y c:Int) (w:World) (sD:0<=x) (qf:x<=4294967295) (Cj:0<=y) (At:y<=4294967295) (qW:0<=c) :
  Calls Tryz.prog 212 #[.int .u32 x,.int .u32 y,.int .u32 c] w fun e w'=>e = .returned (.tuple #[.int .u32 (Rm.eD x y c),.int .u32 (Rm.iB x y c),.int .u32 (Rm.jT x y c)])/\w=w':=by
 have h1:=Rm.wc x sD qf
 have h2:=Rm.wc y Cj At
 by_cases hc:c=0
 ·subst hc
  have em:min (0:Int) 1=0:=by omega
  have Em:=Lib.hid em
  clear em
  have hs:0<=(x+y) % 4294967296/\(x+y) % 4294967296<=4294967295:=by omega
  have h3:=Rm.wc ((x+y) % 4294967296) hs.1 hs.2
  go_enter Tryz.func212,Tryz.ntmps212
  go_wp2_with (go_at_call 213; refine (sF _ _ (by omega) (by omega)).mono ?_; rintro e w' ⟨rfl,rfl⟩)
  all_goals
   go_ret3
   refine⟨?_,rfl⟩
   simp only[bne_iff_ne,bne_eq_false_iff_eq,ne_eq] at *
   refine Hm ?_ ?_ ?_<;>simp only[Rm.eD,Rm.iB,Rm.jT,Rm.lP,Em.out,Int.add_zero]<;>(try split)<;>omega
 ·have P4:¬ c < 1:=by omega
  have hs:0<=(x+y+1) % 4294967296/\(x+y+1) % 4294967296<=4294967295:=by omega
  have h3:=Rm.wc ((x+y+1) % 4294967296) hs.1 hs.2
  have em:min c 1=1:=by omega
  have Em:=Lib.hid em
  clear em
  go_enter Tryz.func212,Tryz.ntmps212
  go_wp2_with (go_at_call 213; refine (sF _ _ (by omega) (by omega)).mono ?_; rintro e w' ⟨rfl,rfl⟩)
  all_goals
   go_ret3
   refine⟨?_,rfl⟩
   simp only[bne_iff_ne,bne_eq_false_iff_eq,ne_eq] at *
   refine Hm ?_ ?_ ?_<;>simp only[Rm.eD,Rm.iB,Rm.jT,Rm.lP,Em.out]<;>(try split)<;>omega
theorem D8 (x y:Int) (w:World) (sD:0<=x) (qf:x<=4294967295) (Cj:0<=y) (At:y<=4294967295) :
  Calls Tryz.prog 185 #[.int .u32 x,.int .u32 y] w fun e w'=>e = .returned (.tuple #[.int .u32 (x*y / 4294967296),.int .u32 (x*y % 4294967296)])/\w=w':=by
 have hp:=prod_bound x y sD qf Cj At
 go_enter Tryz.func185,Tryz.ntmps185
 go_wp2
 go_ret2
 exact⟨fE (by omega) (by omega),rfl⟩
theorem Hn (x y:Int) (w:World) (sD:0<=x) (qf:x<=4294967295) (Cj:0<=y) (At:y<=4294967295) :
  Calls Tryz.prog 142 #[.int .u32 x,.int .u32 y] w fun e w'=>e = .returned (.tuple #[.int .u32 (x*y % 4294967296),.int .u32 (x*y / 4294967296)])/\w=w':=by
 go_enter Tryz.func142,Tryz.ntmps142
 go_wp2_with (go_at_call 185; refine (D8 _ _ _ sD qf Cj At).mono ?_; rintro e w' ⟨rfl,rfl⟩)
 go_ret2
 exact⟨rfl,rfl⟩
theorem K9 (x:Int) (w:World) (h0:0<=x) (h1:x<=4294967295) :
  Calls Tryz.prog 156 #[.int .u32 x] w fun e w'=>e = .returned (.int .i64 (Lib.bitLen x.toNat))/\w=w':=by
 go_enter Tryz.func156,Tryz.ntmps156
 go_wp2_with (go_at_call 187; refine (uF _ _ h0 h1).mono ?_; rintro e w' ⟨rfl,rfl⟩)
 go_ret
 exact⟨rfl,rfl⟩
end Go.Proofs.YtnbngokbamifbaaGreatDoor

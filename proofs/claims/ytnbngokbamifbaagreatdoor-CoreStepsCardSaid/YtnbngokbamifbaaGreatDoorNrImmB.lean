/- What this claim is proved with: no condition. -/
import Derived.Test.YtnbngokbamifbaaGreatDoorNrImmA
set_option linter.unusedVariables false
set_option linter.unusedSimpArgs false
namespace Go.Proofs.YtnbngokbamifbaaGreatDoor
open Go.RowKit
theorem D' (n c:Int) (w:World) (hF:OL w) (iP:-9223372036854775808<=n) (lx:n<=9223372036854775807) (qW:0<=c) :
  Calls Tryz.prog 182 #[.int .i64 n,.int .u32 c] w fun e w'=>e = .returned (.tuple #[.int .u32 (Rm.gq n c),.int .i64 (Rm.eG n)])/\w=w':=by
 have hb:=Rm.oK n
 by_cases he:Rm.eG n=0
 ·have hE:=Lib.hid he
  have hn:=Rm.AW n he
  by_cases h:n < 1024
  ·have hX:=Lib.hid (show Rm.gq n c=min c 1 by unfold Rm.gq; rw[if_pos he,if_pos h])
   clear he
   go_enter Tryz.func182,Tryz.ntmps182
   go_wp2_with fail
   refine (oL n _ hF iP lx).mono ?_
   rintro e w' ⟨rfl,rfl⟩
   rw[hE.out]
   go_wp2
   go_ret2
   exact⟨fE hX.out.symm hE.out.symm,rfl⟩
  ·have hX:=Lib.hid (show Rm.gq n c=Rm.e_ n / 2147483648 by unfold Rm.gq; rw[if_pos he,if_neg h])
   clear he
   go_enter Tryz.func182,Tryz.ntmps182
   go_wp2_with fail
   refine (oL n _ hF iP lx).mono ?_
   rintro e w' ⟨rfl,rfl⟩
   rw[hE.out]
   go_wp2
   go_ret2
   exact⟨fE hX.out.symm hE.out.symm,rfl⟩
 ·have hX:=Lib.hid (show Rm.gq n c=0 by unfold Rm.gq; rw[if_neg he])
  have hbe:(Rm.eG n != 0)=true:=by rw[bne_iff_ne]; exact he
  clear he
  go_enter Tryz.func182,Tryz.ntmps182
  go_wp2_with fail
  refine (oL n _ hF iP lx).mono ?_
  rintro e w' ⟨rfl,rfl⟩
  go_wp2
  go_ret2
  exact⟨fE hX.out.symm rfl,rfl⟩
end Go.Proofs.YtnbngokbamifbaaGreatDoor

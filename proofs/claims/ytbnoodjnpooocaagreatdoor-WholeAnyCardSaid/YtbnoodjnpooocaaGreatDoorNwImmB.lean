/- What this claim is proved with: no condition. -/
import Derived.Test.YtbnoodjnpooocaaGreatDoorNwImmA
set_option linter.unusedVariables false
set_option linter.unusedSimpArgs false
namespace Go.Proofs.YtbnoodjnpooocaaGreatDoor
open Go.RowKit
theorem FG (n c:Int) (w:World) (hF:Q3 w) (fS:-9223372036854775808<=n) (lT:n<=9223372036854775807) (rZ:0<=c) :
  Calls Tryz.prog 213 #[.int .i64 n,.int .u32 c] w fun e w'=>e = .returned (.tuple #[.int .u32 (Rm.iT n c),.int .i64 (Rm.fU n)])/\w=w':=by
 have hb:=Rm.ub n
 by_cases he:Rm.fU n=0
 ·have hE:=Lib.hid he
  have hn:=Rm.Cg n he
  by_cases h:n < 1024
  ·have hX:=Lib.hid (show Rm.iT n c=min c 1 by unfold Rm.iT; rw[if_pos he,if_pos h])
   clear he
   go_enter Tryz.func213,Tryz.ntmps213
   go_wp2_with fail
   refine (pI n _ hF fS lT).mono ?_
   rintro e w' ⟨rfl,rfl⟩
   rw[hE.out]
   go_wp2
   go_ret2
   exact⟨iI hX.out.symm hE.out.symm,rfl⟩
  ·have hX:=Lib.hid (show Rm.iT n c=Rm.gZ n / 2147483648 by unfold Rm.iT; rw[if_pos he,if_neg h])
   clear he
   go_enter Tryz.func213,Tryz.ntmps213
   go_wp2_with fail
   refine (pI n _ hF fS lT).mono ?_
   rintro e w' ⟨rfl,rfl⟩
   rw[hE.out]
   go_wp2
   go_ret2
   exact⟨iI hX.out.symm hE.out.symm,rfl⟩
 ·have hX:=Lib.hid (show Rm.iT n c=0 by unfold Rm.iT; rw[if_neg he])
  have hbe:(Rm.fU n != 0)=true:=by rw[bne_iff_ne]; exact he
  clear he
  go_enter Tryz.func213,Tryz.ntmps213
  go_wp2_with fail
  refine (pI n _ hF fS lT).mono ?_
  rintro e w' ⟨rfl,rfl⟩
  go_wp2
  go_ret2
  exact⟨iI hX.out.symm rfl,rfl⟩
end Go.Proofs.YtbnoodjnpooocaaGreatDoor

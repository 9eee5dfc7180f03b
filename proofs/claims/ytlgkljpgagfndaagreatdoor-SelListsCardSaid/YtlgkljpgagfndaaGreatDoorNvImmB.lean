/- What this claim is proved with: no condition. -/
import Derived.Test.YtlgkljpgagfndaaGreatDoorNvImmA
set_option linter.unusedVariables false
set_option linter.unusedSimpArgs false
namespace Go.Proofs.YtlgkljpgagfndaaGreatDoor
open Go.RowKit
theorem Cf (n c:Int) (w:World) (hF:u3 w) (iQ:-9223372036854775808<=n) (kp:n<=9223372036854775807) (qu:0<=c) :
  Calls Tryz.prog 147 #[.int .i64 n,.int .u32 c] w fun e w'=>e = .returned (.tuple #[.int .u32 (Rm.fR n c),.int .i64 (Rm.dz n)])/\w=w':=by
 have hb:=Rm.nH n
 by_cases he:Rm.dz n=0
 ·have hE:=Lib.hid he
  have hn:=Rm.y8 n he
  by_cases h:n < 1024
  ·have hX:=Lib.hid (show Rm.fR n c=min c 1 by unfold Rm.fR; rw[if_pos he,if_pos h])
   clear he
   go_enter Tryz.func147,Tryz.ntmps147
   go_wp2_with fail
   refine (nJ n _ hF iQ kp).mono ?_
   rintro e w' ⟨rfl,rfl⟩
   rw[hE.out]
   go_wp2
   go_ret2
   exact⟨eQ hX.out.symm hE.out.symm,rfl⟩
  ·have hX:=Lib.hid (show Rm.fR n c=Rm.eG n / 2147483648 by unfold Rm.fR; rw[if_pos he,if_neg h])
   clear he
   go_enter Tryz.func147,Tryz.ntmps147
   go_wp2_with fail
   refine (nJ n _ hF iQ kp).mono ?_
   rintro e w' ⟨rfl,rfl⟩
   rw[hE.out]
   go_wp2
   go_ret2
   exact⟨eQ hX.out.symm hE.out.symm,rfl⟩
 ·have hX:=Lib.hid (show Rm.fR n c=0 by unfold Rm.fR; rw[if_neg he])
  have hbe:(Rm.dz n != 0)=true:=by rw[bne_iff_ne]; exact he
  clear he
  go_enter Tryz.func147,Tryz.ntmps147
  go_wp2_with fail
  refine (nJ n _ hF iQ kp).mono ?_
  rintro e w' ⟨rfl,rfl⟩
  go_wp2
  go_ret2
  exact⟨eQ hX.out.symm rfl,rfl⟩
end Go.Proofs.YtlgkljpgagfndaaGreatDoor

/- What this claim is proved with: no condition. -/
import Derived.Test.YtlgkljpgagfndaaGreatDoorNsImmA
set_option linter.unusedVariables false
set_option linter.unusedSimpArgs false
namespace Go.Proofs.YtlgkljpgagfndaaGreatDoor
open Go.RowKit
theorem za (n c:Int) (w:World) (hF:rX w) (iH:-9223372036854775808<=n) (lv:n<=9223372036854775807) (vf:0<=c) :
  Calls Tryz.prog 147 #[.int .i64 n,.int .u32 c] w fun e w'=>e = .returned (.tuple #[.int .u32 (Rm.fW n c),.int .i64 (Rm.c_ n)])/\w=w':=by
 have hb:=Rm.oZ n
 by_cases he:Rm.c_ n=0
 ·have hE:=Lib.hid he
  have hn:=Rm.wa n he
  by_cases h:n < 1024
  ·have hX:=Lib.hid (show Rm.fW n c=min c 1 by unfold Rm.fW; rw[if_pos he,if_pos h])
   clear he
   go_enter Tryz.func147,Tryz.ntmps147
   go_wp2_with fail
   refine (l0 n _ hF iH lv).mono ?_
   rintro e w' ⟨rfl,rfl⟩
   rw[hE.out]
   go_wp2
   go_ret2
   exact⟨eO hX.out.symm hE.out.symm,rfl⟩
  ·have hX:=Lib.hid (show Rm.fW n c=Rm.fB n / 2147483648 by unfold Rm.fW; rw[if_pos he,if_neg h])
   clear he
   go_enter Tryz.func147,Tryz.ntmps147
   go_wp2_with fail
   refine (l0 n _ hF iH lv).mono ?_
   rintro e w' ⟨rfl,rfl⟩
   rw[hE.out]
   go_wp2
   go_ret2
   exact⟨eO hX.out.symm hE.out.symm,rfl⟩
 ·have hX:=Lib.hid (show Rm.fW n c=0 by unfold Rm.fW; rw[if_neg he])
  have hbe:(Rm.c_ n != 0)=true:=by rw[bne_iff_ne]; exact he
  clear he
  go_enter Tryz.func147,Tryz.ntmps147
  go_wp2_with fail
  refine (l0 n _ hF iH lv).mono ?_
  rintro e w' ⟨rfl,rfl⟩
  go_wp2
  go_ret2
  exact⟨eO hX.out.symm rfl,rfl⟩
end Go.Proofs.YtlgkljpgagfndaaGreatDoor

/- What this claim is proved with: no condition. -/
import Derived.Test.YtlgkljpgagfndaaGreatDoorNuImmA
set_option linter.unusedVariables false
set_option linter.unusedSimpArgs false
namespace Go.Proofs.YtlgkljpgagfndaaGreatDoor
open Go.RowKit
theorem Dg (n c:Int) (w:World) (hF:vX w) (jk:-9223372036854775808<=n) (l6:n<=9223372036854775807) (rf:0<=c) :
  Calls Tryz.prog 147 #[.int .i64 n,.int .u32 c] w fun e w'=>e = .returned (.tuple #[.int .u32 (Rm.gg n c),.int .i64 (Rm.dF n)])/\w=w':=by
 have hb:=Rm.lM n
 by_cases he:Rm.dF n=0
 ·have hE:=Lib.hid he
  have hn:=Rm.Aa n he
  by_cases h:n < 1024
  ·have hX:=Lib.hid (show Rm.gg n c=min c 1 by unfold Rm.gg; rw[if_pos he,if_pos h])
   clear he
   go_enter Tryz.func147,Tryz.ntmps147
   go_wp2_with fail
   refine (oA n _ hF jk l6).mono ?_
   rintro e w' ⟨rfl,rfl⟩
   rw[hE.out]
   go_wp2
   go_ret2
   exact⟨fe hX.out.symm hE.out.symm,rfl⟩
  ·have hX:=Lib.hid (show Rm.gg n c=Rm.dD n / 2147483648 by unfold Rm.gg; rw[if_pos he,if_neg h])
   clear he
   go_enter Tryz.func147,Tryz.ntmps147
   go_wp2_with fail
   refine (oA n _ hF jk l6).mono ?_
   rintro e w' ⟨rfl,rfl⟩
   rw[hE.out]
   go_wp2
   go_ret2
   exact⟨fe hX.out.symm hE.out.symm,rfl⟩
 ·have hX:=Lib.hid (show Rm.gg n c=0 by unfold Rm.gg; rw[if_neg he])
  have hbe:(Rm.dF n != 0)=true:=by rw[bne_iff_ne]; exact he
  clear he
  go_enter Tryz.func147,Tryz.ntmps147
  go_wp2_with fail
  refine (oA n _ hF jk l6).mono ?_
  rintro e w' ⟨rfl,rfl⟩
  go_wp2
  go_ret2
  exact⟨fe hX.out.symm rfl,rfl⟩
end Go.Proofs.YtlgkljpgagfndaaGreatDoor

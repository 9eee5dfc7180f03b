/- What this claim is proved with: no condition. -/
import Derived.Test.YtnbhdacpogplgaaGreatDoorPvAluB
import Derived.Test.YtnbhdacpogplgaaGreatDoorPvNumsJ
import Derived.Test.YtnbhdacpogplgaaGreatDoorPvBase
set_option linter.unusedVariables false
set_option linter.unusedSimpArgs false
namespace Go.Proofs.YtnbhdacpogplgaaGreatDoor
open Go.RowKit
def Uv (w:World):Prop:=∃ t fr,w.heap[2]?=some (.cells #[.int .u32 1,.int .u32 65537,.int .u32 16777472,.int .u32 16843009] t fr)
theorem Uv.cells {w:World} (h:Uv w):w.cell? ⟨2,0,none⟩=some (.int .u32 1)/\w.cell? ⟨2,1,none⟩=some (.int .u32 65537)/\w.cell? ⟨2,2,none⟩=some (.int .u32 16777472)/\w.cell? ⟨2,3,none⟩=some (.int .u32 16843009):=by
 obtain⟨t,fr,h⟩:=h
 exact⟨cell_of_row w _ 0 _ t fr h,cell_of_row w _ 1 _ t fr h,cell_of_row w _ 2 _ t fr h,cell_of_row w _ 3 _ t fr h⟩
theorem Uv.below {w w':World} (h:Uv w) (hb:Below w.heap.size w w'):Uv w':=by
 obtain⟨t,fr,h⟩:=h
 refine⟨t,fr,(hb.block _ ?_).trans h⟩
 rcases Nat.lt_or_ge 2 w.heap.size with ch|En
 ·exact ch
 ·rw[Array.getElem?_eq_none En] at h; cases h
theorem L4 (n:Int) (w:World) (hF:Uv w) (lh:-9223372036854775808<=n) (yj:n<=9223372036854775807) :
  Calls Tryz.prog 108 #[.int .i64 n] w fun e w'=>e = .returned (.tuple #[.int .u32 (Rm.nS n),.int .i64 (Rm.lT n)])/\w=w':=by
 obtain⟨c0,c1,c2,c3⟩:=hF.cells
 by_cases h1:n < 0
 ·have hx:=Lib.hid (show Rm.nS n=0 by unfold Rm.nS; rw[if_pos (.inl h1)])
  have he:=Lib.hid (show Rm.lT n=11 by unfold Rm.lT; rw[if_pos (.inl h1)])
  go_enter Tryz.func108,Tryz.ntmps108
  go_wp2
  go_ret2
  exact⟨nd hx.out.symm he.out.symm,rfl⟩
 by_cases h2:4095 < n
 ·have hx:=Lib.hid (show Rm.nS n=0 by unfold Rm.nS; rw[if_pos (.inr h2)])
  have he:=Lib.hid (show Rm.lT n=11 by unfold Rm.lT; rw[if_pos (.inr h2)])
  go_enter Tryz.func108,Tryz.ntmps108
  go_wp2
  go_ret2
  exact⟨nd hx.out.symm he.out.symm,rfl⟩
 have n0:0<=n:=by omega
 have n1:n<=4095:=by omega
 clear h1 h2
 have e1:bits .and .i64 n 127=n % 128:=Rm.B9 n (by omega) (by omega) 128 127 rfl (by omega) nat_mask7
 have e2:bits .or .i64 (n % 128) 128=n % 128+128:=Rm.Qf n
 have e3:bits .and .i64 n 255=n % 256:=Rm.B9 n (by omega) (by omega) 256 255 rfl (by omega) nat_mask8
 by_cases h3:1024<=n
 ·have hw:Rm.uy n.toNat=some (Rm.LV 3 (n / 128).toNat (n % 128+128).toNat):=by
   unfold Rm.uy; rw[if_pos (by omega)]
   rw[show n.toNat / 128=(n / 128).toNat by omega,show n.toNat % 128+128=(n % 128+128).toNat by omega]
  have hX:=Lib.hid (Rm.kp n _ n0 n1 hw)
  have hE:=Lib.hid (Rm.kr n _ n0 n1 hw)
  clear hw e3
  go_enter Tryz.func108,Tryz.ntmps108
  go_wp2_with (go_at_call 135; refine (L1 3 (n % 128+128) (n / 128) 0 _ (by omega) (by omega) (by omega) (by omega) (by omega) (by omega) (by omega)).mono ?_; rintro e w' ⟨rfl,rfl⟩)
  go_ret2
  exact⟨nd hX.out.symm hE.out.symm,rfl⟩
 have hq:n / 256=0\/n / 256=1\/n / 256=2\/n / 256=3:=by omega
 clear e1 e2
 by_cases hz:n % 256=0/\256<=n
 ·have hw:=Rm.Ir n hz.2 (by omega) hz.1
  have hX:=Lib.hid (Rm.EG n n0 n1 hw)
  have hE:=Lib.hid (Rm.EH n n0 n1 hw)
  obtain⟨z1,z2⟩:=hz
  clear hw hq
  go_enter Tryz.func108,Tryz.ntmps108
  go_wp2
  go_ret2
  exact⟨nd hX.out.symm hE.out.symm,rfl⟩
 rcases hq with hq|hq|hq|hq
 ·have hw:=Rm.rh n 0 1 n0 (by omega) hq rfl (.inl rfl)
  have hX:=Lib.hid (Rm.kp n _ n0 n1 hw)
  have hE:=Lib.hid (Rm.kr n _ n0 n1 hw)
  clear hw hz
  go_enter Tryz.func108,Tryz.ntmps108
  go_wp2
  go_ret2
  exact⟨nd (by rw[hX.out]; omega) hE.out.symm,rfl⟩
 ·have hb:(n % 256 == 0)=false:=by rw[beq_eq_false_iff_ne]; omega
  have hw:=Rm.rh n 1 65537 n0 (by omega) hq rfl (.inr (by omega))
  have hX:=Lib.hid (Rm.kp n _ n0 n1 hw)
  have hE:=Lib.hid (Rm.kr n _ n0 n1 hw)
  clear hw hz
  go_enter Tryz.func108,Tryz.ntmps108
  go_wp2
  go_ret2
  exact⟨nd (by rw[hX.out]; omega) hE.out.symm,rfl⟩
 ·have hb:(n % 256 == 0)=false:=by rw[beq_eq_false_iff_ne]; omega
  have hw:=Rm.rh n 2 16777472 n0 (by omega) hq rfl (.inr (by omega))
  have hX:=Lib.hid (Rm.kp n _ n0 n1 hw)
  have hE:=Lib.hid (Rm.kr n _ n0 n1 hw)
  clear hw hz
  go_enter Tryz.func108,Tryz.ntmps108
  go_wp2
  go_ret2
  exact⟨nd (by rw[hX.out]; omega) hE.out.symm,rfl⟩
 ·have hb:(n % 256 == 0)=false:=by rw[beq_eq_false_iff_ne]; omega
  have hw:=Rm.rh n 3 16843009 n0 (by omega) hq rfl (.inr (by omega))
  have hX:=Lib.hid (Rm.kp n _ n0 n1 hw)
  have hE:=Lib.hid (Rm.kr n _ n0 n1 hw)
  clear hw hz
  go_enter Tryz.func108,Tryz.ntmps108
  go_wp2
  go_ret2
  exact⟨nd (by rw[hX.out]; omega) hE.out.symm,rfl⟩
end Go.Proofs.YtnbhdacpogplgaaGreatDoor

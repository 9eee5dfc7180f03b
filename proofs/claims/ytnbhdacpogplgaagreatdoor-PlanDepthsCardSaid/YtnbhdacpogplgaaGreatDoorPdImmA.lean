/- What this claim is proved with: no condition. -/
import Derived.Test.YtnbhdacpogplgaaGreatDoorPdAluB
import Derived.Test.YtnbhdacpogplgaaGreatDoorPdNumsJ
import Derived.Test.YtnbhdacpogplgaaGreatDoorPdBase
set_option linter.unusedVariables false
set_option linter.unusedSimpArgs false
namespace Go.Proofs.YtnbhdacpogplgaaGreatDoor
open Go.RowKit
def Lq (w:World):Prop:=∃ t fr,w.heap[2]?=some (.cells #[.int .u32 1,.int .u32 65537,.int .u32 16777472,.int .u32 16843009] t fr)
theorem Lq.cells {w:World} (h:Lq w):w.cell? ⟨2,0,none⟩=some (.int .u32 1)/\w.cell? ⟨2,1,none⟩=some (.int .u32 65537)/\w.cell? ⟨2,2,none⟩=some (.int .u32 16777472)/\w.cell? ⟨2,3,none⟩=some (.int .u32 16843009):=by
 obtain⟨t,fr,h⟩:=h
 exact⟨cell_of_row w _ 0 _ t fr h,cell_of_row w _ 1 _ t fr h,cell_of_row w _ 2 _ t fr h,cell_of_row w _ 3 _ t fr h⟩
theorem Lq.below {w w':World} (h:Lq w) (hb:Below w.heap.size w w'):Lq w':=by
 obtain⟨t,fr,h⟩:=h
 refine⟨t,fr,(hb.block _ ?_).trans h⟩
 rcases Nat.lt_or_ge 2 w.heap.size with bG|RJ
 ·exact bG
 ·rw[Array.getElem?_eq_none RJ] at h; cases h
theorem D4 (n:Int) (w:World) (hF:Lq w) (jy:-9223372036854775808<=n) (sY:n<=9223372036854775807) :
  Calls Tryz.prog 108 #[.int .i64 n] w fun e w'=>e = .returned (.tuple #[.int .u32 (Rm.j3 n),.int .i64 (Rm.iO n)])/\w=w':=by
 obtain⟨c0,c1,c2,c3⟩:=hF.cells
 by_cases h1:n < 0
 ·have hx:=Lib.hid (show Rm.j3 n=0 by unfold Rm.j3; rw[if_pos (.inl h1)])
  have he:=Lib.hid (show Rm.iO n=11 by unfold Rm.iO; rw[if_pos (.inl h1)])
  go_enter Tryz.func108,Tryz.ntmps108
  go_wp2
  go_ret2
  exact⟨jC hx.out.symm he.out.symm,rfl⟩
 by_cases h2:4095 < n
 ·have hx:=Lib.hid (show Rm.j3 n=0 by unfold Rm.j3; rw[if_pos (.inr h2)])
  have he:=Lib.hid (show Rm.iO n=11 by unfold Rm.iO; rw[if_pos (.inr h2)])
  go_enter Tryz.func108,Tryz.ntmps108
  go_wp2
  go_ret2
  exact⟨jC hx.out.symm he.out.symm,rfl⟩
 have n0:0<=n:=by omega
 have n1:n<=4095:=by omega
 clear h1 h2
 have e1:bits .and .i64 n 127=n % 128:=Rm.vw n (by omega) (by omega) 128 127 rfl (by omega) nat_mask7
 have e2:bits .or .i64 (n % 128) 128=n % 128+128:=Rm.HG n
 have e3:bits .and .i64 n 255=n % 256:=Rm.vw n (by omega) (by omega) 256 255 rfl (by omega) nat_mask8
 by_cases h3:1024<=n
 ·have hw:Rm.oG n.toNat=some (Rm.HA 3 (n / 128).toNat (n % 128+128).toNat):=by
   unfold Rm.oG; rw[if_pos (by omega)]
   rw[show n.toNat / 128=(n / 128).toNat by omega,show n.toNat % 128+128=(n % 128+128).toNat by omega]
  have hX:=Lib.hid (Rm.gw n _ n0 n1 hw)
  have hE:=Lib.hid (Rm.gx n _ n0 n1 hw)
  clear hw e3
  go_enter Tryz.func108,Tryz.ntmps108
  go_wp2_with (go_at_call 135; refine (D2 3 (n % 128+128) (n / 128) 0 _ (by omega) (by omega) (by omega) (by omega) (by omega) (by omega) (by omega)).mono ?_; rintro e w' ⟨rfl,rfl⟩)
  go_ret2
  exact⟨jC hX.out.symm hE.out.symm,rfl⟩
 have hq:n / 256=0\/n / 256=1\/n / 256=2\/n / 256=3:=by omega
 clear e1 e2
 by_cases hz:n % 256=0/\256<=n
 ·have hw:=Rm.AR n hz.2 (by omega) hz.1
  have hX:=Lib.hid (Rm.xZ n n0 n1 hw)
  have hE:=Lib.hid (Rm.x4 n n0 n1 hw)
  obtain⟨z1,z2⟩:=hz
  clear hw hq
  go_enter Tryz.func108,Tryz.ntmps108
  go_wp2
  go_ret2
  exact⟨jC hX.out.symm hE.out.symm,rfl⟩
 rcases hq with hq|hq|hq|hq
 ·have hw:=Rm.mn n 0 1 n0 (by omega) hq rfl (.inl rfl)
  have hX:=Lib.hid (Rm.gw n _ n0 n1 hw)
  have hE:=Lib.hid (Rm.gx n _ n0 n1 hw)
  clear hw hz
  go_enter Tryz.func108,Tryz.ntmps108
  go_wp2
  go_ret2
  exact⟨jC (by rw[hX.out]; omega) hE.out.symm,rfl⟩
 ·have hb:(n % 256 == 0)=false:=by rw[beq_eq_false_iff_ne]; omega
  have hw:=Rm.mn n 1 65537 n0 (by omega) hq rfl (.inr (by omega))
  have hX:=Lib.hid (Rm.gw n _ n0 n1 hw)
  have hE:=Lib.hid (Rm.gx n _ n0 n1 hw)
  clear hw hz
  go_enter Tryz.func108,Tryz.ntmps108
  go_wp2
  go_ret2
  exact⟨jC (by rw[hX.out]; omega) hE.out.symm,rfl⟩
 ·have hb:(n % 256 == 0)=false:=by rw[beq_eq_false_iff_ne]; omega
  have hw:=Rm.mn n 2 16777472 n0 (by omega) hq rfl (.inr (by omega))
  have hX:=Lib.hid (Rm.gw n _ n0 n1 hw)
  have hE:=Lib.hid (Rm.gx n _ n0 n1 hw)
  clear hw hz
  go_enter Tryz.func108,Tryz.ntmps108
  go_wp2
  go_ret2
  exact⟨jC (by rw[hX.out]; omega) hE.out.symm,rfl⟩
 ·have hb:(n % 256 == 0)=false:=by rw[beq_eq_false_iff_ne]; omega
  have hw:=Rm.mn n 3 16843009 n0 (by omega) hq rfl (.inr (by omega))
  have hX:=Lib.hid (Rm.gw n _ n0 n1 hw)
  have hE:=Lib.hid (Rm.gx n _ n0 n1 hw)
  clear hw hz
  go_enter Tryz.func108,Tryz.ntmps108
  go_wp2
  go_ret2
  exact⟨jC (by rw[hX.out]; omega) hE.out.symm,rfl⟩
end Go.Proofs.YtnbhdacpogplgaaGreatDoor

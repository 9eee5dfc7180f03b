/- What this claim is proved with: no condition. -/
import Derived.Test.YtbnoodjnpooocaaGreatDoorNwAluB
import Derived.Test.YtbnoodjnpooocaaGreatDoorNwNumsJ
import Derived.Test.YtbnoodjnpooocaaGreatDoorNwBase
set_option linter.unusedVariables false
set_option linter.unusedSimpArgs false
namespace Go.Proofs.YtbnoodjnpooocaaGreatDoor
open Go.RowKit
def Q3 (w:World):Prop:=∃ t fr,w.heap[3]?=some (.cells #[.int .u32 1,.int .u32 65537,.int .u32 16777472,.int .u32 16843009] t fr)
theorem Q3.cells {w:World} (h:Q3 w):w.cell? ⟨3,0,none⟩=some (.int .u32 1)/\w.cell? ⟨3,1,none⟩=some (.int .u32 65537)/\w.cell? ⟨3,2,none⟩=some (.int .u32 16777472)/\w.cell? ⟨3,3,none⟩=some (.int .u32 16843009):=by
 obtain⟨t,fr,h⟩:=h
 exact⟨cell_of_row w _ 0 _ t fr h,cell_of_row w _ 1 _ t fr h,cell_of_row w _ 2 _ t fr h,cell_of_row w _ 3 _ t fr h⟩
theorem Q3.below {w w':World} (h:Q3 w) (hb:Below w.heap.size w w'):Q3 w':=by
 obtain⟨t,fr,h⟩:=h
 refine⟨t,fr,(hb.block _ ?_).trans h⟩
 rcases Nat.lt_or_ge 3 w.heap.size with bZ|Yw
 ·exact bZ
 ·rw[Array.getElem?_eq_none Yw] at h; cases h
theorem J6 (x:Int) (w:World) (h0:0<=x) (h1:x<=4294967295) :
  Calls Tryz.prog 133 #[.int .u32 x] w fun e w'=>e = .returned (.int .i64 (32 - (Lib.bitLen x.toNat:Int)))/\w=w':=by
 have l:=Rm.ry x.toNat (by omega)
 go_enter Tryz.func133,Tryz.ntmps133
 go_wp2_with (go_at_call 218; refine (v5 x _ h0 h1).mono ?_; rintro e w' ⟨rfl,rfl⟩)
 go_ret
 exact⟨rfl,rfl⟩
theorem pI (n:Int) (w:World) (hF:Q3 w) (fS:-9223372036854775808<=n) (lT:n<=9223372036854775807) :
  Calls Tryz.prog 212 #[.int .i64 n] w fun e w'=>e = .returned (.tuple #[.int .u32 (Rm.gZ n),.int .i64 (Rm.fU n)])/\w=w':=by
 obtain⟨c0,c1,c2,c3⟩:=hF.cells
 by_cases h1:n < 0
 ·have hx:=Lib.hid (show Rm.gZ n=0 by unfold Rm.gZ; rw[if_pos (.inl h1)])
  have he:=Lib.hid (show Rm.fU n=11 by unfold Rm.fU; rw[if_pos (.inl h1)])
  go_enter Tryz.func212,Tryz.ntmps212
  go_wp2
  go_ret2
  exact⟨iI hx.out.symm he.out.symm,rfl⟩
 by_cases h2:4095 < n
 ·have hx:=Lib.hid (show Rm.gZ n=0 by unfold Rm.gZ; rw[if_pos (.inr h2)])
  have he:=Lib.hid (show Rm.fU n=11 by unfold Rm.fU; rw[if_pos (.inr h2)])
  go_enter Tryz.func212,Tryz.ntmps212
  go_wp2
  go_ret2
  exact⟨iI hx.out.symm he.out.symm,rfl⟩
 have n0:0<=n:=by omega
 have n1:n<=4095:=by omega
 clear h1 h2
 have e1:bits .and .i64 n 127=n % 128:=Rm.Al n (by omega) (by omega) 128 127 rfl (by omega) nat_mask7
 have e2:bits .or .i64 (n % 128) 128=n % 128+128:=Rm.N_ n
 have e3:bits .and .i64 n 255=n % 256:=Rm.Al n (by omega) (by omega) 256 255 rfl (by omega) nat_mask8
 by_cases h3:1024<=n
 ·have hw:Rm.nX n.toNat=some (Rm.N0 3 (n / 128).toNat (n % 128+128).toNat):=by
   unfold Rm.nX; rw[if_pos (by omega)]
   rw[show n.toNat / 128=(n / 128).toNat by omega,show n.toNat % 128+128=(n % 128+128).toNat by omega]
  have hX:=Lib.hid (Rm.jE n _ n0 n1 hw)
  have hE:=Lib.hid (Rm.jF n _ n0 n1 hw)
  clear hw e3
  go_enter Tryz.func212,Tryz.ntmps212
  go_wp2_with (go_at_call 214; refine (Ak 3 (n % 128+128) (n / 128) 0 _ (by omega) (by omega) (by omega) (by omega) (by omega) (by omega) (by omega)).mono ?_; rintro e w' ⟨rfl,rfl⟩)
  go_ret2
  exact⟨iI hX.out.symm hE.out.symm,rfl⟩
 have hq:n / 256=0\/n / 256=1\/n / 256=2\/n / 256=3:=by omega
 clear e1 e2
 by_cases hz:n % 256=0/\256<=n
 ·have hw:=Rm.FF n hz.2 (by omega) hz.1
  have hX:=Lib.hid (Rm.Ce n n0 n1 hw)
  have hE:=Lib.hid (Rm.Cf n n0 n1 hw)
  obtain⟨z1,z2⟩:=hz
  clear hw hq
  go_enter Tryz.func212,Tryz.ntmps212
  go_wp2
  go_ret2
  exact⟨iI hX.out.symm hE.out.symm,rfl⟩
 rcases hq with hq|hq|hq|hq
 ·have hw:=Rm.pH n 0 1 n0 (by omega) hq rfl (.inl rfl)
  have hX:=Lib.hid (Rm.jE n _ n0 n1 hw)
  have hE:=Lib.hid (Rm.jF n _ n0 n1 hw)
  clear hw hz
  go_enter Tryz.func212,Tryz.ntmps212
  go_wp2
  go_ret2
  exact⟨iI (by rw[hX.out]; omega) hE.out.symm,rfl⟩
 ·have hb:(n % 256 == 0)=false:=by rw[beq_eq_false_iff_ne]; omega
  have hw:=Rm.pH n 1 65537 n0 (by omega) hq rfl (.inr (by omega))
  have hX:=Lib.hid (Rm.jE n _ n0 n1 hw)
  have hE:=Lib.hid (Rm.jF n _ n0 n1 hw)
  clear hw hz
  go_enter Tryz.func212,Tryz.ntmps212
  go_wp2
  go_ret2
  exact⟨iI (by rw[hX.out]; omega) hE.out.symm,rfl⟩
 ·have hb:(n % 256 == 0)=false:=by rw[beq_eq_false_iff_ne]; omega
  have hw:=Rm.pH n 2 16777472 n0 (by omega) hq rfl (.inr (by omega))
  have hX:=Lib.hid (Rm.jE n _ n0 n1 hw)
  have hE:=Lib.hid (Rm.jF n _ n0 n1 hw)
  clear hw hz
  go_enter Tryz.func212,Tryz.ntmps212
  go_wp2
  go_ret2
  exact⟨iI (by rw[hX.out]; omega) hE.out.symm,rfl⟩
 ·have hb:(n % 256 == 0)=false:=by rw[beq_eq_false_iff_ne]; omega
  have hw:=Rm.pH n 3 16843009 n0 (by omega) hq rfl (.inr (by omega))
  have hX:=Lib.hid (Rm.jE n _ n0 n1 hw)
  have hE:=Lib.hid (Rm.jF n _ n0 n1 hw)
  clear hw hz
  go_enter Tryz.func212,Tryz.ntmps212
  go_wp2
  go_ret2
  exact⟨iI (by rw[hX.out]; omega) hE.out.symm,rfl⟩
end Go.Proofs.YtbnoodjnpooocaaGreatDoor

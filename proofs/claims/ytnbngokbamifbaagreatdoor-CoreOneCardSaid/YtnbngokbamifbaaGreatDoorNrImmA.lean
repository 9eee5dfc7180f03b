/- What this claim is proved with: no condition. -/
import Derived.Test.YtnbngokbamifbaaGreatDoorNrAluB
import Derived.Test.YtnbngokbamifbaaGreatDoorNrNumsJ
import Derived.Test.YtnbngokbamifbaaGreatDoorNrBase
set_option linter.unusedVariables false
set_option linter.unusedSimpArgs false
namespace Go.Proofs.YtnbngokbamifbaaGreatDoor
open Go.RowKit
def OL (w:World):Prop:=∃ t fr,w.heap[1]?=some (.cells #[.int .u32 1,.int .u32 65537,.int .u32 16777472,.int .u32 16843009] t fr)
theorem OL.cells {w:World} (h:OL w):w.cell? ⟨1,0,none⟩=some (.int .u32 1)/\w.cell? ⟨1,1,none⟩=some (.int .u32 65537)/\w.cell? ⟨1,2,none⟩=some (.int .u32 16777472)/\w.cell? ⟨1,3,none⟩=some (.int .u32 16843009):=by
 obtain⟨t,fr,h⟩:=h
 exact⟨cell_of_row w _ 0 _ t fr h,cell_of_row w _ 1 _ t fr h,cell_of_row w _ 2 _ t fr h,cell_of_row w _ 3 _ t fr h⟩
theorem OL.below {w w':World} (h:OL w) (hb:Below w.heap.size w w'):OL w':=by
 obtain⟨t,fr,h⟩:=h
 refine⟨t,fr,(hb.block _ ?_).trans h⟩
 rcases Nat.lt_or_ge 1 w.heap.size with cI|Xb
 ·exact cI
 ·rw[Array.getElem?_eq_none Xb] at h; cases h
theorem pF {k:IntKind} {a b:Int} {p q:Bool} (h:a=b) (g:p=q):Ending.returned (.tuple #[.int k a,.bool p]) = .returned (.tuple #[.int k b,.bool q]):=by rw[h,g]
theorem Ho (x:Int) (w:World) (h0:0<=x) (h1:x<=4294967295) :
  Calls Tryz.prog 146 #[.int .u32 x] w fun e w'=>e = .returned (.int .i64 (32 - (Lib.bitLen x.toNat:Int)))/\w=w':=by
 have l:=Rm.jl x.toNat (by omega)
 go_enter Tryz.func146,Tryz.ntmps146
 go_wp2_with (go_at_call 187; refine (uF x _ h0 h1).mono ?_; rintro e w' ⟨rfl,rfl⟩)
 go_ret
 exact⟨rfl,rfl⟩
theorem oL (n:Int) (w:World) (hF:OL w) (iP:-9223372036854775808<=n) (lx:n<=9223372036854775807) :
  Calls Tryz.prog 181 #[.int .i64 n] w fun e w'=>e = .returned (.tuple #[.int .u32 (Rm.e_ n),.int .i64 (Rm.eG n)])/\w=w':=by
 obtain⟨c0,c1,c2,c3⟩:=hF.cells
 by_cases h1:n < 0
 ·have hx:=Lib.hid (show Rm.e_ n=0 by unfold Rm.e_; rw[if_pos (.inl h1)])
  have he:=Lib.hid (show Rm.eG n=11 by unfold Rm.eG; rw[if_pos (.inl h1)])
  go_enter Tryz.func181,Tryz.ntmps181
  go_wp2
  go_ret2
  exact⟨fE hx.out.symm he.out.symm,rfl⟩
 by_cases h2:4095 < n
 ·have hx:=Lib.hid (show Rm.e_ n=0 by unfold Rm.e_; rw[if_pos (.inr h2)])
  have he:=Lib.hid (show Rm.eG n=11 by unfold Rm.eG; rw[if_pos (.inr h2)])
  go_enter Tryz.func181,Tryz.ntmps181
  go_wp2
  go_ret2
  exact⟨fE hx.out.symm he.out.symm,rfl⟩
 have n0:0<=n:=by omega
 have n1:n<=4095:=by omega
 clear h1 h2
 have e1:bits .and .i64 n 127=n % 128:=Rm.yw n (by omega) (by omega) 128 127 rfl (by omega) nat_mask7
 have e2:bits .or .i64 (n % 128) 128=n % 128+128:=Rm.Ld n
 have e3:bits .and .i64 n 255=n % 256:=Rm.yw n (by omega) (by omega) 256 255 rfl (by omega) nat_mask8
 by_cases h3:1024<=n
 ·have hw:Rm.jc n.toNat=some (Rm.wa 3 (n / 128).toNat (n % 128+128).toNat):=by
   unfold Rm.jc; rw[if_pos (by omega)]
   rw[show n.toNat / 128=(n / 128).toNat by omega,show n.toNat % 128+128=(n % 128+128).toNat by omega]
  have hX:=Lib.hid (Rm.dL n _ n0 n1 hw)
  have hE:=Lib.hid (Rm.gJ n _ n0 n1 hw)
  clear hw e3
  go_enter Tryz.func181,Tryz.ntmps181
  go_wp2_with (go_at_call 183; refine (yt 3 (n % 128+128) (n / 128) 0 _ (by omega) (by omega) (by omega) (by omega) (by omega) (by omega) (by omega)).mono ?_; rintro e w' ⟨rfl,rfl⟩)
  go_ret2
  exact⟨fE hX.out.symm hE.out.symm,rfl⟩
 have hq:n / 256=0\/n / 256=1\/n / 256=2\/n / 256=3:=by omega
 clear e1 e2
 by_cases hz:n % 256=0/\256<=n
 ·have hw:=Rm.uG n hz.2 (by omega) hz.1
  have hX:=Lib.hid (Rm.sH n n0 n1 hw)
  have hE:=Lib.hid (Rm.sI n n0 n1 hw)
  obtain⟨z1,z2⟩:=hz
  clear hw hq
  go_enter Tryz.func181,Tryz.ntmps181
  go_wp2
  go_ret2
  exact⟨fE hX.out.symm hE.out.symm,rfl⟩
 rcases hq with hq|hq|hq|hq
 ·have hw:=Rm.gZ n 0 1 n0 (by omega) hq rfl (.inl rfl)
  have hX:=Lib.hid (Rm.dL n _ n0 n1 hw)
  have hE:=Lib.hid (Rm.gJ n _ n0 n1 hw)
  clear hw hz
  go_enter Tryz.func181,Tryz.ntmps181
  go_wp2
  go_ret2
  exact⟨fE (by rw[hX.out]; omega) hE.out.symm,rfl⟩
 ·have hb:(n % 256 == 0)=false:=by rw[beq_eq_false_iff_ne]; omega
  have hw:=Rm.gZ n 1 65537 n0 (by omega) hq rfl (.inr (by omega))
  have hX:=Lib.hid (Rm.dL n _ n0 n1 hw)
  have hE:=Lib.hid (Rm.gJ n _ n0 n1 hw)
  clear hw hz
  go_enter Tryz.func181,Tryz.ntmps181
  go_wp2
  go_ret2
  exact⟨fE (by rw[hX.out]; omega) hE.out.symm,rfl⟩
 ·have hb:(n % 256 == 0)=false:=by rw[beq_eq_false_iff_ne]; omega
  have hw:=Rm.gZ n 2 16777472 n0 (by omega) hq rfl (.inr (by omega))
  have hX:=Lib.hid (Rm.dL n _ n0 n1 hw)
  have hE:=Lib.hid (Rm.gJ n _ n0 n1 hw)
  clear hw hz
  go_enter Tryz.func181,Tryz.ntmps181
  go_wp2
  go_ret2
  exact⟨fE (by rw[hX.out]; omega) hE.out.symm,rfl⟩
 ·have hb:(n % 256 == 0)=false:=by rw[beq_eq_false_iff_ne]; omega
  have hw:=Rm.gZ n 3 16843009 n0 (by omega) hq rfl (.inr (by omega))
  have hX:=Lib.hid (Rm.dL n _ n0 n1 hw)
  have hE:=Lib.hid (Rm.gJ n _ n0 n1 hw)
  clear hw hz
  go_enter Tryz.func181,Tryz.ntmps181
  go_wp2
  go_ret2
  exact⟨fE (by rw[hX.out]; omega) hE.out.symm,rfl⟩
theorem yx (n:Int) (w:World) (n0:0<=n) (n1:n<=4095) :
  Calls Tryz.prog 192 #[.int .i64 n] w fun e w'=>e = .returned (.tuple #[.int .u32 (Rm.e_ n),.bool (Rm.jc n.toNat).isSome])/\w=w':=by
 by_cases h3:1024<=n
 ·have hw:Rm.jc n.toNat=some (Rm.wa 3 (n / 128).toNat (n % 128+128).toNat):=by
   unfold Rm.jc; rw[if_pos (by omega)]
   rw[show n.toNat / 128=(n / 128).toNat by omega,show n.toNat % 128+128=(n % 128+128).toNat by omega]
  have hX:=Lib.hid (Rm.dL n _ n0 n1 hw)
  rw[hw]
  clear hw
  go_enter Tryz.func192,Tryz.ntmps192
  go_wp2_with (go_at_call 193; refine (oJ 3 (n % 128+128) (n / 128) 0 _ (by omega) (by omega) (by omega) (by omega) (by omega) (by omega) (by omega)).mono ?_; rintro e w' ⟨rfl,rfl⟩)
  go_ret2
  exact⟨pF hX.out.symm rfl,rfl⟩
 have hq:n / 256=0\/n / 256=1\/n / 256=2\/n / 256=3:=by omega
 by_cases hz:n % 256=0/\256<=n
 ·have hw:=Rm.uG n hz.2 (by omega) hz.1
  have hX:=Lib.hid (Rm.sH n n0 n1 hw)
  obtain⟨z1,z2⟩:=hz
  have hq0:(n / 256 == 0)=false:=by rw[beq_eq_false_iff_ne]; omega
  rw[hw]
  clear hw hq
  go_enter Tryz.func192,Tryz.ntmps192
  go_wp2
  go_ret2
  exact⟨pF hX.out.symm rfl,rfl⟩
 rcases hq with hq|hq|hq|hq
 ·have hw:=Rm.gZ n 0 1 n0 (by omega) hq rfl (.inl rfl)
  have hX:=Lib.hid (Rm.dL n _ n0 n1 hw)
  rw[hw]
  clear hw hz
  go_enter Tryz.func192,Tryz.ntmps192
  go_wp2
  go_ret2
  exact⟨pF (by rw[hX.out]; omega) rfl,rfl⟩
 ·have hb:(n % 256 == 0)=false:=by rw[beq_eq_false_iff_ne]; omega
  have hw:=Rm.gZ n 1 65537 n0 (by omega) hq rfl (.inr (by omega))
  have hX:=Lib.hid (Rm.dL n _ n0 n1 hw)
  rw[hw]
  clear hw hz
  go_enter Tryz.func192,Tryz.ntmps192
  go_wp2
  go_ret2
  exact⟨pF (by rw[hX.out]; omega) rfl,rfl⟩
 ·have hb:(n % 256 == 0)=false:=by rw[beq_eq_false_iff_ne]; omega
  have hw:=Rm.gZ n 2 16777472 n0 (by omega) hq rfl (.inr (by omega))
  have hX:=Lib.hid (Rm.dL n _ n0 n1 hw)
  rw[hw]
  clear hw hz
  go_enter Tryz.func192,Tryz.ntmps192
  go_wp2
  go_ret2
  exact⟨pF (by rw[hX.out]; omega) rfl,rfl⟩
 ·have hb:(n % 256 == 0)=false:=by rw[beq_eq_false_iff_ne]; omega
  have hw:=Rm.gZ n 3 16843009 n0 (by omega) hq rfl (.inr (by omega))
  have hX:=Lib.hid (Rm.dL n _ n0 n1 hw)
  rw[hw]
  clear hw hz
  go_enter Tryz.func192,Tryz.ntmps192
  go_wp2
  go_ret2
  exact⟨pF (by rw[hX.out]; omega) rfl,rfl⟩
end Go.Proofs.YtnbngokbamifbaaGreatDoor

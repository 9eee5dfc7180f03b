/- What this claim is proved with: no condition. -/
import Derived.Test.YtlgkljpgagfndaaGreatDoorNvAluB
import Derived.Test.YtlgkljpgagfndaaGreatDoorNvNumsJ
import Derived.Test.YtlgkljpgagfndaaGreatDoorNvBase
set_option linter.unusedVariables false
set_option linter.unusedSimpArgs false
namespace Go.Proofs.YtlgkljpgagfndaaGreatDoor
open Go.RowKit
def u3 (w:World):Prop:=∃ t fr,w.heap[1]?=some (.cells #[.int .u32 1,.int .u32 65537,.int .u32 16777472,.int .u32 16843009] t fr)
theorem u3.cells {w:World} (h:u3 w):w.cell? ⟨1,0,none⟩=some (.int .u32 1)/\w.cell? ⟨1,1,none⟩=some (.int .u32 65537)/\w.cell? ⟨1,2,none⟩=some (.int .u32 16777472)/\w.cell? ⟨1,3,none⟩=some (.int .u32 16843009):=by
 obtain⟨t,fr,h⟩:=h
 exact⟨cell_of_row w _ 0 _ t fr h,cell_of_row w _ 1 _ t fr h,cell_of_row w _ 2 _ t fr h,cell_of_row w _ 3 _ t fr h⟩
theorem u3.below {w w':World} (h:u3 w) (hb:Below w.heap.size w w'):u3 w':=by
 obtain⟨t,fr,h⟩:=h
 refine⟨t,fr,(hb.block _ ?_).trans h⟩
 rcases Nat.lt_or_ge 1 w.heap.size with cJ|Nh
 ·exact cJ
 ·rw[Array.getElem?_eq_none Nh] at h; cases h
theorem nI (x:Int) (w:World) (h0:0<=x) (h1:x<=4294967295) :
  Calls Tryz.prog 98 #[.int .u32 x] w fun e w'=>e = .returned (.int .i64 (32 - (Lib.bitLen x.toNat:Int)))/\w=w':=by
 have l:=Rm.gN x.toNat (by omega)
 go_enter Tryz.func98,Tryz.ntmps98
 go_wp2_with (go_at_call 130; refine (tD x _ h0 h1).mono ?_; rintro e w' ⟨rfl,rfl⟩)
 go_ret
 exact⟨rfl,rfl⟩
theorem rf (x k:Int) (w:World) (h0:0<=x) (h1:x<=4294967295) (uQ:0<=k) (B_:k<=1000) :
  Calls Tryz.prog 99 #[.int .u32 x,.int .i64 k] w fun e w'=>e = .returned (.int .u32 ((Rm.rotl x.toNat k.toNat:Nat):Int))/\w=w':=by
 have e1:bits .and .u64 k 31=k % 32:=by
  rw[u64_and k 31 uQ (by omega) (by omega) (by omega)]
  have e:k.toNat &&& (31:Int).toNat=k.toNat % 32:=nat_mask5 _
  rw[e]; omega
 obtain⟨s,hs⟩:∃ s,k % 32=s:=⟨_,rfl⟩
 have J2:0<=s/\s<=31:=by omega
 rw[hs] at e1
 have hsk:k.toNat % 32=s.toNat:=by omega
 have hr:Rm.rotl x.toNat k.toNat=Rm.rotl x.toNat s.toNat:=by unfold Rm.rotl; rw[hsk,Nat.mod_eq_of_lt (by omega)]
 have hi:=Rm.Km x.toNat s.toNat (by omega) (by omega)
 have hR:=Lib.hid hr
 have hI:=Lib.hid hi
 clear hs hr hi hsk
 go_enter Tryz.func99,Tryz.ntmps99
 go_wp2
 go_ret
 refine⟨rb ?_,rfl⟩
 have hb:=Rm.OX x (32 - s).toNat h0 h1
 rw[u32_or _ _ (by omega) (by omega) hb.1 (by omega),hR.out,← hI.out,show (32 - s).toNat=32 - s.toNat by omega]
 have hx:x=(x.toNat:Int):=by omega
 have e5:(x*2 ^ s.toNat % 4294967296).toNat=x.toNat*2 ^ s.toNat % 4294967296:=by
  have:x*2 ^ s.toNat % 4294967296=((x.toNat*2 ^ s.toNat % 4294967296:Nat):Int):=by rw[Int.natCast_emod,Int.natCast_mul,← hx,Int.natCast_pow]; rfl
  rw[this]; rfl
 have e6:(x / 2 ^ (32 - s.toNat)).toNat=x.toNat / 2 ^ (32 - s.toNat):=by
  have:x / 2 ^ (32 - s.toNat)=((x.toNat / 2 ^ (32 - s.toNat):Nat):Int):=by rw[Int.natCast_ediv,← hx,Int.natCast_pow]; rfl
  rw[this]; rfl
 rw[e5,e6]
theorem nJ (n:Int) (w:World) (hF:u3 w) (iQ:-9223372036854775808<=n) (kp:n<=9223372036854775807) :
  Calls Tryz.prog 146 #[.int .i64 n] w fun e w'=>e = .returned (.tuple #[.int .u32 (Rm.eG n),.int .i64 (Rm.dz n)])/\w=w':=by
 obtain⟨c0,c1,c2,c3⟩:=hF.cells
 by_cases h1:n < 0
 ·have hx:=Lib.hid (show Rm.eG n=0 by unfold Rm.eG; rw[if_pos (.inl h1)])
  have he:=Lib.hid (show Rm.dz n=11 by unfold Rm.dz; rw[if_pos (.inl h1)])
  go_enter Tryz.func146,Tryz.ntmps146
  go_wp2
  go_ret2
  exact⟨eQ hx.out.symm he.out.symm,rfl⟩
 by_cases h2:4095 < n
 ·have hx:=Lib.hid (show Rm.eG n=0 by unfold Rm.eG; rw[if_pos (.inr h2)])
  have he:=Lib.hid (show Rm.dz n=11 by unfold Rm.dz; rw[if_pos (.inr h2)])
  go_enter Tryz.func146,Tryz.ntmps146
  go_wp2
  go_ret2
  exact⟨eQ hx.out.symm he.out.symm,rfl⟩
 have n0:0<=n:=by omega
 have n1:n<=4095:=by omega
 clear h1 h2
 have e1:bits .and .i64 n 127=n % 128:=Rm.wX n (by omega) (by omega) 128 127 rfl (by omega) nat_mask7
 have e2:bits .or .i64 (n % 128) 128=n % 128+128:=Rm.Kn n
 have e3:bits .and .i64 n 255=n % 256:=Rm.wX n (by omega) (by omega) 256 255 rfl (by omega) nat_mask8
 by_cases h3:1024<=n
 ·have hw:Rm.iS n.toNat=some (Rm.qc 3 (n / 128).toNat (n % 128+128).toNat):=by
   unfold Rm.iS; rw[if_pos (by omega)]
   rw[show n.toNat / 128=(n / 128).toNat by omega,show n.toNat % 128+128=(n % 128+128).toNat by omega]
  have hX:=Lib.hid (Rm.gD n _ n0 n1 hw)
  have hE:=Lib.hid (Rm.iC n _ n0 n1 hw)
  clear hw e3
  go_enter Tryz.func146,Tryz.ntmps146
  go_wp2_with (go_at_call 148; refine (wV 3 (n % 128+128) (n / 128) 0 _ (by omega) (by omega) (by omega) (by omega) (by omega) (by omega) (by omega)).mono ?_; rintro e w' ⟨rfl,rfl⟩)
  go_ret2
  exact⟨eQ hX.out.symm hE.out.symm,rfl⟩
 have hq:n / 256=0\/n / 256=1\/n / 256=2\/n / 256=3:=by omega
 clear e1 e2
 by_cases hz:n % 256=0/\256<=n
 ·have hw:=Rm.Cd n hz.2 (by omega) hz.1
  have hX:=Lib.hid (Rm.y6 n n0 n1 hw)
  have hE:=Lib.hid (Rm.y7 n n0 n1 hw)
  obtain⟨z1,z2⟩:=hz
  clear hw hq
  go_enter Tryz.func146,Tryz.ntmps146
  go_wp2
  go_ret2
  exact⟨eQ hX.out.symm hE.out.symm,rfl⟩
 rcases hq with hq|hq|hq|hq
 ·have hw:=Rm.nG n 0 1 n0 (by omega) hq rfl (.inl rfl)
  have hX:=Lib.hid (Rm.gD n _ n0 n1 hw)
  have hE:=Lib.hid (Rm.iC n _ n0 n1 hw)
  clear hw hz
  go_enter Tryz.func146,Tryz.ntmps146
  go_wp2
  go_ret2
  exact⟨eQ (by rw[hX.out]; omega) hE.out.symm,rfl⟩
 ·have hb:(n % 256 == 0)=false:=by rw[beq_eq_false_iff_ne]; omega
  have hw:=Rm.nG n 1 65537 n0 (by omega) hq rfl (.inr (by omega))
  have hX:=Lib.hid (Rm.gD n _ n0 n1 hw)
  have hE:=Lib.hid (Rm.iC n _ n0 n1 hw)
  clear hw hz
  go_enter Tryz.func146,Tryz.ntmps146
  go_wp2
  go_ret2
  exact⟨eQ (by rw[hX.out]; omega) hE.out.symm,rfl⟩
 ·have hb:(n % 256 == 0)=false:=by rw[beq_eq_false_iff_ne]; omega
  have hw:=Rm.nG n 2 16777472 n0 (by omega) hq rfl (.inr (by omega))
  have hX:=Lib.hid (Rm.gD n _ n0 n1 hw)
  have hE:=Lib.hid (Rm.iC n _ n0 n1 hw)
  clear hw hz
  go_enter Tryz.func146,Tryz.ntmps146
  go_wp2
  go_ret2
  exact⟨eQ (by rw[hX.out]; omega) hE.out.symm,rfl⟩
 ·have hb:(n % 256 == 0)=false:=by rw[beq_eq_false_iff_ne]; omega
  have hw:=Rm.nG n 3 16843009 n0 (by omega) hq rfl (.inr (by omega))
  have hX:=Lib.hid (Rm.gD n _ n0 n1 hw)
  have hE:=Lib.hid (Rm.iC n _ n0 n1 hw)
  clear hw hz
  go_enter Tryz.func146,Tryz.ntmps146
  go_wp2
  go_ret2
  exact⟨eQ (by rw[hX.out]; omega) hE.out.symm,rfl⟩
end Go.Proofs.YtlgkljpgagfndaaGreatDoor

/- What this claim is proved with: no condition. -/
import Derived.Test.YtnbhdacpogplgaaGreatDoorPvTermA
import Derived.Test.YtnbhdacpogplgaaGreatDoorPvRotl
set_option linter.unusedVariables false
set_option linter.unusedSimpArgs false
namespace Go.Proofs.YtnbhdacpogplgaaGreatDoor
open Go Go.RowKit
theorem iN (b:Bool) (w:World):Calls Tryz.prog 111 #[.bool b] w fun e w'=>e = .returned (.int .u32 (if b then 1 else 0))/\w'=w:=by
 go_enter Tryz.func111,Tryz.ntmps111
 cases b
 ·go_wp2
  go_ret
  exact⟨rfl,rfl⟩
 ·go_wp2
  go_ret
  exact⟨rfl,rfl⟩
def CE (op x:Int):Int:=if op=3 then 4294967295 - x else -x % 4294967296
theorem GY {op x:Int} (h0:0<=x) (h1:x<=4294967295):0<=CE op x/\CE op x<=4294967295:=by unfold CE; split<;>omega
theorem M6 (op x:Int) (w:World) (h0:0<=x) (h1:x<=4294967295):Calls Tryz.prog 112 #[.int .i64 op,.int .u32 x] w fun e w'=>e = .returned (.int .u32 (CE op x))/\w'=w:=by
 go_enter Tryz.func112,Tryz.ntmps112
 by_cases h:op=3
 ·subst h
  go_wp2
  go_ret
  refine⟨congrArg Ending.returned (congrArg (Value.int IntKind.u32) ?_),rfl⟩
  rw[Rm.not32 x h0 h1]; rfl
 ·have hb:(op == 3)=false:=by simpa using h
  go_wp2
  go_ret
  refine⟨congrArg Ending.returned (congrArg (Value.int IntKind.u32) ?_),rfl⟩
  unfold CE; rw[if_neg h]
def jG (op x y:Int):Int :=
 if op=5 then bits .or .u32 x y else if op=6 then bits .xor .u32 x y else if op=7 then bits .and .u32 x y
 else if op=10 then x*2 ^ (y % 32).toNat % 4294967296 else if op=11 then x / 2 ^ (y % 32).toNat else ((Rm.rotl x.toNat (y % 32).toNat:Nat):Int)
theorem Jj (x:Int) (h0:0<=x) (h1:x<=4294967295):bits .and .u32 x 31=x % 32:=by
 rw[u32_and x 31 h0 (by omega) (by omega) (by omega)]
 have e:x.toNat &&& (31:Int).toNat=x.toNat % 32:=nat_mask5 _
 rw[e]; omega
theorem Jk (op x y:Int) (w:World) (h0:0<=x) (h1:x<=4294967295) (k0:0<=y) (k1:y<=4294967295):Calls Tryz.prog 136 #[.int .i64 op,.int .u32 x,.int .u32 y] w fun e w'=>e = .returned (.int .u32 (jG op x y))/\w'=w:=by
 have e1:bits .and .u32 y 31=y % 32:=Jj y k0 k1
 obtain⟨k,hk⟩:∃ k,y % 32=k:=⟨_,rfl⟩
 have Ki:0<=k:=by omega
 have Gs:k<=31:=by omega
 by_cases h5:op=5
 ·subst h5
  go_enter Tryz.func136,Tryz.ntmps136
  clear e1 hk
  go_wp2
  go_ret
  exact⟨rfl,rfl⟩
 by_cases h6:op=6
 ·subst h6
  go_enter Tryz.func136,Tryz.ntmps136
  clear e1 hk
  go_wp2
  go_ret
  exact⟨rfl,rfl⟩
 by_cases h7:op=7
 ·subst h7
  go_enter Tryz.func136,Tryz.ntmps136
  clear e1 hk
  go_wp2
  go_ret
  exact⟨rfl,rfl⟩
 rw[hk] at e1
 by_cases cS:op=10
 ·subst cS
  have HL:=Lib.hid (show jG 10 x y=x*2 ^ k.toNat % 4294967296 by unfold jG; rw[hk]; rfl)
  clear hk
  go_enter Tryz.func136,Tryz.ntmps136
  go_wp2
  go_ret
  refine⟨congrArg Ending.returned (congrArg (Value.int IntKind.u32) ?_),rfl⟩
  rw[HL.out]
 by_cases h11:op=11
 ·subst h11
  have HL:=Lib.hid (show jG 11 x y=x / 2 ^ k.toNat by unfold jG; rw[hk]; rfl)
  clear hk
  go_enter Tryz.func136,Tryz.ntmps136
  go_wp2
  go_ret
  refine⟨congrArg Ending.returned (congrArg (Value.int IntKind.u32) ?_),rfl⟩
  rw[HL.out]
 ·have HL:=Lib.hid (show jG op x y=((Rm.rotl x.toNat k.toNat:Nat):Int) by unfold jG; rw[if_neg h5,if_neg h6,if_neg h7,if_neg cS,if_neg h11,hk])
  have b5:(op == 5)=false:=by simpa using h5
  have b6:(op == 6)=false:=by simpa using h6
  have b7:(op == 7)=false:=by simpa using h7
  have b10:(op == 10)=false:=by simpa using cS
  have b11:(op == 11)=false:=by simpa using h11
  clear hk
  go_enter Tryz.func136,Tryz.ntmps136
  go_wp2_with fail
  refine (Ji x k _ h0 h1 Ki (by omega)).mono ?_
  rintro e w' ⟨rfl,rfl⟩
  go_wp2_with fail
  go_ret
  exact⟨congrArg Ending.returned (congrArg (Value.int IntKind.u32) HL.out.symm),rfl⟩
def mM (op x y:Int):Option Int :=
 if op=8 then some (if x=y then 1 else 0) else if op=9 then some (if x < y then 1 else 0) else if op=13 then some ((x+y) % 4294967296) else if op=14 then some ((x - y) % 4294967296)
 else if op=15 then some (x*y % 4294967296) else if op=16 then (if y=0 then none else some (x / y)) else if op=17 then (if y=0 then none else some (x % y)) else some (jG op x y)
def Re (w:World) (o:Option Int) (e:Ending) (w':World):Prop:=e = .returned (.tuple #[.int .u32 (o.getD 0),.bool o.isSome])/\w'=w
theorem Rf (op x y:Int) (w:World) (h0:0<=x) (h1:x<=4294967295) (k0:0<=y) (k1:y<=4294967295):Calls Tryz.prog 113 #[.int .i64 op,.int .u32 x,.int .u32 y] w (Re w (mM op x y)):=by
 by_cases h8:op=8
 ·subst h8
  by_cases M7:x=y
  all_goals
   have HL:=Lib.hid (show mM 8 x y=some (if x=y then 1 else 0) from rfl)
  ·have hb:(x == y)=true:=by simpa using M7
   have HM:=Lib.hid (show mM 8 x y=some 1 by rw[HL.out,if_pos M7])
   clear M7
   go_enter Tryz.func113,Tryz.ntmps113
   go_wp2_with fail
   refine (iN true _).mono ?_
   rintro e w' ⟨rfl,rfl⟩
   go_wp2_with fail
   go_ret2
   exact⟨by rw[HM.out]; rfl,rfl⟩
  ·have hb:(x == y)=false:=by simpa using M7
   have HM:=Lib.hid (show mM 8 x y=some 0 by rw[HL.out,if_neg M7])
   clear M7
   go_enter Tryz.func113,Tryz.ntmps113
   go_wp2_with fail
   refine (iN false _).mono ?_
   rintro e w' ⟨rfl,rfl⟩
   go_wp2_with fail
   go_ret2
   exact⟨by rw[HM.out]; rfl,rfl⟩
 by_cases h9:op=9
 ·subst h9
  by_cases M7:x < y
  all_goals
   have HL:=Lib.hid (show mM 9 x y=some (if x < y then 1 else 0) from rfl)
  ·have hb:decide (x < y)=true:=by simpa using M7
   have HM:=Lib.hid (show mM 9 x y=some 1 by rw[HL.out,if_pos M7])
   go_enter Tryz.func113,Tryz.ntmps113
   go_wp2_with fail
   refine (iN true _).mono ?_
   rintro e w' ⟨rfl,rfl⟩
   go_wp2_with fail
   go_ret2
   exact⟨by rw[HM.out]; rfl,rfl⟩
  ·have hb:decide (x < y)=false:=by simpa using M7
   have HM:=Lib.hid (show mM 9 x y=some 0 by rw[HL.out,if_neg M7])
   go_enter Tryz.func113,Tryz.ntmps113
   go_wp2_with fail
   refine (iN false _).mono ?_
   rintro e w' ⟨rfl,rfl⟩
   go_wp2_with fail
   go_ret2
   exact⟨by rw[HM.out]; rfl,rfl⟩
 by_cases h13:op=13
 ·subst h13
  go_enter Tryz.func113,Tryz.ntmps113
  go_wp2
  go_ret2
  exact⟨rfl,rfl⟩
 by_cases h14:op=14
 ·subst h14
  go_enter Tryz.func113,Tryz.ntmps113
  go_wp2
  go_ret2
  exact⟨rfl,rfl⟩
 by_cases h15:op=15
 ·subst h15
  go_enter Tryz.func113,Tryz.ntmps113
  go_wp2
  go_ret2
  exact⟨rfl,rfl⟩
 by_cases h16:op=16
 ·subst h16
  by_cases hy:y=0
  ·subst hy
   go_enter Tryz.func113,Tryz.ntmps113
   go_wp2
   go_ret2
   exact⟨rfl,rfl⟩
  ·have hb:(y == 0)=false:=by simpa using hy
   have HM:=Lib.hid (show mM 16 x y=some (x / y) by unfold mM; simp[hy])
   go_enter Tryz.func113,Tryz.ntmps113
   go_wp2
   go_ret2
   exact⟨by rw[HM.out]; rfl,rfl⟩
 by_cases Ze:op=17
 ·subst Ze
  by_cases hy:y=0
  ·subst hy
   go_enter Tryz.func113,Tryz.ntmps113
   go_wp2
   go_ret2
   exact⟨rfl,rfl⟩
  ·have hb:(y == 0)=false:=by simpa using hy
   have HM:=Lib.hid (show mM 17 x y=some (x % y) by unfold mM; simp[hy])
   go_enter Tryz.func113,Tryz.ntmps113
   go_wp2
   go_ret2
   exact⟨by rw[HM.out]; rfl,rfl⟩
 ·have HM:=Lib.hid (show mM op x y=some (jG op x y) by unfold mM; rw[if_neg h8,if_neg h9,if_neg h13,if_neg h14,if_neg h15,if_neg h16,if_neg Ze])
  have b8:(op == 8)=false:=by simpa using h8
  have b9:(op == 9)=false:=by simpa using h9
  have b13:(op == 13)=false:=by simpa using h13
  have b14:(op == 14)=false:=by simpa using h14
  have b15:(op == 15)=false:=by simpa using h15
  have b16:(op == 16)=false:=by simpa using h16
  have b17:(op == 17)=false:=by simpa using Ze
  go_enter Tryz.func113,Tryz.ntmps113
  go_wp2_with fail
  refine (Jk op x y _ h0 h1 k0 k1).mono ?_
  rintro e w' ⟨rfl,rfl⟩
  go_wp2_with fail
  go_ret2
  exact⟨by rw[HM.out]; rfl,rfl⟩
theorem Jl {op x y:Int} (hx:0<=x/\x<=4294967295) (hy:0<=y/\y<=4294967295):0<=jG op x y/\jG op x y<=4294967295:=by
 unfold jG
 split
 ·rw[u32_or x y hx.1 (by omega) hy.1 (by omega)]
  have:=Nat.or_lt_two_pow (n:=32) (x:=x.toNat) (y:=y.toNat) (by omega) (by omega)
  omega
 split
 ·rw[u32_xor x y hx.1 (by omega) hy.1 (by omega)]
  have:=Nat.xor_lt_two_pow (n:=32) (x:=x.toNat) (y:=y.toNat) (by omega) (by omega)
  omega
 split
 ·rw[u32_and x y hx.1 (by omega) hy.1 (by omega)]
  have:=Nat.and_le_left (n:=x.toNat) (m:=y.toNat)
  omega
 split
 ·omega
 split
 ·have h1:0<=x / 2 ^ (y % 32).toNat:=Int.ediv_nonneg hx.1 (Int.pow_nonneg (by omega))
  have h2:x / 2 ^ (y % 32).toNat<=x:=Int.ediv_le_self _ hx.1
  omega
 ·have:=Rm.Gt x.toNat (y % 32).toNat (by omega)
  omega
theorem Rg {op x y v:Int} (hx:0<=x/\x<=4294967295) (hy:0<=y/\y<=4294967295) (h:mM op x y=some v):0<=v/\v<=4294967295:=by
 unfold mM at h
 split at h
 ·cases h; split<;>omega
 split at h
 ·cases h; split<;>omega
 split at h
 ·cases h; omega
 split at h
 ·cases h; omega
 split at h
 ·cases h; omega
 split at h
 ·split at h
  ·cases h
  ·cases h
   have h1:0<=x / y:=Int.ediv_nonneg hx.1 hy.1
   have h2:x / y<=x:=Int.ediv_le_self _ hx.1
   omega
 split at h
 ·split at h
  ·cases h
  ·cases h
   have h1:=Int.emod_nonneg x (b:=y) (by omega)
   have h2:=Int.emod_lt_of_pos x (b:=y) (by omega)
   omega
 ·cases h; exact Jl hx hy
end Go.Proofs.YtnbhdacpogplgaaGreatDoor

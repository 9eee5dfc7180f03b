/- What this claim is proved with: no condition. -/
import Derived.Test.YtnbhdacpogplgaaGreatDoorPvAluB
import Derived.Test.YtnbhdacpogplgaaGreatDoorPvNumsJ
import Derived.Test.YtnbhdacpogplgaaGreatDoorPvBase
set_option linter.unusedVariables false
set_option linter.unusedSimpArgs false
namespace Go.Proofs.YtnbhdacpogplgaaGreatDoor
open Go.RowKit
theorem Ji (x k:Int) (w:World) (h0:0<=x) (h1:x<=4294967295) (Ki:0<=k) (Gs:k<=1000) :
  Calls Tryz.prog 147 #[.int .u32 x,.int .i64 k] w fun e w'=>e = .returned (.int .u32 ((Rm.rotl x.toNat k.toNat:Nat):Int))/\w=w':=by
 have e1:bits .and .u64 k 31=k % 32:=by
  rw[u64_and k 31 Ki (by omega) (by omega) (by omega)]
  have e:k.toNat &&& (31:Int).toNat=k.toNat % 32:=nat_mask5 _
  rw[e]; omega
 obtain⟨s,hs⟩:∃ s,k % 32=s:=⟨_,rfl⟩
 have hs0:0<=s/\s<=31:=by omega
 rw[hs] at e1
 have hsk:k.toNat % 32=s.toNat:=by omega
 have hr:Rm.rotl x.toNat k.toNat=Rm.rotl x.toNat s.toNat:=by unfold Rm.rotl; rw[hsk,Nat.mod_eq_of_lt (by omega)]
 have hi:=Rm.Qe x.toNat s.toNat (by omega) (by omega)
 have hR:=Lib.hid hr
 have hI:=Lib.hid hi
 clear hs hr hi hsk
 go_enter Tryz.func147,Tryz.ntmps147
 go_wp2
 go_ret
 refine⟨ret_i ?_,rfl⟩
 have hb:=Rm.Uu x (32 - s).toNat h0 h1
 rw[u32_or _ _ (by omega) (by omega) hb.1 (by omega),hR.out,← hI.out,show (32 - s).toNat=32 - s.toNat by omega]
 have hx:x=(x.toNat:Int):=by omega
 have e5:(x*2 ^ s.toNat % 4294967296).toNat=x.toNat*2 ^ s.toNat % 4294967296:=by
  have:x*2 ^ s.toNat % 4294967296=((x.toNat*2 ^ s.toNat % 4294967296:Nat):Int):=by rw[Int.natCast_emod,Int.natCast_mul,← hx,Int.natCast_pow]; rfl
  rw[this]; rfl
 have e6:(x / 2 ^ (32 - s.toNat)).toNat=x.toNat / 2 ^ (32 - s.toNat):=by
  have:x / 2 ^ (32 - s.toNat)=((x.toNat / 2 ^ (32 - s.toNat):Nat):Int):=by rw[Int.natCast_ediv,← hx,Int.natCast_pow]; rfl
  rw[this]; rfl
 rw[e5,e6]
end Go.Proofs.YtnbhdacpogplgaaGreatDoor

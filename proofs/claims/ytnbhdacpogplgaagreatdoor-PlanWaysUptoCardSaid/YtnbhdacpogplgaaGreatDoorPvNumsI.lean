/- What this claim is proved with: no condition. -/
import Derived.Test.YtnbhdacpogplgaaGreatDoorPvNums2
set_option linter.unusedVariables false
set_option linter.unusedSimpArgs false
namespace Go.Proofs.YtnbhdacpogplgaaGreatDoor.Rm
def fac (i:Nat):Nat:=if i=0 then 1 else if i=1 then 65537 else if i=2 then 16777472 else 16843009
def uy (n:Nat):Option Nat :=
 if 1024<=n then some (LV 3 (n / 128) (n % 128+128)) else if 256<=n/\n % 256=0 then none else some (n % 256*fac (n / 256))
def rotl (x s:Nat):Nat:=LV 3 (32 - s % 32) x
theorem Gt (x s:Nat) (hx:x < 4294967296):rotl x s < 4294967296:=EF _ _ _ hx
theorem L2 (x s:Nat) (hx:x < 4294967296) (i:Int) (h0:0<=i) (h1:i<=31):eQ (rotl x s) i=eQ x ((i+32 - (s % 32:Nat)) % 32):=by
 unfold rotl
 rw[Ut 3 (by omega) x hx _ i h0 h1]
 congr 1
 simp[sV]
 omega
theorem Qe (x s:Nat) (hx:x < 4294967296) (hs:s < 32):(x*2 ^ s % 4294967296) ||| (x / 2 ^ (32 - s))=rotl x s:=by
 have hq:x / 2 ^ (32 - s) < 4294967296:=Nat.lt_of_le_of_lt (Nat.div_le_self _ _) hx
 refine LZ _ _ (Nat.or_lt_two_pow (n:=32) (by omega) (by omega)) (Gt x s hx) ?_
 intro i hi
 rw[L2 x s hx i (by omega) (by omega),show s % 32=s by omega,lS _ i hi,Nat.testBit_or,show (4294967296:Nat)=2 ^ 32 from rfl,Nat.testBit_mod_two_pow,Nat.testBit_mul_two_pow,Nat.testBit_div_two_pow]
 by_cases h:s<=i
 ·have e:(((i:Nat):Int)+32 - (s:Nat)) % 32=((i - s:Nat):Int):=by omega
  have hp:2 ^ 32<=2 ^ (i+(32 - s)):=Nat.pow_le_pow_right (by omega) (by omega)
  have z:x.testBit (i+(32 - s))=false:=Nat.testBit_lt_two_pow (Nat.lt_of_lt_of_le (show x < 2 ^ 32 from hx) hp)
  rw[e,lS x _ (by omega),z]
  simp[h,hi]
 ·have e:(((i:Nat):Int)+32 - (s:Nat)) % 32=((i+(32 - s):Nat):Int):=by omega
  rw[e,lS x _ (by omega)]
  simp[h,hi]
end Go.Proofs.YtnbhdacpogplgaaGreatDoor.Rm

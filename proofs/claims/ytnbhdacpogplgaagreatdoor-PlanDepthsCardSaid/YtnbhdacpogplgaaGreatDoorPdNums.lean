/- What this claim is proved with: no condition. -/
import Derived.Laws.BitsAllLaws
import Derived.Laws.MathBits
import Derived.Lib.BitFns
set_option linter.unusedVariables false
set_option linter.unusedSimpArgs false
namespace Go.Proofs.YtnbhdacpogplgaaGreatDoor.Rm
def iN (k:Int) (x:Nat):Nat :=
 if k=0 then x*2 % 4294967296 else if k=1 then x / 2 else if k=2 then x / 2+x / 2147483648*2147483648 else x / 2+x % 2*2147483648
def j1 (k:Int) (x:Nat):Nat:=if k=0 then x / 2147483648 else x % 2
def HA (k:Int):Nat->Nat->Nat
 | 0,x=>x
 | n+1,x=>iN k (HA k n x)
def XP (k:Int):Nat->Nat->Nat->Nat
 | 0,_,c=>c
 | n+1,x,_=>j1 k (HA k n x)
theorem HB (k:Int) (x:Nat) (h:x < 4294967296):iN k x < 4294967296:=by
 unfold iN; repeat' split
 all_goals omega
theorem D0 (k:Int) (n x:Nat) (h:x < 4294967296):HA k n x < 4294967296:=by
 induction n with
 | zero=>exact h
 | succ n ih=>exact HB k _ ih
theorem XQ (x:Int) (h0:0<=x) (h1:x<=4294967295):bits .and .u32 x 1=x % 2:=by
 rw[u32_and x 1 h0 (by omega) (by omega) (by omega)]
 have e:x.toNat &&& (1:Int).toNat=x.toNat % 2:=nat_mask1 _
 rw[e]; omega
theorem D1 (a b:Int) (h0:0<=a) (h1:a<=2147483647) (h2:0<=b) (h3:b<=1):bits .or .u32 a (b*2147483648)=a+b*2147483648:=by
 rw[u32_or _ _ h0 (by omega) (by omega) (by omega),Nat.or_comm]
 have e:(b*2147483648).toNat=b.toNat*2 ^ 31:=by omega
 rw[e,nat_join 31 _ _ (by omega) (by omega)]
 omega
theorem vv (x:Nat) (h:x<=4294967295):Lib.bitLen x<=32:=Lib.bitLen_le x 32 (by omega) (by omega)
end Go.Proofs.YtnbhdacpogplgaaGreatDoor.Rm

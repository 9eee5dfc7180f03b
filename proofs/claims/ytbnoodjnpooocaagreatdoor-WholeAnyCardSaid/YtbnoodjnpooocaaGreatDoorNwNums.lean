/- What this claim is proved with: no condition. -/
import Derived.Laws.BitsAllLaws
import Derived.Laws.MathBits
import Derived.Lib.BitFns
set_option linter.unusedVariables false
set_option linter.unusedSimpArgs false
namespace Go.Proofs.YtbnoodjnpooocaaGreatDoor.Rm
def Ai (k:Int) (x:Nat):Nat :=
 if k=0 then x*2 % 4294967296 else if k=1 then x / 2 else if k=2 then x / 2+x / 2147483648*2147483648 else x / 2+x % 2*2147483648
def Aj (k:Int) (x:Nat):Nat:=if k=0 then x / 2147483648 else x % 2
def N0 (k:Int):Nat->Nat->Nat
 | 0,x=>x
 | n+1,x=>Ai k (N0 k n x)
def itC (k:Int):Nat->Nat->Nat->Nat
 | 0,_,c=>c
 | n+1,x,_=>Aj k (N0 k n x)
theorem N1 (k:Int) (x:Nat) (h:x < 4294967296):Ai k x < 4294967296:=by
 unfold Ai; repeat' split
 all_goals omega
theorem N2 (k:Int) (x:Nat) (h:x < 4294967296):Aj k x < 2:=by
 unfold Aj; split<;>omega
theorem yg (k:Int) (n x:Nat) (h:x < 4294967296):N0 k n x < 4294967296:=by
 induction n with
 | zero=>exact h
 | succ n ih=>exact N1 k _ ih
theorem SZ (k:Int) (n x c:Nat) (h:x < 4294967296) (hc:c < 2):itC k n x c < 2:=by
 cases n with
 | zero=>exact hc
 | succ n=>exact N2 k _ (yg k n x h)
def sgn (x:Int):Int:=if x>=2147483648 then x - 4294967296 else x
def rr (c:Int):Int:=min c 1
def ik (x y c:Int):Int:=(x+y+rr c) % 4294967296
def nk (x y c:Int):Int:=(x+y+rr c) / 4294967296
def pG (x y c:Int):Int:=if sgn x+sgn y+rr c=sgn (ik x y c) then 0 else 1
theorem D3 (a b:Nat) (ha:a < 4294967296) (hb:b < 4294967296):(a ^^^ b) / 2147483648=(a / 2147483648+b / 2147483648) % 2:=by
 have h1:(a ^^^ b) / 2 ^ 31=(a / 2 ^ 31) ^^^ (b / 2 ^ 31):=Nat.xor_div_two_pow
 have h2:a / 2147483648 < 2:=by omega
 have h3:b / 2147483648 < 2:=by omega
 have nP:(a ^^^ b) / 2147483648=(a / 2147483648) ^^^ (b / 2147483648):=h1
 rw[nP]
 generalize a / 2147483648=p at *
 generalize b / 2147483648=q at *
 have hp:p=0\/p=1:=by omega
 have hq:q=0\/q=1:=by omega
 rcases hp with rfl|rfl<;>rcases hq with rfl|rfl<;>rfl
theorem N3 (a b:Nat) (ha:a < 4294967296) (hb:b < 4294967296):(a &&& b) / 2147483648=(a / 2147483648)*(b / 2147483648):=by
 have h1:(a &&& b) / 2 ^ 31=(a / 2 ^ 31) &&& (b / 2 ^ 31):=Nat.and_div_two_pow
 have h2:a / 2147483648 < 2:=by omega
 have h3:b / 2147483648 < 2:=by omega
 have nP:(a &&& b) / 2147483648=(a / 2147483648) &&& (b / 2147483648):=h1
 rw[nP]
 generalize a / 2147483648=p at *
 generalize b / 2147483648=q at *
 have hp:p=0\/p=1:=by omega
 have hq:q=0\/q=1:=by omega
 rcases hp with rfl|rfl<;>rcases hq with rfl|rfl<;>rfl
theorem N4 (x y s:Int) (FB:0<=x) (hx:x<=4294967295) (He:0<=y) (hy:y<=4294967295) (QM:0<=s) (hs:s<=4294967295) :
  bits .and .u32 (bits .xor .u32 x s) (bits .xor .u32 y s) / 2147483648=((x / 2147483648+s / 2147483648) % 2)*((y / 2147483648+s / 2147483648) % 2):=by
 rw[u32_xor x s FB (by omega) QM (by omega),u32_xor y s He (by omega) QM (by omega)]
 have l1:x.toNat ^^^ s.toNat < 4294967296:=Nat.xor_lt_two_pow (n:=32) (by omega) (by omega)
 have l2:y.toNat ^^^ s.toNat < 4294967296:=Nat.xor_lt_two_pow (n:=32) (by omega) (by omega)
 rw[u32_and_nat _ _ l1 l2]
 have h:=N3 _ _ l1 l2
 rw[D3 _ _ (by omega) (by omega),D3 _ _ (by omega) (by omega)] at h
 have e:(((x.toNat ^^^ s.toNat) &&& (y.toNat ^^^ s.toNat):Nat):Int) / 2147483648=((((x.toNat ^^^ s.toNat) &&& (y.toNat ^^^ s.toNat)) / 2147483648:Nat):Int):=by omega
 rw[e,h]
 have ex:((x.toNat / 2147483648:Nat):Int)=x / 2147483648:=by omega
 have ey:((y.toNat / 2147483648:Nat):Int)=y / 2147483648:=by omega
 have es:((s.toNat / 2147483648:Nat):Int)=s / 2147483648:=by omega
 rw[Int.natCast_mul,Int.natCast_emod,Int.natCast_emod,Int.natCast_add,Int.natCast_add,ex,ey,es]
 rfl
theorem N5 (x y c:Int) (rZ:0<=c) (FB:0<=x) (hx:x<=4294967295) (He:0<=y) (hy:y<=4294967295) :
  bits .and .u32 (bits .xor .u32 x (ik x y c)) (bits .xor .u32 y (ik x y c)) / 2147483648=pG x y c:=by
 rw[N4 x y _ FB hx He hy (by unfold ik; omega) (by unfold ik; omega)]
 have hc:rr c=0\/rr c=1:=by unfold rr; omega
 unfold pG ik
 generalize rr c=o at *
 have hs:(x+y+o) % 4294967296 / 2147483648=0\/(x+y+o) % 4294967296 / 2147483648=1:=by omega
 have xl:x / 2147483648=0\/x / 2147483648=1:=by omega
 have MB:y / 2147483648=0\/y / 2147483648=1:=by omega
 rcases hs with hs|hs<;>rcases xl with h1|h1<;>rcases MB with h2|h2<;>rw[hs,h1,h2]<;>simp[sgn]<;>(repeat' split)<;>omega
theorem yh (x y c:Int):0<=ik x y c/\ik x y c<=4294967295:=by unfold ik; omega
theorem D4 (x y c:Int) (rZ:0<=c) (FB:0<=x) (hx:x<=4294967295) (He:0<=y) (hy:y<=4294967295):0<=nk x y c/\nk x y c<=1:=by unfold nk rr; omega
theorem N6 (x y c:Int):0<=pG x y c/\pG x y c<=1:=by unfold pG; split<;>omega
theorem and1 (x:Int) (h0:0<=x) (h1:x<=4294967295):bits .and .u32 x 1=x % 2:=by
 rw[u32_and x 1 h0 (by omega) (by omega) (by omega)]
 have e:x.toNat &&& (1:Int).toNat=x.toNat % 2:=nat_mask1 _
 rw[e]; omega
theorem J3 (a b:Int) (h0:0<=a) (h1:a<=2147483647) (h2:0<=b) (h3:b<=1):bits .or .u32 a (b*2147483648)=a+b*2147483648:=by
 rw[u32_or _ _ h0 (by omega) (by omega) (by omega),Nat.or_comm]
 have e:(b*2147483648).toNat=b.toNat*2 ^ 31:=by omega
 rw[e,nat_join 31 _ _ (by omega) (by omega)]
 omega
theorem ry (x:Nat) (h:x<=4294967295):Lib.bitLen x<=32:=Lib.bitLen_le x 32 (by omega) (by omega)
theorem FC (y:Nat) (h:y < 4294967296):4294967295 ^^^ y=4294967295 - y:=by
 have e:=congrArg BitVec.toNat (BitVec.allOnes_xor (x:=BitVec.ofNat 32 y))
 rw[BitVec.toNat_xor,BitVec.toNat_not,BitVec.toNat_allOnes,BitVec.toNat_ofNat,Nat.mod_eq_of_lt (by omega)] at e
 exact e
theorem not32 (y:Int) (h0:0<=y) (h1:y<=4294967295):bits .xor .u32 IntKind.u32.max y=4294967295 - y:=by
 have e:IntKind.u32.max=4294967295:=by decide
 rw[e,u32_xor _ _ (by omega) (by omega) h0 (by omega)]
 have e2:(4294967295:Int).toNat ^^^ y.toNat=4294967295 - y.toNat:=FC _ (by omega)
 rw[e2]; omega
end Go.Proofs.YtbnoodjnpooocaaGreatDoor.Rm

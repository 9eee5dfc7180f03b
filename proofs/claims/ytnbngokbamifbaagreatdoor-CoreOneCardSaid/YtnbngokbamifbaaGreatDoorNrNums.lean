/- What this claim is proved with: no condition. -/
import Derived.Laws.BitsAllLaws
import Derived.Laws.MathBits
import Derived.Lib.BitFns
set_option linter.unusedVariables false
set_option linter.unusedSimpArgs false
namespace Go.Proofs.YtnbngokbamifbaaGreatDoor.Rm
def oH (k:Int) (x:Nat):Nat :=
 if k=0 then x*2 % 4294967296 else if k=1 then x / 2 else if k=2 then x / 2+x / 2147483648*2147483648 else x / 2+x % 2*2147483648
def sC (k:Int) (x:Nat):Nat:=if k=0 then x / 2147483648 else x % 2
def wa (k:Int):Nat->Nat->Nat
 | 0,x=>x
 | n+1,x=>oH k (wa k n x)
def D4 (k:Int):Nat->Nat->Nat->Nat
 | 0,_,c=>c
 | n+1,x,_=>sC k (wa k n x)
def fX (x:Nat) (n:Int):Nat:=if n < 0\/31 < n then 0 else x / 2 ^ n.toNat % 2
def jy (k i n:Int):Int:=if k=0 then i - n else if k=3 then (i+n) % 32 else if 31 < i+n/\k=2 then 31 else i+n
theorem KZ (k:Int) (x:Nat) (h:x < 4294967296):oH k x < 4294967296:=by
 unfold oH; repeat' split
 all_goals omega
theorem K0 (k:Int) (x:Nat) (h:x < 4294967296):sC k x < 2:=by
 unfold sC; split<;>omega
theorem nG (k:Int) (n x:Nat) (h:x < 4294967296):wa k n x < 4294967296:=by
 induction n with
 | zero=>exact h
 | succ n ih=>exact KZ k _ ih
theorem Qr (k:Int) (n x c:Nat) (h:x < 4294967296) (hc:c < 2):D4 k n x c < 2:=by
 cases n with
 | zero=>exact hc
 | succ n=>exact K0 k _ (nG k n x h)
theorem K1 (x:Nat) (n:Int):fX x n < 2:=by
 unfold fX; split<;>omega
theorem places (i:Int) (h0:0<=i) (h1:i<=31):i=0\/i=1\/i=2\/i=3\/i=4\/i=5\/i=6\/i=7\/i=8\/i=9\/i=10\/i=11\/i=12\/i=13\/i=14\/i=15\/i=16\/i=17\/i=18\/i=19\/i=20\/i=21\/i=22\/i=23\/i=24\/i=25\/i=26\/i=27\/i=28\/i=29\/i=30\/i=31:=by omega
theorem Qs (x:Nat) (i:Int) (h0:0<=i) (h1:i<=31):fX (x*2 % 4294967296) i=fX x (i - 1):=by
 rcases places i h0 h1 with h|h|h|h|h|h|h|h|h|h|h|h|h|h|h|h|h|h|h|h|h|h|h|h|h|h|h|h|h|h|h|h<;>subst h<;>simp[fX]<;>omega
theorem Hh (x:Nat) (hx:x < 4294967296) (i:Int) (h0:0<=i) (h1:i<=31):fX (x / 2) i=fX x (i+1):=by
 rcases places i h0 h1 with h|h|h|h|h|h|h|h|h|h|h|h|h|h|h|h|h|h|h|h|h|h|h|h|h|h|h|h|h|h|h|h<;>subst h<;>simp[fX]<;>omega
theorem Hi (x:Nat) (hx:x < 4294967296) (i:Int) (h0:0<=i) (h1:i<=31):fX (x / 2+x / 2147483648*2147483648) i=fX x (if 31 < i+1 then 31 else i+1):=by
 rcases places i h0 h1 with h|h|h|h|h|h|h|h|h|h|h|h|h|h|h|h|h|h|h|h|h|h|h|h|h|h|h|h|h|h|h|h<;>subst h<;>simp[fX]<;>omega
theorem Hj (x:Nat) (hx:x < 4294967296) (i:Int) (h0:0<=i) (h1:i<=31):fX (x / 2+x % 2*2147483648) i=fX x ((i+1) % 32):=by
 have hp:x % 2=0\/x % 2=1:=by omega
 rcases hp with hp|hp<;>rw[hp] <;>
 rcases places i h0 h1 with h|h|h|h|h|h|h|h|h|h|h|h|h|h|h|h|h|h|h|h|h|h|h|h|h|h|h|h|h|h|h|h<;>subst h<;>simp[fX]<;>omega
theorem K2 (k:Int) (hk:k=0\/k=1\/k=2\/k=3) (x:Nat) (hx:x < 4294967296) (i:Int) (h0:0<=i) (h1:i<=31):fX (oH k x) i=fX x (jy k i 1):=by
 rcases hk with rfl|rfl|rfl|rfl
 ·simpa [oH,jy] using Qs x i h0 h1
 ·simpa [oH,jy] using Hh x hx i h0 h1
 ·simpa [oH,jy] using Hi x hx i h0 h1
 ·simpa [oH,jy] using Hj x hx i h0 h1
theorem oI (x:Nat) (i:Int) (h:i < 0\/31 < i):fX x i=0:=by simp[fX,h]
theorem AR (k:Int) (hk:k=0\/k=1\/k=2\/k=3) (x:Nat) (hx:x < 4294967296) (n:Nat):∀ (i:Int),0<=i->i<=31->fX (wa k n x) i=fX x (jy k i n):=by
 induction n with
 | zero =>
  intro i h0 h1
  have e:jy k i (0:Nat)=i:=by rcases hk with rfl|rfl|rfl|rfl<;>simp[jy]<;>omega
  rw[e]; rfl
 | succ n ih =>
  intro i h0 h1
  show fX (oH k (wa k n x)) i=_
  rw[K2 k hk _ (nG k n x hx) i h0 h1]
  by_cases hj:0<=jy k i 1/\jy k i 1<=31
  ·rw[ih _ hj.1 hj.2]
   congr 1
   rcases hk with rfl|rfl|rfl|rfl<;>simp only[jy] at hj ⊢<;>simp at hj ⊢<;>repeat' split
   all_goals omega
  ·rw[oI _ _ (by omega),oI]
   rcases hk with rfl|rfl|rfl|rfl<;>simp only[jy] at hj ⊢<;>simp at hj ⊢<;>(repeat' split at hj)<;>(repeat' split)
   all_goals omega
theorem Hk (k:Int) (hk:k=0\/k=1\/k=2\/k=3) (x:Nat) (hx:x < 4294967296) (n c:Nat) :
  D4 k (n+1) x c=if k=0 then fX x (32 - (n+1:Nat)) else fX x (jy k 0 n):=by
 show sC k (wa k n x)=_
 have hl:=nG k n x hx
 by_cases h:k=0
 ·have hb:=AR k hk x hx n 31 (by omega) (by omega)
  have e:jy k 31 n=32 - (n+1:Nat):=by simp[jy,h]; omega
  rw[e] at hb
  rw[if_pos h,← hb]
  simp[sC,h,fX] at hl ⊢
  subst h
  omega
 ·have hb:=AR k hk x hx n 0 (by omega) (by omega)
  rw[if_neg h,← hb]
  simp[sC,h,fX]
theorem D5 (y:Nat) (i:Nat) (h:i<=31):y / 2 ^ (i+1)*2+fX y i=y / 2 ^ i:=by
 simp only[fX]
 rw[if_neg (by omega)]
 have e:y / 2 ^ (i+1)=y / 2 ^ i / 2:=by rw[Nat.pow_succ,Nat.div_div_eq_div_mul]
 rw[e]
 simp only[Int.toNat_natCast]
 omega
def K3 (x:Int):Int:=if x>=2147483648 then x - 4294967296 else x
def lP (c:Int):Int:=min c 1
def eD (x y c:Int):Int:=(x+y+lP c) % 4294967296
def iB (x y c:Int):Int:=(x+y+lP c) / 4294967296
def jT (x y c:Int):Int:=if K3 x+K3 y+lP c=K3 (eD x y c) then 0 else 1
theorem Ci (a b:Nat) (ha:a < 4294967296) (hb:b < 4294967296):(a ^^^ b) / 2147483648=(a / 2147483648+b / 2147483648) % 2:=by
 have h1:(a ^^^ b) / 2 ^ 31=(a / 2 ^ 31) ^^^ (b / 2 ^ 31):=Nat.xor_div_two_pow
 have h2:a / 2147483648 < 2:=by omega
 have h3:b / 2147483648 < 2:=by omega
 have qB:(a ^^^ b) / 2147483648=(a / 2147483648) ^^^ (b / 2147483648):=h1
 rw[qB]
 generalize a / 2147483648=p at *
 generalize b / 2147483648=q at *
 have hp:p=0\/p=1:=by omega
 have hq:q=0\/q=1:=by omega
 rcases hp with rfl|rfl<;>rcases hq with rfl|rfl<;>rfl
theorem K4 (a b:Nat) (ha:a < 4294967296) (hb:b < 4294967296):(a &&& b) / 2147483648=(a / 2147483648)*(b / 2147483648):=by
 have h1:(a &&& b) / 2 ^ 31=(a / 2 ^ 31) &&& (b / 2 ^ 31):=Nat.and_div_two_pow
 have h2:a / 2147483648 < 2:=by omega
 have h3:b / 2147483648 < 2:=by omega
 have qB:(a &&& b) / 2147483648=(a / 2147483648) &&& (b / 2147483648):=h1
 rw[qB]
 generalize a / 2147483648=p at *
 generalize b / 2147483648=q at *
 have hp:p=0\/p=1:=by omega
 have hq:q=0\/q=1:=by omega
 rcases hp with rfl|rfl<;>rcases hq with rfl|rfl<;>rfl
theorem K5 (x y s:Int) (sD:0<=x) (hx:x<=4294967295) (Cj:0<=y) (hy:y<=4294967295) (V7:0<=s) (hs:s<=4294967295) :
  bits .and .u32 (bits .xor .u32 x s) (bits .xor .u32 y s) / 2147483648=((x / 2147483648+s / 2147483648) % 2)*((y / 2147483648+s / 2147483648) % 2):=by
 rw[u32_xor x s sD (by omega) V7 (by omega),u32_xor y s Cj (by omega) V7 (by omega)]
 have l1:x.toNat ^^^ s.toNat < 4294967296:=Nat.xor_lt_two_pow (n:=32) (by omega) (by omega)
 have l2:y.toNat ^^^ s.toNat < 4294967296:=Nat.xor_lt_two_pow (n:=32) (by omega) (by omega)
 rw[u32_and_nat _ _ l1 l2]
 have h:=K4 _ _ l1 l2
 rw[Ci _ _ (by omega) (by omega),Ci _ _ (by omega) (by omega)] at h
 have e:(((x.toNat ^^^ s.toNat) &&& (y.toNat ^^^ s.toNat):Nat):Int) / 2147483648=((((x.toNat ^^^ s.toNat) &&& (y.toNat ^^^ s.toNat)) / 2147483648:Nat):Int):=by omega
 rw[e,h]
 have ex:((x.toNat / 2147483648:Nat):Int)=x / 2147483648:=by omega
 have ey:((y.toNat / 2147483648:Nat):Int)=y / 2147483648:=by omega
 have es:((s.toNat / 2147483648:Nat):Int)=s / 2147483648:=by omega
 rw[Int.natCast_mul,Int.natCast_emod,Int.natCast_emod,Int.natCast_add,Int.natCast_add,ex,ey,es]
 rfl
theorem K6 (x y c:Int) (qW:0<=c) (sD:0<=x) (hx:x<=4294967295) (Cj:0<=y) (hy:y<=4294967295) :
  bits .and .u32 (bits .xor .u32 x (eD x y c)) (bits .xor .u32 y (eD x y c)) / 2147483648=jT x y c:=by
 rw[K5 x y _ sD hx Cj hy (by unfold eD; omega) (by unfold eD; omega)]
 have hc:lP c=0\/lP c=1:=by unfold lP; omega
 unfold jT eD
 generalize lP c=o at *
 have hs:(x+y+o) % 4294967296 / 2147483648=0\/(x+y+o) % 4294967296 / 2147483648=1:=by omega
 have k9:x / 2147483648=0\/x / 2147483648=1:=by omega
 have Qa:y / 2147483648=0\/y / 2147483648=1:=by omega
 rcases hs with hs|hs<;>rcases k9 with h1|h1<;>rcases Qa with h2|h2<;>rw[hs,h1,h2]<;>simp[K3]<;>(repeat' split)<;>omega
theorem wc (x:Int) (sD:0<=x) (hx:x<=4294967295):-2147483648<=K3 x/\K3 x<=2147483647:=by unfold K3; split<;>omega
theorem q_ (x y c:Int):0<=eD x y c/\eD x y c<=4294967295:=by unfold eD; omega
theorem Ck (x y c:Int) (qW:0<=c) (sD:0<=x) (hx:x<=4294967295) (Cj:0<=y) (hy:y<=4294967295):0<=iB x y c/\iB x y c<=1:=by unfold iB lP; omega
theorem K7 (x y c:Int):0<=jT x y c/\jT x y c<=1:=by unfold jT; split<;>omega
theorem and1 (x:Int) (h0:0<=x) (h1:x<=4294967295):bits .and .u32 x 1=x % 2:=by
 rw[u32_and x 1 h0 (by omega) (by omega) (by omega)]
 have e:x.toNat &&& (1:Int).toNat=x.toNat % 2:=nat_mask1 _
 rw[e]; omega
theorem Hl (a b:Int) (h0:0<=a) (h1:a<=2147483647) (h2:0<=b) (h3:b<=1):bits .or .u32 a (b*2147483648)=a+b*2147483648:=by
 rw[u32_or _ _ h0 (by omega) (by omega) (by omega),Nat.or_comm]
 have e:(b*2147483648).toNat=b.toNat*2 ^ 31:=by omega
 rw[e,nat_join 31 _ _ (by omega) (by omega)]
 omega
theorem jl (x:Nat) (h:x<=4294967295):Lib.bitLen x<=32:=Lib.bitLen_le x 32 (by omega) (by omega)
theorem bitLen_half (y:Nat) (h:0 < y) (hy:y<=4294967295):Lib.bitLen y=Lib.bitLen (y / 2)+1:=by
 rw[Lib.bitLen_half y (by omega) (by omega),Nat.add_comm]
theorem D6 (y:Nat) (h:y < 4294967296):4294967295 ^^^ y=4294967295 - y:=by
 have e:=congrArg BitVec.toNat (BitVec.allOnes_xor (x:=BitVec.ofNat 32 y))
 rw[BitVec.toNat_xor,BitVec.toNat_not,BitVec.toNat_allOnes,BitVec.toNat_ofNat,Nat.mod_eq_of_lt (by omega)] at e
 exact e
theorem XE (y:Int) (h0:0<=y) (h1:y<=4294967295):bits .xor .u32 IntKind.u32.max y=4294967295 - y:=by
 have e:IntKind.u32.max=4294967295:=by decide
 rw[e,u32_xor _ _ (by omega) (by omega) h0 (by omega)]
 have e2:(4294967295:Int).toNat ^^^ y.toNat=4294967295 - y.toNat:=D6 _ (by omega)
 rw[e2]; omega
end Go.Proofs.YtnbngokbamifbaaGreatDoor.Rm

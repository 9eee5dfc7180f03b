/- What this claim is proved with: no condition. -/
import Derived.Laws.BitsAllLaws
import Derived.Laws.MathBits
import Derived.Lib.BitFns
set_option linter.unusedVariables false
set_option linter.unusedSimpArgs false
namespace Go.Proofs.YtlgkljpgagfndaaGreatDoor.Rm
def mC (k:Int) (x:Nat):Nat :=
 if k=0 then x*2 % 4294967296 else if k=1 then x / 2 else if k=2 then x / 2+x / 2147483648*2147483648 else x / 2+x % 2*2147483648
def q_ (k:Int) (x:Nat):Nat:=if k=0 then x / 2147483648 else x % 2
def qc (k:Int):Nat->Nat->Nat
 | 0,x=>x
 | n+1,x=>mC k (qc k n x)
def OU (k:Int):Nat->Nat->Nat->Nat
 | 0,_,c=>c
 | n+1,x,_=>q_ k (qc k n x)
def cZ (x:Nat) (n:Int):Nat:=if n < 0\/31 < n then 0 else x / 2 ^ n.toNat % 2
def gZ (k i n:Int):Int:=if k=0 then i - n else if k=3 then (i+n) % 32 else if 31 < i+n/\k=2 then 31 else i+n
theorem J' (k:Int) (x:Nat) (h:x < 4294967296):mC k x < 4294967296:=by
 unfold mC; repeat' split
 all_goals omega
theorem J_ (k:Int) (x:Nat) (h:x < 4294967296):q_ k x < 2:=by
 unfold q_; split<;>omega
theorem jh (k:Int) (n x:Nat) (h:x < 4294967296):qc k n x < 4294967296:=by
 induction n with
 | zero=>exact h
 | succ n ih=>exact J' k _ ih
theorem OV (k:Int) (n x c:Nat) (h:x < 4294967296) (hc:c < 2):OU k n x c < 2:=by
 cases n with
 | zero=>exact hc
 | succ n=>exact J_ k _ (jh k n x h)
theorem Ka (x:Nat) (n:Int):cZ x n < 2:=by
 unfold cZ; split<;>omega
theorem places (i:Int) (h0:0<=i) (h1:i<=31):i=0\/i=1\/i=2\/i=3\/i=4\/i=5\/i=6\/i=7\/i=8\/i=9\/i=10\/i=11\/i=12\/i=13\/i=14\/i=15\/i=16\/i=17\/i=18\/i=19\/i=20\/i=21\/i=22\/i=23\/i=24\/i=25\/i=26\/i=27\/i=28\/i=29\/i=30\/i=31:=by omega
theorem OW (x:Nat) (i:Int) (h0:0<=i) (h1:i<=31):cZ (x*2 % 4294967296) i=cZ x (i - 1):=by
 rcases places i h0 h1 with h|h|h|h|h|h|h|h|h|h|h|h|h|h|h|h|h|h|h|h|h|h|h|h|h|h|h|h|h|h|h|h<;>subst h<;>simp[cZ]<;>omega
theorem FI (x:Nat) (hx:x < 4294967296) (i:Int) (h0:0<=i) (h1:i<=31):cZ (x / 2) i=cZ x (i+1):=by
 rcases places i h0 h1 with h|h|h|h|h|h|h|h|h|h|h|h|h|h|h|h|h|h|h|h|h|h|h|h|h|h|h|h|h|h|h|h<;>subst h<;>simp[cZ]<;>omega
theorem FJ (x:Nat) (hx:x < 4294967296) (i:Int) (h0:0<=i) (h1:i<=31):cZ (x / 2+x / 2147483648*2147483648) i=cZ x (if 31 < i+1 then 31 else i+1):=by
 rcases places i h0 h1 with h|h|h|h|h|h|h|h|h|h|h|h|h|h|h|h|h|h|h|h|h|h|h|h|h|h|h|h|h|h|h|h<;>subst h<;>simp[cZ]<;>omega
theorem FK (x:Nat) (hx:x < 4294967296) (i:Int) (h0:0<=i) (h1:i<=31):cZ (x / 2+x % 2*2147483648) i=cZ x ((i+1) % 32):=by
 have hp:x % 2=0\/x % 2=1:=by omega
 rcases hp with hp|hp<;>rw[hp] <;>
 rcases places i h0 h1 with h|h|h|h|h|h|h|h|h|h|h|h|h|h|h|h|h|h|h|h|h|h|h|h|h|h|h|h|h|h|h|h<;>subst h<;>simp[cZ]<;>omega
theorem Kb (k:Int) (hk:k=0\/k=1\/k=2\/k=3) (x:Nat) (hx:x < 4294967296) (i:Int) (h0:0<=i) (h1:i<=31):cZ (mC k x) i=cZ x (gZ k i 1):=by
 rcases hk with rfl|rfl|rfl|rfl
 ·simpa [mC,gZ] using OW x i h0 h1
 ·simpa [mC,gZ] using FI x hx i h0 h1
 ·simpa [mC,gZ] using FJ x hx i h0 h1
 ·simpa [mC,gZ] using FK x hx i h0 h1
theorem nF (x:Nat) (i:Int) (h:i < 0\/31 < i):cZ x i=0:=by simp[cZ,h]
theorem oP (k:Int) (hk:k=0\/k=1\/k=2\/k=3) (x:Nat) (hx:x < 4294967296) (n:Nat):∀ (i:Int),0<=i->i<=31->cZ (qc k n x) i=cZ x (gZ k i n):=by
 induction n with
 | zero =>
  intro i h0 h1
  have e:gZ k i (0:Nat)=i:=by rcases hk with rfl|rfl|rfl|rfl<;>simp[gZ]<;>omega
  rw[e]; rfl
 | succ n ih =>
  intro i h0 h1
  show cZ (mC k (qc k n x)) i=_
  rw[Kb k hk _ (jh k n x hx) i h0 h1]
  by_cases hj:0<=gZ k i 1/\gZ k i 1<=31
  ·rw[ih _ hj.1 hj.2]
   congr 1
   rcases hk with rfl|rfl|rfl|rfl<;>simp only[gZ] at hj ⊢<;>simp at hj ⊢<;>repeat' split
   all_goals omega
  ·rw[nF _ _ (by omega),nF]
   rcases hk with rfl|rfl|rfl|rfl<;>simp only[gZ] at hj ⊢<;>simp at hj ⊢<;>(repeat' split at hj)<;>(repeat' split)
   all_goals omega
theorem FM (k:Int) (hk:k=0\/k=1\/k=2\/k=3) (x:Nat) (hx:x < 4294967296) (n c:Nat) :
  OU k (n+1) x c=if k=0 then cZ x (32 - (n+1:Nat)) else cZ x (gZ k 0 n):=by
 show q_ k (qc k n x)=_
 have hl:=jh k n x hx
 by_cases h:k=0
 ·have hb:=oP k hk x hx n 31 (by omega) (by omega)
  have e:gZ k 31 n=32 - (n+1:Nat):=by simp[gZ,h]; omega
  rw[e] at hb
  rw[if_pos h,← hb]
  simp[q_,h,cZ] at hl ⊢
  subst h
  omega
 ·have hb:=oP k hk x hx n 0 (by omega) (by omega)
  rw[if_neg h,← hb]
  simp[q_,h,cZ]
theorem jG (x:Nat) (i:Nat) (h:i < 32):cZ x i=(x.testBit i).toNat:=by
 rw[Nat.testBit_eq_decide_div_mod_eq]
 simp only[cZ]
 rw[if_neg (by omega)]
 have:x / 2 ^ i % 2=0\/x / 2 ^ i % 2=1:=by omega
 rcases this with h|h<;>simp[h]
theorem wU (x y:Nat) (hx:x < 4294967296) (hy:y < 4294967296) (h:∀ i:Nat,i < 32->cZ x i=cZ y i):x=y:=by
 apply Nat.eq_of_testBit_eq
 intro i
 by_cases hi:i < 32
 ·have:=h i hi
  rw[jG x i hi,jG y i hi] at this
  revert this
  cases x.testBit i<;>cases y.testBit i<;>simp
 ·have hp:(4294967296:Nat)<=2 ^ i:=by
   have:2 ^ 32<=2 ^ i:=Nat.pow_le_pow_right (by omega) (by omega)
   omega
  rw[Nat.testBit_lt_two_pow (by omega),Nat.testBit_lt_two_pow (by omega)]
theorem B7 (y:Nat) (i:Nat) (h:i<=31):y / 2 ^ (i+1)*2+cZ y i=y / 2 ^ i:=by
 simp only[cZ]
 rw[if_neg (by omega)]
 have e:y / 2 ^ (i+1)=y / 2 ^ i / 2:=by rw[Nat.pow_succ,Nat.div_div_eq_div_mul]
 rw[e]
 simp only[Int.toNat_natCast]
 omega
def sgn (x:Int):Int:=if x>=2147483648 then x - 4294967296 else x
def ke (c:Int):Int:=min c 1
def fh (x y c:Int):Int:=(x+y+ke c) % 4294967296
def iR (x y c:Int):Int:=(x+y+ke c) / 4294967296
def mD (x y c:Int):Int:=if sgn x+sgn y+ke c=sgn (fh x y c) then 0 else 1
theorem AI (a b:Nat) (ha:a < 4294967296) (hb:b < 4294967296):(a ^^^ b) / 2147483648=(a / 2147483648+b / 2147483648) % 2:=by
 have h1:(a ^^^ b) / 2 ^ 31=(a / 2 ^ 31) ^^^ (b / 2 ^ 31):=Nat.xor_div_two_pow
 have h2:a / 2147483648 < 2:=by omega
 have h3:b / 2147483648 < 2:=by omega
 have qw:(a ^^^ b) / 2147483648=(a / 2147483648) ^^^ (b / 2147483648):=h1
 rw[qw]
 generalize a / 2147483648=p at *
 generalize b / 2147483648=q at *
 have hp:p=0\/p=1:=by omega
 have hq:q=0\/q=1:=by omega
 rcases hp with rfl|rfl<;>rcases hq with rfl|rfl<;>rfl
theorem Kc (a b:Nat) (ha:a < 4294967296) (hb:b < 4294967296):(a &&& b) / 2147483648=(a / 2147483648)*(b / 2147483648):=by
 have h1:(a &&& b) / 2 ^ 31=(a / 2 ^ 31) &&& (b / 2 ^ 31):=Nat.and_div_two_pow
 have h2:a / 2147483648 < 2:=by omega
 have h3:b / 2147483648 < 2:=by omega
 have qw:(a &&& b) / 2147483648=(a / 2147483648) &&& (b / 2147483648):=h1
 rw[qw]
 generalize a / 2147483648=p at *
 generalize b / 2147483648=q at *
 have hp:p=0\/p=1:=by omega
 have hq:q=0\/q=1:=by omega
 rcases hp with rfl|rfl<;>rcases hq with rfl|rfl<;>rfl
theorem Kd (x y s:Int) (du:0<=x) (hx:x<=4294967295) (me:0<=y) (hy:y<=4294967295) (J2:0<=s) (hs:s<=4294967295) :
  bits .and .u32 (bits .xor .u32 x s) (bits .xor .u32 y s) / 2147483648=((x / 2147483648+s / 2147483648) % 2)*((y / 2147483648+s / 2147483648) % 2):=by
 rw[u32_xor x s du (by omega) J2 (by omega),u32_xor y s me (by omega) J2 (by omega)]
 have l1:x.toNat ^^^ s.toNat < 4294967296:=Nat.xor_lt_two_pow (n:=32) (by omega) (by omega)
 have l2:y.toNat ^^^ s.toNat < 4294967296:=Nat.xor_lt_two_pow (n:=32) (by omega) (by omega)
 rw[u32_and_nat _ _ l1 l2]
 have h:=Kc _ _ l1 l2
 rw[AI _ _ (by omega) (by omega),AI _ _ (by omega) (by omega)] at h
 have e:(((x.toNat ^^^ s.toNat) &&& (y.toNat ^^^ s.toNat):Nat):Int) / 2147483648=((((x.toNat ^^^ s.toNat) &&& (y.toNat ^^^ s.toNat)) / 2147483648:Nat):Int):=by omega
 rw[e,h]
 have ex:((x.toNat / 2147483648:Nat):Int)=x / 2147483648:=by omega
 have ey:((y.toNat / 2147483648:Nat):Int)=y / 2147483648:=by omega
 have es:((s.toNat / 2147483648:Nat):Int)=s / 2147483648:=by omega
 rw[Int.natCast_mul,Int.natCast_emod,Int.natCast_emod,Int.natCast_add,Int.natCast_add,ex,ey,es]
 rfl
theorem Ke (x y c:Int) (qu:0<=c) (du:0<=x) (hx:x<=4294967295) (me:0<=y) (hy:y<=4294967295) :
  bits .and .u32 (bits .xor .u32 x (fh x y c)) (bits .xor .u32 y (fh x y c)) / 2147483648=mD x y c:=by
 rw[Kd x y _ du hx me hy (by unfold fh; omega) (by unfold fh; omega)]
 have hc:ke c=0\/ke c=1:=by unfold ke; omega
 unfold mD fh
 generalize ke c=o at *
 have hs:(x+y+o) % 4294967296 / 2147483648=0\/(x+y+o) % 4294967296 / 2147483648=1:=by omega
 have tz:x / 2147483648=0\/x / 2147483648=1:=by omega
 have BV:y / 2147483648=0\/y / 2147483648=1:=by omega
 rcases hs with hs|hs<;>rcases tz with h1|h1<;>rcases BV with h2|h2<;>rw[hs,h1,h2]<;>simp[sgn]<;>(repeat' split)<;>omega
theorem uZ (x y c:Int):0<=fh x y c/\fh x y c<=4294967295:=by unfold fh; omega
theorem AJ (x y c:Int) (qu:0<=c) (du:0<=x) (hx:x<=4294967295) (me:0<=y) (hy:y<=4294967295):0<=iR x y c/\iR x y c<=1:=by unfold iR ke; omega
theorem Kf (x y c:Int):0<=mD x y c/\mD x y c<=1:=by unfold mD; split<;>omega
theorem and1 (x:Int) (h0:0<=x) (h1:x<=4294967295):bits .and .u32 x 1=x % 2:=by
 rw[u32_and x 1 h0 (by omega) (by omega) (by omega)]
 have e:x.toNat &&& (1:Int).toNat=x.toNat % 2:=nat_mask1 _
 rw[e]; omega
theorem OX (x:Int) (n:Nat) (h0:0<=x) (h1:x<=4294967295):0<=x / 2 ^ n/\x / 2 ^ n<=4294967295:=by
 have hp:(0:Int) < 2 ^ n:=Int.pow_pos (by omega)
 exact⟨Int.ediv_nonneg h0 (by omega),Int.le_trans (Int.ediv_le_self _ h0) h1⟩
theorem FN (a b:Int) (h0:0<=a) (h1:a<=2147483647) (h2:0<=b) (h3:b<=1):bits .or .u32 a (b*2147483648)=a+b*2147483648:=by
 rw[u32_or _ _ h0 (by omega) (by omega) (by omega),Nat.or_comm]
 have e:(b*2147483648).toNat=b.toNat*2 ^ 31:=by omega
 rw[e,nat_join 31 _ _ (by omega) (by omega)]
 omega
theorem gN (x:Nat) (h:x<=4294967295):Lib.bitLen x<=32:=Lib.bitLen_le x 32 (by omega) (by omega)
theorem B8 (y:Nat) (h:y < 4294967296):4294967295 ^^^ y=4294967295 - y:=by
 have e:=congrArg BitVec.toNat (BitVec.allOnes_xor (x:=BitVec.ofNat 32 y))
 rw[BitVec.toNat_xor,BitVec.toNat_not,BitVec.toNat_allOnes,BitVec.toNat_ofNat,Nat.mod_eq_of_lt (by omega)] at e
 exact e
theorem NA (y:Int) (h0:0<=y) (h1:y<=4294967295):bits .xor .u32 IntKind.u32.max y=4294967295 - y:=by
 have e:IntKind.u32.max=4294967295:=by decide
 rw[e,u32_xor _ _ (by omega) (by omega) h0 (by omega)]
 have e2:(4294967295:Int).toNat ^^^ y.toNat=4294967295 - y.toNat:=B8 _ (by omega)
 rw[e2]; omega
end Go.Proofs.YtlgkljpgagfndaaGreatDoor.Rm

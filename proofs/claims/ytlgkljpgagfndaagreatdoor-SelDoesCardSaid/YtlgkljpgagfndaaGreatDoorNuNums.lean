/- What this claim is proved with: no condition. -/
import Derived.Laws.BitsAllLaws
import Derived.Laws.MathBits
import Derived.Lib.BitFns
set_option linter.unusedVariables false
set_option linter.unusedSimpArgs false
namespace Go.Proofs.YtlgkljpgagfndaaGreatDoor.Rm
def nc (k:Int) (x:Nat):Nat :=
 if k=0 then x*2 % 4294967296 else if k=1 then x / 2 else if k=2 then x / 2+x / 2147483648*2147483648 else x / 2+x % 2*2147483648
def sa (k:Int) (x:Nat):Nat:=if k=0 then x / 2147483648 else x % 2
def qO (k:Int):Nat->Nat->Nat
 | 0,x=>x
 | n+1,x=>nc k (qO k n x)
def C7 (k:Int):Nat->Nat->Nat->Nat
 | 0,_,c=>c
 | n+1,x,_=>sa k (qO k n x)
def db (x:Nat) (n:Int):Nat:=if n < 0\/31 < n then 0 else x / 2 ^ n.toNat % 2
def ix (k i n:Int):Int:=if k=0 then i - n else if k=3 then (i+n) % 32 else if 31 < i+n/\k=2 then 31 else i+n
theorem Ln (k:Int) (x:Nat) (h:x < 4294967296):nc k x < 4294967296:=by
 unfold nc; repeat' split
 all_goals omega
theorem Lo (k:Int) (x:Nat) (h:x < 4294967296):sa k x < 2:=by
 unfold sa; split<;>omega
theorem jH (k:Int) (n x:Nat) (h:x < 4294967296):qO k n x < 4294967296:=by
 induction n with
 | zero=>exact h
 | succ n ih=>exact Ln k _ ih
theorem Qt (k:Int) (n x c:Nat) (h:x < 4294967296) (hc:c < 2):C7 k n x c < 2:=by
 cases n with
 | zero=>exact hc
 | succ n=>exact Lo k _ (jH k n x h)
theorem Lp (x:Nat) (n:Int):db x n < 2:=by
 unfold db; split<;>omega
theorem places (i:Int) (h0:0<=i) (h1:i<=31):i=0\/i=1\/i=2\/i=3\/i=4\/i=5\/i=6\/i=7\/i=8\/i=9\/i=10\/i=11\/i=12\/i=13\/i=14\/i=15\/i=16\/i=17\/i=18\/i=19\/i=20\/i=21\/i=22\/i=23\/i=24\/i=25\/i=26\/i=27\/i=28\/i=29\/i=30\/i=31:=by omega
theorem Qu (x:Nat) (i:Int) (h0:0<=i) (h1:i<=31):db (x*2 % 4294967296) i=db x (i - 1):=by
 rcases places i h0 h1 with h|h|h|h|h|h|h|h|h|h|h|h|h|h|h|h|h|h|h|h|h|h|h|h|h|h|h|h|h|h|h|h<;>subst h<;>simp[db]<;>omega
theorem G0 (x:Nat) (hx:x < 4294967296) (i:Int) (h0:0<=i) (h1:i<=31):db (x / 2) i=db x (i+1):=by
 rcases places i h0 h1 with h|h|h|h|h|h|h|h|h|h|h|h|h|h|h|h|h|h|h|h|h|h|h|h|h|h|h|h|h|h|h|h<;>subst h<;>simp[db]<;>omega
theorem G1 (x:Nat) (hx:x < 4294967296) (i:Int) (h0:0<=i) (h1:i<=31):db (x / 2+x / 2147483648*2147483648) i=db x (if 31 < i+1 then 31 else i+1):=by
 rcases places i h0 h1 with h|h|h|h|h|h|h|h|h|h|h|h|h|h|h|h|h|h|h|h|h|h|h|h|h|h|h|h|h|h|h|h<;>subst h<;>simp[db]<;>omega
theorem G2 (x:Nat) (hx:x < 4294967296) (i:Int) (h0:0<=i) (h1:i<=31):db (x / 2+x % 2*2147483648) i=db x ((i+1) % 32):=by
 have hp:x % 2=0\/x % 2=1:=by omega
 rcases hp with hp|hp<;>rw[hp] <;>
 rcases places i h0 h1 with h|h|h|h|h|h|h|h|h|h|h|h|h|h|h|h|h|h|h|h|h|h|h|h|h|h|h|h|h|h|h|h<;>subst h<;>simp[db]<;>omega
theorem Lq (k:Int) (hk:k=0\/k=1\/k=2\/k=3) (x:Nat) (hx:x < 4294967296) (i:Int) (h0:0<=i) (h1:i<=31):db (nc k x) i=db x (ix k i 1):=by
 rcases hk with rfl|rfl|rfl|rfl
 ·simpa [nc,ix] using Qu x i h0 h1
 ·simpa [nc,ix] using G0 x hx i h0 h1
 ·simpa [nc,ix] using G1 x hx i h0 h1
 ·simpa [nc,ix] using G2 x hx i h0 h1
theorem ov (x:Nat) (i:Int) (h:i < 0\/31 < i):db x i=0:=by simp[db,h]
theorem pr (k:Int) (hk:k=0\/k=1\/k=2\/k=3) (x:Nat) (hx:x < 4294967296) (n:Nat):∀ (i:Int),0<=i->i<=31->db (qO k n x) i=db x (ix k i n):=by
 induction n with
 | zero =>
  intro i h0 h1
  have e:ix k i (0:Nat)=i:=by rcases hk with rfl|rfl|rfl|rfl<;>simp[ix]<;>omega
  rw[e]; rfl
 | succ n ih =>
  intro i h0 h1
  show db (nc k (qO k n x)) i=_
  rw[Lq k hk _ (jH k n x hx) i h0 h1]
  by_cases hj:0<=ix k i 1/\ix k i 1<=31
  ·rw[ih _ hj.1 hj.2]
   congr 1
   rcases hk with rfl|rfl|rfl|rfl<;>simp only[ix] at hj ⊢<;>simp at hj ⊢<;>repeat' split
   all_goals omega
  ·rw[ov _ _ (by omega),ov]
   rcases hk with rfl|rfl|rfl|rfl<;>simp only[ix] at hj ⊢<;>simp at hj ⊢<;>(repeat' split at hj)<;>(repeat' split)
   all_goals omega
theorem G3 (k:Int) (hk:k=0\/k=1\/k=2\/k=3) (x:Nat) (hx:x < 4294967296) (n c:Nat) :
  C7 k (n+1) x c=if k=0 then db x (32 - (n+1:Nat)) else db x (ix k 0 n):=by
 show sa k (qO k n x)=_
 have hl:=jH k n x hx
 by_cases h:k=0
 ·have hb:=pr k hk x hx n 31 (by omega) (by omega)
  have e:ix k 31 n=32 - (n+1:Nat):=by simp[ix,h]; omega
  rw[e] at hb
  rw[if_pos h,← hb]
  simp[sa,h,db] at hl ⊢
  subst h
  omega
 ·have hb:=pr k hk x hx n 0 (by omega) (by omega)
  rw[if_neg h,← hb]
  simp[sa,h,db]
theorem j5 (x:Nat) (i:Nat) (h:i < 32):db x i=(x.testBit i).toNat:=by
 rw[Nat.testBit_eq_decide_div_mod_eq]
 simp only[db]
 rw[if_neg (by omega)]
 have:x / 2 ^ i % 2=0\/x / 2 ^ i % 2=1:=by omega
 rcases this with h|h<;>simp[h]
theorem x_ (x y:Nat) (hx:x < 4294967296) (hy:y < 4294967296) (h:∀ i:Nat,i < 32->db x i=db y i):x=y:=by
 apply Nat.eq_of_testBit_eq
 intro i
 by_cases hi:i < 32
 ·have:=h i hi
  rw[j5 x i hi,j5 y i hi] at this
  revert this
  cases x.testBit i<;>cases y.testBit i<;>simp
 ·have hp:(4294967296:Nat)<=2 ^ i:=by
   have:2 ^ 32<=2 ^ i:=Nat.pow_le_pow_right (by omega) (by omega)
   omega
  rw[Nat.testBit_lt_two_pow (by omega),Nat.testBit_lt_two_pow (by omega)]
theorem C8 (y:Nat) (i:Nat) (h:i<=31):y / 2 ^ (i+1)*2+db y i=y / 2 ^ i:=by
 simp only[db]
 rw[if_neg (by omega)]
 have e:y / 2 ^ (i+1)=y / 2 ^ i / 2:=by rw[Nat.pow_succ,Nat.div_div_eq_div_mul]
 rw[e]
 simp only[Int.toNat_natCast]
 omega
def sgn (x:Int):Int:=if x>=2147483648 then x - 4294967296 else x
def kR (c:Int):Int:=min c 1
def fj (x y c:Int):Int:=(x+y+kR c) % 4294967296
def iG (x y c:Int):Int:=(x+y+kR c) / 4294967296
def nf (x y c:Int):Int:=if sgn x+sgn y+kR c=sgn (fj x y c) then 0 else 1
theorem BN (a b:Nat) (ha:a < 4294967296) (hb:b < 4294967296):(a ^^^ b) / 2147483648=(a / 2147483648+b / 2147483648) % 2:=by
 have h1:(a ^^^ b) / 2 ^ 31=(a / 2 ^ 31) ^^^ (b / 2 ^ 31):=Nat.xor_div_two_pow
 have h2:a / 2147483648 < 2:=by omega
 have h3:b / 2147483648 < 2:=by omega
 have rk:(a ^^^ b) / 2147483648=(a / 2147483648) ^^^ (b / 2147483648):=h1
 rw[rk]
 generalize a / 2147483648=p at *
 generalize b / 2147483648=q at *
 have hp:p=0\/p=1:=by omega
 have hq:q=0\/q=1:=by omega
 rcases hp with rfl|rfl<;>rcases hq with rfl|rfl<;>rfl
theorem Lr (a b:Nat) (ha:a < 4294967296) (hb:b < 4294967296):(a &&& b) / 2147483648=(a / 2147483648)*(b / 2147483648):=by
 have h1:(a &&& b) / 2 ^ 31=(a / 2 ^ 31) &&& (b / 2 ^ 31):=Nat.and_div_two_pow
 have h2:a / 2147483648 < 2:=by omega
 have h3:b / 2147483648 < 2:=by omega
 have rk:(a &&& b) / 2147483648=(a / 2147483648) &&& (b / 2147483648):=h1
 rw[rk]
 generalize a / 2147483648=p at *
 generalize b / 2147483648=q at *
 have hp:p=0\/p=1:=by omega
 have hq:q=0\/q=1:=by omega
 rcases hp with rfl|rfl<;>rcases hq with rfl|rfl<;>rfl
theorem Ls (x y s:Int) (dA:0<=x) (hx:x<=4294967295) (mK:0<=y) (hy:y<=4294967295) (Lg:0<=s) (hs:s<=4294967295) :
  bits .and .u32 (bits .xor .u32 x s) (bits .xor .u32 y s) / 2147483648=((x / 2147483648+s / 2147483648) % 2)*((y / 2147483648+s / 2147483648) % 2):=by
 rw[u32_xor x s dA (by omega) Lg (by omega),u32_xor y s mK (by omega) Lg (by omega)]
 have l1:x.toNat ^^^ s.toNat < 4294967296:=Nat.xor_lt_two_pow (n:=32) (by omega) (by omega)
 have l2:y.toNat ^^^ s.toNat < 4294967296:=Nat.xor_lt_two_pow (n:=32) (by omega) (by omega)
 rw[u32_and_nat _ _ l1 l2]
 have h:=Lr _ _ l1 l2
 rw[BN _ _ (by omega) (by omega),BN _ _ (by omega) (by omega)] at h
 have e:(((x.toNat ^^^ s.toNat) &&& (y.toNat ^^^ s.toNat):Nat):Int) / 2147483648=((((x.toNat ^^^ s.toNat) &&& (y.toNat ^^^ s.toNat)) / 2147483648:Nat):Int):=by omega
 rw[e,h]
 have ex:((x.toNat / 2147483648:Nat):Int)=x / 2147483648:=by omega
 have ey:((y.toNat / 2147483648:Nat):Int)=y / 2147483648:=by omega
 have es:((s.toNat / 2147483648:Nat):Int)=s / 2147483648:=by omega
 rw[Int.natCast_mul,Int.natCast_emod,Int.natCast_emod,Int.natCast_add,Int.natCast_add,ex,ey,es]
 rfl
theorem Lt (x y c:Int) (rf:0<=c) (dA:0<=x) (hx:x<=4294967295) (mK:0<=y) (hy:y<=4294967295) :
  bits .and .u32 (bits .xor .u32 x (fj x y c)) (bits .xor .u32 y (fj x y c)) / 2147483648=nf x y c:=by
 rw[Ls x y _ dA hx mK hy (by unfold fj; omega) (by unfold fj; omega)]
 have hc:kR c=0\/kR c=1:=by unfold kR; omega
 unfold nf fj
 generalize kR c=o at *
 have hs:(x+y+o) % 4294967296 / 2147483648=0\/(x+y+o) % 4294967296 / 2147483648=1:=by omega
 have uv:x / 2147483648=0\/x / 2147483648=1:=by omega
 have CV:y / 2147483648=0\/y / 2147483648=1:=by omega
 rcases hs with hs|hs<;>rcases uv with h1|h1<;>rcases CV with h2|h2<;>rw[hs,h1,h2]<;>simp[sgn]<;>(repeat' split)<;>omega
theorem vV (x y c:Int):0<=fj x y c/\fj x y c<=4294967295:=by unfold fj; omega
theorem BO (x y c:Int) (rf:0<=c) (dA:0<=x) (hx:x<=4294967295) (mK:0<=y) (hy:y<=4294967295):0<=iG x y c/\iG x y c<=1:=by unfold iG kR; omega
theorem Lu (x y c:Int):0<=nf x y c/\nf x y c<=1:=by unfold nf; split<;>omega
theorem and1 (x:Int) (h0:0<=x) (h1:x<=4294967295):bits .and .u32 x 1=x % 2:=by
 rw[u32_and x 1 h0 (by omega) (by omega) (by omega)]
 have e:x.toNat &&& (1:Int).toNat=x.toNat % 2:=nat_mask1 _
 rw[e]; omega
theorem Qv (x:Int) (n:Nat) (h0:0<=x) (h1:x<=4294967295):0<=x / 2 ^ n/\x / 2 ^ n<=4294967295:=by
 have hp:(0:Int) < 2 ^ n:=Int.pow_pos (by omega)
 exact⟨Int.ediv_nonneg h0 (by omega),Int.le_trans (Int.ediv_le_self _ h0) h1⟩
theorem G4 (a b:Int) (h0:0<=a) (h1:a<=2147483647) (h2:0<=b) (h3:b<=1):bits .or .u32 a (b*2147483648)=a+b*2147483648:=by
 rw[u32_or _ _ h0 (by omega) (by omega) (by omega),Nat.or_comm]
 have e:(b*2147483648).toNat=b.toNat*2 ^ 31:=by omega
 rw[e,nat_join 31 _ _ (by omega) (by omega)]
 omega
theorem ij (x:Nat) (h:x<=4294967295):Lib.bitLen x<=32:=Lib.bitLen_le x 32 (by omega) (by omega)
theorem C9 (y:Nat) (h:y < 4294967296):4294967295 ^^^ y=4294967295 - y:=by
 have e:=congrArg BitVec.toNat (BitVec.allOnes_xor (x:=BitVec.ofNat 32 y))
 rw[BitVec.toNat_xor,BitVec.toNat_not,BitVec.toNat_allOnes,BitVec.toNat_ofNat,Nat.mod_eq_of_lt (by omega)] at e
 exact e
theorem O8 (y:Int) (h0:0<=y) (h1:y<=4294967295):bits .xor .u32 IntKind.u32.max y=4294967295 - y:=by
 have e:IntKind.u32.max=4294967295:=by decide
 rw[e,u32_xor _ _ (by omega) (by omega) h0 (by omega)]
 have e2:(4294967295:Int).toNat ^^^ y.toNat=4294967295 - y.toNat:=C9 _ (by omega)
 rw[e2]; omega
end Go.Proofs.YtlgkljpgagfndaaGreatDoor.Rm

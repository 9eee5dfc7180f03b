/- What this claim is proved with: no condition. -/
import Derived.Laws.BitsAllLaws
import Derived.Laws.MathBits
import Derived.Lib.BitFns
set_option linter.unusedVariables false
set_option linter.unusedSimpArgs false
namespace Go.Proofs.YtnbhdacpogplgaaGreatDoor.Rm
def jn (k:Int) (x:Nat):Nat :=
 if k=0 then x*2 % 4294967296 else if k=1 then x / 2 else if k=2 then x / 2+x / 2147483648*2147483648 else x / 2+x % 2*2147483648
def nR (k:Int) (x:Nat):Nat:=if k=0 then x / 2147483648 else x % 2
def LV (k:Int):Nat->Nat->Nat
 | 0,x=>x
 | n+1,x=>jn k (LV k n x)
def itC (k:Int):Nat->Nat->Nat->Nat
 | 0,_,c=>c
 | n+1,x,_=>nR k (LV k n x)
def eQ (x:Nat) (n:Int):Nat:=if n < 0\/31 < n then 0 else x / 2 ^ n.toNat % 2
def sV (k i n:Int):Int:=if k=0 then i - n else if k=3 then (i+n) % 32 else if 31 < i+n/\k=2 then 31 else i+n
theorem Qb (k:Int) (x:Nat) (h:x < 4294967296):jn k x < 4294967296:=by
 unfold jn; repeat' split
 all_goals omega
theorem EF (k:Int) (n x:Nat) (h:x < 4294967296):LV k n x < 4294967296:=by
 induction n with
 | zero=>exact h
 | succ n ih=>exact Qb k _ ih
theorem places (i:Int) (h0:0<=i) (h1:i<=31):i=0\/i=1\/i=2\/i=3\/i=4\/i=5\/i=6\/i=7\/i=8\/i=9\/i=10\/i=11\/i=12\/i=13\/i=14\/i=15\/i=16\/i=17\/i=18\/i=19\/i=20\/i=21\/i=22\/i=23\/i=24\/i=25\/i=26\/i=27\/i=28\/i=29\/i=30\/i=31:=by omega
theorem Us (x:Nat) (i:Int) (h0:0<=i) (h1:i<=31):eQ (x*2 % 4294967296) i=eQ x (i - 1):=by
 rcases places i h0 h1 with h|h|h|h|h|h|h|h|h|h|h|h|h|h|h|h|h|h|h|h|h|h|h|h|h|h|h|h|h|h|h|h<;>subst h<;>simp[eQ]<;>omega
theorem LW (x:Nat) (hx:x < 4294967296) (i:Int) (h0:0<=i) (h1:i<=31):eQ (x / 2) i=eQ x (i+1):=by
 rcases places i h0 h1 with h|h|h|h|h|h|h|h|h|h|h|h|h|h|h|h|h|h|h|h|h|h|h|h|h|h|h|h|h|h|h|h<;>subst h<;>simp[eQ]<;>omega
theorem LX (x:Nat) (hx:x < 4294967296) (i:Int) (h0:0<=i) (h1:i<=31):eQ (x / 2+x / 2147483648*2147483648) i=eQ x (if 31 < i+1 then 31 else i+1):=by
 rcases places i h0 h1 with h|h|h|h|h|h|h|h|h|h|h|h|h|h|h|h|h|h|h|h|h|h|h|h|h|h|h|h|h|h|h|h<;>subst h<;>simp[eQ]<;>omega
theorem LY (x:Nat) (hx:x < 4294967296) (i:Int) (h0:0<=i) (h1:i<=31):eQ (x / 2+x % 2*2147483648) i=eQ x ((i+1) % 32):=by
 have hp:x % 2=0\/x % 2=1:=by omega
 rcases hp with hp|hp<;>rw[hp] <;>
 rcases places i h0 h1 with h|h|h|h|h|h|h|h|h|h|h|h|h|h|h|h|h|h|h|h|h|h|h|h|h|h|h|h|h|h|h|h<;>subst h<;>simp[eQ]<;>omega
theorem Qc (k:Int) (hk:k=0\/k=1\/k=2\/k=3) (x:Nat) (hx:x < 4294967296) (i:Int) (h0:0<=i) (h1:i<=31):eQ (jn k x) i=eQ x (sV k i 1):=by
 rcases hk with rfl|rfl|rfl|rfl
 ·simpa [jn,sV] using Us x i h0 h1
 ·simpa [jn,sV] using LW x hx i h0 h1
 ·simpa [jn,sV] using LX x hx i h0 h1
 ·simpa [jn,sV] using LY x hx i h0 h1
theorem B7 (x:Nat) (i:Int) (h:i < 0\/31 < i):eQ x i=0:=by simp[eQ,h]
theorem Ut (k:Int) (hk:k=0\/k=1\/k=2\/k=3) (x:Nat) (hx:x < 4294967296) (n:Nat):∀ (i:Int),0<=i->i<=31->eQ (LV k n x) i=eQ x (sV k i n):=by
 induction n with
 | zero =>
  intro i h0 h1
  have e:sV k i (0:Nat)=i:=by rcases hk with rfl|rfl|rfl|rfl<;>simp[sV]<;>omega
  rw[e]; rfl
 | succ n ih =>
  intro i h0 h1
  show eQ (jn k (LV k n x)) i=_
  rw[Qc k hk _ (EF k n x hx) i h0 h1]
  by_cases hj:0<=sV k i 1/\sV k i 1<=31
  ·rw[ih _ hj.1 hj.2]
   congr 1
   rcases hk with rfl|rfl|rfl|rfl<;>simp only[sV] at hj ⊢<;>simp at hj ⊢<;>repeat' split
   all_goals omega
  ·rw[B7 _ _ (by omega),B7]
   rcases hk with rfl|rfl|rfl|rfl<;>simp only[sV] at hj ⊢<;>simp at hj ⊢<;>(repeat' split at hj)<;>(repeat' split)
   all_goals omega
theorem lS (x:Nat) (i:Nat) (h:i < 32):eQ x i=(x.testBit i).toNat:=by
 rw[Nat.testBit_eq_decide_div_mod_eq]
 simp only[eQ]
 rw[if_neg (by omega)]
 have:x / 2 ^ i % 2=0\/x / 2 ^ i % 2=1:=by omega
 rcases this with h|h<;>simp[h]
theorem LZ (x y:Nat) (hx:x < 4294967296) (hy:y < 4294967296) (h:∀ i:Nat,i < 32->eQ x i=eQ y i):x=y:=by
 apply Nat.eq_of_testBit_eq
 intro i
 by_cases hi:i < 32
 ·have:=h i hi
  rw[lS x i hi,lS y i hi] at this
  revert this
  cases x.testBit i<;>cases y.testBit i<;>simp
 ·have hp:(4294967296:Nat)<=2 ^ i:=by
   have:2 ^ 32<=2 ^ i:=Nat.pow_le_pow_right (by omega) (by omega)
   omega
  rw[Nat.testBit_lt_two_pow (by omega),Nat.testBit_lt_two_pow (by omega)]
theorem and1 (x:Int) (h0:0<=x) (h1:x<=4294967295):bits .and .u32 x 1=x % 2:=by
 rw[u32_and x 1 h0 (by omega) (by omega) (by omega)]
 have e:x.toNat &&& (1:Int).toNat=x.toNat % 2:=nat_mask1 _
 rw[e]; omega
theorem Uu (x:Int) (n:Nat) (h0:0<=x) (h1:x<=4294967295):0<=x / 2 ^ n/\x / 2 ^ n<=4294967295:=by
 have hp:(0:Int) < 2 ^ n:=Int.pow_pos (by omega)
 exact⟨Int.ediv_nonneg h0 (by omega),Int.le_trans (Int.ediv_le_self _ h0) h1⟩
theorem L0 (a b:Int) (h0:0<=a) (h1:a<=2147483647) (h2:0<=b) (h3:b<=1):bits .or .u32 a (b*2147483648)=a+b*2147483648:=by
 rw[u32_or _ _ h0 (by omega) (by omega) (by omega),Nat.or_comm]
 have e:(b*2147483648).toNat=b.toNat*2 ^ 31:=by omega
 rw[e,nat_join 31 _ _ (by omega) (by omega)]
 omega
theorem B8 (x:Nat) (h:x<=4294967295):Lib.bitLen x<=32:=Lib.bitLen_le x 32 (by omega) (by omega)
theorem Ip (y:Nat) (h:y < 4294967296):4294967295 ^^^ y=4294967295 - y:=by
 have e:=congrArg BitVec.toNat (BitVec.allOnes_xor (x:=BitVec.ofNat 32 y))
 rw[BitVec.toNat_xor,BitVec.toNat_not,BitVec.toNat_allOnes,BitVec.toNat_ofNat,Nat.mod_eq_of_lt (by omega)] at e
 exact e
theorem not32 (y:Int) (h0:0<=y) (h1:y<=4294967295):bits .xor .u32 IntKind.u32.max y=4294967295 - y:=by
 have e:IntKind.u32.max=4294967295:=by decide
 rw[e,u32_xor _ _ (by omega) (by omega) h0 (by omega)]
 have e2:(4294967295:Int).toNat ^^^ y.toNat=4294967295 - y.toNat:=Ip _ (by omega)
 rw[e2]; omega
end Go.Proofs.YtnbhdacpogplgaaGreatDoor.Rm

/- What this claim is proved with: no condition. -/
import Derived.Test.YtnbhdacpogplgaaGreatDoorPnNumsI
import Derived.IntWalk
set_option linter.unusedVariables false
set_option linter.unusedSimpArgs false
namespace Go.Proofs.YtnbhdacpogplgaaGreatDoor.Rm
def hU (n:Int):Int:=if n < 0\/4095 < n then 0 else (((lN n.toNat).getD 0:Nat):Int)
def fU (n:Int):Int:=if n < 0\/4095 < n then 11 else if (lN n.toNat).isSome then 0 else 20
theorem zJ (a b:Nat) (ha:a < 9223372036854775808) (hb:b < 9223372036854775808):bits .and .i64 (a:Int) (b:Int)=((a &&& b:Nat):Int):=by
 have hx:a &&& b < 2 ^ 63:=Nat.and_lt_two_pow _ (by omega)
 have e:∀ c:Nat,c < 9223372036854775808->(BitVec.ofInt 64 (c:Int)).toNat=c:=fun c hc=>by
  rw[BitVec.ofInt_natCast,BitVec.toNat_ofNat]; exact Nat.mod_eq_of_lt (by omega)
 show IntKind.i64.wrap ((BitVec.ofInt 64 (a:Int) &&& BitVec.ofInt 64 (b:Int)).toNat:Int)=_
 rw[BitVec.toNat_and,e a ha,e b hb,IntKind.wrap_i64]
 omega
theorem l7 (a b:Nat) (ha:a < 9223372036854775808) (hb:b < 9223372036854775808):bits .or .i64 (a:Int) (b:Int)=((a ||| b:Nat):Int):=by
 have hx:a ||| b < 2 ^ 63:=Nat.or_lt_two_pow (by omega) (by omega)
 have e:∀ c:Nat,c < 9223372036854775808->(BitVec.ofInt 64 (c:Int)).toNat=c:=fun c hc=>by
  rw[BitVec.ofInt_natCast,BitVec.toNat_ofNat]; exact Nat.mod_eq_of_lt (by omega)
 show IntKind.i64.wrap ((BitVec.ofInt 64 (a:Int) ||| BitVec.ofInt 64 (b:Int)).toNat:Int)=_
 rw[BitVec.toNat_or,e a ha,e b hb,IntKind.wrap_i64]
 omega
theorem rT (n:Int) (h0:0<=n) (h1:n<=4294967295) (k m:Nat) (WU:k=m+1) (hm:m < 4294967296) (h:∀ x:Nat,x &&& m=x % k):bits .and .i64 n (m:Int)=n % (k:Int):=by
 have e:n=(n.toNat:Int):=by omega
 rw[e,zJ _ _ (by omega) (by omega),h,Int.natCast_emod]
theorem bG (a b:Int) (i:Nat) (F9:0<=a) (MD:a<=4294967295) (ee:0<=b) (hb:b < 2 ^ i) (hd:a % 2 ^ i=0) (hi:i<=32):bits .or .i64 a b=a+b:=by
 have hp:(2:Int) ^ i<=4294967296:=by
  have:(2:Nat) ^ i<=2 ^ 32:=Nat.pow_le_pow_right (by omega) hi
  have h2:((2 ^ i:Nat):Int)<=((2 ^ 32:Nat):Int):=by exact_mod_cast this
  simpa using h2
 have ea:a=(a.toNat:Int):=by omega
 have eb:b=(b.toNat:Int):=by omega
 rw[ea,eb,l7 _ _ (by omega) (by omega)]
 have h1:a.toNat % 2 ^ i=0:=by
  have:((a.toNat % 2 ^ i:Nat):Int)=0:=by rw[Int.natCast_emod,← ea]; simpa using hd
  omega
 have h2:b.toNat < 2 ^ i:=by
  have:((b.toNat:Nat):Int) < ((2 ^ i:Nat):Int):=by rw[← eb]; simpa using hb
  omega
 rw[nat_join i _ _ h1 h2]
 rfl
theorem CN (n:Int):bits .or .i64 (n % 128) 128=n % 128+128:=by
 have e:n % 128=((n % 128).toNat:Int):=by omega
 rw[e]
 have h:=l7 (n % 128).toNat 128 (by omega) (by omega)
 rw[Nat.or_comm] at h
 have h2:128 ||| (n % 128).toNat=128+(n % 128).toNat:=nat_join 7 128 (n % 128).toNat (by decide) (by omega)
 rw[h2] at h
 have h3:((128:Nat):Int)=128:=rfl
 rw[h3] at h
 rw[h]
 omega
theorem ka (n:Int) (i:Nat) (f:Int) (h0:0<=n) (hi:i < 4) (hq:n / 256=(i:Int)) (hf:(RD i:Int)=f) (h:i=0\/n % 256≠0):lN n.toNat=some (n % 256*f).toNat:=by
 unfold lN
 rw[if_neg (by omega),if_neg (by omega),show n.toNat / 256=i by omega]
 congr 1
 have e:n % 256*f=((n.toNat % 256*RD i:Nat):Int):=by rw[Int.natCast_mul,hf]; congr 1; omega
 rw[e]; rfl
theorem wL (n:Int) (h0:256<=n) (h1:n < 1024) (h:n % 256=0):lN n.toNat=none:=by
 unfold lN
 rw[if_neg (by omega),if_pos (by omega)]
theorem eT (n:Int) (x:Nat) (h0:0<=n) (h1:n<=4095) (h:lN n.toNat=some x):hU n=(x:Int):=by unfold hU; rw[if_neg (by omega),h]; rfl
theorem eU (n:Int) (x:Nat) (h0:0<=n) (h1:n<=4095) (h:lN n.toNat=some x):fU n=0:=by unfold fU; rw[if_neg (by omega),h]; rfl
theorem t_ (n:Int) (h0:0<=n) (h1:n<=4095) (h:lN n.toNat=none):hU n=0:=by unfold hU; rw[if_neg (by omega),h]; rfl
theorem ua (n:Int) (h0:0<=n) (h1:n<=4095) (h:lN n.toNat=none):fU n=20:=by unfold fU; rw[if_neg (by omega),h]; rfl
theorem oI (x:Int) (h0:0<=x) (h1:x<=4294967295):bits .and .u32 x 255=x % 256:=by
 rw[u32_and x 255 h0 (by omega) (by omega) (by omega)]
 have e:x.toNat &&& (255:Int).toNat=x.toNat % 256:=nat_mask8 _
 rw[e]; omega
end Go.Proofs.YtnbhdacpogplgaaGreatDoor.Rm

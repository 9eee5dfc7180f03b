/- What this claim is proved with: no condition. -/
import Derived.Test.YtbnoodjnpooocaaGreatDoorNwNumsI
import Derived.IntWalk
set_option linter.unusedVariables false
set_option linter.unusedSimpArgs false
namespace Go.Proofs.YtbnoodjnpooocaaGreatDoor.Rm
def gZ (n:Int):Int:=if n < 0\/4095 < n then 0 else (((nX n.toNat).getD 0:Nat):Int)
def fU (n:Int):Int:=if n < 0\/4095 < n then 11 else if (nX n.toNat).isSome then 0 else 20
theorem J5 (a b:Nat) (ha:a < 9223372036854775808) (hb:b < 9223372036854775808):bits .and .i64 (a:Int) (b:Int)=((a &&& b:Nat):Int):=by
 have hx:a &&& b < 2 ^ 63:=Nat.and_lt_two_pow _ (by omega)
 have e:∀ c:Nat,c < 9223372036854775808->(BitVec.ofInt 64 (c:Int)).toNat=c:=fun c hc=>by
  rw[BitVec.ofInt_natCast,BitVec.toNat_ofNat]; exact Nat.mod_eq_of_lt (by omega)
 show IntKind.i64.wrap ((BitVec.ofInt 64 (a:Int) &&& BitVec.ofInt 64 (b:Int)).toNat:Int)=_
 rw[BitVec.toNat_and,e a ha,e b hb,IntKind.wrap_i64]
 omega
theorem sr (a b:Nat) (ha:a < 9223372036854775808) (hb:b < 9223372036854775808):bits .or .i64 (a:Int) (b:Int)=((a ||| b:Nat):Int):=by
 have hx:a ||| b < 2 ^ 63:=Nat.or_lt_two_pow (by omega) (by omega)
 have e:∀ c:Nat,c < 9223372036854775808->(BitVec.ofInt 64 (c:Int)).toNat=c:=fun c hc=>by
  rw[BitVec.ofInt_natCast,BitVec.toNat_ofNat]; exact Nat.mod_eq_of_lt (by omega)
 show IntKind.i64.wrap ((BitVec.ofInt 64 (a:Int) ||| BitVec.ofInt 64 (b:Int)).toNat:Int)=_
 rw[BitVec.toNat_or,e a ha,e b hb,IntKind.wrap_i64]
 omega
theorem Al (n:Int) (h0:0<=n) (h1:n<=4294967295) (k m:Nat) (_hk:k=m+1) (hm:m < 4294967296) (h:∀ x:Nat,x &&& m=x % k):bits .and .i64 n (m:Int)=n % (k:Int):=by
 have e:n=(n.toNat:Int):=by omega
 rw[e,J5 _ _ (by omega) (by omega),h,Int.natCast_emod]
theorem dm (a b:Int) (i:Nat) (ha0:0<=a) (ha1:a<=4294967295) (gE:0<=b) (hb:b < 2 ^ i) (hd:a % 2 ^ i=0) (hi:i<=32):bits .or .i64 a b=a+b:=by
 have hp:(2:Int) ^ i<=4294967296:=by
  have:(2:Nat) ^ i<=2 ^ 32:=Nat.pow_le_pow_right (by omega) hi
  have h2:((2 ^ i:Nat):Int)<=((2 ^ 32:Nat):Int):=by exact_mod_cast this
  simpa using h2
 have ea:a=(a.toNat:Int):=by omega
 have eb:b=(b.toNat:Int):=by omega
 rw[ea,eb,sr _ _ (by omega) (by omega)]
 have h1:a.toNat % 2 ^ i=0:=by
  have:((a.toNat % 2 ^ i:Nat):Int)=0:=by rw[Int.natCast_emod,← ea]; simpa using hd
  omega
 have h2:b.toNat < 2 ^ i:=by
  have:((b.toNat:Nat):Int) < ((2 ^ i:Nat):Int):=by rw[← eb]; simpa using hb
  omega
 rw[nat_join i _ _ h1 h2]
 rfl
theorem N_ (n:Int):bits .or .i64 (n % 128) 128=n % 128+128:=by
 have e:n % 128=((n % 128).toNat:Int):=by omega
 rw[e]
 have h:=sr (n % 128).toNat 128 (by omega) (by omega)
 rw[Nat.or_comm] at h
 have h2:128 ||| (n % 128).toNat=128+(n % 128).toNat:=nat_join 7 128 (n % 128).toNat (by decide) (by omega)
 rw[h2] at h
 have h3:((128:Nat):Int)=128:=rfl
 rw[h3] at h
 rw[h]
 omega
theorem pH (n:Int) (i:Nat) (f:Int) (h0:0<=n) (hi:i < 4) (hq:n / 256=(i:Int)) (hf:(fac i:Int)=f) (h:i=0\/n % 256≠0):nX n.toNat=some (n % 256*f).toNat:=by
 unfold nX
 rw[if_neg (by omega),if_neg (by omega),show n.toNat / 256=i by omega]
 congr 1
 have e:n % 256*f=((n.toNat % 256*fac i:Nat):Int):=by rw[Int.natCast_mul,hf]; congr 1; omega
 rw[e]; rfl
theorem FF (n:Int) (h0:256<=n) (h1:n < 1024) (h:n % 256=0):nX n.toNat=none:=by
 unfold nX
 rw[if_neg (by omega),if_pos (by omega)]
theorem jE (n:Int) (x:Nat) (h0:0<=n) (h1:n<=4095) (h:nX n.toNat=some x):gZ n=(x:Int):=by unfold gZ; rw[if_neg (by omega),h]; rfl
theorem jF (n:Int) (x:Nat) (h0:0<=n) (h1:n<=4095) (h:nX n.toNat=some x):fU n=0:=by unfold fU; rw[if_neg (by omega),h]; rfl
theorem Ce (n:Int) (h0:0<=n) (h1:n<=4095) (h:nX n.toNat=none):gZ n=0:=by unfold gZ; rw[if_neg (by omega),h]; rfl
theorem Cf (n:Int) (h0:0<=n) (h1:n<=4095) (h:nX n.toNat=none):fU n=20:=by unfold fU; rw[if_neg (by omega),h]; rfl
theorem ub (n:Int):0<=gZ n/\gZ n<=4294967295:=by
 unfold gZ
 split
 ·omega
 ·cases h:nX n.toNat with
  | none=>simp
  | some x=>have:=N' _ _ h; simp; omega
def iT (n c:Int):Int:=if fU n=0 then (if n < 1024 then min c 1 else gZ n / 2147483648) else 0
theorem Cg (n:Int) (h:fU n=0):0<=n/\n<=4095:=by
 unfold fU at h
 split at h
 ·omega
 ·omega
theorem qB (x:Int) (h0:0<=x) (h1:x<=4294967295):bits .and .u32 x 255=x % 256:=by
 rw[u32_and x 255 h0 (by omega) (by omega) (by omega)]
 have e:x.toNat &&& (255:Int).toNat=x.toNat % 256:=nat_mask8 _
 rw[e]; omega
end Go.Proofs.YtbnoodjnpooocaaGreatDoor.Rm

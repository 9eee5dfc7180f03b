/- What this claim is proved with: no condition. -/
import Derived.Test.YtnbhdacpogplgaaGreatDoorPvNumsI
import Derived.IntWalk
set_option linter.unusedVariables false
set_option linter.unusedSimpArgs false
namespace Go.Proofs.YtnbhdacpogplgaaGreatDoor.Rm
def nS (n:Int):Int:=if n < 0\/4095 < n then 0 else (((uy n.toNat).getD 0:Nat):Int)
def lT (n:Int):Int:=if n < 0\/4095 < n then 11 else if (uy n.toNat).isSome then 0 else 20
theorem L3 (a b:Nat) (ha:a < 9223372036854775808) (hb:b < 9223372036854775808):bits .and .i64 (a:Int) (b:Int)=((a &&& b:Nat):Int):=by
 have hx:a &&& b < 2 ^ 63:=Nat.and_lt_two_pow _ (by omega)
 have e:∀ c:Nat,c < 9223372036854775808->(BitVec.ofInt 64 (c:Int)).toNat=c:=fun c hc=>by
  rw[BitVec.ofInt_natCast,BitVec.toNat_ofNat]; exact Nat.mod_eq_of_lt (by omega)
 show IntKind.i64.wrap ((BitVec.ofInt 64 (a:Int) &&& BitVec.ofInt 64 (b:Int)).toNat:Int)=_
 rw[BitVec.toNat_and,e a ha,e b hb,IntKind.wrap_i64]
 omega
theorem uS (a b:Nat) (ha:a < 9223372036854775808) (hb:b < 9223372036854775808):bits .or .i64 (a:Int) (b:Int)=((a ||| b:Nat):Int):=by
 have hx:a ||| b < 2 ^ 63:=Nat.or_lt_two_pow (by omega) (by omega)
 have e:∀ c:Nat,c < 9223372036854775808->(BitVec.ofInt 64 (c:Int)).toNat=c:=fun c hc=>by
  rw[BitVec.ofInt_natCast,BitVec.toNat_ofNat]; exact Nat.mod_eq_of_lt (by omega)
 show IntKind.i64.wrap ((BitVec.ofInt 64 (a:Int) ||| BitVec.ofInt 64 (b:Int)).toNat:Int)=_
 rw[BitVec.toNat_or,e a ha,e b hb,IntKind.wrap_i64]
 omega
theorem B9 (n:Int) (h0:0<=n) (h1:n<=4294967295) (k m:Nat) (_hk:k=m+1) (hm:m < 4294967296) (h:∀ x:Nat,x &&& m=x % k):bits .and .i64 n (m:Int)=n % (k:Int):=by
 have e:n=(n.toNat:Int):=by omega
 rw[e,L3 _ _ (by omega) (by omega),h,Int.natCast_emod]
theorem cY (a b:Int) (i:Nat) (LS:0<=a) (SR:a<=4294967295) (jL:0<=b) (hb:b < 2 ^ i) (hd:a % 2 ^ i=0) (hi:i<=32):bits .or .i64 a b=a+b:=by
 have hp:(2:Int) ^ i<=4294967296:=by
  have:(2:Nat) ^ i<=2 ^ 32:=Nat.pow_le_pow_right (by omega) hi
  have h2:((2 ^ i:Nat):Int)<=((2 ^ 32:Nat):Int):=by exact_mod_cast this
  simpa using h2
 have ea:a=(a.toNat:Int):=by omega
 have eb:b=(b.toNat:Int):=by omega
 rw[ea,eb,uS _ _ (by omega) (by omega)]
 have h1:a.toNat % 2 ^ i=0:=by
  have:((a.toNat % 2 ^ i:Nat):Int)=0:=by rw[Int.natCast_emod,← ea]; simpa using hd
  omega
 have h2:b.toNat < 2 ^ i:=by
  have:((b.toNat:Nat):Int) < ((2 ^ i:Nat):Int):=by rw[← eb]; simpa using hb
  omega
 rw[nat_join i _ _ h1 h2]
 rfl
theorem Qf (n:Int):bits .or .i64 (n % 128) 128=n % 128+128:=by
 have e:n % 128=((n % 128).toNat:Int):=by omega
 rw[e]
 have h:=uS (n % 128).toNat 128 (by omega) (by omega)
 rw[Nat.or_comm] at h
 have h2:128 ||| (n % 128).toNat=128+(n % 128).toNat:=nat_join 7 128 (n % 128).toNat (by decide) (by omega)
 rw[h2] at h
 have h3:((128:Nat):Int)=128:=rfl
 rw[h3] at h
 rw[h]
 omega
theorem rh (n:Int) (i:Nat) (f:Int) (h0:0<=n) (hi:i < 4) (hq:n / 256=(i:Int)) (hf:(fac i:Int)=f) (h:i=0\/n % 256≠0):uy n.toNat=some (n % 256*f).toNat:=by
 unfold uy
 rw[if_neg (by omega),if_neg (by omega),show n.toNat / 256=i by omega]
 congr 1
 have e:n % 256*f=((n.toNat % 256*fac i:Nat):Int):=by rw[Int.natCast_mul,hf]; congr 1; omega
 rw[e]; rfl
theorem Ir (n:Int) (h0:256<=n) (h1:n < 1024) (h:n % 256=0):uy n.toNat=none:=by
 unfold uy
 rw[if_neg (by omega),if_pos (by omega)]
theorem kp (n:Int) (x:Nat) (h0:0<=n) (h1:n<=4095) (h:uy n.toNat=some x):nS n=(x:Int):=by unfold nS; rw[if_neg (by omega),h]; rfl
theorem kr (n:Int) (x:Nat) (h0:0<=n) (h1:n<=4095) (h:uy n.toNat=some x):lT n=0:=by unfold lT; rw[if_neg (by omega),h]; rfl
theorem EG (n:Int) (h0:0<=n) (h1:n<=4095) (h:uy n.toNat=none):nS n=0:=by unfold nS; rw[if_neg (by omega),h]; rfl
theorem EH (n:Int) (h0:0<=n) (h1:n<=4095) (h:uy n.toNat=none):lT n=20:=by unfold lT; rw[if_neg (by omega),h]; rfl
theorem yF (x:Int) (h0:0<=x) (h1:x<=4294967295):bits .and .u32 x 255=x % 256:=by
 rw[u32_and x 255 h0 (by omega) (by omega) (by omega)]
 have e:x.toNat &&& (255:Int).toNat=x.toNat % 256:=nat_mask8 _
 rw[e]; omega
end Go.Proofs.YtnbhdacpogplgaaGreatDoor.Rm

/- What this claim is proved with: no condition. -/
import Derived.Test.YtlgkljpgagfndaaGreatDoorNvNumsI
import Derived.IntWalk
set_option linter.unusedVariables false
set_option linter.unusedSimpArgs false
namespace Go.Proofs.YtlgkljpgagfndaaGreatDoor.Rm
theorem er (x b:Int) (i:Nat) (f:Int) (hi:(Ei i:Int)=f) (hf:f<=16843009) (du:0<=x) (dF:x<=4294967295) (gq:0<=b) (U_:b<=255):pS x.toNat i b.toNat=true↔b*f=x/\(i=0\/b≠0):=by
 simp only[pS,Bool.and_eq_true,beq_iff_eq,Bool.or_eq_true,bne_iff_ne,ne_eq]
 have hm:b.toNat*Ei i<=255*16843009:=Nat.mul_le_mul (by omega) (by omega)
 rw[Nat.mod_eq_of_lt (by omega)]
 have e:b*f=((b.toNat*Ei i:Nat):Int):=by rw[Int.natCast_mul,hi]; congr 1; omega
 rw[e]
 omega
def pT (x:Int):Option Int :=
 if x % 256=x then some (x % 256) else if x / 256 % 256=x then some (x / 256 % 256)
 else if x % 256*65537=x then some (256+x % 256) else if x / 256 % 256*65537=x then some (256+x / 256 % 256)
 else if x % 256*16777472=x then some (512+x % 256) else if x / 256 % 256*16777472=x then some (512+x / 256 % 256)
 else if x % 256*16843009=x then some (768+x % 256) else if x / 256 % 256*16843009=x then some (768+x / 256 % 256)
 else none
theorem AL (x:Int) (du:0<=x) (dF:x<=4294967295):(rep x.toNat).map (fun n:Nat=>(n:Int))=pT x:=by
 have l1:x.toNat % 256=(x % 256).toNat:=by omega
 have l2:x.toNat / 256 % 256=(x / 256 % 256).toNat:=by omega
 have b1:0<=x % 256/\x % 256<=255:=by omega
 have b2:0<=x / 256 % 256/\x / 256 % 256<=255:=by omega
 have c1:(((x % 256).toNat:Nat):Int)=x % 256:=by omega
 have c2:(((x / 256 % 256).toNat:Nat):Int)=x / 256 % 256:=by omega
 unfold rep pT
 rw[l1,l2]
 by_cases h0:x % 256=x
 ·rw[if_pos ((er x _ 0 1 rfl (by omega) du dF b1.1 b1.2).2 ⟨by omega,.inl rfl⟩),if_pos h0]; simp[c1]
 rw[if_neg (fun h=>h0 (by have:=((er x _ 0 1 rfl (by omega) du dF b1.1 b1.2).1 h).1; omega)),if_neg h0]
 have hx:x≠0:=by rintro rfl; exact h0 rfl
 by_cases h1:x / 256 % 256=x
 ·rw[if_pos ((er x _ 0 1 rfl (by omega) du dF b2.1 b2.2).2 ⟨by omega,.inl rfl⟩),if_pos h1]; simp[c2]
 rw[if_neg (fun h=>h1 (by have:=((er x _ 0 1 rfl (by omega) du dF b2.1 b2.2).1 h).1; omega)),if_neg h1]
 clear h0 h1
 generalize x % 256=p at *
 generalize x / 256 % 256=q at *
 by_cases h:p*65537=x
 ·rw[if_pos ((er x _ 1 65537 rfl (by omega) du dF b1.1 b1.2).2 ⟨h,by omega⟩),if_pos h]; simp[c1]
 rw[if_neg (fun g=>h ((er x _ 1 65537 rfl (by omega) du dF b1.1 b1.2).1 g).1),if_neg h]
 clear h
 by_cases h:q*65537=x
 ·rw[if_pos ((er x _ 1 65537 rfl (by omega) du dF b2.1 b2.2).2 ⟨h,by omega⟩),if_pos h]; simp[c2]
 rw[if_neg (fun g=>h ((er x _ 1 65537 rfl (by omega) du dF b2.1 b2.2).1 g).1),if_neg h]
 clear h
 by_cases h:p*16777472=x
 ·rw[if_pos ((er x _ 2 16777472 rfl (by omega) du dF b1.1 b1.2).2 ⟨h,by omega⟩),if_pos h]; simp[c1]
 rw[if_neg (fun g=>h ((er x _ 2 16777472 rfl (by omega) du dF b1.1 b1.2).1 g).1),if_neg h]
 clear h
 by_cases h:q*16777472=x
 ·rw[if_pos ((er x _ 2 16777472 rfl (by omega) du dF b2.1 b2.2).2 ⟨h,by omega⟩),if_pos h]; simp[c2]
 rw[if_neg (fun g=>h ((er x _ 2 16777472 rfl (by omega) du dF b2.1 b2.2).1 g).1),if_neg h]
 clear h
 by_cases h:p*16843009=x
 ·rw[if_pos ((er x _ 3 16843009 rfl (by omega) du dF b1.1 b1.2).2 ⟨h,by omega⟩),if_pos h]; simp[c1]
 rw[if_neg (fun g=>h ((er x _ 3 16843009 rfl (by omega) du dF b1.1 b1.2).1 g).1),if_neg h]
 clear h
 by_cases h:q*16843009=x
 ·rw[if_pos ((er x _ 3 16843009 rfl (by omega) du dF b2.1 b2.2).2 ⟨h,by omega⟩),if_pos h]; simp[c2]
 rw[if_neg (fun g=>h ((er x _ 3 16843009 rfl (by omega) du dF b2.1 b2.2).1 g).1),if_neg h]
 rfl
def eG (n:Int):Int:=if n < 0\/4095 < n then 0 else (((iS n.toNat).getD 0:Nat):Int)
def dz (n:Int):Int:=if n < 0\/4095 < n then 11 else if (iS n.toNat).isSome then 0 else 20
def ot (x:Int):Int:=(((dec x.toNat).getD 0:Nat):Int)
def kv (x:Int):Int:=if (dec x.toNat).isSome then 0 else 20
def ofM (x:Int):Int:=if (dec x.toNat).isSome then ot x else -1
theorem FR (a b:Nat) (ha:a < 9223372036854775808) (hb:b < 9223372036854775808):bits .and .i64 (a:Int) (b:Int)=((a &&& b:Nat):Int):=by
 have hx:a &&& b < 2 ^ 63:=Nat.and_lt_two_pow _ (by omega)
 have e:∀ c:Nat,c < 9223372036854775808->(BitVec.ofInt 64 (c:Int)).toNat=c:=fun c hc=>by
  rw[BitVec.ofInt_natCast,BitVec.toNat_ofNat]; exact Nat.mod_eq_of_lt (by omega)
 show IntKind.i64.wrap ((BitVec.ofInt 64 (a:Int) &&& BitVec.ofInt 64 (b:Int)).toNat:Int)=_
 rw[BitVec.toNat_and,e a ha,e b hb,IntKind.wrap_i64]
 omega
theorem qd (a b:Nat) (ha:a < 9223372036854775808) (hb:b < 9223372036854775808):bits .or .i64 (a:Int) (b:Int)=((a ||| b:Nat):Int):=by
 have hx:a ||| b < 2 ^ 63:=Nat.or_lt_two_pow (by omega) (by omega)
 have e:∀ c:Nat,c < 9223372036854775808->(BitVec.ofInt 64 (c:Int)).toNat=c:=fun c hc=>by
  rw[BitVec.ofInt_natCast,BitVec.toNat_ofNat]; exact Nat.mod_eq_of_lt (by omega)
 show IntKind.i64.wrap ((BitVec.ofInt 64 (a:Int) ||| BitVec.ofInt 64 (b:Int)).toNat:Int)=_
 rw[BitVec.toNat_or,e a ha,e b hb,IntKind.wrap_i64]
 omega
theorem wX (n:Int) (h0:0<=n) (h1:n<=4294967295) (k m:Nat) (_hk:k=m+1) (hm:m < 4294967296) (h:∀ x:Nat,x &&& m=x % k):bits .and .i64 n (m:Int)=n % (k:Int):=by
 have e:n=(n.toNat:Int):=by omega
 rw[e,FR _ _ (by omega) (by omega),h,Int.natCast_emod]
theorem cN (a b:Int) (i:Nat) (ha0:0<=a) (ha1:a<=4294967295) (gq:0<=b) (hb:b < 2 ^ i) (hd:a % 2 ^ i=0) (hi:i<=32):bits .or .i64 a b=a+b:=by
 have hp:(2:Int) ^ i<=4294967296:=by
  have:(2:Nat) ^ i<=2 ^ 32:=Nat.pow_le_pow_right (by omega) hi
  have h2:((2 ^ i:Nat):Int)<=((2 ^ 32:Nat):Int):=by exact_mod_cast this
  simpa using h2
 have ea:a=(a.toNat:Int):=by omega
 have eb:b=(b.toNat:Int):=by omega
 rw[ea,eb,qd _ _ (by omega) (by omega)]
 have h1:a.toNat % 2 ^ i=0:=by
  have:((a.toNat % 2 ^ i:Nat):Int)=0:=by rw[Int.natCast_emod,← ea]; simpa using hd
  omega
 have h2:b.toNat < 2 ^ i:=by
  have:((b.toNat:Nat):Int) < ((2 ^ i:Nat):Int):=by rw[← eb]; simpa using hb
  omega
 rw[nat_join i _ _ h1 h2]
 rfl
theorem Kn (n:Int):bits .or .i64 (n % 128) 128=n % 128+128:=by
 have e:n % 128=((n % 128).toNat:Int):=by omega
 rw[e]
 have h:=qd (n % 128).toNat 128 (by omega) (by omega)
 rw[Nat.or_comm] at h
 have h2:128 ||| (n % 128).toNat=128+(n % 128).toNat:=nat_join 7 128 (n % 128).toNat (by decide) (by omega)
 rw[h2] at h
 have h3:((128:Nat):Int)=128:=rfl
 rw[h3] at h
 rw[h]
 omega
theorem nG (n:Int) (i:Nat) (f:Int) (h0:0<=n) (hi:i < 4) (hq:n / 256=(i:Int)) (hf:(Ei i:Int)=f) (h:i=0\/n % 256≠0):iS n.toNat=some (n % 256*f).toNat:=by
 unfold iS
 rw[if_neg (by omega),if_neg (by omega),show n.toNat / 256=i by omega]
 congr 1
 have e:n % 256*f=((n.toNat % 256*Ei i:Nat):Int):=by rw[Int.natCast_mul,hf]; congr 1; omega
 rw[e]; rfl
theorem Cd (n:Int) (h0:256<=n) (h1:n < 1024) (h:n % 256=0):iS n.toNat=none:=by
 unfold iS
 rw[if_neg (by omega),if_pos (by omega)]
theorem gD (n:Int) (x:Nat) (h0:0<=n) (h1:n<=4095) (h:iS n.toNat=some x):eG n=(x:Int):=by unfold eG; rw[if_neg (by omega),h]; rfl
theorem iC (n:Int) (x:Nat) (h0:0<=n) (h1:n<=4095) (h:iS n.toNat=some x):dz n=0:=by unfold dz; rw[if_neg (by omega),h]; rfl
theorem y6 (n:Int) (h0:0<=n) (h1:n<=4095) (h:iS n.toNat=none):eG n=0:=by unfold eG; rw[if_neg (by omega),h]; rfl
theorem y7 (n:Int) (h0:0<=n) (h1:n<=4095) (h:iS n.toNat=none):dz n=20:=by unfold dz; rw[if_neg (by omega),h]; rfl
theorem nH (n:Int):0<=eG n/\eG n<=4294967295:=by
 unfold eG
 split
 ·omega
 ·cases h:iS n.toNat with
  | none=>simp
  | some x=>have:=Kk _ _ h; simp; omega
def fR (n c:Int):Int:=if dz n=0 then (if n < 1024 then min c 1 else eG n / 2147483648) else 0
theorem y8 (n:Int) (h:dz n=0):0<=n/\n<=4095:=by
 unfold dz at h
 split at h
 ·omega
 ·omega
theorem cj (x:Int) (h0:0<=x) (h1:x<=4294967295):bits .and .u32 x 255=x % 256:=by
 rw[u32_and x 255 h0 (by omega) (by omega) (by omega)]
 have e:x.toNat &&& (255:Int).toNat=x.toNat % 256:=nat_mask8 _
 rw[e]; omega
theorem Ce (x:Int) (h0:0<=x) (h1:x<=4294967295):bits .and .u32 x 127=x % 128:=by
 rw[u32_and x 127 h0 (by omega) (by omega) (by omega)]
 have e:x.toNat &&& (127:Int).toNat=x.toNat % 128:=nat_mask7 _
 rw[e]; omega
end Go.Proofs.YtlgkljpgagfndaaGreatDoor.Rm

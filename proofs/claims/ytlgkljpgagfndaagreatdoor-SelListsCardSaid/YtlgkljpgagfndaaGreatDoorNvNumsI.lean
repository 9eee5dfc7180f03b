/- What this claim is proved with: no condition. -/
import Derived.Test.YtlgkljpgagfndaaGreatDoorNvNums2
set_option linter.unusedVariables false
set_option linter.unusedSimpArgs false
namespace Go.Proofs.YtlgkljpgagfndaaGreatDoor.Rm
def Ei (i:Nat):Nat:=if i=0 then 1 else if i=1 then 65537 else if i=2 then 16777472 else 16843009
def iS (n:Nat):Option Nat :=
 if 1024<=n then some (qc 3 (n / 128) (n % 128+128)) else if 256<=n/\n % 256=0 then none else some (n % 256*Ei (n / 256))
def pS (x i b:Nat):Bool:=b*Ei i % 4294967296 == x && (i == 0 || b != 0)
def rep (x:Nat):Option Nat :=
 if pS x 0 (x % 256) then some (x % 256) else if pS x 0 (x / 256 % 256) then some (x / 256 % 256)
 else if pS x 1 (x % 256) then some (256+x % 256) else if pS x 1 (x / 256 % 256) then some (256+x / 256 % 256)
 else if pS x 2 (x % 256) then some (512+x % 256) else if pS x 2 (x / 256 % 256) then some (512+x / 256 % 256)
 else if pS x 3 (x % 256) then some (768+x % 256) else if pS x 3 (x / 256 % 256) then some (768+x / 256 % 256)
 else none
def rotl (x s:Nat):Nat:=qc 3 (32 - s % 32) x
def lH (x:Nat):Option Nat :=
 if 255 < rotl x (40 - Lib.bitLen x)\/32<=40 - Lib.bitLen x then none else some ((40 - Lib.bitLen x)*128+rotl x (40 - Lib.bitLen x) % 128)
def dec (x:Nat):Option Nat:=match rep x with|some n=>some n|none=>lH x
theorem Kk (n x:Nat) (h:iS n=some x):x < 4294967296:=by
 unfold iS at h
 split at h
 ·cases h; exact jh _ _ _ (by omega)
 ·split at h
  ·cases h
  ·cases h
   have hf:Ei (n / 256)<=16843009:=by unfold Ei; (repeat' split)<;>omega
   have hb:n % 256<=255:=by omega
   have:=Nat.mul_le_mul hb hf
   omega
theorem y4 (i b x:Nat) (hi:i < 4) (hb:b < 256) (h:i=0\/b≠0) (hx:b*Ei i % 4294967296=x):iS (i*256+b)=some x:=by
 have hf:Ei i<=16843009:=by unfold Ei; (repeat' split)<;>omega
 have hm:=Nat.mul_le_mul (show b<=255 by omega) hf
 unfold iS
 rw[if_neg (by omega),if_neg (by omega),show (i*256+b) % 256=b by omega,show (i*256+b) / 256=i by omega,← hx,Nat.mod_eq_of_lt (by omega)]
theorem OY (x n:Nat) (h:rep x=some n):iS n=some x/\n < 4096:=by
 have key:∀ i b,i < 4->b < 256->pS x i b=true->iS (i*256+b)=some x/\i*256+b < 4096:=by
  intro i b hi hb ht
  simp only[pS,Bool.and_eq_true,beq_iff_eq,Bool.or_eq_true,bne_iff_ne,ne_eq] at ht
  exact⟨y4 i b x hi hb ht.2 ht.1,by omega⟩
 have h1:x % 256 < 256:=by omega
 have h2:x / 256 % 256 < 256:=by omega
 unfold rep at h
 split at h
 ·rename_i t; cases h; have:=key 0 _ (by omega) h1 t; simpa using this
 split at h
 ·rename_i t; cases h; have:=key 0 _ (by omega) h2 t; simpa using this
 split at h
 ·rename_i t; cases h; have:=key 1 _ (by omega) h1 t; simpa using this
 split at h
 ·rename_i t; cases h; have:=key 1 _ (by omega) h2 t; simpa using this
 split at h
 ·rename_i t; cases h; have:=key 2 _ (by omega) h1 t; simpa using this
 split at h
 ·rename_i t; cases h; have:=key 2 _ (by omega) h2 t; simpa using this
 split at h
 ·rename_i t; cases h; have:=key 3 _ (by omega) h1 t; simpa using this
 split at h
 ·rename_i t; cases h; have:=key 3 _ (by omega) h2 t; simpa using this
 ·cases h
theorem AK (x s:Nat) (hx:x < 4294967296):rotl x s < 4294967296:=jh _ _ _ hx
theorem Cb (x s:Nat) (hx:x < 4294967296) (hs:s < 32):qc 3 s (rotl x s)=x:=by
 have h:=Ca x (32 - s) hx (by omega)
 unfold rotl
 rw[show s % 32=s by omega]
 rwa [show 32 - (32 - s)=s by omega] at h
theorem wW (x s:Nat) (hx:x < 4294967296) (i:Int) (h0:0<=i) (h1:i<=31):cZ (rotl x s) i=cZ x ((i+32 - (s % 32:Nat)) % 32):=by
 unfold rotl
 rw[oP 3 (by omega) x hx _ i h0 h1]
 congr 1
 simp[gZ]
 omega
theorem Kl (x:Nat) (hx:x < 4294967296) (h0:x≠0):cZ x ((Lib.bitLen x:Int) - 1)=1:=by
 have hb:=gN x (by omega)
 obtain⟨h1,h2,h3⟩:=Lib.bitLenAux_bounds 64 x (by omega) h0
 have e:Lib.bitLenAux 64 x=Lib.bitLen x:=rfl
 rw[e] at h1 h2 h3
 unfold cZ
 rw[if_neg (by omega),show ((Lib.bitLen x:Int) - 1).toNat=Lib.bitLen x - 1 by omega]
 have e2:2 ^ Lib.bitLen x=2*2 ^ (Lib.bitLen x - 1):=by
  rw[← Nat.pow_succ',show (Lib.bitLen x - 1).succ=Lib.bitLen x by omega]
 rw[e2] at h3
 have hp:0 < 2 ^ (Lib.bitLen x - 1):=Nat.two_pow_pos _
 have h4:x / 2 ^ (Lib.bitLen x - 1)=1:=by
  apply Nat.div_eq_of_lt_le
  ·omega
  ·omega
 rw[h4]
theorem Cc (x n:Nat) (hx:x < 4294967296) (h0:x≠0) (h:lH x=some n):iS n=some x/\n < 4096:=by
 unfold lH at h
 split at h
 ·cases h
 ·rename_i hc
  cases h
  have hb:=gN x (by omega)
  obtain⟨s,hs⟩:∃ s,40 - Lib.bitLen x=s:=⟨_,rfl⟩
  rw[hs] at hc ⊢
  have hs2:s < 32:=by omega
  have hs8:8<=s:=by omega
  obtain⟨y,hy⟩:∃ y,rotl x s=y:=⟨_,rfl⟩
  have NB:=Cb x s hx hs2
  have FP:=wW x s hx 7 (by omega) (by omega)
  have ht:=Kl x hx h0
  rw[show ((7:Int)+32 - (s % 32:Nat)) % 32=(Lib.bitLen x:Int) - 1 by omega,ht] at FP
  rw[hy] at hc NB FP ⊢
  have hy255:y<=255:=by omega
  have hy128:128<=y:=by
   simp[cZ] at FP
   omega
  have e1:(s*128+y % 128) / 128=s:=by omega
  have e2:(s*128+y % 128) % 128+128=y:=by omega
  refine⟨?_,by omega⟩
  unfold iS
  rw[if_pos (by omega),e1,e2,NB]
theorem FQ (x n:Nat) (hx:x < 4294967296) (h:dec x=some n):iS n=some x/\n < 4096:=by
 unfold dec at h
 split at h
 ·rename_i m hm
  cases h
  exact OY x n hm
 ·rename_i hm
  refine Cc x n hx ?_ h
  rintro rfl
  revert hm
  decide
theorem Km (x s:Nat) (hx:x < 4294967296) (hs:s < 32):(x*2 ^ s % 4294967296) ||| (x / 2 ^ (32 - s))=rotl x s:=by
 have hq:x / 2 ^ (32 - s) < 4294967296:=Nat.lt_of_le_of_lt (Nat.div_le_self _ _) hx
 refine wU _ _ (Nat.or_lt_two_pow (n:=32) (by omega) (by omega)) (AK x s hx) ?_
 intro i hi
 rw[wW x s hx i (by omega) (by omega),show s % 32=s by omega,jG _ i hi,Nat.testBit_or,show (4294967296:Nat)=2 ^ 32 from rfl,Nat.testBit_mod_two_pow,Nat.testBit_mul_two_pow,Nat.testBit_div_two_pow]
 by_cases h:s<=i
 ·have e:(((i:Nat):Int)+32 - (s:Nat)) % 32=((i - s:Nat):Int):=by omega
  have hp:2 ^ 32<=2 ^ (i+(32 - s)):=Nat.pow_le_pow_right (by omega) (by omega)
  have z:x.testBit (i+(32 - s))=false:=Nat.testBit_lt_two_pow (Nat.lt_of_lt_of_le (show x < 2 ^ 32 from hx) hp)
  rw[e,jG x _ (by omega),z]
  simp[h,hi]
 ·have e:(((i:Nat):Int)+32 - (s:Nat)) % 32=((i+(32 - s):Nat):Int):=by omega
  rw[e,jG x _ (by omega)]
  simp[h,hi]
end Go.Proofs.YtlgkljpgagfndaaGreatDoor.Rm

/- What this claim is proved with: no condition. -/
import Derived.Test.YtbnoodjnpooocaaGreatDoorNwNums2
set_option linter.unusedVariables false
set_option linter.unusedSimpArgs false
namespace Go.Proofs.YtbnoodjnpooocaaGreatDoor.Rm
def fac (i:Nat):Nat:=if i=0 then 1 else if i=1 then 65537 else if i=2 then 16777472 else 16843009
def nX (n:Nat):Option Nat :=
 if 1024<=n then some (N0 3 (n / 128) (n % 128+128)) else if 256<=n/\n % 256=0 then none else some (n % 256*fac (n / 256))
theorem N' (n x:Nat) (h:nX n=some x):x < 4294967296:=by
 unfold nX at h
 split at h
 ·cases h; exact yg _ _ _ (by omega)
 ·split at h
  ·cases h
  ·cases h
   have hf:fac (n / 256)<=16843009:=by unfold fac; (repeat' split)<;>omega
   have hb:n % 256<=255:=by omega
   have:=Nat.mul_le_mul hb hf
   omega
end Go.Proofs.YtbnoodjnpooocaaGreatDoor.Rm

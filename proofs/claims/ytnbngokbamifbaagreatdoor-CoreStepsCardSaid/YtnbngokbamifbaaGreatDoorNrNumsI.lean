/- What this claim is proved with: no condition. -/
import Derived.Test.YtnbngokbamifbaaGreatDoorNrNums2
set_option linter.unusedVariables false
set_option linter.unusedSimpArgs false
namespace Go.Proofs.YtnbngokbamifbaaGreatDoor.Rm
def XG (i:Nat):Nat:=if i=0 then 1 else if i=1 then 65537 else if i=2 then 16777472 else 16843009
def jc (n:Nat):Option Nat :=
 if 1024<=n then some (wa 3 (n / 128) (n % 128+128)) else if 256<=n/\n % 256=0 then none else some (n % 256*XG (n / 256))
theorem Lc (n x:Nat) (h:jc n=some x):x < 4294967296:=by
 unfold jc at h
 split at h
 ·cases h; exact nG _ _ _ (by omega)
 ·split at h
  ·cases h
  ·cases h
   have hf:XG (n / 256)<=16843009:=by unfold XG; (repeat' split)<;>omega
   have hb:n % 256<=255:=by omega
   have:=Nat.mul_le_mul hb hf
   omega
end Go.Proofs.YtnbngokbamifbaaGreatDoor.Rm

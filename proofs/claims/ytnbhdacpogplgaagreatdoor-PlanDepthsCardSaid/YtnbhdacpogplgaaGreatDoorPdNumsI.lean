/- What this claim is proved with: no condition. -/
import Derived.Test.YtnbhdacpogplgaaGreatDoorPdNums2
set_option linter.unusedVariables false
set_option linter.unusedSimpArgs false
namespace Go.Proofs.YtnbhdacpogplgaaGreatDoor.Rm
def XS (i:Nat):Nat:=if i=0 then 1 else if i=1 then 65537 else if i=2 then 16777472 else 16843009
def oG (n:Nat):Option Nat :=
 if 1024<=n then some (HA 3 (n / 128) (n % 128+128)) else if 256<=n/\n % 256=0 then none else some (n % 256*XS (n / 256))
def rotl (x s:Nat):Nat:=HA 3 (32 - s % 32) x
theorem HF (x s:Nat) (hx:x < 4294967296):rotl x s < 4294967296:=D0 _ _ _ hx
end Go.Proofs.YtnbhdacpogplgaaGreatDoor.Rm

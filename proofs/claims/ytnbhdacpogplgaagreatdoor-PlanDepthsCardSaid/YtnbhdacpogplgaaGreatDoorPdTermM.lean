/- What this claim is proved with: no condition. -/
import Derived.Test.YtnbhdacpogplgaaGreatDoorPdTermA
import Derived.Test.YtnbhdacpogplgaaGreatDoorPdRotl
set_option linter.unusedVariables false
set_option linter.unusedSimpArgs false
namespace Go.Proofs.YtnbhdacpogplgaaGreatDoor
open Go Go.RowKit
def IS (op x:Int):Int:=if op=3 then 4294967295 - x else -x % 4294967296
theorem IT {op x:Int} (h0:0<=x) (h1:x<=4294967295):0<=IS op x/\IS op x<=4294967295:=by unfold IS; split<;>omega
def tT (op x y:Int):Int :=
 if op=5 then bits .or .u32 x y else if op=6 then bits .xor .u32 x y else if op=7 then bits .and .u32 x y
 else if op=10 then x*2 ^ (y % 32).toNat % 4294967296 else if op=11 then x / 2 ^ (y % 32).toNat else ((Rm.rotl x.toNat (y % 32).toNat:Nat):Int)
def Qg (op x y:Int):Option Int :=
 if op=8 then some (if x=y then 1 else 0) else if op=9 then some (if x < y then 1 else 0) else if op=13 then some ((x+y) % 4294967296) else if op=14 then some ((x - y) % 4294967296)
 else if op=15 then some (x*y % 4294967296) else if op=16 then (if y=0 then none else some (x / y)) else if op=17 then (if y=0 then none else some (x % y)) else some (tT op x y)
theorem BE {op x y:Int} (hx:0<=x/\x<=4294967295) (hy:0<=y/\y<=4294967295):0<=tT op x y/\tT op x y<=4294967295:=by
 unfold tT
 split
 ·rw[u32_or x y hx.1 (by omega) hy.1 (by omega)]
  have:=Nat.or_lt_two_pow (n:=32) (x:=x.toNat) (y:=y.toNat) (by omega) (by omega)
  omega
 split
 ·rw[u32_xor x y hx.1 (by omega) hy.1 (by omega)]
  have:=Nat.xor_lt_two_pow (n:=32) (x:=x.toNat) (y:=y.toNat) (by omega) (by omega)
  omega
 split
 ·rw[u32_and x y hx.1 (by omega) hy.1 (by omega)]
  have:=Nat.and_le_left (n:=x.toNat) (m:=y.toNat)
  omega
 split
 ·omega
 split
 ·have h1:0<=x / 2 ^ (y % 32).toNat:=Int.ediv_nonneg hx.1 (Int.pow_nonneg (by omega))
  have h2:x / 2 ^ (y % 32).toNat<=x:=Int.ediv_le_self _ hx.1
  omega
 ·have:=Rm.HF x.toNat (y % 32).toNat (by omega)
  omega
theorem IU {op x y v:Int} (hx:0<=x/\x<=4294967295) (hy:0<=y/\y<=4294967295) (h:Qg op x y=some v):0<=v/\v<=4294967295:=by
 unfold Qg at h
 split at h
 ·cases h; split<;>omega
 split at h
 ·cases h; split<;>omega
 split at h
 ·cases h; omega
 split at h
 ·cases h; omega
 split at h
 ·cases h; omega
 split at h
 ·split at h
  ·cases h
  ·cases h
   have h1:0<=x / y:=Int.ediv_nonneg hx.1 hy.1
   have h2:x / y<=x:=Int.ediv_le_self _ hx.1
   omega
 split at h
 ·split at h
  ·cases h
  ·cases h
   have h1:=Int.emod_nonneg x (b:=y) (by omega)
   have h2:=Int.emod_lt_of_pos x (b:=y) (by omega)
   omega
 ·cases h; exact BE hx hy
end Go.Proofs.YtnbhdacpogplgaaGreatDoor

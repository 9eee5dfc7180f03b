/- What this claim is proved with: no condition. -/
import Derived.Test.YtbnoodjnpooocaaGreatDoorChecked
import Derived.Lib.Strings
import Derived.Lib.Slices
import Derived.Lib.Small
import Derived.Lib.Walk
import Derived.Lib.BitFns
set_option linter.unusedVariables false
set_option linter.unusedSimpArgs false
namespace Go.Proofs.YtbnoodjnpooocaaGreatDoor
set_option maxHeartbeats 4000000 in
set_option maxRecDepth 100000 in
theorem v5 (x:Int) (w:World) (h0:0<=x) (h1:x<=4294967295) :
  Calls Tryz.prog 218 #[.int .u32 x] w fun e w'=>e = .returned (.int .i64 (Lib.bitLen x.toNat))/\w=w':=by
 go_enter Tryz.func218,Tryz.ntmps218
 go_wp2
 all_goals (go_ret; refine⟨congrArg Ending.returned (congrArg (Value.int IntKind.i64) ?_),rfl⟩)
 all_goals first
  | (rw[Lib.len8_of (x / 65536 / 256 % 256) (by omega) (by omega)]
     have e:(x / 65536 / 256 % 256).toNat=x.toNat / 16777216:=by omega
     have l:=Lib.bitLen_le8' (x / 65536 / 256 % 256) (by omega) (by omega)
     have s:=Lib.bitLen_shift24 x.toNat (by omega) (by omega)
     rw[e] at l ⊢
     omega)
  | (rw[Lib.len8_of (x / 65536 % 256) (by omega) (by omega)]
     have e:(x / 65536 % 256).toNat=x.toNat / 65536:=by omega
     have l:=Lib.bitLen_le8' (x / 65536 % 256) (by omega) (by omega)
     have s:=Lib.bitLen_shift16 x.toNat (by omega) (by omega)
     rw[e] at l ⊢
     omega)
  | (rw[Lib.len8_of (x / 256 % 256) (by omega) (by omega)]
     have e:(x / 256 % 256).toNat=x.toNat / 256:=by omega
     have l:=Lib.bitLen_le8' (x / 256 % 256) (by omega) (by omega)
     have s:=Lib.bitLen_shift8 x.toNat (by omega) (by omega)
     rw[e] at l ⊢
     omega)
  | (rw[Lib.len8_of (x % 256) (by omega) (by omega)]
     have e:(x % 256).toNat=x.toNat:=by omega
     have l:=Lib.bitLen_le8' (x % 256) (by omega) (by omega)
     rw[e] at l ⊢
     omega)
end Go.Proofs.YtbnoodjnpooocaaGreatDoor

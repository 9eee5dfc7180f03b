/- What this claim is proved with: no condition. -/
import Derived.Test.YtlgkljpgagfndaaGreatDoorNsNums
import Derived.RowKit
import Derived.Lib.ItoaNum
set_option linter.unusedVariables false
set_option linter.unusedSimpArgs false
namespace Go.Proofs.YtlgkljpgagfndaaGreatDoor.Rm
open Go.RowKit
theorem y6 (x n:Nat) (hx:x < 4294967296) (hn:n<=32):v5 3 (32 - n) (v5 3 n x)=x:=by
 have h3:(3:Int)=0\/(3:Int)=1\/(3:Int)=2\/(3:Int)=3:=by omega
 have hy:=jC 3 n x hx
 refine tS _ _ (jC 3 _ _ hy) hx ?_
 intro i hi
 rw[v7 3 h3 _ hy _ _ (by omega) (by omega),v7 3 h3 x hx n _ (by simp[kp]; omega) (by simp[kp]; omega)]
 congr 1
 simp[kp]
 omega
end Go.Proofs.YtlgkljpgagfndaaGreatDoor.Rm

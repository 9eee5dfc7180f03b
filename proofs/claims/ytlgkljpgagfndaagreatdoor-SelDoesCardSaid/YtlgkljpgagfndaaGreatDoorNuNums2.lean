/- What this claim is proved with: no condition. -/
import Derived.Test.YtlgkljpgagfndaaGreatDoorNuNums
import Derived.RowKit
import Derived.Lib.ItoaNum
set_option linter.unusedVariables false
set_option linter.unusedSimpArgs false
namespace Go.Proofs.YtlgkljpgagfndaaGreatDoor.Rm
open Go.RowKit
theorem Db (x n:Nat) (hx:x < 4294967296) (hn:n<=32):qO 3 (32 - n) (qO 3 n x)=x:=by
 have h3:(3:Int)=0\/(3:Int)=1\/(3:Int)=2\/(3:Int)=3:=by omega
 have hy:=jH 3 n x hx
 refine x_ _ _ (jH 3 _ _ hy) hx ?_
 intro i hi
 rw[pr 3 h3 _ hy _ _ (by omega) (by omega),pr 3 h3 x hx n _ (by simp[ix]; omega) (by simp[ix]; omega)]
 congr 1
 simp[ix]
 omega
end Go.Proofs.YtlgkljpgagfndaaGreatDoor.Rm

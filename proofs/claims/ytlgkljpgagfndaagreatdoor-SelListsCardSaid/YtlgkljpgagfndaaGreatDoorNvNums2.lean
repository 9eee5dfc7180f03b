/- What this claim is proved with: no condition. -/
import Derived.Test.YtlgkljpgagfndaaGreatDoorNvNums
import Derived.RowKit
import Derived.Lib.ItoaNum
set_option linter.unusedVariables false
set_option linter.unusedSimpArgs false
namespace Go.Proofs.YtlgkljpgagfndaaGreatDoor.Rm
open Go.RowKit
theorem Ca (x n:Nat) (hx:x < 4294967296) (hn:n<=32):qc 3 (32 - n) (qc 3 n x)=x:=by
 have h3:(3:Int)=0\/(3:Int)=1\/(3:Int)=2\/(3:Int)=3:=by omega
 have hy:=jh 3 n x hx
 refine wU _ _ (jh 3 _ _ hy) hx ?_
 intro i hi
 rw[oP 3 h3 _ hy _ _ (by omega) (by omega),oP 3 h3 x hx n _ (by simp[gZ]; omega) (by simp[gZ]; omega)]
 congr 1
 simp[gZ]
 omega
end Go.Proofs.YtlgkljpgagfndaaGreatDoor.Rm

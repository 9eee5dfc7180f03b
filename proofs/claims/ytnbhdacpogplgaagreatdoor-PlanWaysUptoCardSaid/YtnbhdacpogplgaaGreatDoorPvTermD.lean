/- What this claim is proved with: no condition. -/
import Derived.Test.YtnbhdacpogplgaaGreatDoorPvTermC
set_option linter.unusedVariables false
set_option linter.unusedSimpArgs false
namespace Go.Proofs.YtnbhdacpogplgaaGreatDoor
open Go Go.RowKit
namespace T
def nodes:T->List (Int × Int × Int)
 | .leaf o n=>[(o,n,0)]|.one o n a=>(o,n,1)::a.nodes|.two o n a b=>(o,n,2)::(a.nodes++b.nodes)
theorem fP:∀ t:T,t.nodes.length=t.size
 | .leaf ..=>rfl
 | .one _ _ a=>by simp[nodes,size,a.fP]; omega
 | .two _ _ a b=>by simp[nodes,size,a.fP,b.fP]; omega
theorem size_pos (t:T):1<=t.size:=by cases t<;>simp[size]<;>omega
end T
end Go.Proofs.YtnbhdacpogplgaaGreatDoor

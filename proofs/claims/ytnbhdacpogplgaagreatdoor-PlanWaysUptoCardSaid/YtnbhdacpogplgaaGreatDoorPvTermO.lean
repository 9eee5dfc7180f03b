/- What this claim is proved with: no condition. -/
import Derived.Test.YtnbhdacpogplgaaGreatDoorPvTermE
import Derived.Test.YtnbhdacpogplgaaGreatDoorPvTermN
set_option linter.unusedVariables false
set_option linter.unusedSimpArgs false
namespace Go.Proofs.YtnbhdacpogplgaaGreatDoor
open Go Go.RowKit
namespace T
def root (t:T):Bool:=nf (t.op,t.num,t.kids)
def shaped:T->Bool
 | .leaf o n=>nf (o,n,0)|.one o n a=>nf (o,n,1) && a.shaped|.two o n a b=>nf (o,n,2) && (a.shaped && b.shaped)
def ln:T->Bool
 | .leaf ..=>true|.one _ _ a=>a.shaped|.two _ _ a b=>a.shaped && b.shaped
theorem yS (t:T):t.shaped=(t.root && t.ln):=by cases t<;>simp[shaped,root,ln,op,num,kids]
theorem jW:∀ t:T,t.nodes.all nf=t.shaped
 | .leaf ..=>by simp[nodes,shaped]
 | .one _ _ a=>by simp[nodes,shaped,jW a]
 | .two _ _ a b=>by simp[nodes,shaped,jW a,jW b]
end T
end Go.Proofs.YtnbhdacpogplgaaGreatDoor

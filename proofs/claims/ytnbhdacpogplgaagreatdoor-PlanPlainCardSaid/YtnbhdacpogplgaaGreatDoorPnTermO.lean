/- What this claim is proved with: no condition. -/
import Derived.Test.YtnbhdacpogplgaaGreatDoorPnTermE
import Derived.Test.YtnbhdacpogplgaaGreatDoorPnTermN
set_option linter.unusedVariables false
set_option linter.unusedSimpArgs false
namespace Go.Proofs.YtnbhdacpogplgaaGreatDoor
open Go Go.RowKit
namespace T
def root (t:T):Bool:=oU (t.op,t.num,t.kids)
def shaped:T->Bool
 | .leaf o n=>oU (o,n,0)|.one o n a=>oU (o,n,1) && a.shaped|.two o n a b=>oU (o,n,2) && (a.shaped && b.shaped)
def fD:T->Bool
 | .leaf ..=>true|.one _ _ a=>a.shaped|.two _ _ a b=>a.shaped && b.shaped
theorem oV (t:T):t.shaped=(t.root && t.fD):=by cases t<;>simp[shaped,root,fD,op,num,kids]
theorem ez:∀ t:T,t.nodes.all oU=t.shaped
 | .leaf ..=>by simp[nodes,shaped]
 | .one _ _ a=>by simp[nodes,shaped,ez a]
 | .two _ _ a b=>by simp[nodes,shaped,ez a,ez b]
end T
end Go.Proofs.YtnbhdacpogplgaaGreatDoor

/- What this claim is proved with: no condition. -/
import Derived.Test.YtnbhdacpogplgaaGreatDoorPdTermE
import Derived.Test.YtnbhdacpogplgaaGreatDoorPdTermN
set_option linter.unusedVariables false
set_option linter.unusedSimpArgs false
namespace Go.Proofs.YtnbhdacpogplgaaGreatDoor
open Go Go.RowKit
namespace T
def root (t:T):Bool:=sh (t.op,t.num,t.kids)
def shaped:T->Bool
 | .leaf o n=>sh (o,n,0)|.one o n a=>sh (o,n,1) && a.shaped|.two o n a b=>sh (o,n,2) && (a.shaped && b.shaped)
def il:T->Bool
 | .leaf ..=>true|.one _ _ a=>a.shaped|.two _ _ a b=>a.shaped && b.shaped
theorem sj (t:T):t.shaped=(t.root && t.il):=by cases t<;>simp[shaped,root,il,op,num,kids]
theorem fX:∀ t:T,t.nodes.all sh=t.shaped
 | .leaf ..=>by simp[nodes,shaped]
 | .one _ _ a=>by simp[nodes,shaped,fX a]
 | .two _ _ a b=>by simp[nodes,shaped,fX a,fX b]
end T
end Go.Proofs.YtnbhdacpogplgaaGreatDoor

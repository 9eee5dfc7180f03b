/- What this claim is proved with: no condition. -/
import Derived.Test.YtnbngokbamifbaaGreatDoorNr18
import Derived.Test.YtnbngokbamifbaaGreatDoorNr15
set_option maxRecDepth 100000
set_option maxHeartbeats 8000000
set_option linter.unusedVariables false
set_option linter.unusedSimpArgs false
namespace Go.Proofs.YtnbngokbamifbaaGreatDoor.Pw
open Go Go.RowKit
abbrev qi:List PV:=[.agg [.lit .i64 7,.lit .i64 0,.lit .i64 20,.lit .i64 1],.agg [.lit .i64 1,.lit .i64 0,.lit .i64 16,.lit .i64 4],.agg [.lit .i64 0,.lit .i64 0,.lit .i64 8,.lit .i64 4],.agg [.lit .i64 2,.lit .i64 0,.lit .i64 0,.lit .i64 4]]
theorem LW (f w:Int) (hs:ae f=27) (hf:fe f) (hw:aP w):ah gT 157 [.int .i64 f,.int .i64 w] (bX (CC f w)):=by
 have cd:-1099511627776<=w/\w<=9223372036854775807:=by unfold aP at hw; omega
 have b0:=ab w 20 1
 have b1:=ab w 16 4
 have b2:=ab w 8 4
 have b3:=ab w 0 4
 refine Spec.enter ar cA 100 Tryz.func157 rfl (by kernel_rfl) ?_
 refine (bI hf hs).u ?_
 refine wM.u ?_
 refine SW.rounds ar cA (by kernel_rfl) (N:=60) 5 ?_
 refine fun _=>And.intro (fun _=>?_) (fun h=>absurd (show (0:Int) < 4 by decide) h)
 repeat (refine⟨PV,qi,id,rfl,by decide,by decide,fun x hx=>?_⟩; cases hx)
 refine (aj w 20 1 cd (by decide) (by decide)).u ?_
 repeat (refine⟨PV,qi,id,rfl,by decide,by decide,fun x hx=>?_⟩; cases hx)
 refine (ai 0 (by decide)).u ?_
 refine li ?_
 refine li ?_
 refine fun _=>And.intro (fun _=>?_) (fun h=>absurd (show (1:Int) < 4 by decide) h)
 repeat (refine⟨PV,qi,id,rfl,by decide,by decide,fun x hx=>?_⟩; cases hx)
 refine (aj w 16 4 cd (by decide) (by decide)).u ?_
 repeat (refine⟨PV,qi,id,rfl,by decide,by decide,fun x hx=>?_⟩; cases hx)
 refine (ai 0 (by decide)).u ?_
 refine li ?_
 refine li ?_
 refine fun _=>And.intro (fun _=>?_) (fun h=>absurd (show (2:Int) < 4 by decide) h)
 repeat (refine⟨PV,qi,id,rfl,by decide,by decide,fun x hx=>?_⟩; cases hx)
 refine (aj w 8 4 cd (by decide) (by decide)).u ?_
 repeat (refine⟨PV,qi,id,rfl,by decide,by decide,fun x hx=>?_⟩; cases hx)
 refine (ai 0 (by decide)).u ?_
 refine li ?_
 refine li ?_
 refine fun _=>And.intro (fun _=>?_) (fun h=>absurd (show (3:Int) < 4 by decide) h)
 repeat (refine⟨PV,qi,id,rfl,by decide,by decide,fun x hx=>?_⟩; cases hx)
 refine (aj w 0 4 cd (by decide) (by decide)).u ?_
 repeat (refine⟨PV,qi,id,rfl,by decide,by decide,fun x hx=>?_⟩; cases hx)
 refine (ai 0 (by decide)).u ?_
 refine li ?_
 refine li ?_
 refine fun _=>And.intro (fun h=>absurd h (show ¬ (4:Int) < 4 by decide)) (fun _=>?_)
 exact rA
abbrev uS:List PV:=[.agg [.lit .i64 1,.lit .i64 0,.lit .i64 16,.lit .i64 4],.agg [.lit .i64 0,.lit .i64 0,.lit .i64 8,.lit .i64 4],.agg [.lit .i64 2,.lit .i64 0,.lit .i64 0,.lit .i64 4]]
theorem LX (f w:Int) (hs:ae f=28) (hf:fe f) (hw:aP w):ah gT 157 [.int .i64 f,.int .i64 w] (bX (CD f w)):=by
 have cd:-1099511627776<=w/\w<=9223372036854775807:=by unfold aP at hw; omega
 have b0:=ab w 16 4
 have b1:=ab w 8 4
 have b2:=ab w 0 4
 refine Spec.enter ar cA 100 Tryz.func157 rfl (by kernel_rfl) ?_
 refine (bI hf hs).u ?_
 refine wN.u ?_
 refine SW.rounds ar cA (by kernel_rfl) (N:=60) 4 ?_
 refine fun _=>And.intro (fun _=>?_) (fun h=>absurd (show (0:Int) < 3 by decide) h)
 repeat (refine⟨PV,uS,id,rfl,by decide,by decide,fun x hx=>?_⟩; cases hx)
 refine (aj w 16 4 cd (by decide) (by decide)).u ?_
 repeat (refine⟨PV,uS,id,rfl,by decide,by decide,fun x hx=>?_⟩; cases hx)
 refine (ai 0 (by decide)).u ?_
 refine li ?_
 refine li ?_
 refine fun _=>And.intro (fun _=>?_) (fun h=>absurd (show (1:Int) < 3 by decide) h)
 repeat (refine⟨PV,uS,id,rfl,by decide,by decide,fun x hx=>?_⟩; cases hx)
 refine (aj w 8 4 cd (by decide) (by decide)).u ?_
 repeat (refine⟨PV,uS,id,rfl,by decide,by decide,fun x hx=>?_⟩; cases hx)
 refine (ai 0 (by decide)).u ?_
 refine li ?_
 refine li ?_
 refine fun _=>And.intro (fun _=>?_) (fun h=>absurd (show (2:Int) < 3 by decide) h)
 repeat (refine⟨PV,uS,id,rfl,by decide,by decide,fun x hx=>?_⟩; cases hx)
 refine (aj w 0 4 cd (by decide) (by decide)).u ?_
 repeat (refine⟨PV,uS,id,rfl,by decide,by decide,fun x hx=>?_⟩; cases hx)
 refine (ai 0 (by decide)).u ?_
 refine li ?_
 refine li ?_
 refine fun _=>And.intro (fun h=>absurd h (show ¬ (3:Int) < 3 by decide)) (fun _=>?_)
 exact rA
abbrev qj:List PV:=[.agg [.lit .i64 1,.lit .i64 0,.lit .i64 16,.lit .i64 4],.agg [.lit .i64 3,.lit .i64 0,.lit .i64 12,.lit .i64 4],.agg [.lit .i64 0,.lit .i64 0,.lit .i64 8,.lit .i64 4],.agg [.lit .i64 2,.lit .i64 0,.lit .i64 0,.lit .i64 4]]
theorem LY (f w:Int) (hs:ae f=29) (hf:fe f) (hw:aP w):ah gT 157 [.int .i64 f,.int .i64 w] (bX (CE f w)):=by
 have cd:-1099511627776<=w/\w<=9223372036854775807:=by unfold aP at hw; omega
 have b0:=ab w 16 4
 have b1:=ab w 12 4
 have b2:=ab w 8 4
 have b3:=ab w 0 4
 refine Spec.enter ar cA 100 Tryz.func157 rfl (by kernel_rfl) ?_
 refine (bI hf hs).u ?_
 refine wO.u ?_
 refine SW.rounds ar cA (by kernel_rfl) (N:=60) 5 ?_
 refine fun _=>And.intro (fun _=>?_) (fun h=>absurd (show (0:Int) < 4 by decide) h)
 repeat (refine⟨PV,qj,id,rfl,by decide,by decide,fun x hx=>?_⟩; cases hx)
 refine (aj w 16 4 cd (by decide) (by decide)).u ?_
 repeat (refine⟨PV,qj,id,rfl,by decide,by decide,fun x hx=>?_⟩; cases hx)
 refine (ai 0 (by decide)).u ?_
 refine li ?_
 refine li ?_
 refine fun _=>And.intro (fun _=>?_) (fun h=>absurd (show (1:Int) < 4 by decide) h)
 repeat (refine⟨PV,qj,id,rfl,by decide,by decide,fun x hx=>?_⟩; cases hx)
 refine (aj w 12 4 cd (by decide) (by decide)).u ?_
 repeat (refine⟨PV,qj,id,rfl,by decide,by decide,fun x hx=>?_⟩; cases hx)
 refine (ai 0 (by decide)).u ?_
 refine li ?_
 refine li ?_
 refine fun _=>And.intro (fun _=>?_) (fun h=>absurd (show (2:Int) < 4 by decide) h)
 repeat (refine⟨PV,qj,id,rfl,by decide,by decide,fun x hx=>?_⟩; cases hx)
 refine (aj w 8 4 cd (by decide) (by decide)).u ?_
 repeat (refine⟨PV,qj,id,rfl,by decide,by decide,fun x hx=>?_⟩; cases hx)
 refine (ai 0 (by decide)).u ?_
 refine li ?_
 refine li ?_
 refine fun _=>And.intro (fun _=>?_) (fun h=>absurd (show (3:Int) < 4 by decide) h)
 repeat (refine⟨PV,qj,id,rfl,by decide,by decide,fun x hx=>?_⟩; cases hx)
 refine (aj w 0 4 cd (by decide) (by decide)).u ?_
 repeat (refine⟨PV,qj,id,rfl,by decide,by decide,fun x hx=>?_⟩; cases hx)
 refine (ai 0 (by decide)).u ?_
 refine li ?_
 refine li ?_
 refine fun _=>And.intro (fun h=>absurd h (show ¬ (4:Int) < 4 by decide)) (fun _=>?_)
 exact rA
abbrev qk:List PV:=[.agg [.lit .i64 1,.lit .i64 0,.lit .i64 16,.lit .i64 4],.agg [.lit .i64 3,.lit .i64 0,.lit .i64 12,.lit .i64 4],.agg [.lit .i64 0,.lit .i64 0,.lit .i64 8,.lit .i64 4],.agg [.lit .i64 2,.lit .i64 0,.lit .i64 0,.lit .i64 4]]
theorem LZ (f w:Int) (hs:ae f=30) (hf:fe f) (hw:aP w):ah gT 157 [.int .i64 f,.int .i64 w] (bX (CF f w)):=by
 have cd:-1099511627776<=w/\w<=9223372036854775807:=by unfold aP at hw; omega
 have b0:=ab w 16 4
 have b1:=ab w 12 4
 have b2:=ab w 8 4
 have b3:=ab w 0 4
 refine Spec.enter ar cA 100 Tryz.func157 rfl (by kernel_rfl) ?_
 refine (bI hf hs).u ?_
 refine wQ.u ?_
 refine SW.rounds ar cA (by kernel_rfl) (N:=60) 5 ?_
 refine fun _=>And.intro (fun _=>?_) (fun h=>absurd (show (0:Int) < 4 by decide) h)
 repeat (refine⟨PV,qk,id,rfl,by decide,by decide,fun x hx=>?_⟩; cases hx)
 refine (aj w 16 4 cd (by decide) (by decide)).u ?_
 repeat (refine⟨PV,qk,id,rfl,by decide,by decide,fun x hx=>?_⟩; cases hx)
 refine (ai 0 (by decide)).u ?_
 refine li ?_
 refine li ?_
 refine fun _=>And.intro (fun _=>?_) (fun h=>absurd (show (1:Int) < 4 by decide) h)
 repeat (refine⟨PV,qk,id,rfl,by decide,by decide,fun x hx=>?_⟩; cases hx)
 refine (aj w 12 4 cd (by decide) (by decide)).u ?_
 repeat (refine⟨PV,qk,id,rfl,by decide,by decide,fun x hx=>?_⟩; cases hx)
 refine (ai 0 (by decide)).u ?_
 refine li ?_
 refine li ?_
 refine fun _=>And.intro (fun _=>?_) (fun h=>absurd (show (2:Int) < 4 by decide) h)
 repeat (refine⟨PV,qk,id,rfl,by decide,by decide,fun x hx=>?_⟩; cases hx)
 refine (aj w 8 4 cd (by decide) (by decide)).u ?_
 repeat (refine⟨PV,qk,id,rfl,by decide,by decide,fun x hx=>?_⟩; cases hx)
 refine (ai 0 (by decide)).u ?_
 refine li ?_
 refine li ?_
 refine fun _=>And.intro (fun _=>?_) (fun h=>absurd (show (3:Int) < 4 by decide) h)
 repeat (refine⟨PV,qk,id,rfl,by decide,by decide,fun x hx=>?_⟩; cases hx)
 refine (aj w 0 4 cd (by decide) (by decide)).u ?_
 repeat (refine⟨PV,qk,id,rfl,by decide,by decide,fun x hx=>?_⟩; cases hx)
 refine (ai 0 (by decide)).u ?_
 refine li ?_
 refine li ?_
 refine fun _=>And.intro (fun h=>absurd h (show ¬ (4:Int) < 4 by decide)) (fun _=>?_)
 exact rA
abbrev ql:List PV:=[.agg [.lit .i64 1,.lit .i64 0,.lit .i64 16,.lit .i64 4],.agg [.lit .i64 0,.lit .i64 0,.lit .i64 12,.lit .i64 4],.agg [.lit .i64 3,.lit .i64 0,.lit .i64 8,.lit .i64 4],.agg [.lit .i64 2,.lit .i64 0,.lit .i64 0,.lit .i64 4]]
theorem L0 (f w:Int) (hs:ae f=31) (hf:fe f) (hw:aP w):ah gT 157 [.int .i64 f,.int .i64 w] (bX (CG f w)):=by
 have cd:-1099511627776<=w/\w<=9223372036854775807:=by unfold aP at hw; omega
 have b0:=ab w 16 4
 have b1:=ab w 12 4
 have b2:=ab w 8 4
 have b3:=ab w 0 4
 refine Spec.enter ar cA 100 Tryz.func157 rfl (by kernel_rfl) ?_
 refine (bI hf hs).u ?_
 refine wR.u ?_
 refine SW.rounds ar cA (by kernel_rfl) (N:=60) 5 ?_
 refine fun _=>And.intro (fun _=>?_) (fun h=>absurd (show (0:Int) < 4 by decide) h)
 repeat (refine⟨PV,ql,id,rfl,by decide,by decide,fun x hx=>?_⟩; cases hx)
 refine (aj w 16 4 cd (by decide) (by decide)).u ?_
 repeat (refine⟨PV,ql,id,rfl,by decide,by decide,fun x hx=>?_⟩; cases hx)
 refine (ai 0 (by decide)).u ?_
 refine li ?_
 refine li ?_
 refine fun _=>And.intro (fun _=>?_) (fun h=>absurd (show (1:Int) < 4 by decide) h)
 repeat (refine⟨PV,ql,id,rfl,by decide,by decide,fun x hx=>?_⟩; cases hx)
 refine (aj w 12 4 cd (by decide) (by decide)).u ?_
 repeat (refine⟨PV,ql,id,rfl,by decide,by decide,fun x hx=>?_⟩; cases hx)
 refine (ai 0 (by decide)).u ?_
 refine li ?_
 refine li ?_
 refine fun _=>And.intro (fun _=>?_) (fun h=>absurd (show (2:Int) < 4 by decide) h)
 repeat (refine⟨PV,ql,id,rfl,by decide,by decide,fun x hx=>?_⟩; cases hx)
 refine (aj w 8 4 cd (by decide) (by decide)).u ?_
 repeat (refine⟨PV,ql,id,rfl,by decide,by decide,fun x hx=>?_⟩; cases hx)
 refine (ai 0 (by decide)).u ?_
 refine li ?_
 refine li ?_
 refine fun _=>And.intro (fun _=>?_) (fun h=>absurd (show (3:Int) < 4 by decide) h)
 repeat (refine⟨PV,ql,id,rfl,by decide,by decide,fun x hx=>?_⟩; cases hx)
 refine (aj w 0 4 cd (by decide) (by decide)).u ?_
 repeat (refine⟨PV,ql,id,rfl,by decide,by decide,fun x hx=>?_⟩; cases hx)
 refine (ai 0 (by decide)).u ?_
 refine li ?_
 refine li ?_
 refine fun _=>And.intro (fun h=>absurd h (show ¬ (4:Int) < 4 by decide)) (fun _=>?_)
 exact rA
abbrev uT:List PV:=[.agg [.lit .i64 2,.lit .i64 0,.lit .i64 16,.lit .i64 4],.agg [.lit .i64 0,.lit .i64 0,.lit .i64 8,.lit .i64 4],.agg [.lit .i64 2,.lit .i64 0,.lit .i64 0,.lit .i64 4]]
theorem L1 (f w:Int) (hs:ae f=32) (hf:fe f) (hw:aP w):ah gT 157 [.int .i64 f,.int .i64 w] (bX (CH f w)):=by
 have cd:-1099511627776<=w/\w<=9223372036854775807:=by unfold aP at hw; omega
 have b0:=ab w 16 4
 have b1:=ab w 8 4
 have b2:=ab w 0 4
 refine Spec.enter ar cA 100 Tryz.func157 rfl (by kernel_rfl) ?_
 refine (bI hf hs).u ?_
 refine wS.u ?_
 refine SW.rounds ar cA (by kernel_rfl) (N:=60) 4 ?_
 refine fun _=>And.intro (fun _=>?_) (fun h=>absurd (show (0:Int) < 3 by decide) h)
 repeat (refine⟨PV,uT,id,rfl,by decide,by decide,fun x hx=>?_⟩; cases hx)
 refine (aj w 16 4 cd (by decide) (by decide)).u ?_
 repeat (refine⟨PV,uT,id,rfl,by decide,by decide,fun x hx=>?_⟩; cases hx)
 refine (ai 0 (by decide)).u ?_
 refine li ?_
 refine li ?_
 refine fun _=>And.intro (fun _=>?_) (fun h=>absurd (show (1:Int) < 3 by decide) h)
 repeat (refine⟨PV,uT,id,rfl,by decide,by decide,fun x hx=>?_⟩; cases hx)
 refine (aj w 8 4 cd (by decide) (by decide)).u ?_
 repeat (refine⟨PV,uT,id,rfl,by decide,by decide,fun x hx=>?_⟩; cases hx)
 refine (ai 0 (by decide)).u ?_
 refine li ?_
 refine li ?_
 refine fun _=>And.intro (fun _=>?_) (fun h=>absurd (show (2:Int) < 3 by decide) h)
 repeat (refine⟨PV,uT,id,rfl,by decide,by decide,fun x hx=>?_⟩; cases hx)
 refine (aj w 0 4 cd (by decide) (by decide)).u ?_
 repeat (refine⟨PV,uT,id,rfl,by decide,by decide,fun x hx=>?_⟩; cases hx)
 refine (ai 0 (by decide)).u ?_
 refine li ?_
 refine li ?_
 refine fun _=>And.intro (fun h=>absurd h (show ¬ (3:Int) < 3 by decide)) (fun _=>?_)
 refine (aj w 0 4 cd (by decide) (by decide)).u ?_
 exact rA
abbrev kR:List PV:=[.agg [.lit .i64 4,.lit .i64 20,.lit .i64 26,.lit .i64 1],.agg [.lit .i64 8,.lit .i64 0,.lit .i64 22,.lit .i64 4],.agg [.lit .i64 4,.lit .i64 12,.lit .i64 16,.lit .i64 6],.agg [.lit .i64 4,.lit .i64 18,.lit .i64 13,.lit .i64 1],.agg [.lit .i64 4,.lit .i64 19,.lit .i64 11,.lit .i64 1],.agg [.lit .i64 4,.lit .i64 1,.lit .i64 0,.lit .i64 11]]
theorem L2 (f w:Int) (hs:ae f=33) (hf:fe f) (hw:aP w):ah gT 157 [.int .i64 f,.int .i64 w] (bX (CI f w)):=by
 have cd:-1099511627776<=w/\w<=9223372036854775807:=by unfold aP at hw; omega
 have b0:=ab w 26 1
 have b1:=ab w 22 4
 have b2:=ab w 16 6
 have b3:=ab w 13 1
 have b4:=ab w 11 1
 have b5:=ab w 0 11
 refine Spec.enter ar cA 100 Tryz.func157 rfl (by kernel_rfl) ?_
 refine (bI hf hs).u ?_
 refine wT.u ?_
 refine SW.rounds ar cA (by kernel_rfl) (N:=60) 7 ?_
 refine fun _=>And.intro (fun _=>?_) (fun h=>absurd (show (0:Int) < 6 by decide) h)
 repeat (refine⟨PV,kR,id,rfl,by decide,by decide,fun x hx=>?_⟩; cases hx)
 refine (aj w 26 1 cd (by decide) (by decide)).u ?_
 repeat (refine⟨PV,kR,id,rfl,by decide,by decide,fun x hx=>?_⟩; cases hx)
 refine (ai 20 (by decide)).u ?_
 refine li ?_
 refine li ?_
 refine fun _=>And.intro (fun _=>?_) (fun h=>absurd (show (1:Int) < 6 by decide) h)
 repeat (refine⟨PV,kR,id,rfl,by decide,by decide,fun x hx=>?_⟩; cases hx)
 refine (aj w 22 4 cd (by decide) (by decide)).u ?_
 repeat (refine⟨PV,kR,id,rfl,by decide,by decide,fun x hx=>?_⟩; cases hx)
 refine (ai 0 (by decide)).u ?_
 refine li ?_
 refine li ?_
 refine fun _=>And.intro (fun _=>?_) (fun h=>absurd (show (2:Int) < 6 by decide) h)
 repeat (refine⟨PV,kR,id,rfl,by decide,by decide,fun x hx=>?_⟩; cases hx)
 refine (aj w 16 6 cd (by decide) (by decide)).u ?_
 repeat (refine⟨PV,kR,id,rfl,by decide,by decide,fun x hx=>?_⟩; cases hx)
 refine (ai 12 (by decide)).u ?_
 refine li ?_
 refine li ?_
 refine fun _=>And.intro (fun _=>?_) (fun h=>absurd (show (3:Int) < 6 by decide) h)
 repeat (refine⟨PV,kR,id,rfl,by decide,by decide,fun x hx=>?_⟩; cases hx)
 refine (aj w 13 1 cd (by decide) (by decide)).u ?_
 repeat (refine⟨PV,kR,id,rfl,by decide,by decide,fun x hx=>?_⟩; cases hx)
 refine (ai 18 (by decide)).u ?_
 refine li ?_
 refine li ?_
 refine fun _=>And.intro (fun _=>?_) (fun h=>absurd (show (4:Int) < 6 by decide) h)
 repeat (refine⟨PV,kR,id,rfl,by decide,by decide,fun x hx=>?_⟩; cases hx)
 refine (aj w 11 1 cd (by decide) (by decide)).u ?_
 repeat (refine⟨PV,kR,id,rfl,by decide,by decide,fun x hx=>?_⟩; cases hx)
 refine (ai 19 (by decide)).u ?_
 refine li ?_
 refine li ?_
 refine fun _=>And.intro (fun _=>?_) (fun h=>absurd (show (5:Int) < 6 by decide) h)
 repeat (refine⟨PV,kR,id,rfl,by decide,by decide,fun x hx=>?_⟩; cases hx)
 refine (aj w 0 11 cd (by decide) (by decide)).u ?_
 repeat (refine⟨PV,kR,id,rfl,by decide,by decide,fun x hx=>?_⟩; cases hx)
 refine (ai 1 (by decide)).u ?_
 refine li ?_
 refine li ?_
 refine fun _=>And.intro (fun h=>absurd h (show ¬ (6:Int) < 6 by decide)) (fun _=>?_)
 refine (kF (0+aa w 26 1*2 ^ 20+aa w 16 6*2 ^ 12+aa w 13 1*2 ^ 18+aa w 11 1*2 ^ 19+aa w 0 11*2 ^ 1) 21 ⟨by omega,by omega⟩ (by decide)).u ?_
 exact rA
abbrev nc:List PV:=[.agg [.lit .i64 4,.lit .i64 24,.lit .i64 26,.lit .i64 1],.agg [.lit .i64 4,.lit .i64 12,.lit .i64 16,.lit .i64 10],.agg [.lit .i64 4,.lit .i64 23,.lit .i64 13,.lit .i64 1],.agg [.lit .i64 4,.lit .i64 22,.lit .i64 11,.lit .i64 1],.agg [.lit .i64 4,.lit .i64 1,.lit .i64 0,.lit .i64 11]]
theorem L3 (f w:Int) (hs:ae f=34) (hf:fe f) (hw:aP w):ah gT 157 [.int .i64 f,.int .i64 w] (bX (CJ f w)):=by
 have cd:-1099511627776<=w/\w<=9223372036854775807:=by unfold aP at hw; omega
 have b0:=ab w 26 1
 have b1:=ab w 16 10
 have b2:=ab w 13 1
 have b3:=ab w 11 1
 have b4:=ab w 0 11
 refine Spec.enter ar cA 100 Tryz.func157 rfl (by kernel_rfl) ?_
 refine (bI hf hs).u ?_
 refine wU.u ?_
 refine SW.rounds ar cA (by kernel_rfl) (N:=60) 6 ?_
 refine fun _=>And.intro (fun _=>?_) (fun h=>absurd (show (0:Int) < 5 by decide) h)
 repeat (refine⟨PV,nc,id,rfl,by decide,by decide,fun x hx=>?_⟩; cases hx)
 refine (aj w 26 1 cd (by decide) (by decide)).u ?_
 repeat (refine⟨PV,nc,id,rfl,by decide,by decide,fun x hx=>?_⟩; cases hx)
 refine (ai 24 (by decide)).u ?_
 refine li ?_
 refine li ?_
 refine fun _=>And.intro (fun _=>?_) (fun h=>absurd (show (1:Int) < 5 by decide) h)
 repeat (refine⟨PV,nc,id,rfl,by decide,by decide,fun x hx=>?_⟩; cases hx)
 refine (aj w 16 10 cd (by decide) (by decide)).u ?_
 repeat (refine⟨PV,nc,id,rfl,by decide,by decide,fun x hx=>?_⟩; cases hx)
 refine (ai 12 (by decide)).u ?_
 refine li ?_
 refine li ?_
 refine fun _=>And.intro (fun _=>?_) (fun h=>absurd (show (2:Int) < 5 by decide) h)
 repeat (refine⟨PV,nc,id,rfl,by decide,by decide,fun x hx=>?_⟩; cases hx)
 refine (aj w 13 1 cd (by decide) (by decide)).u ?_
 repeat (refine⟨PV,nc,id,rfl,by decide,by decide,fun x hx=>?_⟩; cases hx)
 refine (ai 23 (by decide)).u ?_
 refine li ?_
 refine li ?_
 refine fun _=>And.intro (fun _=>?_) (fun h=>absurd (show (3:Int) < 5 by decide) h)
 repeat (refine⟨PV,nc,id,rfl,by decide,by decide,fun x hx=>?_⟩; cases hx)
 refine (aj w 11 1 cd (by decide) (by decide)).u ?_
 repeat (refine⟨PV,nc,id,rfl,by decide,by decide,fun x hx=>?_⟩; cases hx)
 refine (ai 22 (by decide)).u ?_
 refine li ?_
 refine li ?_
 refine fun _=>And.intro (fun _=>?_) (fun h=>absurd (show (4:Int) < 5 by decide) h)
 repeat (refine⟨PV,nc,id,rfl,by decide,by decide,fun x hx=>?_⟩; cases hx)
 refine (aj w 0 11 cd (by decide) (by decide)).u ?_
 repeat (refine⟨PV,nc,id,rfl,by decide,by decide,fun x hx=>?_⟩; cases hx)
 refine (ai 1 (by decide)).u ?_
 refine li ?_
 refine li ?_
 refine fun _=>And.intro (fun h=>absurd h (show ¬ (5:Int) < 5 by decide)) (fun _=>?_)
 have tb:=mC (n:=0+aa w 26 1*2 ^ 24+aa w 16 10*2 ^ 12+aa w 13 1*2 ^ 23+aa w 11 1*2 ^ 22+aa w 0 11*2 ^ 1) ⟨by omega,by omega⟩
 refine (uM (0+aa w 26 1*2 ^ 24+aa w 16 10*2 ^ 12+aa w 13 1*2 ^ 23+aa w 11 1*2 ^ 22+aa w 0 11*2 ^ 1) ⟨by omega,by omega⟩).u ?_
 refine (kF (aB (0+aa w 26 1*2 ^ 24+aa w 16 10*2 ^ 12+aa w 13 1*2 ^ 23+aa w 11 1*2 ^ 22+aa w 0 11*2 ^ 1) 2) 25 ⟨by omega,by omega⟩ (by decide)).u ?_
 exact rA
theorem iU:∀ (i:IN),ki (bX i) (bX i):=fun i=>⟨rfl,rfl,rfl,rfl,rfl,rfl,rfl,rfl,rfl,rfl,rfl,trivial⟩
theorem q2:Ev.aD .i64 2=4:=by decide
theorem q14:Ev.aD .i64 14=16384:=by decide
theorem q15:Ev.aD .i64 15=32768:=by decide
theorem A9 (f w:Int) (hF:1<=f/\f<=100) (hs:ae f=1) (hw:aP w):ah gT 121 [.int .i64 f,.int .u32 w] (bX (LL f w)):=by
 have b0:=ab w 6 5
 have b1:=ab w 3 3
 have b2:=ab w 0 3
 unfold LL
 refine Spec.enter ar lM 100 Tryz.func121 rfl (by kernel_rfl) ?_
 have h3:=uQ hF hs
 have e:∀ x:Int,x=0+x*2 ^ 0:=fun x=>by omega
 refine (aw hs).u ?_
 refine (aJ w 0 3 hw (by decide) (by decide)).u ?_
 refine (aJ w 3 3 hw (by decide) (by decide)).u ?_
 refine (aJ w 6 5 hw (by decide) (by decide)).u ?_
 refine⟨fun h1=>?_,fun h1=>?_⟩
 ·refine⟨[],aT,(fg 1 (0+aa w 6 5*2 ^ 0)).use (And.intro rfl (And.intro (e _) trivial)) rfl rfl ?_⟩
  refine ao ?_
  (repeat' first|exact trivial|exact rfl|exact e _|refine And.intro ?_ ?_)
  show (if 0+aa w 6 5*2 ^ 0=0/\((1:Int)=1\/(1:Int)=2) then (32:Int) else _)=if 1 < f/\0+aa w 6 5*2 ^ 0=0 then (32:Int) else 0+aa w 6 5*2 ^ 0
  have qB:¬ f=1:=h1
  (repeat' split)<;>omega
 ·refine ao ?_
  (repeat' first|exact trivial|exact rfl|exact e _|refine And.intro ?_ ?_)
  show aa w 6 5=if 1 < f/\0+aa w 6 5*2 ^ 0=0 then (32:Int) else 0+aa w 6 5*2 ^ 0
  have qB:¬ ¬ f=1:=h1
  (repeat' split)<;>omega
theorem A' (f w:Int) (hF:1<=f/\f<=100) (hs:ae f=2) (hw:aP w):ah gT 121 [.int .i64 f,.int .u32 w] (bX (LM f w)):=by
 have b0:=ab w 6 3
 have b1:=ab w 3 3
 have b2:=ab w 0 3
 unfold LM
 refine Spec.enter ar lM 100 Tryz.func121 rfl (by kernel_rfl) ?_
 refine (aw hs).u ?_
 refine (nK ⟨f,0,0,0,0,0,0,0,0,0,0⟩ w hw).u ?_
 refine (aJ w 6 3 hw (by decide) (by decide)).u ?_
 refine ao ?_
 (repeat' first|exact trivial|exact rfl|refine And.intro ?_ ?_)
 all_goals (show (_:Int)=_; (try dsimp only [bZ,cC]); first|omega|(unfold eI; omega))
theorem A_ (f w:Int) (hF:1<=f/\f<=100) (hs:ae f=3) (hw:aP w):ah gT 121 [.int .i64 f,.int .u32 w] (bX (LN f w)):=by
 have b0:=ab w 6 3
 have b1:=ab w 3 3
 have b2:=ab w 0 3
 unfold LN
 refine Spec.enter ar lM 100 Tryz.func121 rfl (by kernel_rfl) ?_
 refine (aw hs).u ?_
 refine (nK ⟨f,0,0,0,0,0,0,0,0,0,0⟩ w hw).u ?_
 refine (aJ w 6 3 hw (by decide) (by decide)).u ?_
 refine ao ?_
 (repeat' first|exact trivial|exact rfl|refine And.intro ?_ ?_)
 all_goals (show (_:Int)=_; (try dsimp only [bZ,cC]); first|omega|(unfold eI; omega))
theorem Ba (f w:Int) (hF:1<=f/\f<=100) (hs:ae f=4) (hw:aP w):ah gT 121 [.int .i64 f,.int .u32 w] (bX (LO f w)):=by
 have b0:=ab w 8 3
 have b1:=ab w 0 8
 unfold LO
 refine Spec.enter ar lM 100 Tryz.func121 rfl (by kernel_rfl) ?_
 refine (aw hs).u ?_
 refine (aJ w 8 3 hw (by decide) (by decide)).u ?_
 refine (aJ w 0 8 hw (by decide) (by decide)).u ?_
 refine ao ?_
 (repeat' first|exact trivial|exact rfl|refine And.intro ?_ ?_)
 all_goals (show (_:Int)=_; (try dsimp only [bZ,cC]); first|omega|(unfold eI; omega))
theorem Bb (f w:Int) (hF:1<=f/\f<=100) (hs:ae f=5) (hw:aP w):ah gT 121 [.int .i64 f,.int .u32 w] (bX (LP f w)):=by
 have b0:=ab w 3 3
 have b1:=ab w 0 3
 unfold LP
 refine Spec.enter ar lM 100 Tryz.func121 rfl (by kernel_rfl) ?_
 refine (aw hs).u ?_
 refine (aJ w 0 3 hw (by decide) (by decide)).u ?_
 refine (aJ w 3 3 hw (by decide) (by decide)).u ?_
 refine ao ?_
 (repeat' first|exact trivial|exact rfl|refine And.intro ?_ ?_)
 all_goals (show (_:Int)=_; (try dsimp only [bZ,cC]); first|omega|(unfold eI; omega))
theorem Bc (f w:Int) (hF:1<=f/\f<=100) (hs:ae f=6) (hw:aP w):ah gT 121 [.int .i64 f,.int .u32 w] (bX (LQ f w)):=by
 have b0:=ab w 7 1
 have b1:=ab w 3 4
 have b2:=ab w 0 3
 unfold LQ
 refine Spec.enter ar lM 100 Tryz.func121 rfl (by kernel_rfl) ?_
 refine (aw hs).u ?_
 refine (aJ w 7 1 hw (by decide) (by decide)).u ?_
 refine⟨by decide,.inl ⟨ax (by rw[q3]; omega),?_⟩⟩
 refine (aJ w 0 3 hw (by decide) (by decide)).u ?_
 refine (aJ w 3 4 hw (by decide) (by decide)).u ?_
 have e:bits .or .i64 (aa w 7 1*Ev.aD .i64 3) (aa w 0 3)=0+aa w 7 1*2 ^ 3+aa w 0 3*2 ^ 0:=by
  rw[q3,Rm.df (aa w 7 1*8) (aa w 0 3) 3 (by omega) (by omega) (by omega) (by omega) (by omega) (by omega)]; omega
 refine ao ?_
 (repeat' first|exact trivial|exact rfl|exact e|refine And.intro ?_ ?_)
 all_goals (show (_:Int)=_; (try dsimp only [bZ,cC]); omega)
theorem Bd (f w:Int) (hF:1<=f/\f<=100) (hs:ae f=7) (hw:aP w):ah gT 121 [.int .i64 f,.int .u32 w] (bX (LR f w)):=by
 have b0:=ab w 3 4
 unfold LR
 refine Spec.enter ar lM 100 Tryz.func121 rfl (by kernel_rfl) ?_
 refine (aw hs).u ?_
 refine (aJ w 3 4 hw (by decide) (by decide)).u ?_
 refine ao ?_
 (repeat' first|exact trivial|exact rfl|refine And.intro ?_ ?_)
 all_goals (show (_:Int)=_; (try dsimp only [bZ,cC]); first|omega|(unfold eI; omega))
theorem Be (f w:Int) (hF:1<=f/\f<=100) (hs:ae f=8) (hw:aP w):ah gT 121 [.int .i64 f,.int .u32 w] (bX (LS f w)):=by
 have b0:=ab w 8 3
 have b1:=ab w 0 8
 unfold LS
 refine Spec.enter ar lM 100 Tryz.func121 rfl (by kernel_rfl) ?_
 refine (aw hs).u ?_
 refine (aJ w 8 3 hw (by decide) (by decide)).u ?_
 refine (aJ w 0 8 hw (by decide) (by decide)).u ?_
 refine li ?_
 refine ao ?_
 (repeat' first|exact trivial|exact rfl|refine And.intro ?_ ?_)
 all_goals (show (_:Int)=_; (try dsimp only [bZ,cC]); first|omega|(unfold eI; omega))
theorem Bf (f w:Int) (hF:1<=f/\f<=100) (hs:ae f=9) (hw:aP w):ah gT 121 [.int .i64 f,.int .u32 w] (bX (LU f w)):=by
 have b0:=ab w 6 5
 have b1:=ab w 3 3
 have b2:=ab w 0 3
 unfold LU
 refine Spec.enter ar lM 100 Tryz.func121 rfl (by kernel_rfl) ?_
 refine (aw hs).u ?_
 refine (nK ⟨f,0,0,0,0,0,0,0,0,0,0⟩ w hw).u ?_
 refine (aJ w 6 5 hw (by decide) (by decide)).u ?_
 refine li ?_
 refine ao ?_
 (repeat' first|exact trivial|exact rfl|refine And.intro ?_ ?_)
 all_goals (show (_:Int)=_; (try dsimp only [bZ,cC]); first|omega|(unfold eI; omega))
theorem y_ (f w:Int) (hF:1<=f/\f<=100) (hs:ae f=10) (hw:aP w):ah gT 121 [.int .i64 f,.int .u32 w] (bX (Cr f w)):=by
 have b0:=ab w 0 7
 unfold Cr
 refine Spec.enter ar lM 100 Tryz.func121 rfl (by kernel_rfl) ?_
 refine (aw hs).u ?_
 refine (aJ w 0 7 hw (by decide) (by decide)).u ?_
 refine li ?_
 refine ao ?_
 (repeat' first|exact trivial|exact rfl|refine And.intro ?_ ?_)
 all_goals (show (_:Int)=_; (try dsimp only [bZ,cC]); first|omega|(unfold eI; omega))
theorem za (f w:Int) (hF:1<=f/\f<=100) (hs:ae f=11) (hw:aP w):ah gT 121 [.int .i64 f,.int .u32 w] (bX (Cs f w)):=by
 have b0:=ab w 8 1
 have b1:=ab w 0 8
 unfold Cs
 refine Spec.enter ar lM 100 Tryz.func121 rfl (by kernel_rfl) ?_
 refine (aw hs).u ?_
 refine (aJ w 8 1 hw (by decide) (by decide)).u ?_
 refine⟨by decide,.inl ⟨ax (by rw[q14]; omega),?_⟩⟩
 refine (aJ w 0 8 hw (by decide) (by decide)).u ?_
 have e:bits .or .i64 (aa w 8 1*Ev.aD .i64 14) (aa w 0 8)=0+aa w 8 1*2 ^ 14+aa w 0 8*2 ^ 0:=by
  rw[q14,Rm.df (aa w 8 1*16384) (aa w 0 8) 14 (by omega) (by omega) (by omega) (by omega) (by omega) (by omega)]; omega
 refine ao ?_
 (repeat' first|exact trivial|exact rfl|exact e|refine And.intro ?_ ?_)
 all_goals (show (_:Int)=_; (try dsimp only [bZ,cC]); omega)
theorem zb (f w:Int) (hF:1<=f/\f<=100) (hs:ae f=12) (hw:aP w):ah gT 121 [.int .i64 f,.int .u32 w] (bX (Ct f w)):=by
 have b0:=ab w 8 1
 have b1:=ab w 0 8
 unfold Ct
 refine Spec.enter ar lM 100 Tryz.func121 rfl (by kernel_rfl) ?_
 refine (aw hs).u ?_
 refine (aJ w 8 1 hw (by decide) (by decide)).u ?_
 refine⟨by decide,.inl ⟨ax (by rw[q15]; omega),?_⟩⟩
 refine (aJ w 0 8 hw (by decide) (by decide)).u ?_
 have e:bits .or .i64 (aa w 8 1*Ev.aD .i64 15) (aa w 0 8)=0+aa w 8 1*2 ^ 15+aa w 0 8*2 ^ 0:=by
  rw[q15,Rm.df (aa w 8 1*32768) (aa w 0 8) 15 (by omega) (by omega) (by omega) (by omega) (by omega) (by omega)]; omega
 refine ao ?_
 (repeat' first|exact trivial|exact rfl|exact e|refine And.intro ?_ ?_)
 all_goals (show (_:Int)=_; (try dsimp only [bZ,cC]); omega)
theorem zc (f w:Int) (hF:1<=f/\f<=100) (hs:ae f=13) (hw:aP w):ah gT 121 [.int .i64 f,.int .u32 w] (bX (Cu f w)):=by
 unfold Cu
 refine Spec.enter ar lM 100 Tryz.func121 rfl (by kernel_rfl) ?_
 refine (aw hs).u ?_
 exact rA
theorem zd (f w:Int) (hF:1<=f/\f<=100) (hs:ae f=14) (hw:aP w):ah gT 121 [.int .i64 f,.int .u32 w] (bX (Cv f w)):=by
 have b0:=ab w 0 8
 unfold Cv
 refine Spec.enter ar lM 100 Tryz.func121 rfl (by kernel_rfl) ?_
 refine (aw hs).u ?_
 refine (aJ w 0 8 hw (by decide) (by decide)).u ?_
 refine ao ?_
 (repeat' first|exact trivial|exact rfl|refine And.intro ?_ ?_)
 all_goals (show (_:Int)=_; (try dsimp only [bZ,cC]); first|omega|(unfold eI; omega))
theorem ze (f w:Int) (hF:1<=f/\f<=100) (hs:ae f=15) (hw:aP w):ah gT 121 [.int .i64 f,.int .u32 w] (bX (Cw f w)):=by
 have b0:=ab w 8 4
 have b1:=ab w 0 8
 unfold Cw
 refine Spec.enter ar lM 100 Tryz.func121 rfl (by kernel_rfl) ?_
 refine (aw hs).u ?_
 refine (aJ w 8 4 hw (by decide) (by decide)).u ?_
 refine (aJ w 0 8 hw (by decide) (by decide)).u ?_
 refine⟨by decide,.inl ⟨ax (by rw[q1]; omega),?_⟩⟩
 refine⟨[],aT,(jo (0+aa w 0 8*2 ^ 1) 8 (by decide) ⟨by omega,by omega⟩).use (And.intro (show aa w 0 8*Ev.aD .i64 1=_ by rw[q1]; omega) (And.intro rfl trivial)) rfl rfl ?_⟩
 refine ao ?_
 (repeat' first|exact trivial|exact rfl|refine And.intro ?_ ?_)
 all_goals (show (_:Int)=_; (try dsimp only [bZ,cC]); first|omega|(unfold eI; omega))
theorem zf (f w:Int) (hF:1<=f/\f<=100) (hs:ae f=16) (hw:aP w):ah gT 121 [.int .i64 f,.int .u32 w] (bX (Cy f w)):=by
 have b0:=ab w 0 11
 unfold Cy
 refine Spec.enter ar lM 100 Tryz.func121 rfl (by kernel_rfl) ?_
 refine (aw hs).u ?_
 refine (aJ w 0 11 hw (by decide) (by decide)).u ?_
 refine⟨by decide,.inl ⟨ax (by rw[q1]; omega),?_⟩⟩
 refine⟨[],aT,(jo (0+aa w 0 11*2 ^ 1) 11 (by decide) ⟨by omega,by omega⟩).use (And.intro (show aa w 0 11*Ev.aD .i64 1=_ by rw[q1]; omega) (And.intro rfl trivial)) rfl rfl ?_⟩
 refine ao ?_
 (repeat' first|exact trivial|exact rfl|refine And.intro ?_ ?_)
 all_goals (show (_:Int)=_; (try dsimp only [bZ,cC]); first|omega|(unfold eI; omega))
theorem t_ (f w:Int) (hs:17<=ae f) (hw:aP w):ah gT 121 [.int .i64 f,.int .u32 w] (bX ⟨f,0,0,0,0,0,0,0,0,0,0⟩):=by
 refine Spec.enter ar lM 100 Tryz.func121 rfl (by kernel_rfl) ?_
 refine (fQ f).u ?_
 iterate 15 (refine And.intro (fun h=>absurd (show ae f=_ from h) (by omega)) (fun _=>?_))
 exact rA
theorem El (f w:Int) (hF:1<=f/\f<=100) (hs:ae f=17) (hw:aP w):ah gT 122 [.int .i64 f,.int .u32 w] (bX (Cz f w)):=by
 have b0:=ab w 26 1
 have b1:=ab w 16 4
 have b2:=ab w 12 3
 have b3:=ab w 0 8
 have b4:=ab w 8 4
 unfold Cz
 refine Spec.enter ar lf 100 Tryz.func122 rfl (by kernel_rfl) ?_
 refine (bx ⟨f,0,0,0,0,0,0,0,0,0,0⟩ w hw).u ?_
 refine (aw hs).u ?_
 refine (HI w hw).u ?_
 refine ao ?_
 (repeat' first|exact trivial|exact rfl|refine And.intro ?_ ?_)
 all_goals (show (_:Int)=_; (try dsimp only [bZ,cC]); first|omega|(unfold eI; omega))
theorem wW (f w:Int) (hF:1<=f/\f<=100) (hs:ae f=18) (hw:aP w):ah gT 173 [.int .i64 f,.int .u32 w] (bX (yN f w)):=by
 have b0:=ab w 26 1
 have b1:=ab w 12 3
 have b2:=ab w 0 8
 have b3:=ab w 20 1
 have b4:=ab w 16 4
 have b5:=ab w 8 4
 unfold yN
 refine Spec.enter ar KU 100 Tryz.func173 rfl (by kernel_rfl) ?_
 refine (bx ⟨f,0,0,0,0,0,0,0,0,0,0⟩ w hw).u ?_
 refine (oQ w hw).u ?_
 refine (aw hs).u ?_
 refine ao ?_
 (repeat' first|exact trivial|exact rfl|refine And.intro ?_ ?_)
 all_goals (show (_:Int)=_; (try dsimp only [bZ,cC]); first|omega|(unfold eI; omega))
theorem En (f w:Int) (hF:1<=f/\f<=100) (hs:ae f=18) (hw:aP w):ah gT 122 [.int .i64 f,.int .u32 w] (bX (yN f w)):=by
 have b0:=ab w 26 1
 have b1:=ab w 12 3
 have b2:=ab w 0 8
 have b3:=ab w 20 1
 have b4:=ab w 16 4
 have b5:=ab w 8 4
 refine Spec.enter ar lf 100 Tryz.func122 rfl (by kernel_rfl) ?_
 refine (bx ⟨f,0,0,0,0,0,0,0,0,0,0⟩ w hw).u ?_
 refine (aw hs).u ?_
 refine (wW f w hF hs hw).u ?_
 exact ao (iU _)
theorem wX (f w:Int) (hF:1<=f/\f<=100) (hs:ae f=19) (hw:aP w):ah gT 173 [.int .i64 f,.int .u32 w] (bX (yO f w)):=by
 have b0:=ab w 26 1
 have b1:=ab w 12 3
 have b2:=ab w 0 8
 have b3:=ab w 20 1
 have b4:=ab w 8 4
 unfold yO
 refine Spec.enter ar KU 100 Tryz.func173 rfl (by kernel_rfl) ?_
 refine (bx ⟨f,0,0,0,0,0,0,0,0,0,0⟩ w hw).u ?_
 refine (oQ w hw).u ?_
 refine (aw hs).u ?_
 refine ao ?_
 (repeat' first|exact trivial|exact rfl|refine And.intro ?_ ?_)
 all_goals (show (_:Int)=_; (try dsimp only [bZ,cC]); first|omega|(unfold eI; omega))
theorem Eo (f w:Int) (hF:1<=f/\f<=100) (hs:ae f=19) (hw:aP w):ah gT 122 [.int .i64 f,.int .u32 w] (bX (yO f w)):=by
 have b0:=ab w 26 1
 have b1:=ab w 12 3
 have b2:=ab w 0 8
 have b3:=ab w 20 1
 have b4:=ab w 8 4
 refine Spec.enter ar lf 100 Tryz.func122 rfl (by kernel_rfl) ?_
 refine (bx ⟨f,0,0,0,0,0,0,0,0,0,0⟩ w hw).u ?_
 refine (aw hs).u ?_
 refine (wX f w hF hs hw).u ?_
 exact ao (iU _)
theorem wY (f w:Int) (hF:1<=f/\f<=100) (hs:ae f=20) (hw:aP w):ah gT 173 [.int .i64 f,.int .u32 w] (bX (yP f w)):=by
 have b0:=ab w 26 1
 have b1:=ab w 12 3
 have b2:=ab w 0 8
 have b3:=ab w 16 4
 unfold yP
 refine Spec.enter ar KU 100 Tryz.func173 rfl (by kernel_rfl) ?_
 refine (bx ⟨f,0,0,0,0,0,0,0,0,0,0⟩ w hw).u ?_
 refine (oQ w hw).u ?_
 refine (aw hs).u ?_
 refine ao ?_
 (repeat' first|exact trivial|exact rfl|refine And.intro ?_ ?_)
 all_goals (show (_:Int)=_; (try dsimp only [bZ,cC]); first|omega|(unfold eI; omega))
theorem Ep (f w:Int) (hF:1<=f/\f<=100) (hs:ae f=20) (hw:aP w):ah gT 122 [.int .i64 f,.int .u32 w] (bX (yP f w)):=by
 have b0:=ab w 26 1
 have b1:=ab w 12 3
 have b2:=ab w 0 8
 have b3:=ab w 16 4
 refine Spec.enter ar lf 100 Tryz.func122 rfl (by kernel_rfl) ?_
 refine (bx ⟨f,0,0,0,0,0,0,0,0,0,0⟩ w hw).u ?_
 refine (aw hs).u ?_
 refine (wY f w hF hs hw).u ?_
 exact ao (iU _)
theorem Er (f w:Int) (hF:1<=f/\f<=100) (hs:ae f=21) (hw:aP w):ah gT 174 [.int .i64 f,.int .u32 w] (bX (yQ f w)):=by
 have b0:=ab w 12 3
 have b1:=ab w 6 2
 have b2:=ab w 4 2
 have b3:=ab w 20 1
 have b4:=ab w 16 4
 have b5:=ab w 8 4
 have b6:=ab w 0 4
 unfold yQ
 refine Spec.enter ar Qm 100 Tryz.func174 rfl (by kernel_rfl) ?_
 refine (bx ⟨f,0,0,0,0,0,0,0,0,0,0⟩ w hw).u ?_
 refine (aJ w 4 2 hw (by decide) (by decide)).u ?_
 refine (aJ w 12 3 hw (by decide) (by decide)).u ?_
 refine⟨by decide,.inl ⟨ax (by rw[q2]; omega),?_⟩⟩
 refine (aJ w 6 2 hw (by decide) (by decide)).u ?_
 have ek:aa w 4 2=0+aa w 4 2*2 ^ 0:=by omega
 have e:bits .or .i64 (aa w 12 3*Ev.aD .i64 2) (aa w 6 2)=0+aa w 12 3*2 ^ 2+aa w 6 2*2 ^ 0:=by
  rw[q2,Rm.df (aa w 12 3*4) (aa w 6 2) 2 (by omega) (by omega) (by omega) (by omega) (by omega) (by omega)]; omega
 refine⟨[],aT,(fg (0+aa w 4 2*2 ^ 0) (0+aa w 12 3*2 ^ 2+aa w 6 2*2 ^ 0)).use (And.intro ek (And.intro e trivial)) rfl rfl ?_⟩
 repeat (refine And.intro ?_ ?_; rotate_left; focus (
  repeat' (first
   | refine Exists.intro [] (And.intro aT ((aJ w 4 2 hw (by decide) (by decide)).use (And.intro rfl (And.intro rfl (And.intro rfl trivial))) rfl rfl ?_))
   | refine Exists.intro [] (And.intro aT ((aJ w 12 3 hw (by decide) (by decide)).use (And.intro rfl (And.intro rfl (And.intro rfl trivial))) rfl rfl ?_))
   | refine Exists.intro [] (And.intro aT ((aJ w 6 2 hw (by decide) (by decide)).use (And.intro rfl (And.intro rfl (And.intro rfl trivial))) rfl rfl ?_))
   | refine Exists.intro [] (And.intro aT ((fg (0+aa w 4 2*2 ^ 0) (0+aa w 12 3*2 ^ 2+aa w 6 2*2 ^ 0)).use (And.intro ek (And.intro e trivial)) rfl rfl ?_))
   | refine And.intro (show (0:Int)<=2 by decide) (Or.inl (And.intro (ax (by rw[q2]; omega)) ?_))
   | exact rfl
   | exact trivial
   | refine And.intro ?_ ?_)))
 refine (aw hs).u ?_
 refine (aw hs).u ?_
 refine ao ?_
 (repeat' first|exact trivial|exact rfl|refine And.intro ?_ ?_)
 all_goals (show (_:Int)=_; (try dsimp only [bZ,cC]); first|omega|(unfold eI; omega))
theorem Es (f w:Int) (hF:1<=f/\f<=100) (hs:ae f=21) (hw:aP w):ah gT 122 [.int .i64 f,.int .u32 w] (bX (yQ f w)):=by
 have b0:=ab w 12 3
 have b1:=ab w 6 2
 have b2:=ab w 4 2
 have b3:=ab w 20 1
 have b4:=ab w 16 4
 have b5:=ab w 8 4
 have b6:=ab w 0 4
 refine Spec.enter ar lf 100 Tryz.func122 rfl (by kernel_rfl) ?_
 refine (bx ⟨f,0,0,0,0,0,0,0,0,0,0⟩ w hw).u ?_
 refine (aw hs).u ?_
 refine (Er f w hF hs hw).u ?_
 exact ao (iU _)
theorem Et (f w:Int) (hF:1<=f/\f<=100) (hs:ae f=22) (hw:aP w):ah gT 174 [.int .i64 f,.int .u32 w] (bX (yR f w)):=by
 have b0:=ab w 12 3
 have b1:=ab w 6 2
 have b2:=ab w 4 2
 have b3:=ab w 20 1
 have b4:=ab w 8 4
 have b5:=ab w 0 4
 unfold yR
 refine Spec.enter ar Qm 100 Tryz.func174 rfl (by kernel_rfl) ?_
 refine (bx ⟨f,0,0,0,0,0,0,0,0,0,0⟩ w hw).u ?_
 refine (aJ w 4 2 hw (by decide) (by decide)).u ?_
 refine (aJ w 12 3 hw (by decide) (by decide)).u ?_
 refine⟨by decide,.inl ⟨ax (by rw[q2]; omega),?_⟩⟩
 refine (aJ w 6 2 hw (by decide) (by decide)).u ?_
 have ek:aa w 4 2=0+aa w 4 2*2 ^ 0:=by omega
 have e:bits .or .i64 (aa w 12 3*Ev.aD .i64 2) (aa w 6 2)=0+aa w 12 3*2 ^ 2+aa w 6 2*2 ^ 0:=by
  rw[q2,Rm.df (aa w 12 3*4) (aa w 6 2) 2 (by omega) (by omega) (by omega) (by omega) (by omega) (by omega)]; omega
 refine⟨[],aT,(fg (0+aa w 4 2*2 ^ 0) (0+aa w 12 3*2 ^ 2+aa w 6 2*2 ^ 0)).use (And.intro ek (And.intro e trivial)) rfl rfl ?_⟩
 repeat (refine And.intro ?_ ?_; rotate_left; focus (
  repeat' (first
   | refine Exists.intro [] (And.intro aT ((aJ w 4 2 hw (by decide) (by decide)).use (And.intro rfl (And.intro rfl (And.intro rfl trivial))) rfl rfl ?_))
   | refine Exists.intro [] (And.intro aT ((aJ w 12 3 hw (by decide) (by decide)).use (And.intro rfl (And.intro rfl (And.intro rfl trivial))) rfl rfl ?_))
   | refine Exists.intro [] (And.intro aT ((aJ w 6 2 hw (by decide) (by decide)).use (And.intro rfl (And.intro rfl (And.intro rfl trivial))) rfl rfl ?_))
   | refine Exists.intro [] (And.intro aT ((fg (0+aa w 4 2*2 ^ 0) (0+aa w 12 3*2 ^ 2+aa w 6 2*2 ^ 0)).use (And.intro ek (And.intro e trivial)) rfl rfl ?_))
   | refine And.intro (show (0:Int)<=2 by decide) (Or.inl (And.intro (ax (by rw[q2]; omega)) ?_))
   | exact rfl
   | exact trivial
   | refine And.intro ?_ ?_)))
 refine (aw hs).u ?_
 refine (aw hs).u ?_
 refine ao ?_
 (repeat' first|exact trivial|exact rfl|refine And.intro ?_ ?_)
 all_goals (show (_:Int)=_; (try dsimp only [bZ,cC]); first|omega|(unfold eI; omega))
theorem Eu (f w:Int) (hF:1<=f/\f<=100) (hs:ae f=22) (hw:aP w):ah gT 122 [.int .i64 f,.int .u32 w] (bX (yR f w)):=by
 have b0:=ab w 12 3
 have b1:=ab w 6 2
 have b2:=ab w 4 2
 have b3:=ab w 20 1
 have b4:=ab w 8 4
 have b5:=ab w 0 4
 refine Spec.enter ar lf 100 Tryz.func122 rfl (by kernel_rfl) ?_
 refine (bx ⟨f,0,0,0,0,0,0,0,0,0,0⟩ w hw).u ?_
 refine (aw hs).u ?_
 refine (Et f w hF hs hw).u ?_
 exact ao (iU _)
theorem Ew (f w:Int) (hF:1<=f/\f<=100) (hs:ae f=23) (hw:aP w):ah gT 174 [.int .i64 f,.int .u32 w] (bX (yS f w)):=by
 have b0:=ab w 12 3
 have b1:=ab w 6 2
 have b2:=ab w 4 2
 have b3:=ab w 16 4
 have b4:=ab w 0 4
 unfold yS
 refine Spec.enter ar Qm 100 Tryz.func174 rfl (by kernel_rfl) ?_
 refine (bx ⟨f,0,0,0,0,0,0,0,0,0,0⟩ w hw).u ?_
 refine (aJ w 4 2 hw (by decide) (by decide)).u ?_
 refine (aJ w 12 3 hw (by decide) (by decide)).u ?_
 refine⟨by decide,.inl ⟨ax (by rw[q2]; omega),?_⟩⟩
 refine (aJ w 6 2 hw (by decide) (by decide)).u ?_
 have ek:aa w 4 2=0+aa w 4 2*2 ^ 0:=by omega
 have e:bits .or .i64 (aa w 12 3*Ev.aD .i64 2) (aa w 6 2)=0+aa w 12 3*2 ^ 2+aa w 6 2*2 ^ 0:=by
  rw[q2,Rm.df (aa w 12 3*4) (aa w 6 2) 2 (by omega) (by omega) (by omega) (by omega) (by omega) (by omega)]; omega
 refine⟨[],aT,(fg (0+aa w 4 2*2 ^ 0) (0+aa w 12 3*2 ^ 2+aa w 6 2*2 ^ 0)).use (And.intro ek (And.intro e trivial)) rfl rfl ?_⟩
 repeat (refine And.intro ?_ ?_; rotate_left; focus (
  repeat' (first
   | refine Exists.intro [] (And.intro aT ((aJ w 4 2 hw (by decide) (by decide)).use (And.intro rfl (And.intro rfl (And.intro rfl trivial))) rfl rfl ?_))
   | refine Exists.intro [] (And.intro aT ((aJ w 12 3 hw (by decide) (by decide)).use (And.intro rfl (And.intro rfl (And.intro rfl trivial))) rfl rfl ?_))
   | refine Exists.intro [] (And.intro aT ((aJ w 6 2 hw (by decide) (by decide)).use (And.intro rfl (And.intro rfl (And.intro rfl trivial))) rfl rfl ?_))
   | refine Exists.intro [] (And.intro aT ((fg (0+aa w 4 2*2 ^ 0) (0+aa w 12 3*2 ^ 2+aa w 6 2*2 ^ 0)).use (And.intro ek (And.intro e trivial)) rfl rfl ?_))
   | refine And.intro (show (0:Int)<=2 by decide) (Or.inl (And.intro (ax (by rw[q2]; omega)) ?_))
   | exact rfl
   | exact trivial
   | refine And.intro ?_ ?_)))
 refine (aw hs).u ?_
 refine (aw hs).u ?_
 refine ao ?_
 (repeat' first|exact trivial|exact rfl|refine And.intro ?_ ?_)
 all_goals (show (_:Int)=_; (try dsimp only [bZ,cC]); first|omega|(unfold eI; omega))
theorem Ex (f w:Int) (hF:1<=f/\f<=100) (hs:ae f=23) (hw:aP w):ah gT 122 [.int .i64 f,.int .u32 w] (bX (yS f w)):=by
 have b0:=ab w 12 3
 have b1:=ab w 6 2
 have b2:=ab w 4 2
 have b3:=ab w 16 4
 have b4:=ab w 0 4
 refine Spec.enter ar lf 100 Tryz.func122 rfl (by kernel_rfl) ?_
 refine (bx ⟨f,0,0,0,0,0,0,0,0,0,0⟩ w hw).u ?_
 refine (aw hs).u ?_
 refine (Ew f w hF hs hw).u ?_
 exact ao (iU _)
theorem wZ (f w:Int) (hF:1<=f/\f<=100) (hs:ae f=24) (hw:aP w):ah gT 173 [.int .i64 f,.int .u32 w] (bX (yT f w)):=by
 have b0:=ab w 26 1
 have b1:=ab w 12 3
 have b2:=ab w 0 8
 have b3:=ab w 16 4
 have b4:=ab w 8 4
 unfold yT
 refine Spec.enter ar KU 100 Tryz.func173 rfl (by kernel_rfl) ?_
 refine (bx ⟨f,0,0,0,0,0,0,0,0,0,0⟩ w hw).u ?_
 refine (oQ w hw).u ?_
 refine (aw hs).u ?_
 refine ao ?_
 (repeat' first|exact trivial|exact rfl|refine And.intro ?_ ?_)
 all_goals (show (_:Int)=_; (try dsimp only [bZ,cC]); first|omega|(unfold eI; omega))
theorem Ey (f w:Int) (hF:1<=f/\f<=100) (hs:ae f=24) (hw:aP w):ah gT 122 [.int .i64 f,.int .u32 w] (bX (yT f w)):=by
 have b0:=ab w 26 1
 have b1:=ab w 12 3
 have b2:=ab w 0 8
 have b3:=ab w 16 4
 have b4:=ab w 8 4
 refine Spec.enter ar lf 100 Tryz.func122 rfl (by kernel_rfl) ?_
 refine (bx ⟨f,0,0,0,0,0,0,0,0,0,0⟩ w hw).u ?_
 refine (aw hs).u ?_
 refine (wZ f w hF hs hw).u ?_
 exact ao (iU _)
theorem Ez (f w:Int) (hF:1<=f/\f<=100) (hs:ae f=25) (hw:aP w):ah gT 122 [.int .i64 f,.int .u32 w] (bX (CA f w)):=by
 have b0:=ab w 16 4
 have b1:=ab w 12 4
 have b2:=ab w 0 12
 unfold CA
 refine Spec.enter ar lf 100 Tryz.func122 rfl (by kernel_rfl) ?_
 refine (bx ⟨f,0,0,0,0,0,0,0,0,0,0⟩ w hw).u ?_
 refine (aw hs).u ?_
 refine (aJ w 12 4 hw (by decide) (by decide)).u ?_
 refine (aJ w 0 12 hw (by decide) (by decide)).u ?_
 refine ao ?_
 (repeat' first|exact trivial|exact rfl|refine And.intro ?_ ?_)
 all_goals (show (_:Int)=_; (try dsimp only [bZ,cC]); first|omega|(unfold eI; omega))
theorem EA (f w:Int) (hF:1<=f/\f<=100) (hs:ae f=26) (hw:aP w):ah gT 122 [.int .i64 f,.int .u32 w] (bX (CB f w)):=by
 have b0:=ab w 16 4
 have b1:=ab w 12 4
 have b2:=ab w 4 2
 have b3:=ab w 0 4
 unfold CB
 refine Spec.enter ar lf 100 Tryz.func122 rfl (by kernel_rfl) ?_
 refine (bx ⟨f,0,0,0,0,0,0,0,0,0,0⟩ w hw).u ?_
 refine (aw hs).u ?_
 refine (aJ w 12 4 hw (by decide) (by decide)).u ?_
 refine (aJ w 4 2 hw (by decide) (by decide)).u ?_
 refine ao ?_
 (repeat' first|exact trivial|exact rfl|refine And.intro ?_ ?_)
 all_goals (show (_:Int)=_; (try dsimp only [bZ,cC]); first|omega|(unfold eI; omega))
theorem EB (f w:Int) (hF:1<=f/\f<=100) (hs:ae f=27) (hw:aP w):ah gT 122 [.int .i64 f,.int .u32 w] (bX (CC f w)):=by
 have b0:=ab w 20 1
 have b1:=ab w 16 4
 have b2:=ab w 8 4
 have b3:=ab w 0 4
 unfold CC
 refine Spec.enter ar lf 100 Tryz.func122 rfl (by kernel_rfl) ?_
 refine (bx ⟨f,0,0,0,0,0,0,0,0,0,0⟩ w hw).u ?_
 refine (aw hs).u ?_
 refine ao ?_
 (repeat' first|exact trivial|exact rfl|refine And.intro ?_ ?_)
 all_goals (show (_:Int)=_; (try dsimp only [bZ,cC]); first|omega|(unfold eI; omega))
theorem EC (f w:Int) (hF:1<=f/\f<=100) (hs:ae f=28) (hw:aP w):ah gT 122 [.int .i64 f,.int .u32 w] (bX (CD f w)):=by
 have b0:=ab w 16 4
 have b1:=ab w 8 4
 have b2:=ab w 0 4
 unfold CD
 refine Spec.enter ar lf 100 Tryz.func122 rfl (by kernel_rfl) ?_
 refine (bx ⟨f,0,0,0,0,0,0,0,0,0,0⟩ w hw).u ?_
 refine (aw hs).u ?_
 refine ao ?_
 (repeat' first|exact trivial|exact rfl|refine And.intro ?_ ?_)
 all_goals (show (_:Int)=_; (try dsimp only [bZ,cC]); first|omega|(unfold eI; omega))
theorem ED (f w:Int) (hF:1<=f/\f<=100) (hs:ae f=29) (hw:aP w):ah gT 122 [.int .i64 f,.int .u32 w] (bX (CE f w)):=by
 have b0:=ab w 16 4
 have b1:=ab w 12 4
 have b2:=ab w 8 4
 have b3:=ab w 0 4
 unfold CE
 refine Spec.enter ar lf 100 Tryz.func122 rfl (by kernel_rfl) ?_
 refine (bx ⟨f,0,0,0,0,0,0,0,0,0,0⟩ w hw).u ?_
 refine (aw hs).u ?_
 refine (aJ w 12 4 hw (by decide) (by decide)).u ?_
 refine ao ?_
 (repeat' first|exact trivial|exact rfl|refine And.intro ?_ ?_)
 all_goals (show (_:Int)=_; (try dsimp only [bZ,cC]); first|omega|(unfold eI; omega))
theorem EE (f w:Int) (hF:1<=f/\f<=100) (hs:ae f=30) (hw:aP w):ah gT 122 [.int .i64 f,.int .u32 w] (bX (CF f w)):=by
 have b0:=ab w 16 4
 have b1:=ab w 12 4
 have b2:=ab w 8 4
 have b3:=ab w 0 4
 unfold CF
 refine Spec.enter ar lf 100 Tryz.func122 rfl (by kernel_rfl) ?_
 refine (bx ⟨f,0,0,0,0,0,0,0,0,0,0⟩ w hw).u ?_
 refine (aw hs).u ?_
 refine (aJ w 12 4 hw (by decide) (by decide)).u ?_
 refine ao ?_
 (repeat' first|exact trivial|exact rfl|refine And.intro ?_ ?_)
 all_goals (show (_:Int)=_; (try dsimp only [bZ,cC]); first|omega|(unfold eI; omega))
theorem EF (f w:Int) (hF:1<=f/\f<=100) (hs:ae f=31) (hw:aP w):ah gT 122 [.int .i64 f,.int .u32 w] (bX (CG f w)):=by
 have b0:=ab w 16 4
 have b1:=ab w 12 4
 have b2:=ab w 8 4
 have b3:=ab w 0 4
 unfold CG
 refine Spec.enter ar lf 100 Tryz.func122 rfl (by kernel_rfl) ?_
 refine (bx ⟨f,0,0,0,0,0,0,0,0,0,0⟩ w hw).u ?_
 refine (aw hs).u ?_
 refine (aJ w 12 4 hw (by decide) (by decide)).u ?_
 refine ao ?_
 (repeat' first|exact trivial|exact rfl|refine And.intro ?_ ?_)
 all_goals (show (_:Int)=_; (try dsimp only [bZ,cC]); first|omega|(unfold eI; omega))
theorem EG (f w:Int) (hF:1<=f/\f<=100) (hs:ae f=32) (hw:aP w):ah gT 122 [.int .i64 f,.int .u32 w] (bX (CH f w)):=by
 have b0:=ab w 16 4
 have b1:=ab w 8 4
 have b2:=ab w 0 4
 unfold CH
 refine Spec.enter ar lf 100 Tryz.func122 rfl (by kernel_rfl) ?_
 refine (bx ⟨f,0,0,0,0,0,0,0,0,0,0⟩ w hw).u ?_
 refine (aw hs).u ?_
 refine ao ?_
 (repeat' first|exact trivial|exact rfl|refine And.intro ?_ ?_)
 all_goals (show (_:Int)=_; (try dsimp only [bZ,cC]); first|omega|(unfold eI; omega))
theorem EH (f w:Int) (hF:1<=f/\f<=100) (hs:ae f=33) (hw:aP w):ah gT 122 [.int .i64 f,.int .u32 w] (bX (CI f w)):=by
 have b0:=ab w 26 1
 have b1:=ab w 22 4
 have b2:=ab w 16 6
 have b3:=ab w 13 1
 have b4:=ab w 11 1
 have b5:=ab w 0 11
 unfold CI
 refine Spec.enter ar lf 100 Tryz.func122 rfl (by kernel_rfl) ?_
 refine (bx ⟨f,0,0,0,0,0,0,0,0,0,0⟩ w hw).u ?_
 refine (aw hs).u ?_
 refine (aJ w 22 4 hw (by decide) (by decide)).u ?_
 refine (yV w hw).u ?_
 refine ao ?_
 (repeat' first|exact trivial|exact rfl|refine And.intro ?_ ?_)
 all_goals (show (_:Int)=_; (try dsimp only [bZ,cC]); first|omega|(unfold eI; omega))
theorem EI (f w:Int) (hF:1<=f/\f<=100) (hs:ae f=34) (hw:aP w):ah gT 122 [.int .i64 f,.int .u32 w] (bX (CJ f w)):=by
 have b0:=ab w 26 1
 have b1:=ab w 16 10
 have b2:=ab w 13 1
 have b3:=ab w 11 1
 have b4:=ab w 0 11
 unfold CJ
 refine Spec.enter ar lf 100 Tryz.func122 rfl (by kernel_rfl) ?_
 refine (bx ⟨f,0,0,0,0,0,0,0,0,0,0⟩ w hw).u ?_
 refine (aw hs).u ?_
 refine (yW w hw).u ?_
 refine ao ?_
 (repeat' first|exact trivial|exact rfl|refine And.intro ?_ ?_)
 all_goals (show (_:Int)=_; (try dsimp only [bZ,cC]); first|omega|(unfold eI; omega))
def lW (i:IN):List Int:=[i.form,i.rd,i.rn,i.rm,i.ra,i.av,i.kind,i.bG,i.set,i.cond,i.an]
def tR (i:IN):Prop:=∀ x∈lW i,fe x
theorem dK (n a b:Int):ah gT 202 [.int .i64 n,.int .i64 a,.int .i64 b] (.bool (a<=n/\n<=b)):=by
 refine Spec.enter ar P202 100 Tryz.func202 rfl (by kernel_rfl) ?_
 repeat' ((conv=>whnf); first|(refine (And.intro (fun _=>?_) (fun _=>?_):(_->_)/\(_->_))<;>(first|(exfalso; first|contradiction|omega)|skip))|refine Or.inl (And.intro (by first|exact ax (by omega)|exact af (by omega)|exact bV (by omega)|exact cK (by omega)) ?_)|(refine And.intro (show (_:Int)≠0 by omega) (Or.inl (And.intro (show (0:Int)<=_ by omega) (And.intro (show (0:Int) < _ by omega) ?_))))|(refine And.intro (show (_:Int)≠0 by omega) (Or.inl (And.intro (show (0:Int)<=_ by omega) (And.intro (by first|exact (show (_:Int)<=9223372036854775807 by omega)|exact (show (_:Int)<=4294967295 by omega)) (And.intro (show (0:Int) < _ by omega) ?_)))))|(refine ao ?_; show _↔_; omega)|(refine ao ?_; show ¬ _; omega)|(intro _))
theorem gN (r:Int):ah gT 205 [.int .i64 r] (.bool (0<=r/\r < 15/\r≠13)):=by
 refine Spec.enter ar P205 100 Tryz.func205 rfl (by kernel_rfl) ?_
 repeat' ((conv=>whnf); first|(refine (And.intro (fun _=>?_) (fun _=>?_):(_->_)/\(_->_))<;>(first|(exfalso; first|contradiction|omega)|skip))|refine Or.inl (And.intro (by first|exact ax (by omega)|exact af (by omega)|exact bV (by omega)|exact cK (by omega)) ?_)|(refine And.intro (show (_:Int)≠0 by omega) (Or.inl (And.intro (show (0:Int)<=_ by omega) (And.intro (show (0:Int) < _ by omega) ?_))))|(refine And.intro (show (_:Int)≠0 by omega) (Or.inl (And.intro (show (0:Int)<=_ by omega) (And.intro (by first|exact (show (_:Int)<=9223372036854775807 by omega)|exact (show (_:Int)<=4294967295 by omega)) (And.intro (show (0:Int) < _ by omega) ?_)))))|(refine Exists.intro [] (And.intro aT ((dK _ _ _).use (by repeat' first|exact trivial|exact rfl|exact Iff.rfl|exact Or.inl rfl|refine And.intro ?_ ?_) rfl rfl ?_)))|(refine ao ?_; show 0<=r/\_; omega)|(refine ao ?_; show _↔_; omega)|(intro _))
theorem fv (k b:Int):ah gT 207 [.int .i64 k,.int .i64 b] (.bool (bM k b)):=by
 refine Spec.enter ar P207 100 Tryz.func207 rfl (by kernel_rfl) ?_
 repeat' ((conv=>whnf); first|(refine (And.intro (fun _=>?_) (fun _=>?_):(_->_)/\(_->_))<;>(first|(exfalso; first|contradiction|omega)|skip))|refine Or.inl (And.intro (by first|exact ax (by omega)|exact af (by omega)|exact bV (by omega)|exact cK (by omega)) ?_)|(refine And.intro (show (_:Int)≠0 by omega) (Or.inl (And.intro (show (0:Int)<=_ by omega) (And.intro (show (0:Int) < _ by omega) ?_))))|(refine And.intro (show (_:Int)≠0 by omega) (Or.inl (And.intro (show (0:Int)<=_ by omega) (And.intro (by first|exact (show (_:Int)<=9223372036854775807 by omega)|exact (show (_:Int)<=4294967295 by omega)) (And.intro (show (0:Int) < _ by omega) ?_)))))|(refine Exists.intro [] (And.intro aT ((dK _ _ _).use (by repeat' first|exact trivial|exact rfl|exact Iff.rfl|exact Or.inl rfl|refine And.intro ?_ ?_) rfl rfl ?_)))|(refine ao ?_; show _↔bM k b; unfold bM; omega)|(refine ao ?_; show ¬ bM k b; unfold bM; omega)|(intro _))
theorem gu {l:List (IntKind × Int)} {vals:List Value} {w:World} {I:Nat->Prop} {β:ay} (h:bJ w I (l.map fun p=>.int p.1 p.2) β vals):vals=l.map fun p=>.int p.1 p.2:=by
 induction l generalizing vals with
 | nil=>cases vals with
  | nil=>rfl
  | cons v vs=>simp only[List.map,bJ] at h
 | cons p l ih=>cases vals with
  | nil=>simp only[List.map,bJ] at h
  | cons v vs =>
   simp only[List.map,bJ,PV.Is] at h
   rw[List.map_cons,h.1,ih h.2]
theorem sW (n:Int) (h0:0<=n) (h1:n<=4095):ah gT 192 [.int .i64 n] (.tup [.int .u32 (Rm.e_ n),.bool ((Rm.jc n.toNat).isSome=true)]) :=
 ah.of_same (ft Tryz.func192 rfl (by kernel_rfl)) [.int .i64 n] (.tuple #[.int .u32 (Rm.e_ n),.bool (Rm.jc n.toNat).isSome]) (fun w I β vals h=>gu (l:=[(.i64,n)]) h) (fun w I β=>jz (fP (dh ..) (fP (by simp only[PV.Is]; rw[Ag]; simp) qF))) (fun w=>(yx n w h0 h1).mono fun e w' ⟨h1,h2⟩=>⟨h1,h2.symm⟩)
def lX (i:IN) (s:Int):Prop:=(s / 1 % 2=0->i.rd=0)/\(s / 2 % 2=0->i.rn=0)/\(s / 4 % 2=0->i.rm=0)/\(s / 8 % 2=0->i.ra=0)/\(s / 16 % 2=0->i.av=0)/\(s / 32 % 2=0->i.kind=0/\(i.bG=0\/512<=s))/\(s / 64 % 2=0->i.set=0)/\(s / 128 % 2=0->i.cond=0)/\(s / 256 % 2=0->i.an=0)
theorem gO (i:IN) (s:Int) (hs:s∈[21,7,19,17,5,4,16,256,0,144,83,81,18,103,101,38,519,71,15]):ah gT 203 [bX i,.lit .i64 s] (.bool (lX i s)):=by
 simp only[List.mem_cons,List.not_mem_nil,or_false] at hs
 rcases hs with rfl|rfl|rfl|rfl|rfl|rfl|rfl|rfl|rfl|rfl|rfl|rfl|rfl|rfl|rfl|rfl|rfl|rfl|rfl
 all_goals
  refine Spec.enter ar Xv 100 Tryz.func203 rfl (by kernel_rfl) ?_
  refine⟨fun _=>?_,fun _=>?_⟩
  all_goals refine SW.rounds ar Xv (by kernel_rfl) (N:=60) 10 ?_
  all_goals repeat' ((conv=>whnf); first|(refine (And.intro (fun _=>?_) (fun _=>?_):(_->_)/\(_->_))<;>(first|(exfalso; first|contradiction|omega)|skip))|refine Or.inl (And.intro (by first|exact ax (by omega)|exact af (by omega)|exact bV (by omega)|exact cK (by omega)) ?_)|(refine And.intro (show (_:Int)≠0 by omega) (Or.inl (And.intro (show (0:Int)<=_ by omega) (And.intro (show (0:Int) < _ by omega) ?_))))|(refine And.intro (show (_:Int)≠0 by omega) (Or.inl (And.intro (show (0:Int)<=_ by omega) (And.intro (by first|exact (show (_:Int)<=9223372036854775807 by omega)|exact (show (_:Int)<=4294967295 by omega)) (And.intro (show (0:Int) < _ by omega) ?_)))))|(refine ao ?_; (show lX i _); unfold lX; omega)|(refine ao ?_; (show ¬ lX i _); unfold lX; omega)|(intro _))
end Go.Proofs.YtnbngokbamifbaaGreatDoor.Pw

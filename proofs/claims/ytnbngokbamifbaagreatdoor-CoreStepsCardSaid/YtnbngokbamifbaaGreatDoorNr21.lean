/- What this claim is proved with: no condition. -/
import Derived.Test.YtnbngokbamifbaaGreatDoorNr18
set_option maxRecDepth 100000
set_option maxHeartbeats 8000000
set_option linter.unusedVariables false
set_option linter.unusedSimpArgs false
namespace Go.Proofs.YtnbngokbamifbaaGreatDoor.Pw
open Go Go.RowKit
abbrev ER:List PV:=[.agg [.lit .i64 4,.lit .i64 0,.lit .i64 6,.lit .i64 5],.agg [.lit .i64 2,.lit .i64 0,.lit .i64 3,.lit .i64 3],.agg [.lit .i64 0,.lit .i64 0,.lit .i64 0,.lit .i64 3]]
theorem UR (f w:Int) (hs:ae f=1) (hf:fe f) (hw:aP w):ah gT 157 [.int .i64 f,.int .i64 w] (bX (LL f w)):=by
 have cd:-1099511627776<=w/\w<=9223372036854775807:=by unfold aP at hw; omega
 have b0:=ab w 6 5
 have b1:=ab w 3 3
 have b2:=ab w 0 3
 refine Spec.enter ar cA 100 Tryz.func157 rfl (by kernel_rfl) ?_
 refine (bI hf hs).u ?_
 refine yZ.u ?_
 refine SW.rounds ar cA (by kernel_rfl) (N:=60) 4 ?_
 refine fun _=>And.intro (fun _=>?_) (fun h=>absurd (show (0:Int) < 3 by decide) h)
 repeat (refine⟨PV,ER,id,rfl,by decide,by decide,fun x hx=>?_⟩; cases hx)
 refine (aj w 6 5 cd (by decide) (by decide)).u ?_
 repeat (refine⟨PV,ER,id,rfl,by decide,by decide,fun x hx=>?_⟩; cases hx)
 refine (ai 0 (by decide)).u ?_
 refine li ?_
 refine li ?_
 refine fun _=>And.intro (fun _=>?_) (fun h=>absurd (show (1:Int) < 3 by decide) h)
 repeat (refine⟨PV,ER,id,rfl,by decide,by decide,fun x hx=>?_⟩; cases hx)
 refine (aj w 3 3 cd (by decide) (by decide)).u ?_
 repeat (refine⟨PV,ER,id,rfl,by decide,by decide,fun x hx=>?_⟩; cases hx)
 refine (ai 0 (by decide)).u ?_
 refine li ?_
 refine li ?_
 refine fun _=>And.intro (fun _=>?_) (fun h=>absurd (show (2:Int) < 3 by decide) h)
 repeat (refine⟨PV,ER,id,rfl,by decide,by decide,fun x hx=>?_⟩; cases hx)
 refine (aj w 0 3 cd (by decide) (by decide)).u ?_
 repeat (refine⟨PV,ER,id,rfl,by decide,by decide,fun x hx=>?_⟩; cases hx)
 refine (ai 0 (by decide)).u ?_
 refine li ?_
 refine li ?_
 refine fun _=>And.intro (fun h=>absurd h (show ¬ (3:Int) < 3 by decide)) (fun _=>?_)
 refine⟨fun h1=>And.intro (fun h0=>?_) (fun h0=>?_),fun h1=>?_⟩
 ·refine ao ?_
  exact⟨rfl,rfl,rfl,rfl,rfl,(if_pos (And.intro h1 h0)).symm,rfl,rfl,rfl,rfl,rfl,trivial⟩
 ·refine ao ?_
  exact⟨rfl,rfl,rfl,rfl,rfl,(if_neg (fun e=>h0 e.2)).symm,rfl,rfl,rfl,rfl,rfl,trivial⟩
 ·refine ao ?_
  exact⟨rfl,rfl,rfl,rfl,rfl,(if_neg (fun e=>h1 e.1)).symm,rfl,rfl,rfl,rfl,rfl,trivial⟩
abbrev ES:List PV:=[.agg [.lit .i64 2,.lit .i64 0,.lit .i64 6,.lit .i64 3],.agg [.lit .i64 1,.lit .i64 0,.lit .i64 3,.lit .i64 3],.agg [.lit .i64 0,.lit .i64 0,.lit .i64 0,.lit .i64 3]]
theorem US (f w:Int) (hs:ae f=2) (hf:fe f) (hw:aP w):ah gT 157 [.int .i64 f,.int .i64 w] (bX (LM f w)):=by
 have cd:-1099511627776<=w/\w<=9223372036854775807:=by unfold aP at hw; omega
 have b0:=ab w 6 3
 have b1:=ab w 3 3
 have b2:=ab w 0 3
 refine Spec.enter ar cA 100 Tryz.func157 rfl (by kernel_rfl) ?_
 refine (bI hf hs).u ?_
 refine y0.u ?_
 refine SW.rounds ar cA (by kernel_rfl) (N:=60) 4 ?_
 refine fun _=>And.intro (fun _=>?_) (fun h=>absurd (show (0:Int) < 3 by decide) h)
 repeat (refine⟨PV,ES,id,rfl,by decide,by decide,fun x hx=>?_⟩; cases hx)
 refine (aj w 6 3 cd (by decide) (by decide)).u ?_
 repeat (refine⟨PV,ES,id,rfl,by decide,by decide,fun x hx=>?_⟩; cases hx)
 refine (ai 0 (by decide)).u ?_
 refine li ?_
 refine li ?_
 refine fun _=>And.intro (fun _=>?_) (fun h=>absurd (show (1:Int) < 3 by decide) h)
 repeat (refine⟨PV,ES,id,rfl,by decide,by decide,fun x hx=>?_⟩; cases hx)
 refine (aj w 3 3 cd (by decide) (by decide)).u ?_
 repeat (refine⟨PV,ES,id,rfl,by decide,by decide,fun x hx=>?_⟩; cases hx)
 refine (ai 0 (by decide)).u ?_
 refine li ?_
 refine li ?_
 refine fun _=>And.intro (fun _=>?_) (fun h=>absurd (show (2:Int) < 3 by decide) h)
 repeat (refine⟨PV,ES,id,rfl,by decide,by decide,fun x hx=>?_⟩; cases hx)
 refine (aj w 0 3 cd (by decide) (by decide)).u ?_
 repeat (refine⟨PV,ES,id,rfl,by decide,by decide,fun x hx=>?_⟩; cases hx)
 refine (ai 0 (by decide)).u ?_
 refine li ?_
 refine li ?_
 refine fun _=>And.intro (fun h=>absurd h (show ¬ (3:Int) < 3 by decide)) (fun _=>?_)
 exact rA
abbrev ET:List PV:=[.agg [.lit .i64 4,.lit .i64 0,.lit .i64 6,.lit .i64 3],.agg [.lit .i64 1,.lit .i64 0,.lit .i64 3,.lit .i64 3],.agg [.lit .i64 0,.lit .i64 0,.lit .i64 0,.lit .i64 3]]
theorem UT (f w:Int) (hs:ae f=3) (hf:fe f) (hw:aP w):ah gT 157 [.int .i64 f,.int .i64 w] (bX (LN f w)):=by
 have cd:-1099511627776<=w/\w<=9223372036854775807:=by unfold aP at hw; omega
 have b0:=ab w 6 3
 have b1:=ab w 3 3
 have b2:=ab w 0 3
 refine Spec.enter ar cA 100 Tryz.func157 rfl (by kernel_rfl) ?_
 refine (bI hf hs).u ?_
 refine y1.u ?_
 refine SW.rounds ar cA (by kernel_rfl) (N:=60) 4 ?_
 refine fun _=>And.intro (fun _=>?_) (fun h=>absurd (show (0:Int) < 3 by decide) h)
 repeat (refine⟨PV,ET,id,rfl,by decide,by decide,fun x hx=>?_⟩; cases hx)
 refine (aj w 6 3 cd (by decide) (by decide)).u ?_
 repeat (refine⟨PV,ET,id,rfl,by decide,by decide,fun x hx=>?_⟩; cases hx)
 refine (ai 0 (by decide)).u ?_
 refine li ?_
 refine li ?_
 refine fun _=>And.intro (fun _=>?_) (fun h=>absurd (show (1:Int) < 3 by decide) h)
 repeat (refine⟨PV,ET,id,rfl,by decide,by decide,fun x hx=>?_⟩; cases hx)
 refine (aj w 3 3 cd (by decide) (by decide)).u ?_
 repeat (refine⟨PV,ET,id,rfl,by decide,by decide,fun x hx=>?_⟩; cases hx)
 refine (ai 0 (by decide)).u ?_
 refine li ?_
 refine li ?_
 refine fun _=>And.intro (fun _=>?_) (fun h=>absurd (show (2:Int) < 3 by decide) h)
 repeat (refine⟨PV,ET,id,rfl,by decide,by decide,fun x hx=>?_⟩; cases hx)
 refine (aj w 0 3 cd (by decide) (by decide)).u ?_
 repeat (refine⟨PV,ET,id,rfl,by decide,by decide,fun x hx=>?_⟩; cases hx)
 refine (ai 0 (by decide)).u ?_
 refine li ?_
 refine li ?_
 refine fun _=>And.intro (fun h=>absurd h (show ¬ (3:Int) < 3 by decide)) (fun _=>?_)
 exact rA
abbrev Ml:List PV:=[.agg [.lit .i64 0,.lit .i64 0,.lit .i64 8,.lit .i64 3],.agg [.lit .i64 4,.lit .i64 0,.lit .i64 0,.lit .i64 8]]
theorem UU (f w:Int) (hs:ae f=4) (hf:fe f) (hw:aP w):ah gT 157 [.int .i64 f,.int .i64 w] (bX (LO f w)):=by
 have cd:-1099511627776<=w/\w<=9223372036854775807:=by unfold aP at hw; omega
 have b0:=ab w 8 3
 have b1:=ab w 0 8
 refine Spec.enter ar cA 100 Tryz.func157 rfl (by kernel_rfl) ?_
 refine (bI hf hs).u ?_
 refine y2.u ?_
 refine SW.rounds ar cA (by kernel_rfl) (N:=60) 3 ?_
 refine fun _=>And.intro (fun _=>?_) (fun h=>absurd (show (0:Int) < 2 by decide) h)
 repeat (refine⟨PV,Ml,id,rfl,by decide,by decide,fun x hx=>?_⟩; cases hx)
 refine (aj w 8 3 cd (by decide) (by decide)).u ?_
 repeat (refine⟨PV,Ml,id,rfl,by decide,by decide,fun x hx=>?_⟩; cases hx)
 refine (ai 0 (by decide)).u ?_
 refine li ?_
 refine li ?_
 refine fun _=>And.intro (fun _=>?_) (fun h=>absurd (show (1:Int) < 2 by decide) h)
 repeat (refine⟨PV,Ml,id,rfl,by decide,by decide,fun x hx=>?_⟩; cases hx)
 refine (aj w 0 8 cd (by decide) (by decide)).u ?_
 repeat (refine⟨PV,Ml,id,rfl,by decide,by decide,fun x hx=>?_⟩; cases hx)
 refine (ai 0 (by decide)).u ?_
 refine li ?_
 refine li ?_
 refine fun _=>And.intro (fun h=>absurd h (show ¬ (2:Int) < 2 by decide)) (fun _=>?_)
 exact rA
abbrev Mm:List PV:=[.agg [.lit .i64 2,.lit .i64 0,.lit .i64 3,.lit .i64 3],.agg [.lit .i64 0,.lit .i64 0,.lit .i64 0,.lit .i64 3]]
theorem UW (f w:Int) (hs:ae f=5) (hf:fe f) (hw:aP w):ah gT 157 [.int .i64 f,.int .i64 w] (bX (LP f w)):=by
 have cd:-1099511627776<=w/\w<=9223372036854775807:=by unfold aP at hw; omega
 have b0:=ab w 3 3
 have b1:=ab w 0 3
 refine Spec.enter ar cA 100 Tryz.func157 rfl (by kernel_rfl) ?_
 refine (bI hf hs).u ?_
 refine y3.u ?_
 refine SW.rounds ar cA (by kernel_rfl) (N:=60) 3 ?_
 refine fun _=>And.intro (fun _=>?_) (fun h=>absurd (show (0:Int) < 2 by decide) h)
 repeat (refine⟨PV,Mm,id,rfl,by decide,by decide,fun x hx=>?_⟩; cases hx)
 refine (aj w 3 3 cd (by decide) (by decide)).u ?_
 repeat (refine⟨PV,Mm,id,rfl,by decide,by decide,fun x hx=>?_⟩; cases hx)
 refine (ai 0 (by decide)).u ?_
 refine li ?_
 refine li ?_
 refine fun _=>And.intro (fun _=>?_) (fun h=>absurd (show (1:Int) < 2 by decide) h)
 repeat (refine⟨PV,Mm,id,rfl,by decide,by decide,fun x hx=>?_⟩; cases hx)
 refine (aj w 0 3 cd (by decide) (by decide)).u ?_
 repeat (refine⟨PV,Mm,id,rfl,by decide,by decide,fun x hx=>?_⟩; cases hx)
 refine (ai 0 (by decide)).u ?_
 refine li ?_
 refine li ?_
 refine fun _=>And.intro (fun h=>absurd h (show ¬ (2:Int) < 2 by decide)) (fun _=>?_)
 exact rA
abbrev EU:List PV:=[.agg [.lit .i64 0,.lit .i64 3,.lit .i64 7,.lit .i64 1],.agg [.lit .i64 2,.lit .i64 0,.lit .i64 3,.lit .i64 4],.agg [.lit .i64 0,.lit .i64 0,.lit .i64 0,.lit .i64 3]]
theorem UX (f w:Int) (hs:ae f=6) (hf:fe f) (hw:aP w):ah gT 157 [.int .i64 f,.int .i64 w] (bX (LQ f w)):=by
 have cd:-1099511627776<=w/\w<=9223372036854775807:=by unfold aP at hw; omega
 have b0:=ab w 7 1
 have b1:=ab w 3 4
 have b2:=ab w 0 3
 refine Spec.enter ar cA 100 Tryz.func157 rfl (by kernel_rfl) ?_
 refine (bI hf hs).u ?_
 refine y4.u ?_
 refine SW.rounds ar cA (by kernel_rfl) (N:=60) 4 ?_
 refine fun _=>And.intro (fun _=>?_) (fun h=>absurd (show (0:Int) < 3 by decide) h)
 repeat (refine⟨PV,EU,id,rfl,by decide,by decide,fun x hx=>?_⟩; cases hx)
 refine (aj w 7 1 cd (by decide) (by decide)).u ?_
 repeat (refine⟨PV,EU,id,rfl,by decide,by decide,fun x hx=>?_⟩; cases hx)
 refine (ai 3 (by decide)).u ?_
 refine li ?_
 refine li ?_
 refine fun _=>And.intro (fun _=>?_) (fun h=>absurd (show (1:Int) < 3 by decide) h)
 repeat (refine⟨PV,EU,id,rfl,by decide,by decide,fun x hx=>?_⟩; cases hx)
 refine (aj w 3 4 cd (by decide) (by decide)).u ?_
 repeat (refine⟨PV,EU,id,rfl,by decide,by decide,fun x hx=>?_⟩; cases hx)
 refine (ai 0 (by decide)).u ?_
 refine li ?_
 refine li ?_
 refine fun _=>And.intro (fun _=>?_) (fun h=>absurd (show (2:Int) < 3 by decide) h)
 repeat (refine⟨PV,EU,id,rfl,by decide,by decide,fun x hx=>?_⟩; cases hx)
 refine (aj w 0 3 cd (by decide) (by decide)).u ?_
 repeat (refine⟨PV,EU,id,rfl,by decide,by decide,fun x hx=>?_⟩; cases hx)
 refine (ai 0 (by decide)).u ?_
 refine li ?_
 refine li ?_
 refine fun _=>And.intro (fun h=>absurd h (show ¬ (3:Int) < 3 by decide)) (fun _=>?_)
 exact rA
abbrev Zz:List PV:=[.agg [.lit .i64 2,.lit .i64 0,.lit .i64 3,.lit .i64 4]]
theorem UY (f w:Int) (hs:ae f=7) (hf:fe f) (hw:aP w):ah gT 157 [.int .i64 f,.int .i64 w] (bX (LR f w)):=by
 have cd:-1099511627776<=w/\w<=9223372036854775807:=by unfold aP at hw; omega
 have b0:=ab w 3 4
 refine Spec.enter ar cA 100 Tryz.func157 rfl (by kernel_rfl) ?_
 refine (bI hf hs).u ?_
 refine y6.u ?_
 refine SW.rounds ar cA (by kernel_rfl) (N:=60) 2 ?_
 refine fun _=>And.intro (fun _=>?_) (fun h=>absurd (show (0:Int) < 1 by decide) h)
 repeat (refine⟨PV,Zz,id,rfl,by decide,by decide,fun x hx=>?_⟩; cases hx)
 refine (aj w 3 4 cd (by decide) (by decide)).u ?_
 repeat (refine⟨PV,Zz,id,rfl,by decide,by decide,fun x hx=>?_⟩; cases hx)
 refine (ai 0 (by decide)).u ?_
 refine li ?_
 refine li ?_
 refine fun _=>And.intro (fun h=>absurd h (show ¬ (1:Int) < 1 by decide)) (fun _=>?_)
 exact rA
abbrev Mn:List PV:=[.agg [.lit .i64 0,.lit .i64 0,.lit .i64 8,.lit .i64 3],.agg [.lit .i64 4,.lit .i64 2,.lit .i64 0,.lit .i64 8]]
theorem UZ (f w:Int) (hs:ae f=8) (hf:fe f) (hw:aP w):ah gT 157 [.int .i64 f,.int .i64 w] (bX (LS f w)):=by
 have cd:-1099511627776<=w/\w<=9223372036854775807:=by unfold aP at hw; omega
 have b0:=ab w 8 3
 have b1:=ab w 0 8
 refine Spec.enter ar cA 100 Tryz.func157 rfl (by kernel_rfl) ?_
 refine (bI hf hs).u ?_
 refine y7.u ?_
 refine SW.rounds ar cA (by kernel_rfl) (N:=60) 3 ?_
 refine fun _=>And.intro (fun _=>?_) (fun h=>absurd (show (0:Int) < 2 by decide) h)
 repeat (refine⟨PV,Mn,id,rfl,by decide,by decide,fun x hx=>?_⟩; cases hx)
 refine (aj w 8 3 cd (by decide) (by decide)).u ?_
 repeat (refine⟨PV,Mn,id,rfl,by decide,by decide,fun x hx=>?_⟩; cases hx)
 refine (ai 0 (by decide)).u ?_
 refine li ?_
 refine li ?_
 refine fun _=>And.intro (fun _=>?_) (fun h=>absurd (show (1:Int) < 2 by decide) h)
 repeat (refine⟨PV,Mn,id,rfl,by decide,by decide,fun x hx=>?_⟩; cases hx)
 refine (aj w 0 8 cd (by decide) (by decide)).u ?_
 repeat (refine⟨PV,Mn,id,rfl,by decide,by decide,fun x hx=>?_⟩; cases hx)
 refine (ai 2 (by decide)).u ?_
 refine li ?_
 refine li ?_
 refine fun _=>And.intro (fun h=>absurd h (show ¬ (2:Int) < 2 by decide)) (fun _=>?_)
 exact rA
abbrev EV:List PV:=[.agg [.lit .i64 4,.lit .i64 2,.lit .i64 6,.lit .i64 5],.agg [.lit .i64 1,.lit .i64 0,.lit .i64 3,.lit .i64 3],.agg [.lit .i64 0,.lit .i64 0,.lit .i64 0,.lit .i64 3]]
theorem U0 (f w:Int) (hs:ae f=9) (hf:fe f) (hw:aP w):ah gT 157 [.int .i64 f,.int .i64 w] (bX (LU f w)):=by
 have cd:-1099511627776<=w/\w<=9223372036854775807:=by unfold aP at hw; omega
 have b0:=ab w 6 5
 have b1:=ab w 3 3
 have b2:=ab w 0 3
 refine Spec.enter ar cA 100 Tryz.func157 rfl (by kernel_rfl) ?_
 refine (bI hf hs).u ?_
 refine y8.u ?_
 refine SW.rounds ar cA (by kernel_rfl) (N:=60) 4 ?_
 refine fun _=>And.intro (fun _=>?_) (fun h=>absurd (show (0:Int) < 3 by decide) h)
 repeat (refine⟨PV,EV,id,rfl,by decide,by decide,fun x hx=>?_⟩; cases hx)
 refine (aj w 6 5 cd (by decide) (by decide)).u ?_
 repeat (refine⟨PV,EV,id,rfl,by decide,by decide,fun x hx=>?_⟩; cases hx)
 refine (ai 2 (by decide)).u ?_
 refine li ?_
 refine li ?_
 refine fun _=>And.intro (fun _=>?_) (fun h=>absurd (show (1:Int) < 3 by decide) h)
 repeat (refine⟨PV,EV,id,rfl,by decide,by decide,fun x hx=>?_⟩; cases hx)
 refine (aj w 3 3 cd (by decide) (by decide)).u ?_
 repeat (refine⟨PV,EV,id,rfl,by decide,by decide,fun x hx=>?_⟩; cases hx)
 refine (ai 0 (by decide)).u ?_
 refine li ?_
 refine li ?_
 refine fun _=>And.intro (fun _=>?_) (fun h=>absurd (show (2:Int) < 3 by decide) h)
 repeat (refine⟨PV,EV,id,rfl,by decide,by decide,fun x hx=>?_⟩; cases hx)
 refine (aj w 0 3 cd (by decide) (by decide)).u ?_
 repeat (refine⟨PV,EV,id,rfl,by decide,by decide,fun x hx=>?_⟩; cases hx)
 refine (ai 0 (by decide)).u ?_
 refine li ?_
 refine li ?_
 refine fun _=>And.intro (fun h=>absurd h (show ¬ (3:Int) < 3 by decide)) (fun _=>?_)
 exact rA
abbrev Ph:List PV:=[.agg [.lit .i64 4,.lit .i64 2,.lit .i64 0,.lit .i64 7]]
theorem Mo (f w:Int) (hs:ae f=10) (hf:fe f) (hw:aP w):ah gT 157 [.int .i64 f,.int .i64 w] (bX (Cr f w)):=by
 have cd:-1099511627776<=w/\w<=9223372036854775807:=by unfold aP at hw; omega
 have b0:=ab w 0 7
 refine Spec.enter ar cA 100 Tryz.func157 rfl (by kernel_rfl) ?_
 refine (bI hf hs).u ?_
 refine wu.u ?_
 refine SW.rounds ar cA (by kernel_rfl) (N:=60) 2 ?_
 refine fun _=>And.intro (fun _=>?_) (fun h=>absurd (show (0:Int) < 1 by decide) h)
 repeat (refine⟨PV,Ph,id,rfl,by decide,by decide,fun x hx=>?_⟩; cases hx)
 refine (aj w 0 7 cd (by decide) (by decide)).u ?_
 repeat (refine⟨PV,Ph,id,rfl,by decide,by decide,fun x hx=>?_⟩; cases hx)
 refine (ai 2 (by decide)).u ?_
 refine li ?_
 refine li ?_
 refine fun _=>And.intro (fun h=>absurd h (show ¬ (1:Int) < 1 by decide)) (fun _=>?_)
 exact rA
abbrev CO:List PV:=[.agg [.lit .i64 9,.lit .i64 14,.lit .i64 8,.lit .i64 1],.agg [.lit .i64 9,.lit .i64 0,.lit .i64 0,.lit .i64 8]]
theorem Mp (f w:Int) (hs:ae f=11) (hf:fe f) (hw:aP w):ah gT 157 [.int .i64 f,.int .i64 w] (bX (Cs f w)):=by
 have cd:-1099511627776<=w/\w<=9223372036854775807:=by unfold aP at hw; omega
 have b0:=ab w 8 1
 have b1:=ab w 0 8
 refine Spec.enter ar cA 100 Tryz.func157 rfl (by kernel_rfl) ?_
 refine (bI hf hs).u ?_
 refine wv.u ?_
 refine SW.rounds ar cA (by kernel_rfl) (N:=60) 3 ?_
 refine fun _=>And.intro (fun _=>?_) (fun h=>absurd (show (0:Int) < 2 by decide) h)
 repeat (refine⟨PV,CO,id,rfl,by decide,by decide,fun x hx=>?_⟩; cases hx)
 refine (aj w 8 1 cd (by decide) (by decide)).u ?_
 repeat (refine⟨PV,CO,id,rfl,by decide,by decide,fun x hx=>?_⟩; cases hx)
 refine (ai 14 (by decide)).u ?_
 refine li ?_
 refine li ?_
 refine fun _=>And.intro (fun _=>?_) (fun h=>absurd (show (1:Int) < 2 by decide) h)
 repeat (refine⟨PV,CO,id,rfl,by decide,by decide,fun x hx=>?_⟩; cases hx)
 refine (aj w 0 8 cd (by decide) (by decide)).u ?_
 repeat (refine⟨PV,CO,id,rfl,by decide,by decide,fun x hx=>?_⟩; cases hx)
 refine (ai 0 (by decide)).u ?_
 refine li ?_
 refine li ?_
 refine fun _=>And.intro (fun h=>absurd h (show ¬ (2:Int) < 2 by decide)) (fun _=>?_)
 exact rA
abbrev CP:List PV:=[.agg [.lit .i64 9,.lit .i64 15,.lit .i64 8,.lit .i64 1],.agg [.lit .i64 9,.lit .i64 0,.lit .i64 0,.lit .i64 8]]
theorem Mq (f w:Int) (hs:ae f=12) (hf:fe f) (hw:aP w):ah gT 157 [.int .i64 f,.int .i64 w] (bX (Ct f w)):=by
 have cd:-1099511627776<=w/\w<=9223372036854775807:=by unfold aP at hw; omega
 have b0:=ab w 8 1
 have b1:=ab w 0 8
 refine Spec.enter ar cA 100 Tryz.func157 rfl (by kernel_rfl) ?_
 refine (bI hf hs).u ?_
 refine wx.u ?_
 refine SW.rounds ar cA (by kernel_rfl) (N:=60) 3 ?_
 refine fun _=>And.intro (fun _=>?_) (fun h=>absurd (show (0:Int) < 2 by decide) h)
 repeat (refine⟨PV,CP,id,rfl,by decide,by decide,fun x hx=>?_⟩; cases hx)
 refine (aj w 8 1 cd (by decide) (by decide)).u ?_
 repeat (refine⟨PV,CP,id,rfl,by decide,by decide,fun x hx=>?_⟩; cases hx)
 refine (ai 15 (by decide)).u ?_
 refine li ?_
 refine li ?_
 refine fun _=>And.intro (fun _=>?_) (fun h=>absurd (show (1:Int) < 2 by decide) h)
 repeat (refine⟨PV,CP,id,rfl,by decide,by decide,fun x hx=>?_⟩; cases hx)
 refine (aj w 0 8 cd (by decide) (by decide)).u ?_
 repeat (refine⟨PV,CP,id,rfl,by decide,by decide,fun x hx=>?_⟩; cases hx)
 refine (ai 0 (by decide)).u ?_
 refine li ?_
 refine li ?_
 refine fun _=>And.intro (fun h=>absurd h (show ¬ (2:Int) < 2 by decide)) (fun _=>?_)
 exact rA
theorem Mr (f w:Int) (hs:ae f=13) (hf:fe f) (hw:aP w):ah gT 157 [.int .i64 f,.int .i64 w] (bX (Cu f w)):=by
 have cd:-1099511627776<=w/\w<=9223372036854775807:=by unfold aP at hw; omega
 refine Spec.enter ar cA 100 Tryz.func157 rfl (by kernel_rfl) ?_
 refine (bI hf hs).u ?_
 refine wy.u ?_
 refine SW.rounds ar cA (by kernel_rfl) (N:=60) 1 ?_
 refine fun _=>And.intro (fun h=>absurd h (show ¬ (0:Int) < 0 by decide)) (fun _=>?_)
 exact rA
abbrev Pj:List PV:=[.agg [.lit .i64 4,.lit .i64 0,.lit .i64 0,.lit .i64 8]]
theorem Ms (f w:Int) (hs:ae f=14) (hf:fe f) (hw:aP w):ah gT 157 [.int .i64 f,.int .i64 w] (bX (Cv f w)):=by
 have cd:-1099511627776<=w/\w<=9223372036854775807:=by unfold aP at hw; omega
 have b0:=ab w 0 8
 refine Spec.enter ar cA 100 Tryz.func157 rfl (by kernel_rfl) ?_
 refine (bI hf hs).u ?_
 refine wz.u ?_
 refine SW.rounds ar cA (by kernel_rfl) (N:=60) 2 ?_
 refine fun _=>And.intro (fun _=>?_) (fun h=>absurd (show (0:Int) < 1 by decide) h)
 repeat (refine⟨PV,Pj,id,rfl,by decide,by decide,fun x hx=>?_⟩; cases hx)
 refine (aj w 0 8 cd (by decide) (by decide)).u ?_
 repeat (refine⟨PV,Pj,id,rfl,by decide,by decide,fun x hx=>?_⟩; cases hx)
 refine (ai 0 (by decide)).u ?_
 refine li ?_
 refine li ?_
 refine fun _=>And.intro (fun h=>absurd h (show ¬ (1:Int) < 1 by decide)) (fun _=>?_)
 exact rA
abbrev CQ:List PV:=[.agg [.lit .i64 8,.lit .i64 0,.lit .i64 8,.lit .i64 4],.agg [.lit .i64 4,.lit .i64 1,.lit .i64 0,.lit .i64 8]]
theorem Mt (f w:Int) (hs:ae f=15) (hf:fe f) (hw:aP w):ah gT 157 [.int .i64 f,.int .i64 w] (bX (Cw f w)):=by
 have cd:-1099511627776<=w/\w<=9223372036854775807:=by unfold aP at hw; omega
 have b0:=ab w 8 4
 have b1:=ab w 0 8
 refine Spec.enter ar cA 100 Tryz.func157 rfl (by kernel_rfl) ?_
 refine (bI hf hs).u ?_
 refine wA.u ?_
 refine SW.rounds ar cA (by kernel_rfl) (N:=60) 3 ?_
 refine fun _=>And.intro (fun _=>?_) (fun h=>absurd (show (0:Int) < 2 by decide) h)
 repeat (refine⟨PV,CQ,id,rfl,by decide,by decide,fun x hx=>?_⟩; cases hx)
 refine (aj w 8 4 cd (by decide) (by decide)).u ?_
 repeat (refine⟨PV,CQ,id,rfl,by decide,by decide,fun x hx=>?_⟩; cases hx)
 refine (ai 0 (by decide)).u ?_
 refine li ?_
 refine li ?_
 refine fun _=>And.intro (fun _=>?_) (fun h=>absurd (show (1:Int) < 2 by decide) h)
 repeat (refine⟨PV,CQ,id,rfl,by decide,by decide,fun x hx=>?_⟩; cases hx)
 refine (aj w 0 8 cd (by decide) (by decide)).u ?_
 repeat (refine⟨PV,CQ,id,rfl,by decide,by decide,fun x hx=>?_⟩; cases hx)
 refine (ai 1 (by decide)).u ?_
 refine li ?_
 refine li ?_
 refine fun _=>And.intro (fun h=>absurd h (show ¬ (2:Int) < 2 by decide)) (fun _=>?_)
 refine (kF (0+aa w 0 8*2 ^ 1) 9 ⟨by omega,by omega⟩ (by decide)).u ?_
 exact rA
abbrev Pk:List PV:=[.agg [.lit .i64 4,.lit .i64 1,.lit .i64 0,.lit .i64 11]]
theorem Mu (f w:Int) (hs:ae f=16) (hf:fe f) (hw:aP w):ah gT 157 [.int .i64 f,.int .i64 w] (bX (Cy f w)):=by
 have cd:-1099511627776<=w/\w<=9223372036854775807:=by unfold aP at hw; omega
 have b0:=ab w 0 11
 refine Spec.enter ar cA 100 Tryz.func157 rfl (by kernel_rfl) ?_
 refine (bI hf hs).u ?_
 refine wB.u ?_
 refine SW.rounds ar cA (by kernel_rfl) (N:=60) 2 ?_
 refine fun _=>And.intro (fun _=>?_) (fun h=>absurd (show (0:Int) < 1 by decide) h)
 repeat (refine⟨PV,Pk,id,rfl,by decide,by decide,fun x hx=>?_⟩; cases hx)
 refine (aj w 0 11 cd (by decide) (by decide)).u ?_
 repeat (refine⟨PV,Pk,id,rfl,by decide,by decide,fun x hx=>?_⟩; cases hx)
 refine (ai 1 (by decide)).u ?_
 refine li ?_
 refine li ?_
 refine fun _=>And.intro (fun h=>absurd h (show ¬ (1:Int) < 1 by decide)) (fun _=>?_)
 refine (kF (0+aa w 0 11*2 ^ 1) 12 ⟨by omega,by omega⟩ (by decide)).u ?_
 exact rA
abbrev nf:List PV:=[.agg [.lit .i64 4,.lit .i64 11,.lit .i64 26,.lit .i64 1],.agg [.lit .i64 4,.lit .i64 12,.lit .i64 16,.lit .i64 4],.agg [.lit .i64 4,.lit .i64 8,.lit .i64 12,.lit .i64 3],.agg [.lit .i64 4,.lit .i64 0,.lit .i64 0,.lit .i64 8],.agg [.lit .i64 0,.lit .i64 0,.lit .i64 8,.lit .i64 4]]
theorem Mv (f w:Int) (hs:ae f=17) (hf:fe f) (hw:aP w):ah gT 157 [.int .i64 f,.int .i64 w] (bX (Cz f w)):=by
 have cd:-1099511627776<=w/\w<=9223372036854775807:=by unfold aP at hw; omega
 have b0:=ab w 26 1
 have b1:=ab w 16 4
 have b2:=ab w 12 3
 have b3:=ab w 0 8
 have b4:=ab w 8 4
 refine Spec.enter ar cA 100 Tryz.func157 rfl (by kernel_rfl) ?_
 refine (bI hf hs).u ?_
 refine wC.u ?_
 refine SW.rounds ar cA (by kernel_rfl) (N:=60) 6 ?_
 refine fun _=>And.intro (fun _=>?_) (fun h=>absurd (show (0:Int) < 5 by decide) h)
 repeat (refine⟨PV,nf,id,rfl,by decide,by decide,fun x hx=>?_⟩; cases hx)
 refine (aj w 26 1 cd (by decide) (by decide)).u ?_
 repeat (refine⟨PV,nf,id,rfl,by decide,by decide,fun x hx=>?_⟩; cases hx)
 refine (ai 11 (by decide)).u ?_
 refine li ?_
 refine li ?_
 refine fun _=>And.intro (fun _=>?_) (fun h=>absurd (show (1:Int) < 5 by decide) h)
 repeat (refine⟨PV,nf,id,rfl,by decide,by decide,fun x hx=>?_⟩; cases hx)
 refine (aj w 16 4 cd (by decide) (by decide)).u ?_
 repeat (refine⟨PV,nf,id,rfl,by decide,by decide,fun x hx=>?_⟩; cases hx)
 refine (ai 12 (by decide)).u ?_
 refine li ?_
 refine li ?_
 refine fun _=>And.intro (fun _=>?_) (fun h=>absurd (show (2:Int) < 5 by decide) h)
 repeat (refine⟨PV,nf,id,rfl,by decide,by decide,fun x hx=>?_⟩; cases hx)
 refine (aj w 12 3 cd (by decide) (by decide)).u ?_
 repeat (refine⟨PV,nf,id,rfl,by decide,by decide,fun x hx=>?_⟩; cases hx)
 refine (ai 8 (by decide)).u ?_
 refine li ?_
 refine li ?_
 refine fun _=>And.intro (fun _=>?_) (fun h=>absurd (show (3:Int) < 5 by decide) h)
 repeat (refine⟨PV,nf,id,rfl,by decide,by decide,fun x hx=>?_⟩; cases hx)
 refine (aj w 0 8 cd (by decide) (by decide)).u ?_
 repeat (refine⟨PV,nf,id,rfl,by decide,by decide,fun x hx=>?_⟩; cases hx)
 refine (ai 0 (by decide)).u ?_
 refine li ?_
 refine li ?_
 refine fun _=>And.intro (fun _=>?_) (fun h=>absurd (show (4:Int) < 5 by decide) h)
 repeat (refine⟨PV,nf,id,rfl,by decide,by decide,fun x hx=>?_⟩; cases hx)
 refine (aj w 8 4 cd (by decide) (by decide)).u ?_
 repeat (refine⟨PV,nf,id,rfl,by decide,by decide,fun x hx=>?_⟩; cases hx)
 refine (ai 0 (by decide)).u ?_
 refine li ?_
 refine li ?_
 refine fun _=>And.intro (fun h=>absurd h (show ¬ (5:Int) < 5 by decide)) (fun _=>?_)
 exact rA
abbrev kS:List PV:=[.agg [.lit .i64 4,.lit .i64 11,.lit .i64 26,.lit .i64 1],.agg [.lit .i64 4,.lit .i64 8,.lit .i64 12,.lit .i64 3],.agg [.lit .i64 4,.lit .i64 0,.lit .i64 0,.lit .i64 8],.agg [.lit .i64 7,.lit .i64 0,.lit .i64 20,.lit .i64 1],.agg [.lit .i64 1,.lit .i64 0,.lit .i64 16,.lit .i64 4],.agg [.lit .i64 0,.lit .i64 0,.lit .i64 8,.lit .i64 4]]
theorem Mw (f w:Int) (hs:ae f=18) (hf:fe f) (hw:aP w):ah gT 157 [.int .i64 f,.int .i64 w] (bX (yN f w)):=by
 have cd:-1099511627776<=w/\w<=9223372036854775807:=by unfold aP at hw; omega
 have b0:=ab w 26 1
 have b1:=ab w 12 3
 have b2:=ab w 0 8
 have b3:=ab w 20 1
 have b4:=ab w 16 4
 have b5:=ab w 8 4
 refine Spec.enter ar cA 100 Tryz.func157 rfl (by kernel_rfl) ?_
 refine (bI hf hs).u ?_
 refine wD.u ?_
 refine SW.rounds ar cA (by kernel_rfl) (N:=60) 7 ?_
 refine fun _=>And.intro (fun _=>?_) (fun h=>absurd (show (0:Int) < 6 by decide) h)
 repeat (refine⟨PV,kS,id,rfl,by decide,by decide,fun x hx=>?_⟩; cases hx)
 refine (aj w 26 1 cd (by decide) (by decide)).u ?_
 repeat (refine⟨PV,kS,id,rfl,by decide,by decide,fun x hx=>?_⟩; cases hx)
 refine (ai 11 (by decide)).u ?_
 refine li ?_
 refine li ?_
 refine fun _=>And.intro (fun _=>?_) (fun h=>absurd (show (1:Int) < 6 by decide) h)
 repeat (refine⟨PV,kS,id,rfl,by decide,by decide,fun x hx=>?_⟩; cases hx)
 refine (aj w 12 3 cd (by decide) (by decide)).u ?_
 repeat (refine⟨PV,kS,id,rfl,by decide,by decide,fun x hx=>?_⟩; cases hx)
 refine (ai 8 (by decide)).u ?_
 refine li ?_
 refine li ?_
 refine fun _=>And.intro (fun _=>?_) (fun h=>absurd (show (2:Int) < 6 by decide) h)
 repeat (refine⟨PV,kS,id,rfl,by decide,by decide,fun x hx=>?_⟩; cases hx)
 refine (aj w 0 8 cd (by decide) (by decide)).u ?_
 repeat (refine⟨PV,kS,id,rfl,by decide,by decide,fun x hx=>?_⟩; cases hx)
 refine (ai 0 (by decide)).u ?_
 refine li ?_
 refine li ?_
 refine fun _=>And.intro (fun _=>?_) (fun h=>absurd (show (3:Int) < 6 by decide) h)
 repeat (refine⟨PV,kS,id,rfl,by decide,by decide,fun x hx=>?_⟩; cases hx)
 refine (aj w 20 1 cd (by decide) (by decide)).u ?_
 repeat (refine⟨PV,kS,id,rfl,by decide,by decide,fun x hx=>?_⟩; cases hx)
 refine (ai 0 (by decide)).u ?_
 refine li ?_
 refine li ?_
 refine fun _=>And.intro (fun _=>?_) (fun h=>absurd (show (4:Int) < 6 by decide) h)
 repeat (refine⟨PV,kS,id,rfl,by decide,by decide,fun x hx=>?_⟩; cases hx)
 refine (aj w 16 4 cd (by decide) (by decide)).u ?_
 repeat (refine⟨PV,kS,id,rfl,by decide,by decide,fun x hx=>?_⟩; cases hx)
 refine (ai 0 (by decide)).u ?_
 refine li ?_
 refine li ?_
 refine fun _=>And.intro (fun _=>?_) (fun h=>absurd (show (5:Int) < 6 by decide) h)
 repeat (refine⟨PV,kS,id,rfl,by decide,by decide,fun x hx=>?_⟩; cases hx)
 refine (aj w 8 4 cd (by decide) (by decide)).u ?_
 repeat (refine⟨PV,kS,id,rfl,by decide,by decide,fun x hx=>?_⟩; cases hx)
 refine (ai 0 (by decide)).u ?_
 refine li ?_
 refine li ?_
 refine fun _=>And.intro (fun h=>absurd h (show ¬ (6:Int) < 6 by decide)) (fun _=>?_)
 exact rA
abbrev ng:List PV:=[.agg [.lit .i64 4,.lit .i64 11,.lit .i64 26,.lit .i64 1],.agg [.lit .i64 4,.lit .i64 8,.lit .i64 12,.lit .i64 3],.agg [.lit .i64 4,.lit .i64 0,.lit .i64 0,.lit .i64 8],.agg [.lit .i64 7,.lit .i64 0,.lit .i64 20,.lit .i64 1],.agg [.lit .i64 0,.lit .i64 0,.lit .i64 8,.lit .i64 4]]
theorem Mx (f w:Int) (hs:ae f=19) (hf:fe f) (hw:aP w):ah gT 157 [.int .i64 f,.int .i64 w] (bX (yO f w)):=by
 have cd:-1099511627776<=w/\w<=9223372036854775807:=by unfold aP at hw; omega
 have b0:=ab w 26 1
 have b1:=ab w 12 3
 have b2:=ab w 0 8
 have b3:=ab w 20 1
 have b4:=ab w 8 4
 refine Spec.enter ar cA 100 Tryz.func157 rfl (by kernel_rfl) ?_
 refine (bI hf hs).u ?_
 refine wE.u ?_
 refine SW.rounds ar cA (by kernel_rfl) (N:=60) 6 ?_
 refine fun _=>And.intro (fun _=>?_) (fun h=>absurd (show (0:Int) < 5 by decide) h)
 repeat (refine⟨PV,ng,id,rfl,by decide,by decide,fun x hx=>?_⟩; cases hx)
 refine (aj w 26 1 cd (by decide) (by decide)).u ?_
 repeat (refine⟨PV,ng,id,rfl,by decide,by decide,fun x hx=>?_⟩; cases hx)
 refine (ai 11 (by decide)).u ?_
 refine li ?_
 refine li ?_
 refine fun _=>And.intro (fun _=>?_) (fun h=>absurd (show (1:Int) < 5 by decide) h)
 repeat (refine⟨PV,ng,id,rfl,by decide,by decide,fun x hx=>?_⟩; cases hx)
 refine (aj w 12 3 cd (by decide) (by decide)).u ?_
 repeat (refine⟨PV,ng,id,rfl,by decide,by decide,fun x hx=>?_⟩; cases hx)
 refine (ai 8 (by decide)).u ?_
 refine li ?_
 refine li ?_
 refine fun _=>And.intro (fun _=>?_) (fun h=>absurd (show (2:Int) < 5 by decide) h)
 repeat (refine⟨PV,ng,id,rfl,by decide,by decide,fun x hx=>?_⟩; cases hx)
 refine (aj w 0 8 cd (by decide) (by decide)).u ?_
 repeat (refine⟨PV,ng,id,rfl,by decide,by decide,fun x hx=>?_⟩; cases hx)
 refine (ai 0 (by decide)).u ?_
 refine li ?_
 refine li ?_
 refine fun _=>And.intro (fun _=>?_) (fun h=>absurd (show (3:Int) < 5 by decide) h)
 repeat (refine⟨PV,ng,id,rfl,by decide,by decide,fun x hx=>?_⟩; cases hx)
 refine (aj w 20 1 cd (by decide) (by decide)).u ?_
 repeat (refine⟨PV,ng,id,rfl,by decide,by decide,fun x hx=>?_⟩; cases hx)
 refine (ai 0 (by decide)).u ?_
 refine li ?_
 refine li ?_
 refine fun _=>And.intro (fun _=>?_) (fun h=>absurd (show (4:Int) < 5 by decide) h)
 repeat (refine⟨PV,ng,id,rfl,by decide,by decide,fun x hx=>?_⟩; cases hx)
 refine (aj w 8 4 cd (by decide) (by decide)).u ?_
 repeat (refine⟨PV,ng,id,rfl,by decide,by decide,fun x hx=>?_⟩; cases hx)
 refine (ai 0 (by decide)).u ?_
 refine li ?_
 refine li ?_
 refine fun _=>And.intro (fun h=>absurd h (show ¬ (5:Int) < 5 by decide)) (fun _=>?_)
 exact rA
abbrev qm:List PV:=[.agg [.lit .i64 4,.lit .i64 11,.lit .i64 26,.lit .i64 1],.agg [.lit .i64 4,.lit .i64 8,.lit .i64 12,.lit .i64 3],.agg [.lit .i64 4,.lit .i64 0,.lit .i64 0,.lit .i64 8],.agg [.lit .i64 1,.lit .i64 0,.lit .i64 16,.lit .i64 4]]
theorem My (f w:Int) (hs:ae f=20) (hf:fe f) (hw:aP w):ah gT 157 [.int .i64 f,.int .i64 w] (bX (yP f w)):=by
 have cd:-1099511627776<=w/\w<=9223372036854775807:=by unfold aP at hw; omega
 have b0:=ab w 26 1
 have b1:=ab w 12 3
 have b2:=ab w 0 8
 have b3:=ab w 16 4
 refine Spec.enter ar cA 100 Tryz.func157 rfl (by kernel_rfl) ?_
 refine (bI hf hs).u ?_
 refine wF.u ?_
 refine SW.rounds ar cA (by kernel_rfl) (N:=60) 5 ?_
 refine fun _=>And.intro (fun _=>?_) (fun h=>absurd (show (0:Int) < 4 by decide) h)
 repeat (refine⟨PV,qm,id,rfl,by decide,by decide,fun x hx=>?_⟩; cases hx)
 refine (aj w 26 1 cd (by decide) (by decide)).u ?_
 repeat (refine⟨PV,qm,id,rfl,by decide,by decide,fun x hx=>?_⟩; cases hx)
 refine (ai 11 (by decide)).u ?_
 refine li ?_
 refine li ?_
 refine fun _=>And.intro (fun _=>?_) (fun h=>absurd (show (1:Int) < 4 by decide) h)
 repeat (refine⟨PV,qm,id,rfl,by decide,by decide,fun x hx=>?_⟩; cases hx)
 refine (aj w 12 3 cd (by decide) (by decide)).u ?_
 repeat (refine⟨PV,qm,id,rfl,by decide,by decide,fun x hx=>?_⟩; cases hx)
 refine (ai 8 (by decide)).u ?_
 refine li ?_
 refine li ?_
 refine fun _=>And.intro (fun _=>?_) (fun h=>absurd (show (2:Int) < 4 by decide) h)
 repeat (refine⟨PV,qm,id,rfl,by decide,by decide,fun x hx=>?_⟩; cases hx)
 refine (aj w 0 8 cd (by decide) (by decide)).u ?_
 repeat (refine⟨PV,qm,id,rfl,by decide,by decide,fun x hx=>?_⟩; cases hx)
 refine (ai 0 (by decide)).u ?_
 refine li ?_
 refine li ?_
 refine fun _=>And.intro (fun _=>?_) (fun h=>absurd (show (3:Int) < 4 by decide) h)
 repeat (refine⟨PV,qm,id,rfl,by decide,by decide,fun x hx=>?_⟩; cases hx)
 refine (aj w 16 4 cd (by decide) (by decide)).u ?_
 repeat (refine⟨PV,qm,id,rfl,by decide,by decide,fun x hx=>?_⟩; cases hx)
 refine (ai 0 (by decide)).u ?_
 refine li ?_
 refine li ?_
 refine fun _=>And.intro (fun h=>absurd h (show ¬ (4:Int) < 4 by decide)) (fun _=>?_)
 exact rA
abbrev jq:List PV:=[.agg [.lit .i64 6,.lit .i64 2,.lit .i64 12,.lit .i64 3],.agg [.lit .i64 6,.lit .i64 0,.lit .i64 6,.lit .i64 2],.agg [.lit .i64 5,.lit .i64 0,.lit .i64 4,.lit .i64 2],.agg [.lit .i64 7,.lit .i64 0,.lit .i64 20,.lit .i64 1],.agg [.lit .i64 1,.lit .i64 0,.lit .i64 16,.lit .i64 4],.agg [.lit .i64 0,.lit .i64 0,.lit .i64 8,.lit .i64 4],.agg [.lit .i64 2,.lit .i64 0,.lit .i64 0,.lit .i64 4]]
theorem Mz (f w:Int) (hs:ae f=21) (hf:fe f) (hw:aP w):ah gT 157 [.int .i64 f,.int .i64 w] (bX (yQ f w)):=by
 have cd:-1099511627776<=w/\w<=9223372036854775807:=by unfold aP at hw; omega
 have b0:=ab w 12 3
 have b1:=ab w 6 2
 have b2:=ab w 4 2
 have b3:=ab w 20 1
 have b4:=ab w 16 4
 have b5:=ab w 8 4
 have b6:=ab w 0 4
 refine Spec.enter ar cA 100 Tryz.func157 rfl (by kernel_rfl) ?_
 refine (bI hf hs).u ?_
 refine wG.u ?_
 refine SW.rounds ar cA (by kernel_rfl) (N:=60) 8 ?_
 refine fun _=>And.intro (fun _=>?_) (fun h=>absurd (show (0:Int) < 7 by decide) h)
 repeat (refine⟨PV,jq,id,rfl,by decide,by decide,fun x hx=>?_⟩; cases hx)
 refine (aj w 12 3 cd (by decide) (by decide)).u ?_
 repeat (refine⟨PV,jq,id,rfl,by decide,by decide,fun x hx=>?_⟩; cases hx)
 refine (ai 2 (by decide)).u ?_
 refine li ?_
 refine li ?_
 refine fun _=>And.intro (fun _=>?_) (fun h=>absurd (show (1:Int) < 7 by decide) h)
 repeat (refine⟨PV,jq,id,rfl,by decide,by decide,fun x hx=>?_⟩; cases hx)
 refine (aj w 6 2 cd (by decide) (by decide)).u ?_
 repeat (refine⟨PV,jq,id,rfl,by decide,by decide,fun x hx=>?_⟩; cases hx)
 refine (ai 0 (by decide)).u ?_
 refine li ?_
 refine li ?_
 refine fun _=>And.intro (fun _=>?_) (fun h=>absurd (show (2:Int) < 7 by decide) h)
 repeat (refine⟨PV,jq,id,rfl,by decide,by decide,fun x hx=>?_⟩; cases hx)
 refine (aj w 4 2 cd (by decide) (by decide)).u ?_
 repeat (refine⟨PV,jq,id,rfl,by decide,by decide,fun x hx=>?_⟩; cases hx)
 refine (ai 0 (by decide)).u ?_
 refine li ?_
 refine li ?_
 refine fun _=>And.intro (fun _=>?_) (fun h=>absurd (show (3:Int) < 7 by decide) h)
 repeat (refine⟨PV,jq,id,rfl,by decide,by decide,fun x hx=>?_⟩; cases hx)
 refine (aj w 20 1 cd (by decide) (by decide)).u ?_
 repeat (refine⟨PV,jq,id,rfl,by decide,by decide,fun x hx=>?_⟩; cases hx)
 refine (ai 0 (by decide)).u ?_
 refine li ?_
 refine li ?_
 refine fun _=>And.intro (fun _=>?_) (fun h=>absurd (show (4:Int) < 7 by decide) h)
 repeat (refine⟨PV,jq,id,rfl,by decide,by decide,fun x hx=>?_⟩; cases hx)
 refine (aj w 16 4 cd (by decide) (by decide)).u ?_
 repeat (refine⟨PV,jq,id,rfl,by decide,by decide,fun x hx=>?_⟩; cases hx)
 refine (ai 0 (by decide)).u ?_
 refine li ?_
 refine li ?_
 refine fun _=>And.intro (fun _=>?_) (fun h=>absurd (show (5:Int) < 7 by decide) h)
 repeat (refine⟨PV,jq,id,rfl,by decide,by decide,fun x hx=>?_⟩; cases hx)
 refine (aj w 8 4 cd (by decide) (by decide)).u ?_
 repeat (refine⟨PV,jq,id,rfl,by decide,by decide,fun x hx=>?_⟩; cases hx)
 refine (ai 0 (by decide)).u ?_
 refine li ?_
 refine li ?_
 refine fun _=>And.intro (fun _=>?_) (fun h=>absurd (show (6:Int) < 7 by decide) h)
 repeat (refine⟨PV,jq,id,rfl,by decide,by decide,fun x hx=>?_⟩; cases hx)
 refine (aj w 0 4 cd (by decide) (by decide)).u ?_
 repeat (refine⟨PV,jq,id,rfl,by decide,by decide,fun x hx=>?_⟩; cases hx)
 refine (ai 0 (by decide)).u ?_
 refine li ?_
 refine li ?_
 refine fun _=>And.intro (fun h=>absurd h (show ¬ (7:Int) < 7 by decide)) (fun _=>?_)
 refine⟨fun h0=>And.intro (fun h1=>?_) (fun h1=>And.intro (fun h2=>?_) (fun h2=>?_)),fun h0=>?_⟩
 ·refine ao ?_
  exact⟨rfl,rfl,rfl,rfl,rfl,rfl,rfl,(if_pos (And.intro h0 (Or.inl h1))).symm,rfl,rfl,rfl,trivial⟩
 ·refine ao ?_
  exact⟨rfl,rfl,rfl,rfl,rfl,rfl,rfl,(if_pos (And.intro h0 (Or.inr h2))).symm,rfl,rfl,rfl,trivial⟩
 ·refine ao ?_
  exact⟨rfl,rfl,rfl,rfl,rfl,rfl,rfl,(if_neg (fun e=>e.2.elim h1 h2)).symm,rfl,rfl,rfl,trivial⟩
 ·refine ao ?_
  exact⟨rfl,rfl,rfl,rfl,rfl,rfl,rfl,(if_neg (fun e=>h0 e.1)).symm,rfl,rfl,rfl,trivial⟩
abbrev kT:List PV:=[.agg [.lit .i64 6,.lit .i64 2,.lit .i64 12,.lit .i64 3],.agg [.lit .i64 6,.lit .i64 0,.lit .i64 6,.lit .i64 2],.agg [.lit .i64 5,.lit .i64 0,.lit .i64 4,.lit .i64 2],.agg [.lit .i64 7,.lit .i64 0,.lit .i64 20,.lit .i64 1],.agg [.lit .i64 0,.lit .i64 0,.lit .i64 8,.lit .i64 4],.agg [.lit .i64 2,.lit .i64 0,.lit .i64 0,.lit .i64 4]]
theorem MA (f w:Int) (hs:ae f=22) (hf:fe f) (hw:aP w):ah gT 157 [.int .i64 f,.int .i64 w] (bX (yR f w)):=by
 have cd:-1099511627776<=w/\w<=9223372036854775807:=by unfold aP at hw; omega
 have b0:=ab w 12 3
 have b1:=ab w 6 2
 have b2:=ab w 4 2
 have b3:=ab w 20 1
 have b4:=ab w 8 4
 have b5:=ab w 0 4
 refine Spec.enter ar cA 100 Tryz.func157 rfl (by kernel_rfl) ?_
 refine (bI hf hs).u ?_
 refine wH.u ?_
 refine SW.rounds ar cA (by kernel_rfl) (N:=60) 7 ?_
 refine fun _=>And.intro (fun _=>?_) (fun h=>absurd (show (0:Int) < 6 by decide) h)
 repeat (refine⟨PV,kT,id,rfl,by decide,by decide,fun x hx=>?_⟩; cases hx)
 refine (aj w 12 3 cd (by decide) (by decide)).u ?_
 repeat (refine⟨PV,kT,id,rfl,by decide,by decide,fun x hx=>?_⟩; cases hx)
 refine (ai 2 (by decide)).u ?_
 refine li ?_
 refine li ?_
 refine fun _=>And.intro (fun _=>?_) (fun h=>absurd (show (1:Int) < 6 by decide) h)
 repeat (refine⟨PV,kT,id,rfl,by decide,by decide,fun x hx=>?_⟩; cases hx)
 refine (aj w 6 2 cd (by decide) (by decide)).u ?_
 repeat (refine⟨PV,kT,id,rfl,by decide,by decide,fun x hx=>?_⟩; cases hx)
 refine (ai 0 (by decide)).u ?_
 refine li ?_
 refine li ?_
 refine fun _=>And.intro (fun _=>?_) (fun h=>absurd (show (2:Int) < 6 by decide) h)
 repeat (refine⟨PV,kT,id,rfl,by decide,by decide,fun x hx=>?_⟩; cases hx)
 refine (aj w 4 2 cd (by decide) (by decide)).u ?_
 repeat (refine⟨PV,kT,id,rfl,by decide,by decide,fun x hx=>?_⟩; cases hx)
 refine (ai 0 (by decide)).u ?_
 refine li ?_
 refine li ?_
 refine fun _=>And.intro (fun _=>?_) (fun h=>absurd (show (3:Int) < 6 by decide) h)
 repeat (refine⟨PV,kT,id,rfl,by decide,by decide,fun x hx=>?_⟩; cases hx)
 refine (aj w 20 1 cd (by decide) (by decide)).u ?_
 repeat (refine⟨PV,kT,id,rfl,by decide,by decide,fun x hx=>?_⟩; cases hx)
 refine (ai 0 (by decide)).u ?_
 refine li ?_
 refine li ?_
 refine fun _=>And.intro (fun _=>?_) (fun h=>absurd (show (4:Int) < 6 by decide) h)
 repeat (refine⟨PV,kT,id,rfl,by decide,by decide,fun x hx=>?_⟩; cases hx)
 refine (aj w 8 4 cd (by decide) (by decide)).u ?_
 repeat (refine⟨PV,kT,id,rfl,by decide,by decide,fun x hx=>?_⟩; cases hx)
 refine (ai 0 (by decide)).u ?_
 refine li ?_
 refine li ?_
 refine fun _=>And.intro (fun _=>?_) (fun h=>absurd (show (5:Int) < 6 by decide) h)
 repeat (refine⟨PV,kT,id,rfl,by decide,by decide,fun x hx=>?_⟩; cases hx)
 refine (aj w 0 4 cd (by decide) (by decide)).u ?_
 repeat (refine⟨PV,kT,id,rfl,by decide,by decide,fun x hx=>?_⟩; cases hx)
 refine (ai 0 (by decide)).u ?_
 refine li ?_
 refine li ?_
 refine fun _=>And.intro (fun h=>absurd h (show ¬ (6:Int) < 6 by decide)) (fun _=>?_)
 refine⟨fun h0=>And.intro (fun h1=>?_) (fun h1=>And.intro (fun h2=>?_) (fun h2=>?_)),fun h0=>?_⟩
 ·refine ao ?_
  exact⟨rfl,rfl,rfl,rfl,rfl,rfl,rfl,(if_pos (And.intro h0 (Or.inl h1))).symm,rfl,rfl,rfl,trivial⟩
 ·refine ao ?_
  exact⟨rfl,rfl,rfl,rfl,rfl,rfl,rfl,(if_pos (And.intro h0 (Or.inr h2))).symm,rfl,rfl,rfl,trivial⟩
 ·refine ao ?_
  exact⟨rfl,rfl,rfl,rfl,rfl,rfl,rfl,(if_neg (fun e=>e.2.elim h1 h2)).symm,rfl,rfl,rfl,trivial⟩
 ·refine ao ?_
  exact⟨rfl,rfl,rfl,rfl,rfl,rfl,rfl,(if_neg (fun e=>h0 e.1)).symm,rfl,rfl,rfl,trivial⟩
abbrev nh:List PV:=[.agg [.lit .i64 6,.lit .i64 2,.lit .i64 12,.lit .i64 3],.agg [.lit .i64 6,.lit .i64 0,.lit .i64 6,.lit .i64 2],.agg [.lit .i64 5,.lit .i64 0,.lit .i64 4,.lit .i64 2],.agg [.lit .i64 1,.lit .i64 0,.lit .i64 16,.lit .i64 4],.agg [.lit .i64 2,.lit .i64 0,.lit .i64 0,.lit .i64 4]]
theorem MB (f w:Int) (hs:ae f=23) (hf:fe f) (hw:aP w):ah gT 157 [.int .i64 f,.int .i64 w] (bX (yS f w)):=by
 have cd:-1099511627776<=w/\w<=9223372036854775807:=by unfold aP at hw; omega
 have b0:=ab w 12 3
 have b1:=ab w 6 2
 have b2:=ab w 4 2
 have b3:=ab w 16 4
 have b4:=ab w 0 4
 refine Spec.enter ar cA 100 Tryz.func157 rfl (by kernel_rfl) ?_
 refine (bI hf hs).u ?_
 refine wI.u ?_
 refine SW.rounds ar cA (by kernel_rfl) (N:=60) 6 ?_
 refine fun _=>And.intro (fun _=>?_) (fun h=>absurd (show (0:Int) < 5 by decide) h)
 repeat (refine⟨PV,nh,id,rfl,by decide,by decide,fun x hx=>?_⟩; cases hx)
 refine (aj w 12 3 cd (by decide) (by decide)).u ?_
 repeat (refine⟨PV,nh,id,rfl,by decide,by decide,fun x hx=>?_⟩; cases hx)
 refine (ai 2 (by decide)).u ?_
 refine li ?_
 refine li ?_
 refine fun _=>And.intro (fun _=>?_) (fun h=>absurd (show (1:Int) < 5 by decide) h)
 repeat (refine⟨PV,nh,id,rfl,by decide,by decide,fun x hx=>?_⟩; cases hx)
 refine (aj w 6 2 cd (by decide) (by decide)).u ?_
 repeat (refine⟨PV,nh,id,rfl,by decide,by decide,fun x hx=>?_⟩; cases hx)
 refine (ai 0 (by decide)).u ?_
 refine li ?_
 refine li ?_
 refine fun _=>And.intro (fun _=>?_) (fun h=>absurd (show (2:Int) < 5 by decide) h)
 repeat (refine⟨PV,nh,id,rfl,by decide,by decide,fun x hx=>?_⟩; cases hx)
 refine (aj w 4 2 cd (by decide) (by decide)).u ?_
 repeat (refine⟨PV,nh,id,rfl,by decide,by decide,fun x hx=>?_⟩; cases hx)
 refine (ai 0 (by decide)).u ?_
 refine li ?_
 refine li ?_
 refine fun _=>And.intro (fun _=>?_) (fun h=>absurd (show (3:Int) < 5 by decide) h)
 repeat (refine⟨PV,nh,id,rfl,by decide,by decide,fun x hx=>?_⟩; cases hx)
 refine (aj w 16 4 cd (by decide) (by decide)).u ?_
 repeat (refine⟨PV,nh,id,rfl,by decide,by decide,fun x hx=>?_⟩; cases hx)
 refine (ai 0 (by decide)).u ?_
 refine li ?_
 refine li ?_
 refine fun _=>And.intro (fun _=>?_) (fun h=>absurd (show (4:Int) < 5 by decide) h)
 repeat (refine⟨PV,nh,id,rfl,by decide,by decide,fun x hx=>?_⟩; cases hx)
 refine (aj w 0 4 cd (by decide) (by decide)).u ?_
 repeat (refine⟨PV,nh,id,rfl,by decide,by decide,fun x hx=>?_⟩; cases hx)
 refine (ai 0 (by decide)).u ?_
 refine li ?_
 refine li ?_
 refine fun _=>And.intro (fun h=>absurd h (show ¬ (5:Int) < 5 by decide)) (fun _=>?_)
 refine⟨fun h0=>And.intro (fun h1=>?_) (fun h1=>And.intro (fun h2=>?_) (fun h2=>?_)),fun h0=>?_⟩
 ·refine ao ?_
  exact⟨rfl,rfl,rfl,rfl,rfl,rfl,rfl,(if_pos (And.intro h0 (Or.inl h1))).symm,rfl,rfl,rfl,trivial⟩
 ·refine ao ?_
  exact⟨rfl,rfl,rfl,rfl,rfl,rfl,rfl,(if_pos (And.intro h0 (Or.inr h2))).symm,rfl,rfl,rfl,trivial⟩
 ·refine ao ?_
  exact⟨rfl,rfl,rfl,rfl,rfl,rfl,rfl,(if_neg (fun e=>e.2.elim h1 h2)).symm,rfl,rfl,rfl,trivial⟩
 ·refine ao ?_
  exact⟨rfl,rfl,rfl,rfl,rfl,rfl,rfl,(if_neg (fun e=>h0 e.1)).symm,rfl,rfl,rfl,trivial⟩
abbrev ni:List PV:=[.agg [.lit .i64 4,.lit .i64 11,.lit .i64 26,.lit .i64 1],.agg [.lit .i64 4,.lit .i64 8,.lit .i64 12,.lit .i64 3],.agg [.lit .i64 4,.lit .i64 0,.lit .i64 0,.lit .i64 8],.agg [.lit .i64 1,.lit .i64 0,.lit .i64 16,.lit .i64 4],.agg [.lit .i64 0,.lit .i64 0,.lit .i64 8,.lit .i64 4]]
theorem MC (f w:Int) (hs:ae f=24) (hf:fe f) (hw:aP w):ah gT 157 [.int .i64 f,.int .i64 w] (bX (yT f w)):=by
 have cd:-1099511627776<=w/\w<=9223372036854775807:=by unfold aP at hw; omega
 have b0:=ab w 26 1
 have b1:=ab w 12 3
 have b2:=ab w 0 8
 have b3:=ab w 16 4
 have b4:=ab w 8 4
 refine Spec.enter ar cA 100 Tryz.func157 rfl (by kernel_rfl) ?_
 refine (bI hf hs).u ?_
 refine wJ.u ?_
 refine SW.rounds ar cA (by kernel_rfl) (N:=60) 6 ?_
 refine fun _=>And.intro (fun _=>?_) (fun h=>absurd (show (0:Int) < 5 by decide) h)
 repeat (refine⟨PV,ni,id,rfl,by decide,by decide,fun x hx=>?_⟩; cases hx)
 refine (aj w 26 1 cd (by decide) (by decide)).u ?_
 repeat (refine⟨PV,ni,id,rfl,by decide,by decide,fun x hx=>?_⟩; cases hx)
 refine (ai 11 (by decide)).u ?_
 refine li ?_
 refine li ?_
 refine fun _=>And.intro (fun _=>?_) (fun h=>absurd (show (1:Int) < 5 by decide) h)
 repeat (refine⟨PV,ni,id,rfl,by decide,by decide,fun x hx=>?_⟩; cases hx)
 refine (aj w 12 3 cd (by decide) (by decide)).u ?_
 repeat (refine⟨PV,ni,id,rfl,by decide,by decide,fun x hx=>?_⟩; cases hx)
 refine (ai 8 (by decide)).u ?_
 refine li ?_
 refine li ?_
 refine fun _=>And.intro (fun _=>?_) (fun h=>absurd (show (2:Int) < 5 by decide) h)
 repeat (refine⟨PV,ni,id,rfl,by decide,by decide,fun x hx=>?_⟩; cases hx)
 refine (aj w 0 8 cd (by decide) (by decide)).u ?_
 repeat (refine⟨PV,ni,id,rfl,by decide,by decide,fun x hx=>?_⟩; cases hx)
 refine (ai 0 (by decide)).u ?_
 refine li ?_
 refine li ?_
 refine fun _=>And.intro (fun _=>?_) (fun h=>absurd (show (3:Int) < 5 by decide) h)
 repeat (refine⟨PV,ni,id,rfl,by decide,by decide,fun x hx=>?_⟩; cases hx)
 refine (aj w 16 4 cd (by decide) (by decide)).u ?_
 repeat (refine⟨PV,ni,id,rfl,by decide,by decide,fun x hx=>?_⟩; cases hx)
 refine (ai 0 (by decide)).u ?_
 refine li ?_
 refine li ?_
 refine fun _=>And.intro (fun _=>?_) (fun h=>absurd (show (4:Int) < 5 by decide) h)
 repeat (refine⟨PV,ni,id,rfl,by decide,by decide,fun x hx=>?_⟩; cases hx)
 refine (aj w 8 4 cd (by decide) (by decide)).u ?_
 repeat (refine⟨PV,ni,id,rfl,by decide,by decide,fun x hx=>?_⟩; cases hx)
 refine (ai 0 (by decide)).u ?_
 refine li ?_
 refine li ?_
 refine fun _=>And.intro (fun h=>absurd h (show ¬ (5:Int) < 5 by decide)) (fun _=>?_)
 exact rA
abbrev uU:List PV:=[.agg [.lit .i64 1,.lit .i64 0,.lit .i64 16,.lit .i64 4],.agg [.lit .i64 0,.lit .i64 0,.lit .i64 12,.lit .i64 4],.agg [.lit .i64 4,.lit .i64 0,.lit .i64 0,.lit .i64 12]]
theorem ME (f w:Int) (hs:ae f=25) (hf:fe f) (hw:aP w):ah gT 157 [.int .i64 f,.int .i64 w] (bX (CA f w)):=by
 have cd:-1099511627776<=w/\w<=9223372036854775807:=by unfold aP at hw; omega
 have b0:=ab w 16 4
 have b1:=ab w 12 4
 have b2:=ab w 0 12
 refine Spec.enter ar cA 100 Tryz.func157 rfl (by kernel_rfl) ?_
 refine (bI hf hs).u ?_
 refine wK.u ?_
 refine SW.rounds ar cA (by kernel_rfl) (N:=60) 4 ?_
 refine fun _=>And.intro (fun _=>?_) (fun h=>absurd (show (0:Int) < 3 by decide) h)
 repeat (refine⟨PV,uU,id,rfl,by decide,by decide,fun x hx=>?_⟩; cases hx)
 refine (aj w 16 4 cd (by decide) (by decide)).u ?_
 repeat (refine⟨PV,uU,id,rfl,by decide,by decide,fun x hx=>?_⟩; cases hx)
 refine (ai 0 (by decide)).u ?_
 refine li ?_
 refine li ?_
 refine fun _=>And.intro (fun _=>?_) (fun h=>absurd (show (1:Int) < 3 by decide) h)
 repeat (refine⟨PV,uU,id,rfl,by decide,by decide,fun x hx=>?_⟩; cases hx)
 refine (aj w 12 4 cd (by decide) (by decide)).u ?_
 repeat (refine⟨PV,uU,id,rfl,by decide,by decide,fun x hx=>?_⟩; cases hx)
 refine (ai 0 (by decide)).u ?_
 refine li ?_
 refine li ?_
 refine fun _=>And.intro (fun _=>?_) (fun h=>absurd (show (2:Int) < 3 by decide) h)
 repeat (refine⟨PV,uU,id,rfl,by decide,by decide,fun x hx=>?_⟩; cases hx)
 refine (aj w 0 12 cd (by decide) (by decide)).u ?_
 repeat (refine⟨PV,uU,id,rfl,by decide,by decide,fun x hx=>?_⟩; cases hx)
 refine (ai 0 (by decide)).u ?_
 refine li ?_
 refine li ?_
 refine fun _=>And.intro (fun h=>absurd h (show ¬ (3:Int) < 3 by decide)) (fun _=>?_)
 exact rA
abbrev qn:List PV:=[.agg [.lit .i64 1,.lit .i64 0,.lit .i64 16,.lit .i64 4],.agg [.lit .i64 0,.lit .i64 0,.lit .i64 12,.lit .i64 4],.agg [.lit .i64 6,.lit .i64 0,.lit .i64 4,.lit .i64 2],.agg [.lit .i64 2,.lit .i64 0,.lit .i64 0,.lit .i64 4]]
theorem MF (f w:Int) (hs:ae f=26) (hf:fe f) (hw:aP w):ah gT 157 [.int .i64 f,.int .i64 w] (bX (CB f w)):=by
 have cd:-1099511627776<=w/\w<=9223372036854775807:=by unfold aP at hw; omega
 have b0:=ab w 16 4
 have b1:=ab w 12 4
 have b2:=ab w 4 2
 have b3:=ab w 0 4
 refine Spec.enter ar cA 100 Tryz.func157 rfl (by kernel_rfl) ?_
 refine (bI hf hs).u ?_
 refine wL.u ?_
 refine SW.rounds ar cA (by kernel_rfl) (N:=60) 5 ?_
 refine fun _=>And.intro (fun _=>?_) (fun h=>absurd (show (0:Int) < 4 by decide) h)
 repeat (refine⟨PV,qn,id,rfl,by decide,by decide,fun x hx=>?_⟩; cases hx)
 refine (aj w 16 4 cd (by decide) (by decide)).u ?_
 repeat (refine⟨PV,qn,id,rfl,by decide,by decide,fun x hx=>?_⟩; cases hx)
 refine (ai 0 (by decide)).u ?_
 refine li ?_
 refine li ?_
 refine fun _=>And.intro (fun _=>?_) (fun h=>absurd (show (1:Int) < 4 by decide) h)
 repeat (refine⟨PV,qn,id,rfl,by decide,by decide,fun x hx=>?_⟩; cases hx)
 refine (aj w 12 4 cd (by decide) (by decide)).u ?_
 repeat (refine⟨PV,qn,id,rfl,by decide,by decide,fun x hx=>?_⟩; cases hx)
 refine (ai 0 (by decide)).u ?_
 refine li ?_
 refine li ?_
 refine fun _=>And.intro (fun _=>?_) (fun h=>absurd (show (2:Int) < 4 by decide) h)
 repeat (refine⟨PV,qn,id,rfl,by decide,by decide,fun x hx=>?_⟩; cases hx)
 refine (aj w 4 2 cd (by decide) (by decide)).u ?_
 repeat (refine⟨PV,qn,id,rfl,by decide,by decide,fun x hx=>?_⟩; cases hx)
 refine (ai 0 (by decide)).u ?_
 refine li ?_
 refine li ?_
 refine fun _=>And.intro (fun _=>?_) (fun h=>absurd (show (3:Int) < 4 by decide) h)
 repeat (refine⟨PV,qn,id,rfl,by decide,by decide,fun x hx=>?_⟩; cases hx)
 refine (aj w 0 4 cd (by decide) (by decide)).u ?_
 repeat (refine⟨PV,qn,id,rfl,by decide,by decide,fun x hx=>?_⟩; cases hx)
 refine (ai 0 (by decide)).u ?_
 refine li ?_
 refine li ?_
 refine fun _=>And.intro (fun h=>absurd h (show ¬ (4:Int) < 4 by decide)) (fun _=>?_)
 exact rA
end Go.Proofs.YtnbngokbamifbaaGreatDoor.Pw

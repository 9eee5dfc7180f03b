/- What this claim is proved with: no condition. -/
import Derived.Test.YtnbhdacpogplgaaGreatDoorPn18
import Derived.Test.YtnbhdacpogplgaaGreatDoorPn14
set_option maxRecDepth 100000
set_option maxHeartbeats 8000000
set_option linter.unusedVariables false
set_option linter.unusedSimpArgs false
namespace Go.Proofs.YtnbhdacpogplgaaGreatDoor.Pw
open Go Go.RowKit
theorem wY (f w:Int) (hF:1<=f/\f<=100) (hs:af f=17) (hw:cb w):ai gT 52 [.int .i64 f,.int .u32 w] (bJ (Aa f w)):=by
 have b0:=ae w 26 1
 have b1:=ae w 16 4
 have b2:=ae w 12 3
 have b3:=ae w 0 8
 have b4:=ae w 8 4
 unfold Aa
 refine Spec.enter aw qB 100 Tryz.func52 rfl (by kernel_rfl) ?_
 refine (aN ⟨f,0,0,0,0,0,0,0,0,0,0⟩ w hw).u ?_
 refine (ak hs).u ?_
 refine (Am w hw).u ?_
 refine al ?_
 (repeat' first|exact trivial|exact rfl|refine And.intro ?_ ?_)
 all_goals (show (_:Int)=_; (try dsimp only [bf,bq]); first|omega|(unfold cF; omega))
theorem qc (f w:Int) (hF:1<=f/\f<=100) (hs:af f=18) (hw:cb w):ai gT 99 [.int .i64 f,.int .u32 w] (bJ (vq f w)):=by
 have b0:=ae w 26 1
 have b1:=ae w 12 3
 have b2:=ae w 0 8
 have b3:=ae w 20 1
 have b4:=ae w 16 4
 have b5:=ae w 8 4
 unfold vq
 refine Spec.enter aw Pr 100 Tryz.func99 rfl (by kernel_rfl) ?_
 refine (aN ⟨f,0,0,0,0,0,0,0,0,0,0⟩ w hw).u ?_
 refine (ke w hw).u ?_
 refine (ak hs).u ?_
 refine al ?_
 (repeat' first|exact trivial|exact rfl|refine And.intro ?_ ?_)
 all_goals (show (_:Int)=_; (try dsimp only [bf,bq]); first|omega|(unfold cF; omega))
theorem wZ (f w:Int) (hF:1<=f/\f<=100) (hs:af f=18) (hw:cb w):ai gT 52 [.int .i64 f,.int .u32 w] (bJ (vq f w)):=by
 have b0:=ae w 26 1
 have b1:=ae w 12 3
 have b2:=ae w 0 8
 have b3:=ae w 20 1
 have b4:=ae w 16 4
 have b5:=ae w 8 4
 refine Spec.enter aw qB 100 Tryz.func52 rfl (by kernel_rfl) ?_
 refine (aN ⟨f,0,0,0,0,0,0,0,0,0,0⟩ w hw).u ?_
 refine (ak hs).u ?_
 refine (qc f w hF hs hw).u ?_
 exact al (eW _)
theorem qd (f w:Int) (hF:1<=f/\f<=100) (hs:af f=19) (hw:cb w):ai gT 99 [.int .i64 f,.int .u32 w] (bJ (vr f w)):=by
 have b0:=ae w 26 1
 have b1:=ae w 12 3
 have b2:=ae w 0 8
 have b3:=ae w 20 1
 have b4:=ae w 8 4
 unfold vr
 refine Spec.enter aw Pr 100 Tryz.func99 rfl (by kernel_rfl) ?_
 refine (aN ⟨f,0,0,0,0,0,0,0,0,0,0⟩ w hw).u ?_
 refine (ke w hw).u ?_
 refine (ak hs).u ?_
 refine al ?_
 (repeat' first|exact trivial|exact rfl|refine And.intro ?_ ?_)
 all_goals (show (_:Int)=_; (try dsimp only [bf,bq]); first|omega|(unfold cF; omega))
theorem w5 (f w:Int) (hF:1<=f/\f<=100) (hs:af f=19) (hw:cb w):ai gT 52 [.int .i64 f,.int .u32 w] (bJ (vr f w)):=by
 have b0:=ae w 26 1
 have b1:=ae w 12 3
 have b2:=ae w 0 8
 have b3:=ae w 20 1
 have b4:=ae w 8 4
 refine Spec.enter aw qB 100 Tryz.func52 rfl (by kernel_rfl) ?_
 refine (aN ⟨f,0,0,0,0,0,0,0,0,0,0⟩ w hw).u ?_
 refine (ak hs).u ?_
 refine (qd f w hF hs hw).u ?_
 exact al (eW _)
theorem qe (f w:Int) (hF:1<=f/\f<=100) (hs:af f=20) (hw:cb w):ai gT 99 [.int .i64 f,.int .u32 w] (bJ (vt f w)):=by
 have b0:=ae w 26 1
 have b1:=ae w 12 3
 have b2:=ae w 0 8
 have b3:=ae w 16 4
 unfold vt
 refine Spec.enter aw Pr 100 Tryz.func99 rfl (by kernel_rfl) ?_
 refine (aN ⟨f,0,0,0,0,0,0,0,0,0,0⟩ w hw).u ?_
 refine (ke w hw).u ?_
 refine (ak hs).u ?_
 refine al ?_
 (repeat' first|exact trivial|exact rfl|refine And.intro ?_ ?_)
 all_goals (show (_:Int)=_; (try dsimp only [bf,bq]); first|omega|(unfold cF; omega))
theorem w6 (f w:Int) (hF:1<=f/\f<=100) (hs:af f=20) (hw:cb w):ai gT 52 [.int .i64 f,.int .u32 w] (bJ (vt f w)):=by
 have b0:=ae w 26 1
 have b1:=ae w 12 3
 have b2:=ae w 0 8
 have b3:=ae w 16 4
 refine Spec.enter aw qB 100 Tryz.func52 rfl (by kernel_rfl) ?_
 refine (aN ⟨f,0,0,0,0,0,0,0,0,0,0⟩ w hw).u ?_
 refine (ak hs).u ?_
 refine (qe f w hF hs hw).u ?_
 exact al (eW _)
theorem w7 (f w:Int) (hF:1<=f/\f<=100) (hs:af f=21) (hw:cb w):ai gT 100 [.int .i64 f,.int .u32 w] (bJ (vu f w)):=by
 have b0:=ae w 12 3
 have b1:=ae w 6 2
 have b2:=ae w 4 2
 have b3:=ae w 20 1
 have b4:=ae w 16 4
 have b5:=ae w 8 4
 have b6:=ae w 0 4
 unfold vu
 refine Spec.enter aw F4 100 Tryz.func100 rfl (by kernel_rfl) ?_
 refine (aN ⟨f,0,0,0,0,0,0,0,0,0,0⟩ w hw).u ?_
 refine (az w 4 2 hw (by decide) (by decide)).u ?_
 refine (az w 12 3 hw (by decide) (by decide)).u ?_
 refine⟨by decide,.inl ⟨aA (by rw[q2]; omega),?_⟩⟩
 refine (az w 6 2 hw (by decide) (by decide)).u ?_
 have ek:aa w 4 2=0+aa w 4 2*2 ^ 0:=by omega
 have e:bits .or .i64 (aa w 12 3*Ev.aC .i64 2) (aa w 6 2)=0+aa w 12 3*2 ^ 2+aa w 6 2*2 ^ 0:=by
  rw[q2,Rm.bG (aa w 12 3*4) (aa w 6 2) 2 (by omega) (by omega) (by omega) (by omega) (by omega) (by omega)]; omega
 refine⟨[],aE,(cO (0+aa w 4 2*2 ^ 0) (0+aa w 12 3*2 ^ 2+aa w 6 2*2 ^ 0)).use (And.intro ek (And.intro e trivial)) rfl rfl ?_⟩
 repeat (refine And.intro ?_ ?_; rotate_left; focus (
  repeat' (first
   | refine Exists.intro [] (And.intro aE ((az w 4 2 hw (by decide) (by decide)).use (And.intro rfl (And.intro rfl (And.intro rfl trivial))) rfl rfl ?_))
   | refine Exists.intro [] (And.intro aE ((az w 12 3 hw (by decide) (by decide)).use (And.intro rfl (And.intro rfl (And.intro rfl trivial))) rfl rfl ?_))
   | refine Exists.intro [] (And.intro aE ((az w 6 2 hw (by decide) (by decide)).use (And.intro rfl (And.intro rfl (And.intro rfl trivial))) rfl rfl ?_))
   | refine Exists.intro [] (And.intro aE ((cO (0+aa w 4 2*2 ^ 0) (0+aa w 12 3*2 ^ 2+aa w 6 2*2 ^ 0)).use (And.intro ek (And.intro e trivial)) rfl rfl ?_))
   | refine And.intro (show (0:Int)<=2 by decide) (Or.inl (And.intro (aA (by rw[q2]; omega)) ?_))
   | exact rfl
   | exact trivial
   | refine And.intro ?_ ?_)))
 refine (ak hs).u ?_
 refine (ak hs).u ?_
 refine al ?_
 (repeat' first|exact trivial|exact rfl|refine And.intro ?_ ?_)
 all_goals (show (_:Int)=_; (try dsimp only [bf,bq]); first|omega|(unfold cF; omega))
theorem w8 (f w:Int) (hF:1<=f/\f<=100) (hs:af f=21) (hw:cb w):ai gT 52 [.int .i64 f,.int .u32 w] (bJ (vu f w)):=by
 have b0:=ae w 12 3
 have b1:=ae w 6 2
 have b2:=ae w 4 2
 have b3:=ae w 20 1
 have b4:=ae w 16 4
 have b5:=ae w 8 4
 have b6:=ae w 0 4
 refine Spec.enter aw qB 100 Tryz.func52 rfl (by kernel_rfl) ?_
 refine (aN ⟨f,0,0,0,0,0,0,0,0,0,0⟩ w hw).u ?_
 refine (ak hs).u ?_
 refine (w7 f w hF hs hw).u ?_
 exact al (eW _)
theorem w9 (f w:Int) (hF:1<=f/\f<=100) (hs:af f=22) (hw:cb w):ai gT 100 [.int .i64 f,.int .u32 w] (bJ (vv f w)):=by
 have b0:=ae w 12 3
 have b1:=ae w 6 2
 have b2:=ae w 4 2
 have b3:=ae w 20 1
 have b4:=ae w 8 4
 have b5:=ae w 0 4
 unfold vv
 refine Spec.enter aw F4 100 Tryz.func100 rfl (by kernel_rfl) ?_
 refine (aN ⟨f,0,0,0,0,0,0,0,0,0,0⟩ w hw).u ?_
 refine (az w 4 2 hw (by decide) (by decide)).u ?_
 refine (az w 12 3 hw (by decide) (by decide)).u ?_
 refine⟨by decide,.inl ⟨aA (by rw[q2]; omega),?_⟩⟩
 refine (az w 6 2 hw (by decide) (by decide)).u ?_
 have ek:aa w 4 2=0+aa w 4 2*2 ^ 0:=by omega
 have e:bits .or .i64 (aa w 12 3*Ev.aC .i64 2) (aa w 6 2)=0+aa w 12 3*2 ^ 2+aa w 6 2*2 ^ 0:=by
  rw[q2,Rm.bG (aa w 12 3*4) (aa w 6 2) 2 (by omega) (by omega) (by omega) (by omega) (by omega) (by omega)]; omega
 refine⟨[],aE,(cO (0+aa w 4 2*2 ^ 0) (0+aa w 12 3*2 ^ 2+aa w 6 2*2 ^ 0)).use (And.intro ek (And.intro e trivial)) rfl rfl ?_⟩
 repeat (refine And.intro ?_ ?_; rotate_left; focus (
  repeat' (first
   | refine Exists.intro [] (And.intro aE ((az w 4 2 hw (by decide) (by decide)).use (And.intro rfl (And.intro rfl (And.intro rfl trivial))) rfl rfl ?_))
   | refine Exists.intro [] (And.intro aE ((az w 12 3 hw (by decide) (by decide)).use (And.intro rfl (And.intro rfl (And.intro rfl trivial))) rfl rfl ?_))
   | refine Exists.intro [] (And.intro aE ((az w 6 2 hw (by decide) (by decide)).use (And.intro rfl (And.intro rfl (And.intro rfl trivial))) rfl rfl ?_))
   | refine Exists.intro [] (And.intro aE ((cO (0+aa w 4 2*2 ^ 0) (0+aa w 12 3*2 ^ 2+aa w 6 2*2 ^ 0)).use (And.intro ek (And.intro e trivial)) rfl rfl ?_))
   | refine And.intro (show (0:Int)<=2 by decide) (Or.inl (And.intro (aA (by rw[q2]; omega)) ?_))
   | exact rfl
   | exact trivial
   | refine And.intro ?_ ?_)))
 refine (ak hs).u ?_
 refine (ak hs).u ?_
 refine al ?_
 (repeat' first|exact trivial|exact rfl|refine And.intro ?_ ?_)
 all_goals (show (_:Int)=_; (try dsimp only [bf,bq]); first|omega|(unfold cF; omega))
theorem w_ (f w:Int) (hF:1<=f/\f<=100) (hs:af f=22) (hw:cb w):ai gT 52 [.int .i64 f,.int .u32 w] (bJ (vv f w)):=by
 have b0:=ae w 12 3
 have b1:=ae w 6 2
 have b2:=ae w 4 2
 have b3:=ae w 20 1
 have b4:=ae w 8 4
 have b5:=ae w 0 4
 refine Spec.enter aw qB 100 Tryz.func52 rfl (by kernel_rfl) ?_
 refine (aN ⟨f,0,0,0,0,0,0,0,0,0,0⟩ w hw).u ?_
 refine (ak hs).u ?_
 refine (w9 f w hF hs hw).u ?_
 exact al (eW _)
theorem xa (f w:Int) (hF:1<=f/\f<=100) (hs:af f=23) (hw:cb w):ai gT 100 [.int .i64 f,.int .u32 w] (bJ (vw f w)):=by
 have b0:=ae w 12 3
 have b1:=ae w 6 2
 have b2:=ae w 4 2
 have b3:=ae w 16 4
 have b4:=ae w 0 4
 unfold vw
 refine Spec.enter aw F4 100 Tryz.func100 rfl (by kernel_rfl) ?_
 refine (aN ⟨f,0,0,0,0,0,0,0,0,0,0⟩ w hw).u ?_
 refine (az w 4 2 hw (by decide) (by decide)).u ?_
 refine (az w 12 3 hw (by decide) (by decide)).u ?_
 refine⟨by decide,.inl ⟨aA (by rw[q2]; omega),?_⟩⟩
 refine (az w 6 2 hw (by decide) (by decide)).u ?_
 have ek:aa w 4 2=0+aa w 4 2*2 ^ 0:=by omega
 have e:bits .or .i64 (aa w 12 3*Ev.aC .i64 2) (aa w 6 2)=0+aa w 12 3*2 ^ 2+aa w 6 2*2 ^ 0:=by
  rw[q2,Rm.bG (aa w 12 3*4) (aa w 6 2) 2 (by omega) (by omega) (by omega) (by omega) (by omega) (by omega)]; omega
 refine⟨[],aE,(cO (0+aa w 4 2*2 ^ 0) (0+aa w 12 3*2 ^ 2+aa w 6 2*2 ^ 0)).use (And.intro ek (And.intro e trivial)) rfl rfl ?_⟩
 repeat (refine And.intro ?_ ?_; rotate_left; focus (
  repeat' (first
   | refine Exists.intro [] (And.intro aE ((az w 4 2 hw (by decide) (by decide)).use (And.intro rfl (And.intro rfl (And.intro rfl trivial))) rfl rfl ?_))
   | refine Exists.intro [] (And.intro aE ((az w 12 3 hw (by decide) (by decide)).use (And.intro rfl (And.intro rfl (And.intro rfl trivial))) rfl rfl ?_))
   | refine Exists.intro [] (And.intro aE ((az w 6 2 hw (by decide) (by decide)).use (And.intro rfl (And.intro rfl (And.intro rfl trivial))) rfl rfl ?_))
   | refine Exists.intro [] (And.intro aE ((cO (0+aa w 4 2*2 ^ 0) (0+aa w 12 3*2 ^ 2+aa w 6 2*2 ^ 0)).use (And.intro ek (And.intro e trivial)) rfl rfl ?_))
   | refine And.intro (show (0:Int)<=2 by decide) (Or.inl (And.intro (aA (by rw[q2]; omega)) ?_))
   | exact rfl
   | exact trivial
   | refine And.intro ?_ ?_)))
 refine (ak hs).u ?_
 refine (ak hs).u ?_
 refine al ?_
 (repeat' first|exact trivial|exact rfl|refine And.intro ?_ ?_)
 all_goals (show (_:Int)=_; (try dsimp only [bf,bq]); first|omega|(unfold cF; omega))
theorem xb (f w:Int) (hF:1<=f/\f<=100) (hs:af f=23) (hw:cb w):ai gT 52 [.int .i64 f,.int .u32 w] (bJ (vw f w)):=by
 have b0:=ae w 12 3
 have b1:=ae w 6 2
 have b2:=ae w 4 2
 have b3:=ae w 16 4
 have b4:=ae w 0 4
 refine Spec.enter aw qB 100 Tryz.func52 rfl (by kernel_rfl) ?_
 refine (aN ⟨f,0,0,0,0,0,0,0,0,0,0⟩ w hw).u ?_
 refine (ak hs).u ?_
 refine (xa f w hF hs hw).u ?_
 exact al (eW _)
theorem qf (f w:Int) (hF:1<=f/\f<=100) (hs:af f=24) (hw:cb w):ai gT 99 [.int .i64 f,.int .u32 w] (bJ (vx f w)):=by
 have b0:=ae w 26 1
 have b1:=ae w 12 3
 have b2:=ae w 0 8
 have b3:=ae w 16 4
 have b4:=ae w 8 4
 unfold vx
 refine Spec.enter aw Pr 100 Tryz.func99 rfl (by kernel_rfl) ?_
 refine (aN ⟨f,0,0,0,0,0,0,0,0,0,0⟩ w hw).u ?_
 refine (ke w hw).u ?_
 refine (ak hs).u ?_
 refine al ?_
 (repeat' first|exact trivial|exact rfl|refine And.intro ?_ ?_)
 all_goals (show (_:Int)=_; (try dsimp only [bf,bq]); first|omega|(unfold cF; omega))
theorem xd (f w:Int) (hF:1<=f/\f<=100) (hs:af f=24) (hw:cb w):ai gT 52 [.int .i64 f,.int .u32 w] (bJ (vx f w)):=by
 have b0:=ae w 26 1
 have b1:=ae w 12 3
 have b2:=ae w 0 8
 have b3:=ae w 16 4
 have b4:=ae w 8 4
 refine Spec.enter aw qB 100 Tryz.func52 rfl (by kernel_rfl) ?_
 refine (aN ⟨f,0,0,0,0,0,0,0,0,0,0⟩ w hw).u ?_
 refine (ak hs).u ?_
 refine (qf f w hF hs hw).u ?_
 exact al (eW _)
theorem xe (f w:Int) (hF:1<=f/\f<=100) (hs:af f=25) (hw:cb w):ai gT 52 [.int .i64 f,.int .u32 w] (bJ (Ab f w)):=by
 have b0:=ae w 16 4
 have b1:=ae w 12 4
 have b2:=ae w 0 12
 unfold Ab
 refine Spec.enter aw qB 100 Tryz.func52 rfl (by kernel_rfl) ?_
 refine (aN ⟨f,0,0,0,0,0,0,0,0,0,0⟩ w hw).u ?_
 refine (ak hs).u ?_
 refine (az w 12 4 hw (by decide) (by decide)).u ?_
 refine (az w 0 12 hw (by decide) (by decide)).u ?_
 refine al ?_
 (repeat' first|exact trivial|exact rfl|refine And.intro ?_ ?_)
 all_goals (show (_:Int)=_; (try dsimp only [bf,bq]); first|omega|(unfold cF; omega))
theorem xf (f w:Int) (hF:1<=f/\f<=100) (hs:af f=26) (hw:cb w):ai gT 52 [.int .i64 f,.int .u32 w] (bJ (Ac f w)):=by
 have b0:=ae w 16 4
 have b1:=ae w 12 4
 have b2:=ae w 4 2
 have b3:=ae w 0 4
 unfold Ac
 refine Spec.enter aw qB 100 Tryz.func52 rfl (by kernel_rfl) ?_
 refine (aN ⟨f,0,0,0,0,0,0,0,0,0,0⟩ w hw).u ?_
 refine (ak hs).u ?_
 refine (az w 12 4 hw (by decide) (by decide)).u ?_
 refine (az w 4 2 hw (by decide) (by decide)).u ?_
 refine al ?_
 (repeat' first|exact trivial|exact rfl|refine And.intro ?_ ?_)
 all_goals (show (_:Int)=_; (try dsimp only [bf,bq]); first|omega|(unfold cF; omega))
theorem xg (f w:Int) (hF:1<=f/\f<=100) (hs:af f=27) (hw:cb w):ai gT 52 [.int .i64 f,.int .u32 w] (bJ (Ad f w)):=by
 have b0:=ae w 20 1
 have b1:=ae w 16 4
 have b2:=ae w 8 4
 have b3:=ae w 0 4
 unfold Ad
 refine Spec.enter aw qB 100 Tryz.func52 rfl (by kernel_rfl) ?_
 refine (aN ⟨f,0,0,0,0,0,0,0,0,0,0⟩ w hw).u ?_
 refine (ak hs).u ?_
 refine al ?_
 (repeat' first|exact trivial|exact rfl|refine And.intro ?_ ?_)
 all_goals (show (_:Int)=_; (try dsimp only [bf,bq]); first|omega|(unfold cF; omega))
theorem xh (f w:Int) (hF:1<=f/\f<=100) (hs:af f=28) (hw:cb w):ai gT 52 [.int .i64 f,.int .u32 w] (bJ (Ae f w)):=by
 have b0:=ae w 16 4
 have b1:=ae w 8 4
 have b2:=ae w 0 4
 unfold Ae
 refine Spec.enter aw qB 100 Tryz.func52 rfl (by kernel_rfl) ?_
 refine (aN ⟨f,0,0,0,0,0,0,0,0,0,0⟩ w hw).u ?_
 refine (ak hs).u ?_
 refine al ?_
 (repeat' first|exact trivial|exact rfl|refine And.intro ?_ ?_)
 all_goals (show (_:Int)=_; (try dsimp only [bf,bq]); first|omega|(unfold cF; omega))
theorem xi (f w:Int) (hF:1<=f/\f<=100) (hs:af f=29) (hw:cb w):ai gT 52 [.int .i64 f,.int .u32 w] (bJ (Af f w)):=by
 have b0:=ae w 16 4
 have b1:=ae w 12 4
 have b2:=ae w 8 4
 have b3:=ae w 0 4
 unfold Af
 refine Spec.enter aw qB 100 Tryz.func52 rfl (by kernel_rfl) ?_
 refine (aN ⟨f,0,0,0,0,0,0,0,0,0,0⟩ w hw).u ?_
 refine (ak hs).u ?_
 refine (az w 12 4 hw (by decide) (by decide)).u ?_
 refine al ?_
 (repeat' first|exact trivial|exact rfl|refine And.intro ?_ ?_)
 all_goals (show (_:Int)=_; (try dsimp only [bf,bq]); first|omega|(unfold cF; omega))
theorem xj (f w:Int) (hF:1<=f/\f<=100) (hs:af f=30) (hw:cb w):ai gT 52 [.int .i64 f,.int .u32 w] (bJ (Ag f w)):=by
 have b0:=ae w 16 4
 have b1:=ae w 12 4
 have b2:=ae w 8 4
 have b3:=ae w 0 4
 unfold Ag
 refine Spec.enter aw qB 100 Tryz.func52 rfl (by kernel_rfl) ?_
 refine (aN ⟨f,0,0,0,0,0,0,0,0,0,0⟩ w hw).u ?_
 refine (ak hs).u ?_
 refine (az w 12 4 hw (by decide) (by decide)).u ?_
 refine al ?_
 (repeat' first|exact trivial|exact rfl|refine And.intro ?_ ?_)
 all_goals (show (_:Int)=_; (try dsimp only [bf,bq]); first|omega|(unfold cF; omega))
theorem xk (f w:Int) (hF:1<=f/\f<=100) (hs:af f=31) (hw:cb w):ai gT 52 [.int .i64 f,.int .u32 w] (bJ (Ah f w)):=by
 have b0:=ae w 16 4
 have b1:=ae w 12 4
 have b2:=ae w 8 4
 have b3:=ae w 0 4
 unfold Ah
 refine Spec.enter aw qB 100 Tryz.func52 rfl (by kernel_rfl) ?_
 refine (aN ⟨f,0,0,0,0,0,0,0,0,0,0⟩ w hw).u ?_
 refine (ak hs).u ?_
 refine (az w 12 4 hw (by decide) (by decide)).u ?_
 refine al ?_
 (repeat' first|exact trivial|exact rfl|refine And.intro ?_ ?_)
 all_goals (show (_:Int)=_; (try dsimp only [bf,bq]); first|omega|(unfold cF; omega))
theorem xl (f w:Int) (hF:1<=f/\f<=100) (hs:af f=32) (hw:cb w):ai gT 52 [.int .i64 f,.int .u32 w] (bJ (Ai f w)):=by
 have b0:=ae w 16 4
 have b1:=ae w 8 4
 have b2:=ae w 0 4
 unfold Ai
 refine Spec.enter aw qB 100 Tryz.func52 rfl (by kernel_rfl) ?_
 refine (aN ⟨f,0,0,0,0,0,0,0,0,0,0⟩ w hw).u ?_
 refine (ak hs).u ?_
 refine al ?_
 (repeat' first|exact trivial|exact rfl|refine And.intro ?_ ?_)
 all_goals (show (_:Int)=_; (try dsimp only [bf,bq]); first|omega|(unfold cF; omega))
theorem xm (f w:Int) (hF:1<=f/\f<=100) (hs:af f=33) (hw:cb w):ai gT 52 [.int .i64 f,.int .u32 w] (bJ (Aj f w)):=by
 have b0:=ae w 26 1
 have b1:=ae w 22 4
 have b2:=ae w 16 6
 have b3:=ae w 13 1
 have b4:=ae w 11 1
 have b5:=ae w 0 11
 unfold Aj
 refine Spec.enter aw qB 100 Tryz.func52 rfl (by kernel_rfl) ?_
 refine (aN ⟨f,0,0,0,0,0,0,0,0,0,0⟩ w hw).u ?_
 refine (ak hs).u ?_
 refine (az w 22 4 hw (by decide) (by decide)).u ?_
 refine (sj w hw).u ?_
 refine al ?_
 (repeat' first|exact trivial|exact rfl|refine And.intro ?_ ?_)
 all_goals (show (_:Int)=_; (try dsimp only [bf,bq]); first|omega|(unfold cF; omega))
theorem xn (f w:Int) (hF:1<=f/\f<=100) (hs:af f=34) (hw:cb w):ai gT 52 [.int .i64 f,.int .u32 w] (bJ (Ak f w)):=by
 have b0:=ae w 26 1
 have b1:=ae w 16 10
 have b2:=ae w 13 1
 have b3:=ae w 11 1
 have b4:=ae w 0 11
 unfold Ak
 refine Spec.enter aw qB 100 Tryz.func52 rfl (by kernel_rfl) ?_
 refine (aN ⟨f,0,0,0,0,0,0,0,0,0,0⟩ w hw).u ?_
 refine (ak hs).u ?_
 refine (sk w hw).u ?_
 refine al ?_
 (repeat' first|exact trivial|exact rfl|refine And.intro ?_ ?_)
 all_goals (show (_:Int)=_; (try dsimp only [bf,bq]); first|omega|(unfold cF; omega))
def uB (i:IN):List Int:=[i.form,i.rd,i.rn,i.rm,i.ra,i.av,i.kind,i.ba,i.set,i.cond,i.aq]
def Py (i:IN):Prop:=∀ x∈uB i,gM x
theorem vB {l:List (IntKind × Int)} {aS:List Value} {w:World} {I:Nat->Prop} {β:au} (h:aU w I (l.map fun p=>.int p.1 p.2) β aS):aS=l.map fun p=>.int p.1 p.2:=by
 induction l generalizing aS with
 | nil=>cases aS with
  | nil=>rfl
  | cons v vs=>simp only[List.map,aU] at h
 | cons p l ih=>cases aS with
  | nil=>simp only[List.map,aU] at h
  | cons v vs =>
   simp only[List.map,aU,PV.Is] at h
   rw[List.map_cons,h.1,ih h.2]
end Go.Proofs.YtnbhdacpogplgaaGreatDoor.Pw

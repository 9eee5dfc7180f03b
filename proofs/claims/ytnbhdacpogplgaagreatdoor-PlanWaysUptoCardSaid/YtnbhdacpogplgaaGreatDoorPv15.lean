/- What this claim is proved with: no condition. -/
import Derived.Test.YtnbhdacpogplgaaGreatDoorPv14
import Derived.Test.YtnbhdacpogplgaaGreatDoorPv12
set_option maxRecDepth 100000
set_option maxHeartbeats 8000000
set_option linter.unusedVariables false
set_option linter.unusedSimpArgs false
namespace Go.Proofs.YtnbhdacpogplgaaGreatDoor.Pw
open Go Go.RowKit
theorem IL (f w:Int) (hF:1<=f/\f<=100) (hs:af f=17) (hw:dH w):aj gT 52 [.int .i64 f,.int .u32 w] (cZ (Ms f w)):=by
 have b0:=ae w 26 1
 have b1:=ae w 16 4
 have b2:=ae w 12 3
 have b3:=ae w 0 8
 have b4:=ae w 8 4
 unfold Ms
 refine Spec.enter ao A5 100 Tryz.func52 rfl (by kernel_rfl) ?_
 refine (bm ⟨f,0,0,0,0,0,0,0,0,0,0⟩ w hw).u ?_
 refine (av hs).u ?_
 refine (ME w hw).u ?_
 refine al ?_
 (repeat' first|exact trivial|exact rfl|refine And.intro ?_ ?_)
 all_goals (show (_:Int)=_; (try dsimp only [bL,cn]); first|omega|(unfold ft; omega))
theorem Ak (f w:Int) (hF:1<=f/\f<=100) (hs:af f=18) (hw:dH w):aj gT 99 [.int .i64 f,.int .u32 w] (cZ (Gz f w)):=by
 have b0:=ae w 26 1
 have b1:=ae w 12 3
 have b2:=ae w 0 8
 have b3:=ae w 20 1
 have b4:=ae w 16 4
 have b5:=ae w 8 4
 unfold Gz
 refine Spec.enter ao P99 100 Tryz.func99 rfl (by kernel_rfl) ?_
 refine (bm ⟨f,0,0,0,0,0,0,0,0,0,0⟩ w hw).u ?_
 refine (rr w hw).u ?_
 refine (av hs).u ?_
 refine al ?_
 (repeat' first|exact trivial|exact rfl|refine And.intro ?_ ?_)
 all_goals (show (_:Int)=_; (try dsimp only [bL,cn]); first|omega|(unfold ft; omega))
theorem IM (f w:Int) (hF:1<=f/\f<=100) (hs:af f=18) (hw:dH w):aj gT 52 [.int .i64 f,.int .u32 w] (cZ (Gz f w)):=by
 have b0:=ae w 26 1
 have b1:=ae w 12 3
 have b2:=ae w 0 8
 have b3:=ae w 20 1
 have b4:=ae w 16 4
 have b5:=ae w 8 4
 refine Spec.enter ao A5 100 Tryz.func52 rfl (by kernel_rfl) ?_
 refine (bm ⟨f,0,0,0,0,0,0,0,0,0,0⟩ w hw).u ?_
 refine (av hs).u ?_
 refine (Ak f w hF hs hw).u ?_
 exact al (kt _)
theorem Al (f w:Int) (hF:1<=f/\f<=100) (hs:af f=19) (hw:dH w):aj gT 99 [.int .i64 f,.int .u32 w] (cZ (GA f w)):=by
 have b0:=ae w 26 1
 have b1:=ae w 12 3
 have b2:=ae w 0 8
 have b3:=ae w 20 1
 have b4:=ae w 8 4
 unfold GA
 refine Spec.enter ao P99 100 Tryz.func99 rfl (by kernel_rfl) ?_
 refine (bm ⟨f,0,0,0,0,0,0,0,0,0,0⟩ w hw).u ?_
 refine (rr w hw).u ?_
 refine (av hs).u ?_
 refine al ?_
 (repeat' first|exact trivial|exact rfl|refine And.intro ?_ ?_)
 all_goals (show (_:Int)=_; (try dsimp only [bL,cn]); first|omega|(unfold ft; omega))
theorem IP (f w:Int) (hF:1<=f/\f<=100) (hs:af f=19) (hw:dH w):aj gT 52 [.int .i64 f,.int .u32 w] (cZ (GA f w)):=by
 have b0:=ae w 26 1
 have b1:=ae w 12 3
 have b2:=ae w 0 8
 have b3:=ae w 20 1
 have b4:=ae w 8 4
 refine Spec.enter ao A5 100 Tryz.func52 rfl (by kernel_rfl) ?_
 refine (bm ⟨f,0,0,0,0,0,0,0,0,0,0⟩ w hw).u ?_
 refine (av hs).u ?_
 refine (Al f w hF hs hw).u ?_
 exact al (kt _)
theorem Am (f w:Int) (hF:1<=f/\f<=100) (hs:af f=20) (hw:dH w):aj gT 99 [.int .i64 f,.int .u32 w] (cZ (GB f w)):=by
 have b0:=ae w 26 1
 have b1:=ae w 12 3
 have b2:=ae w 0 8
 have b3:=ae w 16 4
 unfold GB
 refine Spec.enter ao P99 100 Tryz.func99 rfl (by kernel_rfl) ?_
 refine (bm ⟨f,0,0,0,0,0,0,0,0,0,0⟩ w hw).u ?_
 refine (rr w hw).u ?_
 refine (av hs).u ?_
 refine al ?_
 (repeat' first|exact trivial|exact rfl|refine And.intro ?_ ?_)
 all_goals (show (_:Int)=_; (try dsimp only [bL,cn]); first|omega|(unfold ft; omega))
theorem IQ (f w:Int) (hF:1<=f/\f<=100) (hs:af f=20) (hw:dH w):aj gT 52 [.int .i64 f,.int .u32 w] (cZ (GB f w)):=by
 have b0:=ae w 26 1
 have b1:=ae w 12 3
 have b2:=ae w 0 8
 have b3:=ae w 16 4
 refine Spec.enter ao A5 100 Tryz.func52 rfl (by kernel_rfl) ?_
 refine (bm ⟨f,0,0,0,0,0,0,0,0,0,0⟩ w hw).u ?_
 refine (av hs).u ?_
 refine (Am f w hF hs hw).u ?_
 exact al (kt _)
theorem IS (f w:Int) (hF:1<=f/\f<=100) (hs:af f=21) (hw:dH w):aj gT 100 [.int .i64 f,.int .u32 w] (cZ (GC f w)):=by
 have b0:=ae w 12 3
 have b1:=ae w 6 2
 have b2:=ae w 4 2
 have b3:=ae w 20 1
 have b4:=ae w 16 4
 have b5:=ae w 8 4
 have b6:=ae w 0 4
 unfold GC
 refine Spec.enter ao Uj 100 Tryz.func100 rfl (by kernel_rfl) ?_
 refine (bm ⟨f,0,0,0,0,0,0,0,0,0,0⟩ w hw).u ?_
 refine (aI w 4 2 hw (by decide) (by decide)).u ?_
 refine (aI w 12 3 hw (by decide) (by decide)).u ?_
 refine⟨by decide,.inl ⟨aG (by rw[q2]; omega),?_⟩⟩
 refine (aI w 6 2 hw (by decide) (by decide)).u ?_
 have ek:aa w 4 2=0+aa w 4 2*2 ^ 0:=by omega
 have e:bits .or .i64 (aa w 12 3*Ev.aQ .i64 2) (aa w 6 2)=0+aa w 12 3*2 ^ 2+aa w 6 2*2 ^ 0:=by
  rw[q2,Rm.cY (aa w 12 3*4) (aa w 6 2) 2 (by omega) (by omega) (by omega) (by omega) (by omega) (by omega)]; omega
 refine⟨[],az,(fG (0+aa w 4 2*2 ^ 0) (0+aa w 12 3*2 ^ 2+aa w 6 2*2 ^ 0)).use (And.intro ek (And.intro e trivial)) rfl rfl ?_⟩
 repeat (refine And.intro ?_ ?_; rotate_left; focus (
  repeat' (first
   | refine Exists.intro [] (And.intro az ((aI w 4 2 hw (by decide) (by decide)).use (And.intro rfl (And.intro rfl (And.intro rfl trivial))) rfl rfl ?_))
   | refine Exists.intro [] (And.intro az ((aI w 12 3 hw (by decide) (by decide)).use (And.intro rfl (And.intro rfl (And.intro rfl trivial))) rfl rfl ?_))
   | refine Exists.intro [] (And.intro az ((aI w 6 2 hw (by decide) (by decide)).use (And.intro rfl (And.intro rfl (And.intro rfl trivial))) rfl rfl ?_))
   | refine Exists.intro [] (And.intro az ((fG (0+aa w 4 2*2 ^ 0) (0+aa w 12 3*2 ^ 2+aa w 6 2*2 ^ 0)).use (And.intro ek (And.intro e trivial)) rfl rfl ?_))
   | refine And.intro (show (0:Int)<=2 by decide) (Or.inl (And.intro (aG (by rw[q2]; omega)) ?_))
   | exact rfl
   | exact trivial
   | refine And.intro ?_ ?_)))
 refine (av hs).u ?_
 refine (av hs).u ?_
 refine al ?_
 (repeat' first|exact trivial|exact rfl|refine And.intro ?_ ?_)
 all_goals (show (_:Int)=_; (try dsimp only [bL,cn]); first|omega|(unfold ft; omega))
theorem IT (f w:Int) (hF:1<=f/\f<=100) (hs:af f=21) (hw:dH w):aj gT 52 [.int .i64 f,.int .u32 w] (cZ (GC f w)):=by
 have b0:=ae w 12 3
 have b1:=ae w 6 2
 have b2:=ae w 4 2
 have b3:=ae w 20 1
 have b4:=ae w 16 4
 have b5:=ae w 8 4
 have b6:=ae w 0 4
 refine Spec.enter ao A5 100 Tryz.func52 rfl (by kernel_rfl) ?_
 refine (bm ⟨f,0,0,0,0,0,0,0,0,0,0⟩ w hw).u ?_
 refine (av hs).u ?_
 refine (IS f w hF hs hw).u ?_
 exact al (kt _)
theorem IU (f w:Int) (hF:1<=f/\f<=100) (hs:af f=22) (hw:dH w):aj gT 100 [.int .i64 f,.int .u32 w] (cZ (GD f w)):=by
 have b0:=ae w 12 3
 have b1:=ae w 6 2
 have b2:=ae w 4 2
 have b3:=ae w 20 1
 have b4:=ae w 8 4
 have b5:=ae w 0 4
 unfold GD
 refine Spec.enter ao Uj 100 Tryz.func100 rfl (by kernel_rfl) ?_
 refine (bm ⟨f,0,0,0,0,0,0,0,0,0,0⟩ w hw).u ?_
 refine (aI w 4 2 hw (by decide) (by decide)).u ?_
 refine (aI w 12 3 hw (by decide) (by decide)).u ?_
 refine⟨by decide,.inl ⟨aG (by rw[q2]; omega),?_⟩⟩
 refine (aI w 6 2 hw (by decide) (by decide)).u ?_
 have ek:aa w 4 2=0+aa w 4 2*2 ^ 0:=by omega
 have e:bits .or .i64 (aa w 12 3*Ev.aQ .i64 2) (aa w 6 2)=0+aa w 12 3*2 ^ 2+aa w 6 2*2 ^ 0:=by
  rw[q2,Rm.cY (aa w 12 3*4) (aa w 6 2) 2 (by omega) (by omega) (by omega) (by omega) (by omega) (by omega)]; omega
 refine⟨[],az,(fG (0+aa w 4 2*2 ^ 0) (0+aa w 12 3*2 ^ 2+aa w 6 2*2 ^ 0)).use (And.intro ek (And.intro e trivial)) rfl rfl ?_⟩
 repeat (refine And.intro ?_ ?_; rotate_left; focus (
  repeat' (first
   | refine Exists.intro [] (And.intro az ((aI w 4 2 hw (by decide) (by decide)).use (And.intro rfl (And.intro rfl (And.intro rfl trivial))) rfl rfl ?_))
   | refine Exists.intro [] (And.intro az ((aI w 12 3 hw (by decide) (by decide)).use (And.intro rfl (And.intro rfl (And.intro rfl trivial))) rfl rfl ?_))
   | refine Exists.intro [] (And.intro az ((aI w 6 2 hw (by decide) (by decide)).use (And.intro rfl (And.intro rfl (And.intro rfl trivial))) rfl rfl ?_))
   | refine Exists.intro [] (And.intro az ((fG (0+aa w 4 2*2 ^ 0) (0+aa w 12 3*2 ^ 2+aa w 6 2*2 ^ 0)).use (And.intro ek (And.intro e trivial)) rfl rfl ?_))
   | refine And.intro (show (0:Int)<=2 by decide) (Or.inl (And.intro (aG (by rw[q2]; omega)) ?_))
   | exact rfl
   | exact trivial
   | refine And.intro ?_ ?_)))
 refine (av hs).u ?_
 refine (av hs).u ?_
 refine al ?_
 (repeat' first|exact trivial|exact rfl|refine And.intro ?_ ?_)
 all_goals (show (_:Int)=_; (try dsimp only [bL,cn]); first|omega|(unfold ft; omega))
theorem IV (f w:Int) (hF:1<=f/\f<=100) (hs:af f=22) (hw:dH w):aj gT 52 [.int .i64 f,.int .u32 w] (cZ (GD f w)):=by
 have b0:=ae w 12 3
 have b1:=ae w 6 2
 have b2:=ae w 4 2
 have b3:=ae w 20 1
 have b4:=ae w 8 4
 have b5:=ae w 0 4
 refine Spec.enter ao A5 100 Tryz.func52 rfl (by kernel_rfl) ?_
 refine (bm ⟨f,0,0,0,0,0,0,0,0,0,0⟩ w hw).u ?_
 refine (av hs).u ?_
 refine (IU f w hF hs hw).u ?_
 exact al (kt _)
theorem IW (f w:Int) (hF:1<=f/\f<=100) (hs:af f=23) (hw:dH w):aj gT 100 [.int .i64 f,.int .u32 w] (cZ (GF f w)):=by
 have b0:=ae w 12 3
 have b1:=ae w 6 2
 have b2:=ae w 4 2
 have b3:=ae w 16 4
 have b4:=ae w 0 4
 unfold GF
 refine Spec.enter ao Uj 100 Tryz.func100 rfl (by kernel_rfl) ?_
 refine (bm ⟨f,0,0,0,0,0,0,0,0,0,0⟩ w hw).u ?_
 refine (aI w 4 2 hw (by decide) (by decide)).u ?_
 refine (aI w 12 3 hw (by decide) (by decide)).u ?_
 refine⟨by decide,.inl ⟨aG (by rw[q2]; omega),?_⟩⟩
 refine (aI w 6 2 hw (by decide) (by decide)).u ?_
 have ek:aa w 4 2=0+aa w 4 2*2 ^ 0:=by omega
 have e:bits .or .i64 (aa w 12 3*Ev.aQ .i64 2) (aa w 6 2)=0+aa w 12 3*2 ^ 2+aa w 6 2*2 ^ 0:=by
  rw[q2,Rm.cY (aa w 12 3*4) (aa w 6 2) 2 (by omega) (by omega) (by omega) (by omega) (by omega) (by omega)]; omega
 refine⟨[],az,(fG (0+aa w 4 2*2 ^ 0) (0+aa w 12 3*2 ^ 2+aa w 6 2*2 ^ 0)).use (And.intro ek (And.intro e trivial)) rfl rfl ?_⟩
 repeat (refine And.intro ?_ ?_; rotate_left; focus (
  repeat' (first
   | refine Exists.intro [] (And.intro az ((aI w 4 2 hw (by decide) (by decide)).use (And.intro rfl (And.intro rfl (And.intro rfl trivial))) rfl rfl ?_))
   | refine Exists.intro [] (And.intro az ((aI w 12 3 hw (by decide) (by decide)).use (And.intro rfl (And.intro rfl (And.intro rfl trivial))) rfl rfl ?_))
   | refine Exists.intro [] (And.intro az ((aI w 6 2 hw (by decide) (by decide)).use (And.intro rfl (And.intro rfl (And.intro rfl trivial))) rfl rfl ?_))
   | refine Exists.intro [] (And.intro az ((fG (0+aa w 4 2*2 ^ 0) (0+aa w 12 3*2 ^ 2+aa w 6 2*2 ^ 0)).use (And.intro ek (And.intro e trivial)) rfl rfl ?_))
   | refine And.intro (show (0:Int)<=2 by decide) (Or.inl (And.intro (aG (by rw[q2]; omega)) ?_))
   | exact rfl
   | exact trivial
   | refine And.intro ?_ ?_)))
 refine (av hs).u ?_
 refine (av hs).u ?_
 refine al ?_
 (repeat' first|exact trivial|exact rfl|refine And.intro ?_ ?_)
 all_goals (show (_:Int)=_; (try dsimp only [bL,cn]); first|omega|(unfold ft; omega))
theorem IX (f w:Int) (hF:1<=f/\f<=100) (hs:af f=23) (hw:dH w):aj gT 52 [.int .i64 f,.int .u32 w] (cZ (GF f w)):=by
 have b0:=ae w 12 3
 have b1:=ae w 6 2
 have b2:=ae w 4 2
 have b3:=ae w 16 4
 have b4:=ae w 0 4
 refine Spec.enter ao A5 100 Tryz.func52 rfl (by kernel_rfl) ?_
 refine (bm ⟨f,0,0,0,0,0,0,0,0,0,0⟩ w hw).u ?_
 refine (av hs).u ?_
 refine (IW f w hF hs hw).u ?_
 exact al (kt _)
theorem An (f w:Int) (hF:1<=f/\f<=100) (hs:af f=24) (hw:dH w):aj gT 99 [.int .i64 f,.int .u32 w] (cZ (GG f w)):=by
 have b0:=ae w 26 1
 have b1:=ae w 12 3
 have b2:=ae w 0 8
 have b3:=ae w 16 4
 have b4:=ae w 8 4
 unfold GG
 refine Spec.enter ao P99 100 Tryz.func99 rfl (by kernel_rfl) ?_
 refine (bm ⟨f,0,0,0,0,0,0,0,0,0,0⟩ w hw).u ?_
 refine (rr w hw).u ?_
 refine (av hs).u ?_
 refine al ?_
 (repeat' first|exact trivial|exact rfl|refine And.intro ?_ ?_)
 all_goals (show (_:Int)=_; (try dsimp only [bL,cn]); first|omega|(unfold ft; omega))
theorem IY (f w:Int) (hF:1<=f/\f<=100) (hs:af f=24) (hw:dH w):aj gT 52 [.int .i64 f,.int .u32 w] (cZ (GG f w)):=by
 have b0:=ae w 26 1
 have b1:=ae w 12 3
 have b2:=ae w 0 8
 have b3:=ae w 16 4
 have b4:=ae w 8 4
 refine Spec.enter ao A5 100 Tryz.func52 rfl (by kernel_rfl) ?_
 refine (bm ⟨f,0,0,0,0,0,0,0,0,0,0⟩ w hw).u ?_
 refine (av hs).u ?_
 refine (An f w hF hs hw).u ?_
 exact al (kt _)
theorem IZ (f w:Int) (hF:1<=f/\f<=100) (hs:af f=25) (hw:dH w):aj gT 52 [.int .i64 f,.int .u32 w] (cZ (Mt f w)):=by
 have b0:=ae w 16 4
 have b1:=ae w 12 4
 have b2:=ae w 0 12
 unfold Mt
 refine Spec.enter ao A5 100 Tryz.func52 rfl (by kernel_rfl) ?_
 refine (bm ⟨f,0,0,0,0,0,0,0,0,0,0⟩ w hw).u ?_
 refine (av hs).u ?_
 refine (aI w 12 4 hw (by decide) (by decide)).u ?_
 refine (aI w 0 12 hw (by decide) (by decide)).u ?_
 refine al ?_
 (repeat' first|exact trivial|exact rfl|refine And.intro ?_ ?_)
 all_goals (show (_:Int)=_; (try dsimp only [bL,cn]); first|omega|(unfold ft; omega))
theorem I1 (f w:Int) (hF:1<=f/\f<=100) (hs:af f=26) (hw:dH w):aj gT 52 [.int .i64 f,.int .u32 w] (cZ (Mu f w)):=by
 have b0:=ae w 16 4
 have b1:=ae w 12 4
 have b2:=ae w 4 2
 have b3:=ae w 0 4
 unfold Mu
 refine Spec.enter ao A5 100 Tryz.func52 rfl (by kernel_rfl) ?_
 refine (bm ⟨f,0,0,0,0,0,0,0,0,0,0⟩ w hw).u ?_
 refine (av hs).u ?_
 refine (aI w 12 4 hw (by decide) (by decide)).u ?_
 refine (aI w 4 2 hw (by decide) (by decide)).u ?_
 refine al ?_
 (repeat' first|exact trivial|exact rfl|refine And.intro ?_ ?_)
 all_goals (show (_:Int)=_; (try dsimp only [bL,cn]); first|omega|(unfold ft; omega))
theorem I4 (f w:Int) (hF:1<=f/\f<=100) (hs:af f=27) (hw:dH w):aj gT 52 [.int .i64 f,.int .u32 w] (cZ (Mv f w)):=by
 have b0:=ae w 20 1
 have b1:=ae w 16 4
 have b2:=ae w 8 4
 have b3:=ae w 0 4
 unfold Mv
 refine Spec.enter ao A5 100 Tryz.func52 rfl (by kernel_rfl) ?_
 refine (bm ⟨f,0,0,0,0,0,0,0,0,0,0⟩ w hw).u ?_
 refine (av hs).u ?_
 refine al ?_
 (repeat' first|exact trivial|exact rfl|refine And.intro ?_ ?_)
 all_goals (show (_:Int)=_; (try dsimp only [bL,cn]); first|omega|(unfold ft; omega))
theorem I5 (f w:Int) (hF:1<=f/\f<=100) (hs:af f=28) (hw:dH w):aj gT 52 [.int .i64 f,.int .u32 w] (cZ (Mw f w)):=by
 have b0:=ae w 16 4
 have b1:=ae w 8 4
 have b2:=ae w 0 4
 unfold Mw
 refine Spec.enter ao A5 100 Tryz.func52 rfl (by kernel_rfl) ?_
 refine (bm ⟨f,0,0,0,0,0,0,0,0,0,0⟩ w hw).u ?_
 refine (av hs).u ?_
 refine al ?_
 (repeat' first|exact trivial|exact rfl|refine And.intro ?_ ?_)
 all_goals (show (_:Int)=_; (try dsimp only [bL,cn]); first|omega|(unfold ft; omega))
theorem I6 (f w:Int) (hF:1<=f/\f<=100) (hs:af f=29) (hw:dH w):aj gT 52 [.int .i64 f,.int .u32 w] (cZ (Mx f w)):=by
 have b0:=ae w 16 4
 have b1:=ae w 12 4
 have b2:=ae w 8 4
 have b3:=ae w 0 4
 unfold Mx
 refine Spec.enter ao A5 100 Tryz.func52 rfl (by kernel_rfl) ?_
 refine (bm ⟨f,0,0,0,0,0,0,0,0,0,0⟩ w hw).u ?_
 refine (av hs).u ?_
 refine (aI w 12 4 hw (by decide) (by decide)).u ?_
 refine al ?_
 (repeat' first|exact trivial|exact rfl|refine And.intro ?_ ?_)
 all_goals (show (_:Int)=_; (try dsimp only [bL,cn]); first|omega|(unfold ft; omega))
theorem I7 (f w:Int) (hF:1<=f/\f<=100) (hs:af f=30) (hw:dH w):aj gT 52 [.int .i64 f,.int .u32 w] (cZ (My f w)):=by
 have b0:=ae w 16 4
 have b1:=ae w 12 4
 have b2:=ae w 8 4
 have b3:=ae w 0 4
 unfold My
 refine Spec.enter ao A5 100 Tryz.func52 rfl (by kernel_rfl) ?_
 refine (bm ⟨f,0,0,0,0,0,0,0,0,0,0⟩ w hw).u ?_
 refine (av hs).u ?_
 refine (aI w 12 4 hw (by decide) (by decide)).u ?_
 refine al ?_
 (repeat' first|exact trivial|exact rfl|refine And.intro ?_ ?_)
 all_goals (show (_:Int)=_; (try dsimp only [bL,cn]); first|omega|(unfold ft; omega))
theorem I8 (f w:Int) (hF:1<=f/\f<=100) (hs:af f=31) (hw:dH w):aj gT 52 [.int .i64 f,.int .u32 w] (cZ (Mz f w)):=by
 have b0:=ae w 16 4
 have b1:=ae w 12 4
 have b2:=ae w 8 4
 have b3:=ae w 0 4
 unfold Mz
 refine Spec.enter ao A5 100 Tryz.func52 rfl (by kernel_rfl) ?_
 refine (bm ⟨f,0,0,0,0,0,0,0,0,0,0⟩ w hw).u ?_
 refine (av hs).u ?_
 refine (aI w 12 4 hw (by decide) (by decide)).u ?_
 refine al ?_
 (repeat' first|exact trivial|exact rfl|refine And.intro ?_ ?_)
 all_goals (show (_:Int)=_; (try dsimp only [bL,cn]); first|omega|(unfold ft; omega))
theorem I9 (f w:Int) (hF:1<=f/\f<=100) (hs:af f=32) (hw:dH w):aj gT 52 [.int .i64 f,.int .u32 w] (cZ (MA f w)):=by
 have b0:=ae w 16 4
 have b1:=ae w 8 4
 have b2:=ae w 0 4
 unfold MA
 refine Spec.enter ao A5 100 Tryz.func52 rfl (by kernel_rfl) ?_
 refine (bm ⟨f,0,0,0,0,0,0,0,0,0,0⟩ w hw).u ?_
 refine (av hs).u ?_
 refine al ?_
 (repeat' first|exact trivial|exact rfl|refine And.intro ?_ ?_)
 all_goals (show (_:Int)=_; (try dsimp only [bL,cn]); first|omega|(unfold ft; omega))
theorem I_ (f w:Int) (hF:1<=f/\f<=100) (hs:af f=33) (hw:dH w):aj gT 52 [.int .i64 f,.int .u32 w] (cZ (MB f w)):=by
 have b0:=ae w 26 1
 have b1:=ae w 22 4
 have b2:=ae w 16 6
 have b3:=ae w 13 1
 have b4:=ae w 11 1
 have b5:=ae w 0 11
 unfold MB
 refine Spec.enter ao A5 100 Tryz.func52 rfl (by kernel_rfl) ?_
 refine (bm ⟨f,0,0,0,0,0,0,0,0,0,0⟩ w hw).u ?_
 refine (av hs).u ?_
 refine (aI w 22 4 hw (by decide) (by decide)).u ?_
 refine (Cm w hw).u ?_
 refine al ?_
 (repeat' first|exact trivial|exact rfl|refine And.intro ?_ ?_)
 all_goals (show (_:Int)=_; (try dsimp only [bL,cn]); first|omega|(unfold ft; omega))
theorem Ja (f w:Int) (hF:1<=f/\f<=100) (hs:af f=34) (hw:dH w):aj gT 52 [.int .i64 f,.int .u32 w] (cZ (MC f w)):=by
 have b0:=ae w 26 1
 have b1:=ae w 16 10
 have b2:=ae w 13 1
 have b3:=ae w 11 1
 have b4:=ae w 0 11
 unfold MC
 refine Spec.enter ao A5 100 Tryz.func52 rfl (by kernel_rfl) ?_
 refine (bm ⟨f,0,0,0,0,0,0,0,0,0,0⟩ w hw).u ?_
 refine (av hs).u ?_
 refine (Cn w hw).u ?_
 refine al ?_
 (repeat' first|exact trivial|exact rfl|refine And.intro ?_ ?_)
 all_goals (show (_:Int)=_; (try dsimp only [bL,cn]); first|omega|(unfold ft; omega))
def Cy (i:IN):List Int:=[i.form,i.rd,i.rn,i.rm,i.ra,i.aC,i.kind,i.bD,i.set,i.cond,i.aA]
def IOk (i:IN):Prop:=∀ x∈Cy i,bX x
theorem GK {l:List (IntKind × Int)} {a_:List Value} {w:World} {I:Nat->Prop} {β:ax} (h:bp w I (l.map fun p=>.int p.1 p.2) β a_):a_=l.map fun p=>.int p.1 p.2:=by
 induction l generalizing a_ with
 | nil=>cases a_ with
  | nil=>rfl
  | cons v vs=>simp only[List.map,bp] at h
 | cons p l ih=>cases a_ with
  | nil=>simp only[List.map,bp] at h
  | cons v vs =>
   simp only[List.map,bp,PV.Is] at h
   rw[List.map_cons,h.1,ih h.2]
end Go.Proofs.YtnbhdacpogplgaaGreatDoor.Pw

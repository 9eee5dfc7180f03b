/- What this claim is proved with: no condition. -/
import Derived.Test.YtnbhdacpogplgaaGreatDoorPd19
import Derived.Test.YtnbhdacpogplgaaGreatDoorPd15
set_option maxRecDepth 100000
set_option maxHeartbeats 8000000
set_option linter.unusedVariables false
set_option linter.unusedSimpArgs false
namespace Go.Proofs.YtnbhdacpogplgaaGreatDoor.Pw
open Go Go.RowKit
theorem A6 (f w:Int) (hF:1<=f/\f<=100) (hs:af f=17) (hw:cA w):ai gT 52 [.int .i64 f,.int .u32 w] (bX (Er f w)):=by
 have b0:=ae w 26 1
 have b1:=ae w 16 4
 have b2:=ae w 12 3
 have b3:=ae w 0 8
 have b4:=ae w 8 4
 unfold Er
 refine Spec.enter al ux 100 Tryz.func52 rfl (by kernel_rfl) ?_
 refine (aU ⟨f,0,0,0,0,0,0,0,0,0,0⟩ w hw).u ?_
 refine (ao hs).u ?_
 refine (EE w hw).u ?_
 refine aj ?_
 (repeat' first|exact trivial|exact rfl|refine And.intro ?_ ?_)
 all_goals (show (_:Int)=_; (try dsimp only [bq,bF]); first|omega|(unfold dm; omega))
theorem tM (f w:Int) (hF:1<=f/\f<=100) (hs:af f=18) (hw:cA w):ai gT 99 [.int .i64 f,.int .u32 w] (bX (zw f w)):=by
 have b0:=ae w 26 1
 have b1:=ae w 12 3
 have b2:=ae w 0 8
 have b3:=ae w 20 1
 have b4:=ae w 16 4
 have b5:=ae w 8 4
 unfold zw
 refine Spec.enter al VB 100 Tryz.func99 rfl (by kernel_rfl) ?_
 refine (aU ⟨f,0,0,0,0,0,0,0,0,0,0⟩ w hw).u ?_
 refine (mu w hw).u ?_
 refine (ao hs).u ?_
 refine aj ?_
 (repeat' first|exact trivial|exact rfl|refine And.intro ?_ ?_)
 all_goals (show (_:Int)=_; (try dsimp only [bq,bF]); first|omega|(unfold dm; omega))
theorem A7 (f w:Int) (hF:1<=f/\f<=100) (hs:af f=18) (hw:cA w):ai gT 52 [.int .i64 f,.int .u32 w] (bX (zw f w)):=by
 have b0:=ae w 26 1
 have b1:=ae w 12 3
 have b2:=ae w 0 8
 have b3:=ae w 20 1
 have b4:=ae w 16 4
 have b5:=ae w 8 4
 refine Spec.enter al ux 100 Tryz.func52 rfl (by kernel_rfl) ?_
 refine (aU ⟨f,0,0,0,0,0,0,0,0,0,0⟩ w hw).u ?_
 refine (ao hs).u ?_
 refine (tM f w hF hs hw).u ?_
 exact aj (gz _)
theorem tN (f w:Int) (hF:1<=f/\f<=100) (hs:af f=19) (hw:cA w):ai gT 99 [.int .i64 f,.int .u32 w] (bX (zx f w)):=by
 have b0:=ae w 26 1
 have b1:=ae w 12 3
 have b2:=ae w 0 8
 have b3:=ae w 20 1
 have b4:=ae w 8 4
 unfold zx
 refine Spec.enter al VB 100 Tryz.func99 rfl (by kernel_rfl) ?_
 refine (aU ⟨f,0,0,0,0,0,0,0,0,0,0⟩ w hw).u ?_
 refine (mu w hw).u ?_
 refine (ao hs).u ?_
 refine aj ?_
 (repeat' first|exact trivial|exact rfl|refine And.intro ?_ ?_)
 all_goals (show (_:Int)=_; (try dsimp only [bq,bF]); first|omega|(unfold dm; omega))
theorem A8 (f w:Int) (hF:1<=f/\f<=100) (hs:af f=19) (hw:cA w):ai gT 52 [.int .i64 f,.int .u32 w] (bX (zx f w)):=by
 have b0:=ae w 26 1
 have b1:=ae w 12 3
 have b2:=ae w 0 8
 have b3:=ae w 20 1
 have b4:=ae w 8 4
 refine Spec.enter al ux 100 Tryz.func52 rfl (by kernel_rfl) ?_
 refine (aU ⟨f,0,0,0,0,0,0,0,0,0,0⟩ w hw).u ?_
 refine (ao hs).u ?_
 refine (tN f w hF hs hw).u ?_
 exact aj (gz _)
theorem tO (f w:Int) (hF:1<=f/\f<=100) (hs:af f=20) (hw:cA w):ai gT 99 [.int .i64 f,.int .u32 w] (bX (zy f w)):=by
 have b0:=ae w 26 1
 have b1:=ae w 12 3
 have b2:=ae w 0 8
 have b3:=ae w 16 4
 unfold zy
 refine Spec.enter al VB 100 Tryz.func99 rfl (by kernel_rfl) ?_
 refine (aU ⟨f,0,0,0,0,0,0,0,0,0,0⟩ w hw).u ?_
 refine (mu w hw).u ?_
 refine (ao hs).u ?_
 refine aj ?_
 (repeat' first|exact trivial|exact rfl|refine And.intro ?_ ?_)
 all_goals (show (_:Int)=_; (try dsimp only [bq,bF]); first|omega|(unfold dm; omega))
theorem A9 (f w:Int) (hF:1<=f/\f<=100) (hs:af f=20) (hw:cA w):ai gT 52 [.int .i64 f,.int .u32 w] (bX (zy f w)):=by
 have b0:=ae w 26 1
 have b1:=ae w 12 3
 have b2:=ae w 0 8
 have b3:=ae w 16 4
 refine Spec.enter al ux 100 Tryz.func52 rfl (by kernel_rfl) ?_
 refine (aU ⟨f,0,0,0,0,0,0,0,0,0,0⟩ w hw).u ?_
 refine (ao hs).u ?_
 refine (tO f w hF hs hw).u ?_
 exact aj (gz _)
theorem A' (f w:Int) (hF:1<=f/\f<=100) (hs:af f=21) (hw:cA w):ai gT 100 [.int .i64 f,.int .u32 w] (bX (zz f w)):=by
 have b0:=ae w 12 3
 have b1:=ae w 6 2
 have b2:=ae w 4 2
 have b3:=ae w 20 1
 have b4:=ae w 16 4
 have b5:=ae w 8 4
 have b6:=ae w 0 4
 unfold zz
 refine Spec.enter al Li 100 Tryz.func100 rfl (by kernel_rfl) ?_
 refine (aU ⟨f,0,0,0,0,0,0,0,0,0,0⟩ w hw).u ?_
 refine (aB w 4 2 hw (by decide) (by decide)).u ?_
 refine (aB w 12 3 hw (by decide) (by decide)).u ?_
 refine⟨by decide,.inl ⟨ay (by rw[q2]; omega),?_⟩⟩
 refine (aB w 6 2 hw (by decide) (by decide)).u ?_
 have ek:aa w 4 2=0+aa w 4 2*2 ^ 0:=by omega
 have e:bits .or .i64 (aa w 12 3*Ev.aG .i64 2) (aa w 6 2)=0+aa w 12 3*2 ^ 2+aa w 6 2*2 ^ 0:=by
  rw[q2,Rm.bW (aa w 12 3*4) (aa w 6 2) 2 (by omega) (by omega) (by omega) (by omega) (by omega) (by omega)]; omega
 refine⟨[],av,(dz (0+aa w 4 2*2 ^ 0) (0+aa w 12 3*2 ^ 2+aa w 6 2*2 ^ 0)).use (And.intro ek (And.intro e trivial)) rfl rfl ?_⟩
 repeat (refine And.intro ?_ ?_; rotate_left; focus (
  repeat' (first
   | refine Exists.intro [] (And.intro av ((aB w 4 2 hw (by decide) (by decide)).use (And.intro rfl (And.intro rfl (And.intro rfl trivial))) rfl rfl ?_))
   | refine Exists.intro [] (And.intro av ((aB w 12 3 hw (by decide) (by decide)).use (And.intro rfl (And.intro rfl (And.intro rfl trivial))) rfl rfl ?_))
   | refine Exists.intro [] (And.intro av ((aB w 6 2 hw (by decide) (by decide)).use (And.intro rfl (And.intro rfl (And.intro rfl trivial))) rfl rfl ?_))
   | refine Exists.intro [] (And.intro av ((dz (0+aa w 4 2*2 ^ 0) (0+aa w 12 3*2 ^ 2+aa w 6 2*2 ^ 0)).use (And.intro ek (And.intro e trivial)) rfl rfl ?_))
   | refine And.intro (show (0:Int)<=2 by decide) (Or.inl (And.intro (ay (by rw[q2]; omega)) ?_))
   | exact rfl
   | exact trivial
   | refine And.intro ?_ ?_)))
 refine (ao hs).u ?_
 refine (ao hs).u ?_
 refine aj ?_
 (repeat' first|exact trivial|exact rfl|refine And.intro ?_ ?_)
 all_goals (show (_:Int)=_; (try dsimp only [bq,bF]); first|omega|(unfold dm; omega))
theorem A_ (f w:Int) (hF:1<=f/\f<=100) (hs:af f=21) (hw:cA w):ai gT 52 [.int .i64 f,.int .u32 w] (bX (zz f w)):=by
 have b0:=ae w 12 3
 have b1:=ae w 6 2
 have b2:=ae w 4 2
 have b3:=ae w 20 1
 have b4:=ae w 16 4
 have b5:=ae w 8 4
 have b6:=ae w 0 4
 refine Spec.enter al ux 100 Tryz.func52 rfl (by kernel_rfl) ?_
 refine (aU ⟨f,0,0,0,0,0,0,0,0,0,0⟩ w hw).u ?_
 refine (ao hs).u ?_
 refine (A' f w hF hs hw).u ?_
 exact aj (gz _)
theorem Ba (f w:Int) (hF:1<=f/\f<=100) (hs:af f=22) (hw:cA w):ai gT 100 [.int .i64 f,.int .u32 w] (bX (zA f w)):=by
 have b0:=ae w 12 3
 have b1:=ae w 6 2
 have b2:=ae w 4 2
 have b3:=ae w 20 1
 have b4:=ae w 8 4
 have b5:=ae w 0 4
 unfold zA
 refine Spec.enter al Li 100 Tryz.func100 rfl (by kernel_rfl) ?_
 refine (aU ⟨f,0,0,0,0,0,0,0,0,0,0⟩ w hw).u ?_
 refine (aB w 4 2 hw (by decide) (by decide)).u ?_
 refine (aB w 12 3 hw (by decide) (by decide)).u ?_
 refine⟨by decide,.inl ⟨ay (by rw[q2]; omega),?_⟩⟩
 refine (aB w 6 2 hw (by decide) (by decide)).u ?_
 have ek:aa w 4 2=0+aa w 4 2*2 ^ 0:=by omega
 have e:bits .or .i64 (aa w 12 3*Ev.aG .i64 2) (aa w 6 2)=0+aa w 12 3*2 ^ 2+aa w 6 2*2 ^ 0:=by
  rw[q2,Rm.bW (aa w 12 3*4) (aa w 6 2) 2 (by omega) (by omega) (by omega) (by omega) (by omega) (by omega)]; omega
 refine⟨[],av,(dz (0+aa w 4 2*2 ^ 0) (0+aa w 12 3*2 ^ 2+aa w 6 2*2 ^ 0)).use (And.intro ek (And.intro e trivial)) rfl rfl ?_⟩
 repeat (refine And.intro ?_ ?_; rotate_left; focus (
  repeat' (first
   | refine Exists.intro [] (And.intro av ((aB w 4 2 hw (by decide) (by decide)).use (And.intro rfl (And.intro rfl (And.intro rfl trivial))) rfl rfl ?_))
   | refine Exists.intro [] (And.intro av ((aB w 12 3 hw (by decide) (by decide)).use (And.intro rfl (And.intro rfl (And.intro rfl trivial))) rfl rfl ?_))
   | refine Exists.intro [] (And.intro av ((aB w 6 2 hw (by decide) (by decide)).use (And.intro rfl (And.intro rfl (And.intro rfl trivial))) rfl rfl ?_))
   | refine Exists.intro [] (And.intro av ((dz (0+aa w 4 2*2 ^ 0) (0+aa w 12 3*2 ^ 2+aa w 6 2*2 ^ 0)).use (And.intro ek (And.intro e trivial)) rfl rfl ?_))
   | refine And.intro (show (0:Int)<=2 by decide) (Or.inl (And.intro (ay (by rw[q2]; omega)) ?_))
   | exact rfl
   | exact trivial
   | refine And.intro ?_ ?_)))
 refine (ao hs).u ?_
 refine (ao hs).u ?_
 refine aj ?_
 (repeat' first|exact trivial|exact rfl|refine And.intro ?_ ?_)
 all_goals (show (_:Int)=_; (try dsimp only [bq,bF]); first|omega|(unfold dm; omega))
theorem Bb (f w:Int) (hF:1<=f/\f<=100) (hs:af f=22) (hw:cA w):ai gT 52 [.int .i64 f,.int .u32 w] (bX (zA f w)):=by
 have b0:=ae w 12 3
 have b1:=ae w 6 2
 have b2:=ae w 4 2
 have b3:=ae w 20 1
 have b4:=ae w 8 4
 have b5:=ae w 0 4
 refine Spec.enter al ux 100 Tryz.func52 rfl (by kernel_rfl) ?_
 refine (aU ⟨f,0,0,0,0,0,0,0,0,0,0⟩ w hw).u ?_
 refine (ao hs).u ?_
 refine (Ba f w hF hs hw).u ?_
 exact aj (gz _)
theorem Bc (f w:Int) (hF:1<=f/\f<=100) (hs:af f=23) (hw:cA w):ai gT 100 [.int .i64 f,.int .u32 w] (bX (zB f w)):=by
 have b0:=ae w 12 3
 have b1:=ae w 6 2
 have b2:=ae w 4 2
 have b3:=ae w 16 4
 have b4:=ae w 0 4
 unfold zB
 refine Spec.enter al Li 100 Tryz.func100 rfl (by kernel_rfl) ?_
 refine (aU ⟨f,0,0,0,0,0,0,0,0,0,0⟩ w hw).u ?_
 refine (aB w 4 2 hw (by decide) (by decide)).u ?_
 refine (aB w 12 3 hw (by decide) (by decide)).u ?_
 refine⟨by decide,.inl ⟨ay (by rw[q2]; omega),?_⟩⟩
 refine (aB w 6 2 hw (by decide) (by decide)).u ?_
 have ek:aa w 4 2=0+aa w 4 2*2 ^ 0:=by omega
 have e:bits .or .i64 (aa w 12 3*Ev.aG .i64 2) (aa w 6 2)=0+aa w 12 3*2 ^ 2+aa w 6 2*2 ^ 0:=by
  rw[q2,Rm.bW (aa w 12 3*4) (aa w 6 2) 2 (by omega) (by omega) (by omega) (by omega) (by omega) (by omega)]; omega
 refine⟨[],av,(dz (0+aa w 4 2*2 ^ 0) (0+aa w 12 3*2 ^ 2+aa w 6 2*2 ^ 0)).use (And.intro ek (And.intro e trivial)) rfl rfl ?_⟩
 repeat (refine And.intro ?_ ?_; rotate_left; focus (
  repeat' (first
   | refine Exists.intro [] (And.intro av ((aB w 4 2 hw (by decide) (by decide)).use (And.intro rfl (And.intro rfl (And.intro rfl trivial))) rfl rfl ?_))
   | refine Exists.intro [] (And.intro av ((aB w 12 3 hw (by decide) (by decide)).use (And.intro rfl (And.intro rfl (And.intro rfl trivial))) rfl rfl ?_))
   | refine Exists.intro [] (And.intro av ((aB w 6 2 hw (by decide) (by decide)).use (And.intro rfl (And.intro rfl (And.intro rfl trivial))) rfl rfl ?_))
   | refine Exists.intro [] (And.intro av ((dz (0+aa w 4 2*2 ^ 0) (0+aa w 12 3*2 ^ 2+aa w 6 2*2 ^ 0)).use (And.intro ek (And.intro e trivial)) rfl rfl ?_))
   | refine And.intro (show (0:Int)<=2 by decide) (Or.inl (And.intro (ay (by rw[q2]; omega)) ?_))
   | exact rfl
   | exact trivial
   | refine And.intro ?_ ?_)))
 refine (ao hs).u ?_
 refine (ao hs).u ?_
 refine aj ?_
 (repeat' first|exact trivial|exact rfl|refine And.intro ?_ ?_)
 all_goals (show (_:Int)=_; (try dsimp only [bq,bF]); first|omega|(unfold dm; omega))
theorem Bd (f w:Int) (hF:1<=f/\f<=100) (hs:af f=23) (hw:cA w):ai gT 52 [.int .i64 f,.int .u32 w] (bX (zB f w)):=by
 have b0:=ae w 12 3
 have b1:=ae w 6 2
 have b2:=ae w 4 2
 have b3:=ae w 16 4
 have b4:=ae w 0 4
 refine Spec.enter al ux 100 Tryz.func52 rfl (by kernel_rfl) ?_
 refine (aU ⟨f,0,0,0,0,0,0,0,0,0,0⟩ w hw).u ?_
 refine (ao hs).u ?_
 refine (Bc f w hF hs hw).u ?_
 exact aj (gz _)
theorem tP (f w:Int) (hF:1<=f/\f<=100) (hs:af f=24) (hw:cA w):ai gT 99 [.int .i64 f,.int .u32 w] (bX (zD f w)):=by
 have b0:=ae w 26 1
 have b1:=ae w 12 3
 have b2:=ae w 0 8
 have b3:=ae w 16 4
 have b4:=ae w 8 4
 unfold zD
 refine Spec.enter al VB 100 Tryz.func99 rfl (by kernel_rfl) ?_
 refine (aU ⟨f,0,0,0,0,0,0,0,0,0,0⟩ w hw).u ?_
 refine (mu w hw).u ?_
 refine (ao hs).u ?_
 refine aj ?_
 (repeat' first|exact trivial|exact rfl|refine And.intro ?_ ?_)
 all_goals (show (_:Int)=_; (try dsimp only [bq,bF]); first|omega|(unfold dm; omega))
theorem Be (f w:Int) (hF:1<=f/\f<=100) (hs:af f=24) (hw:cA w):ai gT 52 [.int .i64 f,.int .u32 w] (bX (zD f w)):=by
 have b0:=ae w 26 1
 have b1:=ae w 12 3
 have b2:=ae w 0 8
 have b3:=ae w 16 4
 have b4:=ae w 8 4
 refine Spec.enter al ux 100 Tryz.func52 rfl (by kernel_rfl) ?_
 refine (aU ⟨f,0,0,0,0,0,0,0,0,0,0⟩ w hw).u ?_
 refine (ao hs).u ?_
 refine (tP f w hF hs hw).u ?_
 exact aj (gz _)
theorem Bf (f w:Int) (hF:1<=f/\f<=100) (hs:af f=25) (hw:cA w):ai gT 52 [.int .i64 f,.int .u32 w] (bX (Es f w)):=by
 have b0:=ae w 16 4
 have b1:=ae w 12 4
 have b2:=ae w 0 12
 unfold Es
 refine Spec.enter al ux 100 Tryz.func52 rfl (by kernel_rfl) ?_
 refine (aU ⟨f,0,0,0,0,0,0,0,0,0,0⟩ w hw).u ?_
 refine (ao hs).u ?_
 refine (aB w 12 4 hw (by decide) (by decide)).u ?_
 refine (aB w 0 12 hw (by decide) (by decide)).u ?_
 refine aj ?_
 (repeat' first|exact trivial|exact rfl|refine And.intro ?_ ?_)
 all_goals (show (_:Int)=_; (try dsimp only [bq,bF]); first|omega|(unfold dm; omega))
theorem Bg (f w:Int) (hF:1<=f/\f<=100) (hs:af f=26) (hw:cA w):ai gT 52 [.int .i64 f,.int .u32 w] (bX (Et f w)):=by
 have b0:=ae w 16 4
 have b1:=ae w 12 4
 have b2:=ae w 4 2
 have b3:=ae w 0 4
 unfold Et
 refine Spec.enter al ux 100 Tryz.func52 rfl (by kernel_rfl) ?_
 refine (aU ⟨f,0,0,0,0,0,0,0,0,0,0⟩ w hw).u ?_
 refine (ao hs).u ?_
 refine (aB w 12 4 hw (by decide) (by decide)).u ?_
 refine (aB w 4 2 hw (by decide) (by decide)).u ?_
 refine aj ?_
 (repeat' first|exact trivial|exact rfl|refine And.intro ?_ ?_)
 all_goals (show (_:Int)=_; (try dsimp only [bq,bF]); first|omega|(unfold dm; omega))
theorem Bh (f w:Int) (hF:1<=f/\f<=100) (hs:af f=27) (hw:cA w):ai gT 52 [.int .i64 f,.int .u32 w] (bX (Eu f w)):=by
 have b0:=ae w 20 1
 have b1:=ae w 16 4
 have b2:=ae w 8 4
 have b3:=ae w 0 4
 unfold Eu
 refine Spec.enter al ux 100 Tryz.func52 rfl (by kernel_rfl) ?_
 refine (aU ⟨f,0,0,0,0,0,0,0,0,0,0⟩ w hw).u ?_
 refine (ao hs).u ?_
 refine aj ?_
 (repeat' first|exact trivial|exact rfl|refine And.intro ?_ ?_)
 all_goals (show (_:Int)=_; (try dsimp only [bq,bF]); first|omega|(unfold dm; omega))
theorem Bi (f w:Int) (hF:1<=f/\f<=100) (hs:af f=28) (hw:cA w):ai gT 52 [.int .i64 f,.int .u32 w] (bX (Ew f w)):=by
 have b0:=ae w 16 4
 have b1:=ae w 8 4
 have b2:=ae w 0 4
 unfold Ew
 refine Spec.enter al ux 100 Tryz.func52 rfl (by kernel_rfl) ?_
 refine (aU ⟨f,0,0,0,0,0,0,0,0,0,0⟩ w hw).u ?_
 refine (ao hs).u ?_
 refine aj ?_
 (repeat' first|exact trivial|exact rfl|refine And.intro ?_ ?_)
 all_goals (show (_:Int)=_; (try dsimp only [bq,bF]); first|omega|(unfold dm; omega))
theorem Bj (f w:Int) (hF:1<=f/\f<=100) (hs:af f=29) (hw:cA w):ai gT 52 [.int .i64 f,.int .u32 w] (bX (Ex f w)):=by
 have b0:=ae w 16 4
 have b1:=ae w 12 4
 have b2:=ae w 8 4
 have b3:=ae w 0 4
 unfold Ex
 refine Spec.enter al ux 100 Tryz.func52 rfl (by kernel_rfl) ?_
 refine (aU ⟨f,0,0,0,0,0,0,0,0,0,0⟩ w hw).u ?_
 refine (ao hs).u ?_
 refine (aB w 12 4 hw (by decide) (by decide)).u ?_
 refine aj ?_
 (repeat' first|exact trivial|exact rfl|refine And.intro ?_ ?_)
 all_goals (show (_:Int)=_; (try dsimp only [bq,bF]); first|omega|(unfold dm; omega))
theorem Bk (f w:Int) (hF:1<=f/\f<=100) (hs:af f=30) (hw:cA w):ai gT 52 [.int .i64 f,.int .u32 w] (bX (Ey f w)):=by
 have b0:=ae w 16 4
 have b1:=ae w 12 4
 have b2:=ae w 8 4
 have b3:=ae w 0 4
 unfold Ey
 refine Spec.enter al ux 100 Tryz.func52 rfl (by kernel_rfl) ?_
 refine (aU ⟨f,0,0,0,0,0,0,0,0,0,0⟩ w hw).u ?_
 refine (ao hs).u ?_
 refine (aB w 12 4 hw (by decide) (by decide)).u ?_
 refine aj ?_
 (repeat' first|exact trivial|exact rfl|refine And.intro ?_ ?_)
 all_goals (show (_:Int)=_; (try dsimp only [bq,bF]); first|omega|(unfold dm; omega))
theorem Bl (f w:Int) (hF:1<=f/\f<=100) (hs:af f=31) (hw:cA w):ai gT 52 [.int .i64 f,.int .u32 w] (bX (Ez f w)):=by
 have b0:=ae w 16 4
 have b1:=ae w 12 4
 have b2:=ae w 8 4
 have b3:=ae w 0 4
 unfold Ez
 refine Spec.enter al ux 100 Tryz.func52 rfl (by kernel_rfl) ?_
 refine (aU ⟨f,0,0,0,0,0,0,0,0,0,0⟩ w hw).u ?_
 refine (ao hs).u ?_
 refine (aB w 12 4 hw (by decide) (by decide)).u ?_
 refine aj ?_
 (repeat' first|exact trivial|exact rfl|refine And.intro ?_ ?_)
 all_goals (show (_:Int)=_; (try dsimp only [bq,bF]); first|omega|(unfold dm; omega))
theorem Bm (f w:Int) (hF:1<=f/\f<=100) (hs:af f=32) (hw:cA w):ai gT 52 [.int .i64 f,.int .u32 w] (bX (EA f w)):=by
 have b0:=ae w 16 4
 have b1:=ae w 8 4
 have b2:=ae w 0 4
 unfold EA
 refine Spec.enter al ux 100 Tryz.func52 rfl (by kernel_rfl) ?_
 refine (aU ⟨f,0,0,0,0,0,0,0,0,0,0⟩ w hw).u ?_
 refine (ao hs).u ?_
 refine aj ?_
 (repeat' first|exact trivial|exact rfl|refine And.intro ?_ ?_)
 all_goals (show (_:Int)=_; (try dsimp only [bq,bF]); first|omega|(unfold dm; omega))
theorem Bn (f w:Int) (hF:1<=f/\f<=100) (hs:af f=33) (hw:cA w):ai gT 52 [.int .i64 f,.int .u32 w] (bX (EB f w)):=by
 have b0:=ae w 26 1
 have b1:=ae w 22 4
 have b2:=ae w 16 6
 have b3:=ae w 13 1
 have b4:=ae w 11 1
 have b5:=ae w 0 11
 unfold EB
 refine Spec.enter al ux 100 Tryz.func52 rfl (by kernel_rfl) ?_
 refine (aU ⟨f,0,0,0,0,0,0,0,0,0,0⟩ w hw).u ?_
 refine (ao hs).u ?_
 refine (aB w 22 4 hw (by decide) (by decide)).u ?_
 refine (vL w hw).u ?_
 refine aj ?_
 (repeat' first|exact trivial|exact rfl|refine And.intro ?_ ?_)
 all_goals (show (_:Int)=_; (try dsimp only [bq,bF]); first|omega|(unfold dm; omega))
theorem Bo (f w:Int) (hF:1<=f/\f<=100) (hs:af f=34) (hw:cA w):ai gT 52 [.int .i64 f,.int .u32 w] (bX (EC f w)):=by
 have b0:=ae w 26 1
 have b1:=ae w 16 10
 have b2:=ae w 13 1
 have b3:=ae w 11 1
 have b4:=ae w 0 11
 unfold EC
 refine Spec.enter al ux 100 Tryz.func52 rfl (by kernel_rfl) ?_
 refine (aU ⟨f,0,0,0,0,0,0,0,0,0,0⟩ w hw).u ?_
 refine (ao hs).u ?_
 refine (vM w hw).u ?_
 refine aj ?_
 (repeat' first|exact trivial|exact rfl|refine And.intro ?_ ?_)
 all_goals (show (_:Int)=_; (try dsimp only [bq,bF]); first|omega|(unfold dm; omega))
def yo (i:IN):List Int:=[i.form,i.rd,i.rn,i.rm,i.ra,i.aw,i.kind,i.bm,i.set,i.cond,i.an]
def Kc (i:IN):Prop:=∀ x∈yo i,ck x
theorem zH {l:List (IntKind × Int)} {aZ:List Value} {w:World} {I:Nat->Prop} {β:ax} (h:a_ w I (l.map fun p=>.int p.1 p.2) β aZ):aZ=l.map fun p=>.int p.1 p.2:=by
 induction l generalizing aZ with
 | nil=>cases aZ with
  | nil=>rfl
  | cons v vs=>simp only[List.map,a_] at h
 | cons p l ih=>cases aZ with
  | nil=>simp only[List.map,a_] at h
  | cons v vs =>
   simp only[List.map,a_,PV.Is] at h
   rw[List.map_cons,h.1,ih h.2]
end Go.Proofs.YtnbhdacpogplgaaGreatDoor.Pw

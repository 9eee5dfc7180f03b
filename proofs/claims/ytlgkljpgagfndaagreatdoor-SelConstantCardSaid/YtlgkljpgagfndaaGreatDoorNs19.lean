/- What this claim is proved with: no condition. -/
import Derived.Test.YtlgkljpgagfndaaGreatDoorNs18
import Derived.Test.YtlgkljpgagfndaaGreatDoorNs14
set_option maxRecDepth 100000
set_option maxHeartbeats 8000000
set_option linter.unusedVariables false
set_option linter.unusedSimpArgs false
namespace Go.Proofs.YtlgkljpgagfndaaGreatDoor.Pw
open Go Go.RowKit
theorem zn (f w:Int) (hF:1<=f/\f<=100) (hs:aa f=17) (hw:bO w):ai gT 104 [.int .i64 f,.int .u32 w] (cG (CX f w)):=by
 have b0:=ae w 26 1
 have b1:=ae w 16 4
 have b2:=ae w 12 3
 have b3:=ae w 0 8
 have b4:=ae w 8 4
 unfold CX
 refine Spec.enter an je 100 Tryz.func104 rfl (by kernel_rfl) ?_
 refine (bo ⟨f,0,0,0,0,0,0,0,0,0,0⟩ w hw).u ?_
 refine (ar hs).u ?_
 refine (C9 w hw).u ?_
 refine aD ?_
 (repeat' first|exact trivial|exact rfl|refine And.intro ?_ ?_)
 all_goals (show (_:Int)=_; (try dsimp only [bS,cj]); first|omega|(unfold dT; omega))
theorem sk (f w:Int) (hF:1<=f/\f<=100) (hs:aa f=18) (hw:bO w):ai gT 142 [.int .i64 f,.int .u32 w] (cG (xX f w)):=by
 have b0:=ae w 26 1
 have b1:=ae w 12 3
 have b2:=ae w 0 8
 have b3:=ae w 20 1
 have b4:=ae w 16 4
 have b5:=ae w 8 4
 unfold xX
 refine Spec.enter an F7 100 Tryz.func142 rfl (by kernel_rfl) ?_
 refine (bo ⟨f,0,0,0,0,0,0,0,0,0,0⟩ w hw).u ?_
 refine (ma w hw).u ?_
 refine (ar hs).u ?_
 refine aD ?_
 (repeat' first|exact trivial|exact rfl|refine And.intro ?_ ?_)
 all_goals (show (_:Int)=_; (try dsimp only [bS,cj]); first|omega|(unfold dT; omega))
theorem zo (f w:Int) (hF:1<=f/\f<=100) (hs:aa f=18) (hw:bO w):ai gT 104 [.int .i64 f,.int .u32 w] (cG (xX f w)):=by
 have b0:=ae w 26 1
 have b1:=ae w 12 3
 have b2:=ae w 0 8
 have b3:=ae w 20 1
 have b4:=ae w 16 4
 have b5:=ae w 8 4
 refine Spec.enter an je 100 Tryz.func104 rfl (by kernel_rfl) ?_
 refine (bo ⟨f,0,0,0,0,0,0,0,0,0,0⟩ w hw).u ?_
 refine (ar hs).u ?_
 refine (sk f w hF hs hw).u ?_
 exact aD (gE _)
theorem sn (f w:Int) (hF:1<=f/\f<=100) (hs:aa f=19) (hw:bO w):ai gT 142 [.int .i64 f,.int .u32 w] (cG (xY f w)):=by
 have b0:=ae w 26 1
 have b1:=ae w 12 3
 have b2:=ae w 0 8
 have b3:=ae w 20 1
 have b4:=ae w 8 4
 unfold xY
 refine Spec.enter an F7 100 Tryz.func142 rfl (by kernel_rfl) ?_
 refine (bo ⟨f,0,0,0,0,0,0,0,0,0,0⟩ w hw).u ?_
 refine (ma w hw).u ?_
 refine (ar hs).u ?_
 refine aD ?_
 (repeat' first|exact trivial|exact rfl|refine And.intro ?_ ?_)
 all_goals (show (_:Int)=_; (try dsimp only [bS,cj]); first|omega|(unfold dT; omega))
theorem zp (f w:Int) (hF:1<=f/\f<=100) (hs:aa f=19) (hw:bO w):ai gT 104 [.int .i64 f,.int .u32 w] (cG (xY f w)):=by
 have b0:=ae w 26 1
 have b1:=ae w 12 3
 have b2:=ae w 0 8
 have b3:=ae w 20 1
 have b4:=ae w 8 4
 refine Spec.enter an je 100 Tryz.func104 rfl (by kernel_rfl) ?_
 refine (bo ⟨f,0,0,0,0,0,0,0,0,0,0⟩ w hw).u ?_
 refine (ar hs).u ?_
 refine (sn f w hF hs hw).u ?_
 exact aD (gE _)
theorem so (f w:Int) (hF:1<=f/\f<=100) (hs:aa f=20) (hw:bO w):ai gT 142 [.int .i64 f,.int .u32 w] (cG (xZ f w)):=by
 have b0:=ae w 26 1
 have b1:=ae w 12 3
 have b2:=ae w 0 8
 have b3:=ae w 16 4
 unfold xZ
 refine Spec.enter an F7 100 Tryz.func142 rfl (by kernel_rfl) ?_
 refine (bo ⟨f,0,0,0,0,0,0,0,0,0,0⟩ w hw).u ?_
 refine (ma w hw).u ?_
 refine (ar hs).u ?_
 refine aD ?_
 (repeat' first|exact trivial|exact rfl|refine And.intro ?_ ?_)
 all_goals (show (_:Int)=_; (try dsimp only [bS,cj]); first|omega|(unfold dT; omega))
theorem zq (f w:Int) (hF:1<=f/\f<=100) (hs:aa f=20) (hw:bO w):ai gT 104 [.int .i64 f,.int .u32 w] (cG (xZ f w)):=by
 have b0:=ae w 26 1
 have b1:=ae w 12 3
 have b2:=ae w 0 8
 have b3:=ae w 16 4
 refine Spec.enter an je 100 Tryz.func104 rfl (by kernel_rfl) ?_
 refine (bo ⟨f,0,0,0,0,0,0,0,0,0,0⟩ w hw).u ?_
 refine (ar hs).u ?_
 refine (so f w hF hs hw).u ?_
 exact aD (gE _)
theorem zr (f w:Int) (hF:1<=f/\f<=100) (hs:aa f=21) (hw:bO w):ai gT 143 [.int .i64 f,.int .u32 w] (cG (x4 f w)):=by
 have b0:=ae w 12 3
 have b1:=ae w 6 2
 have b2:=ae w 4 2
 have b3:=ae w 20 1
 have b4:=ae w 16 4
 have b5:=ae w 8 4
 have b6:=ae w 0 4
 unfold x4
 refine Spec.enter an KL 100 Tryz.func143 rfl (by kernel_rfl) ?_
 refine (bo ⟨f,0,0,0,0,0,0,0,0,0,0⟩ w hw).u ?_
 refine (aK w 4 2 hw (by decide) (by decide)).u ?_
 refine (aK w 12 3 hw (by decide) (by decide)).u ?_
 refine⟨by decide,.inl ⟨av (by rw[q2]; omega),?_⟩⟩
 refine (aK w 6 2 hw (by decide) (by decide)).u ?_
 have ek:ab w 4 2=0+ab w 4 2*2 ^ 0:=by omega
 have e:bits .or .i64 (ab w 12 3*Ev.aO .i64 2) (ab w 6 2)=0+ab w 12 3*2 ^ 2+ab w 6 2*2 ^ 0:=by
  rw[q2,Rm.cr (ab w 12 3*4) (ab w 6 2) 2 (by omega) (by omega) (by omega) (by omega) (by omega) (by omega)]; omega
 refine⟨[],br,(er (0+ab w 4 2*2 ^ 0) (0+ab w 12 3*2 ^ 2+ab w 6 2*2 ^ 0)).use (And.intro ek (And.intro e trivial)) rfl rfl ?_⟩
 repeat (refine And.intro ?_ ?_; rotate_left; focus (
  repeat' (first
   | refine Exists.intro [] (And.intro br ((aK w 4 2 hw (by decide) (by decide)).use (And.intro rfl (And.intro rfl (And.intro rfl trivial))) rfl rfl ?_))
   | refine Exists.intro [] (And.intro br ((aK w 12 3 hw (by decide) (by decide)).use (And.intro rfl (And.intro rfl (And.intro rfl trivial))) rfl rfl ?_))
   | refine Exists.intro [] (And.intro br ((aK w 6 2 hw (by decide) (by decide)).use (And.intro rfl (And.intro rfl (And.intro rfl trivial))) rfl rfl ?_))
   | refine Exists.intro [] (And.intro br ((er (0+ab w 4 2*2 ^ 0) (0+ab w 12 3*2 ^ 2+ab w 6 2*2 ^ 0)).use (And.intro ek (And.intro e trivial)) rfl rfl ?_))
   | refine And.intro (show (0:Int)<=2 by decide) (Or.inl (And.intro (av (by rw[q2]; omega)) ?_))
   | exact rfl
   | exact trivial
   | refine And.intro ?_ ?_)))
 refine (ar hs).u ?_
 refine (ar hs).u ?_
 refine aD ?_
 (repeat' first|exact trivial|exact rfl|refine And.intro ?_ ?_)
 all_goals (show (_:Int)=_; (try dsimp only [bS,cj]); first|omega|(unfold dT; omega))
theorem zt (f w:Int) (hF:1<=f/\f<=100) (hs:aa f=21) (hw:bO w):ai gT 104 [.int .i64 f,.int .u32 w] (cG (x4 f w)):=by
 have b0:=ae w 12 3
 have b1:=ae w 6 2
 have b2:=ae w 4 2
 have b3:=ae w 20 1
 have b4:=ae w 16 4
 have b5:=ae w 8 4
 have b6:=ae w 0 4
 refine Spec.enter an je 100 Tryz.func104 rfl (by kernel_rfl) ?_
 refine (bo ⟨f,0,0,0,0,0,0,0,0,0,0⟩ w hw).u ?_
 refine (ar hs).u ?_
 refine (zr f w hF hs hw).u ?_
 exact aD (gE _)
theorem zu (f w:Int) (hF:1<=f/\f<=100) (hs:aa f=22) (hw:bO w):ai gT 143 [.int .i64 f,.int .u32 w] (cG (x5 f w)):=by
 have b0:=ae w 12 3
 have b1:=ae w 6 2
 have b2:=ae w 4 2
 have b3:=ae w 20 1
 have b4:=ae w 8 4
 have b5:=ae w 0 4
 unfold x5
 refine Spec.enter an KL 100 Tryz.func143 rfl (by kernel_rfl) ?_
 refine (bo ⟨f,0,0,0,0,0,0,0,0,0,0⟩ w hw).u ?_
 refine (aK w 4 2 hw (by decide) (by decide)).u ?_
 refine (aK w 12 3 hw (by decide) (by decide)).u ?_
 refine⟨by decide,.inl ⟨av (by rw[q2]; omega),?_⟩⟩
 refine (aK w 6 2 hw (by decide) (by decide)).u ?_
 have ek:ab w 4 2=0+ab w 4 2*2 ^ 0:=by omega
 have e:bits .or .i64 (ab w 12 3*Ev.aO .i64 2) (ab w 6 2)=0+ab w 12 3*2 ^ 2+ab w 6 2*2 ^ 0:=by
  rw[q2,Rm.cr (ab w 12 3*4) (ab w 6 2) 2 (by omega) (by omega) (by omega) (by omega) (by omega) (by omega)]; omega
 refine⟨[],br,(er (0+ab w 4 2*2 ^ 0) (0+ab w 12 3*2 ^ 2+ab w 6 2*2 ^ 0)).use (And.intro ek (And.intro e trivial)) rfl rfl ?_⟩
 repeat (refine And.intro ?_ ?_; rotate_left; focus (
  repeat' (first
   | refine Exists.intro [] (And.intro br ((aK w 4 2 hw (by decide) (by decide)).use (And.intro rfl (And.intro rfl (And.intro rfl trivial))) rfl rfl ?_))
   | refine Exists.intro [] (And.intro br ((aK w 12 3 hw (by decide) (by decide)).use (And.intro rfl (And.intro rfl (And.intro rfl trivial))) rfl rfl ?_))
   | refine Exists.intro [] (And.intro br ((aK w 6 2 hw (by decide) (by decide)).use (And.intro rfl (And.intro rfl (And.intro rfl trivial))) rfl rfl ?_))
   | refine Exists.intro [] (And.intro br ((er (0+ab w 4 2*2 ^ 0) (0+ab w 12 3*2 ^ 2+ab w 6 2*2 ^ 0)).use (And.intro ek (And.intro e trivial)) rfl rfl ?_))
   | refine And.intro (show (0:Int)<=2 by decide) (Or.inl (And.intro (av (by rw[q2]; omega)) ?_))
   | exact rfl
   | exact trivial
   | refine And.intro ?_ ?_)))
 refine (ar hs).u ?_
 refine (ar hs).u ?_
 refine aD ?_
 (repeat' first|exact trivial|exact rfl|refine And.intro ?_ ?_)
 all_goals (show (_:Int)=_; (try dsimp only [bS,cj]); first|omega|(unfold dT; omega))
theorem zw (f w:Int) (hF:1<=f/\f<=100) (hs:aa f=22) (hw:bO w):ai gT 104 [.int .i64 f,.int .u32 w] (cG (x5 f w)):=by
 have b0:=ae w 12 3
 have b1:=ae w 6 2
 have b2:=ae w 4 2
 have b3:=ae w 20 1
 have b4:=ae w 8 4
 have b5:=ae w 0 4
 refine Spec.enter an je 100 Tryz.func104 rfl (by kernel_rfl) ?_
 refine (bo ⟨f,0,0,0,0,0,0,0,0,0,0⟩ w hw).u ?_
 refine (ar hs).u ?_
 refine (zu f w hF hs hw).u ?_
 exact aD (gE _)
theorem zx (f w:Int) (hF:1<=f/\f<=100) (hs:aa f=23) (hw:bO w):ai gT 143 [.int .i64 f,.int .u32 w] (cG (x6 f w)):=by
 have b0:=ae w 12 3
 have b1:=ae w 6 2
 have b2:=ae w 4 2
 have b3:=ae w 16 4
 have b4:=ae w 0 4
 unfold x6
 refine Spec.enter an KL 100 Tryz.func143 rfl (by kernel_rfl) ?_
 refine (bo ⟨f,0,0,0,0,0,0,0,0,0,0⟩ w hw).u ?_
 refine (aK w 4 2 hw (by decide) (by decide)).u ?_
 refine (aK w 12 3 hw (by decide) (by decide)).u ?_
 refine⟨by decide,.inl ⟨av (by rw[q2]; omega),?_⟩⟩
 refine (aK w 6 2 hw (by decide) (by decide)).u ?_
 have ek:ab w 4 2=0+ab w 4 2*2 ^ 0:=by omega
 have e:bits .or .i64 (ab w 12 3*Ev.aO .i64 2) (ab w 6 2)=0+ab w 12 3*2 ^ 2+ab w 6 2*2 ^ 0:=by
  rw[q2,Rm.cr (ab w 12 3*4) (ab w 6 2) 2 (by omega) (by omega) (by omega) (by omega) (by omega) (by omega)]; omega
 refine⟨[],br,(er (0+ab w 4 2*2 ^ 0) (0+ab w 12 3*2 ^ 2+ab w 6 2*2 ^ 0)).use (And.intro ek (And.intro e trivial)) rfl rfl ?_⟩
 repeat (refine And.intro ?_ ?_; rotate_left; focus (
  repeat' (first
   | refine Exists.intro [] (And.intro br ((aK w 4 2 hw (by decide) (by decide)).use (And.intro rfl (And.intro rfl (And.intro rfl trivial))) rfl rfl ?_))
   | refine Exists.intro [] (And.intro br ((aK w 12 3 hw (by decide) (by decide)).use (And.intro rfl (And.intro rfl (And.intro rfl trivial))) rfl rfl ?_))
   | refine Exists.intro [] (And.intro br ((aK w 6 2 hw (by decide) (by decide)).use (And.intro rfl (And.intro rfl (And.intro rfl trivial))) rfl rfl ?_))
   | refine Exists.intro [] (And.intro br ((er (0+ab w 4 2*2 ^ 0) (0+ab w 12 3*2 ^ 2+ab w 6 2*2 ^ 0)).use (And.intro ek (And.intro e trivial)) rfl rfl ?_))
   | refine And.intro (show (0:Int)<=2 by decide) (Or.inl (And.intro (av (by rw[q2]; omega)) ?_))
   | exact rfl
   | exact trivial
   | refine And.intro ?_ ?_)))
 refine (ar hs).u ?_
 refine (ar hs).u ?_
 refine aD ?_
 (repeat' first|exact trivial|exact rfl|refine And.intro ?_ ?_)
 all_goals (show (_:Int)=_; (try dsimp only [bS,cj]); first|omega|(unfold dT; omega))
theorem zy (f w:Int) (hF:1<=f/\f<=100) (hs:aa f=23) (hw:bO w):ai gT 104 [.int .i64 f,.int .u32 w] (cG (x6 f w)):=by
 have b0:=ae w 12 3
 have b1:=ae w 6 2
 have b2:=ae w 4 2
 have b3:=ae w 16 4
 have b4:=ae w 0 4
 refine Spec.enter an je 100 Tryz.func104 rfl (by kernel_rfl) ?_
 refine (bo ⟨f,0,0,0,0,0,0,0,0,0,0⟩ w hw).u ?_
 refine (ar hs).u ?_
 refine (zx f w hF hs hw).u ?_
 exact aD (gE _)
theorem sq (f w:Int) (hF:1<=f/\f<=100) (hs:aa f=24) (hw:bO w):ai gT 142 [.int .i64 f,.int .u32 w] (cG (x7 f w)):=by
 have b0:=ae w 26 1
 have b1:=ae w 12 3
 have b2:=ae w 0 8
 have b3:=ae w 16 4
 have b4:=ae w 8 4
 unfold x7
 refine Spec.enter an F7 100 Tryz.func142 rfl (by kernel_rfl) ?_
 refine (bo ⟨f,0,0,0,0,0,0,0,0,0,0⟩ w hw).u ?_
 refine (ma w hw).u ?_
 refine (ar hs).u ?_
 refine aD ?_
 (repeat' first|exact trivial|exact rfl|refine And.intro ?_ ?_)
 all_goals (show (_:Int)=_; (try dsimp only [bS,cj]); first|omega|(unfold dT; omega))
theorem zz (f w:Int) (hF:1<=f/\f<=100) (hs:aa f=24) (hw:bO w):ai gT 104 [.int .i64 f,.int .u32 w] (cG (x7 f w)):=by
 have b0:=ae w 26 1
 have b1:=ae w 12 3
 have b2:=ae w 0 8
 have b3:=ae w 16 4
 have b4:=ae w 8 4
 refine Spec.enter an je 100 Tryz.func104 rfl (by kernel_rfl) ?_
 refine (bo ⟨f,0,0,0,0,0,0,0,0,0,0⟩ w hw).u ?_
 refine (ar hs).u ?_
 refine (sq f w hF hs hw).u ?_
 exact aD (gE _)
theorem zA (f w:Int) (hF:1<=f/\f<=100) (hs:aa f=25) (hw:bO w):ai gT 104 [.int .i64 f,.int .u32 w] (cG (CY f w)):=by
 have b0:=ae w 16 4
 have b1:=ae w 12 4
 have b2:=ae w 0 12
 unfold CY
 refine Spec.enter an je 100 Tryz.func104 rfl (by kernel_rfl) ?_
 refine (bo ⟨f,0,0,0,0,0,0,0,0,0,0⟩ w hw).u ?_
 refine (ar hs).u ?_
 refine (aK w 12 4 hw (by decide) (by decide)).u ?_
 refine (aK w 0 12 hw (by decide) (by decide)).u ?_
 refine aD ?_
 (repeat' first|exact trivial|exact rfl|refine And.intro ?_ ?_)
 all_goals (show (_:Int)=_; (try dsimp only [bS,cj]); first|omega|(unfold dT; omega))
theorem zB (f w:Int) (hF:1<=f/\f<=100) (hs:aa f=26) (hw:bO w):ai gT 104 [.int .i64 f,.int .u32 w] (cG (CZ f w)):=by
 have b0:=ae w 16 4
 have b1:=ae w 12 4
 have b2:=ae w 4 2
 have b3:=ae w 0 4
 unfold CZ
 refine Spec.enter an je 100 Tryz.func104 rfl (by kernel_rfl) ?_
 refine (bo ⟨f,0,0,0,0,0,0,0,0,0,0⟩ w hw).u ?_
 refine (ar hs).u ?_
 refine (aK w 12 4 hw (by decide) (by decide)).u ?_
 refine (aK w 4 2 hw (by decide) (by decide)).u ?_
 refine aD ?_
 (repeat' first|exact trivial|exact rfl|refine And.intro ?_ ?_)
 all_goals (show (_:Int)=_; (try dsimp only [bS,cj]); first|omega|(unfold dT; omega))
theorem zC (f w:Int) (hF:1<=f/\f<=100) (hs:aa f=27) (hw:bO w):ai gT 104 [.int .i64 f,.int .u32 w] (cG (C0 f w)):=by
 have b0:=ae w 20 1
 have b1:=ae w 16 4
 have b2:=ae w 8 4
 have b3:=ae w 0 4
 unfold C0
 refine Spec.enter an je 100 Tryz.func104 rfl (by kernel_rfl) ?_
 refine (bo ⟨f,0,0,0,0,0,0,0,0,0,0⟩ w hw).u ?_
 refine (ar hs).u ?_
 refine aD ?_
 (repeat' first|exact trivial|exact rfl|refine And.intro ?_ ?_)
 all_goals (show (_:Int)=_; (try dsimp only [bS,cj]); first|omega|(unfold dT; omega))
theorem zD (f w:Int) (hF:1<=f/\f<=100) (hs:aa f=28) (hw:bO w):ai gT 104 [.int .i64 f,.int .u32 w] (cG (C1 f w)):=by
 have b0:=ae w 16 4
 have b1:=ae w 8 4
 have b2:=ae w 0 4
 unfold C1
 refine Spec.enter an je 100 Tryz.func104 rfl (by kernel_rfl) ?_
 refine (bo ⟨f,0,0,0,0,0,0,0,0,0,0⟩ w hw).u ?_
 refine (ar hs).u ?_
 refine aD ?_
 (repeat' first|exact trivial|exact rfl|refine And.intro ?_ ?_)
 all_goals (show (_:Int)=_; (try dsimp only [bS,cj]); first|omega|(unfold dT; omega))
theorem zE (f w:Int) (hF:1<=f/\f<=100) (hs:aa f=29) (hw:bO w):ai gT 104 [.int .i64 f,.int .u32 w] (cG (C2 f w)):=by
 have b0:=ae w 16 4
 have b1:=ae w 12 4
 have b2:=ae w 8 4
 have b3:=ae w 0 4
 unfold C2
 refine Spec.enter an je 100 Tryz.func104 rfl (by kernel_rfl) ?_
 refine (bo ⟨f,0,0,0,0,0,0,0,0,0,0⟩ w hw).u ?_
 refine (ar hs).u ?_
 refine (aK w 12 4 hw (by decide) (by decide)).u ?_
 refine aD ?_
 (repeat' first|exact trivial|exact rfl|refine And.intro ?_ ?_)
 all_goals (show (_:Int)=_; (try dsimp only [bS,cj]); first|omega|(unfold dT; omega))
theorem zF (f w:Int) (hF:1<=f/\f<=100) (hs:aa f=30) (hw:bO w):ai gT 104 [.int .i64 f,.int .u32 w] (cG (C3 f w)):=by
 have b0:=ae w 16 4
 have b1:=ae w 12 4
 have b2:=ae w 8 4
 have b3:=ae w 0 4
 unfold C3
 refine Spec.enter an je 100 Tryz.func104 rfl (by kernel_rfl) ?_
 refine (bo ⟨f,0,0,0,0,0,0,0,0,0,0⟩ w hw).u ?_
 refine (ar hs).u ?_
 refine (aK w 12 4 hw (by decide) (by decide)).u ?_
 refine aD ?_
 (repeat' first|exact trivial|exact rfl|refine And.intro ?_ ?_)
 all_goals (show (_:Int)=_; (try dsimp only [bS,cj]); first|omega|(unfold dT; omega))
theorem zG (f w:Int) (hF:1<=f/\f<=100) (hs:aa f=31) (hw:bO w):ai gT 104 [.int .i64 f,.int .u32 w] (cG (C4 f w)):=by
 have b0:=ae w 16 4
 have b1:=ae w 12 4
 have b2:=ae w 8 4
 have b3:=ae w 0 4
 unfold C4
 refine Spec.enter an je 100 Tryz.func104 rfl (by kernel_rfl) ?_
 refine (bo ⟨f,0,0,0,0,0,0,0,0,0,0⟩ w hw).u ?_
 refine (ar hs).u ?_
 refine (aK w 12 4 hw (by decide) (by decide)).u ?_
 refine aD ?_
 (repeat' first|exact trivial|exact rfl|refine And.intro ?_ ?_)
 all_goals (show (_:Int)=_; (try dsimp only [bS,cj]); first|omega|(unfold dT; omega))
theorem zH (f w:Int) (hF:1<=f/\f<=100) (hs:aa f=32) (hw:bO w):ai gT 104 [.int .i64 f,.int .u32 w] (cG (C5 f w)):=by
 have b0:=ae w 16 4
 have b1:=ae w 8 4
 have b2:=ae w 0 4
 unfold C5
 refine Spec.enter an je 100 Tryz.func104 rfl (by kernel_rfl) ?_
 refine (bo ⟨f,0,0,0,0,0,0,0,0,0,0⟩ w hw).u ?_
 refine (ar hs).u ?_
 refine aD ?_
 (repeat' first|exact trivial|exact rfl|refine And.intro ?_ ?_)
 all_goals (show (_:Int)=_; (try dsimp only [bS,cj]); first|omega|(unfold dT; omega))
theorem zI (f w:Int) (hF:1<=f/\f<=100) (hs:aa f=33) (hw:bO w):ai gT 104 [.int .i64 f,.int .u32 w] (cG (C6 f w)):=by
 have b0:=ae w 26 1
 have b1:=ae w 22 4
 have b2:=ae w 16 6
 have b3:=ae w 13 1
 have b4:=ae w 11 1
 have b5:=ae w 0 11
 unfold C6
 refine Spec.enter an je 100 Tryz.func104 rfl (by kernel_rfl) ?_
 refine (bo ⟨f,0,0,0,0,0,0,0,0,0,0⟩ w hw).u ?_
 refine (ar hs).u ?_
 refine (aK w 22 4 hw (by decide) (by decide)).u ?_
 refine (uk w hw).u ?_
 refine aD ?_
 (repeat' first|exact trivial|exact rfl|refine And.intro ?_ ?_)
 all_goals (show (_:Int)=_; (try dsimp only [bS,cj]); first|omega|(unfold dT; omega))
theorem zJ (f w:Int) (hF:1<=f/\f<=100) (hs:aa f=34) (hw:bO w):ai gT 104 [.int .i64 f,.int .u32 w] (cG (C7 f w)):=by
 have b0:=ae w 26 1
 have b1:=ae w 16 10
 have b2:=ae w 13 1
 have b3:=ae w 11 1
 have b4:=ae w 0 11
 unfold C7
 refine Spec.enter an je 100 Tryz.func104 rfl (by kernel_rfl) ?_
 refine (bo ⟨f,0,0,0,0,0,0,0,0,0,0⟩ w hw).u ?_
 refine (ar hs).u ?_
 refine (um w hw).u ?_
 refine aD ?_
 (repeat' first|exact trivial|exact rfl|refine And.intro ?_ ?_)
 all_goals (show (_:Int)=_; (try dsimp only [bS,cj]); first|omega|(unfold dT; omega))
def nM (i:IN):List Int:=[i.form,i.rd,i.rn,i.rm,i.ra,i.az,i.kind,i.bC,i.set,i.cond,i.ao]
def uA (i:IN):Prop:=∀ x∈nM i,wx x
theorem iW {l:List (IntKind × Int)} {bw:List Value} {w:World} {I:Nat->Prop} {β:aB} (h:bB w I (l.map fun p=>.int p.1 p.2) β bw):bw=l.map fun p=>.int p.1 p.2:=by
 induction l generalizing bw with
 | nil=>cases bw with
  | nil=>rfl
  | cons v vs=>simp only[List.map,bB] at h
 | cons p l ih=>cases bw with
  | nil=>simp only[List.map,bB] at h
  | cons v vs =>
   simp only[List.map,bB,PV.Is] at h
   rw[List.map_cons,h.1,ih h.2]
end Go.Proofs.YtlgkljpgagfndaaGreatDoor.Pw

/- What this claim is proved with: no condition. -/
import Derived.Test.YtlgkljpgagfndaaGreatDoorNu19
import Derived.Test.YtlgkljpgagfndaaGreatDoorNu15
set_option maxRecDepth 100000
set_option maxHeartbeats 8000000
set_option linter.unusedVariables false
set_option linter.unusedSimpArgs false
namespace Go.Proofs.YtlgkljpgagfndaaGreatDoor.Pw
open Go Go.RowKit
theorem Du (f w:Int) (hF:1<=f/\f<=100) (hs:aa f=17) (hw:aY w):ai gT 104 [.int .i64 f,.int .u32 w] (c9 (Hu f w)):=by
 have b0:=af w 26 1
 have b1:=af w 16 4
 have b2:=af w 12 3
 have b3:=af w 0 8
 have b4:=af w 8 4
 unfold Hu
 refine Spec.enter al k9 100 Tryz.func104 rfl (by kernel_rfl) ?_
 refine (bx ⟨f,0,0,0,0,0,0,0,0,0,0⟩ w hw).u ?_
 refine (az hs).u ?_
 refine (HJ w hw).u ?_
 refine ax ?_
 (repeat' first|exact trivial|exact rfl|refine And.intro ?_ ?_)
 all_goals (show (_:Int)=_; (try dsimp only [b_,cF]); first|omega|(unfold fk; omega))
theorem wm (f w:Int) (hF:1<=f/\f<=100) (hs:aa f=18) (hw:aY w):ai gT 142 [.int .i64 f,.int .u32 w] (c9 (BW f w)):=by
 have b0:=af w 26 1
 have b1:=af w 12 3
 have b2:=af w 0 8
 have b3:=af w 20 1
 have b4:=af w 16 4
 have b5:=af w 8 4
 unfold BW
 refine Spec.enter al Lk 100 Tryz.func142 rfl (by kernel_rfl) ?_
 refine (bx ⟨f,0,0,0,0,0,0,0,0,0,0⟩ w hw).u ?_
 refine (oI w hw).u ?_
 refine (az hs).u ?_
 refine ax ?_
 (repeat' first|exact trivial|exact rfl|refine And.intro ?_ ?_)
 all_goals (show (_:Int)=_; (try dsimp only [b_,cF]); first|omega|(unfold fk; omega))
theorem Dv (f w:Int) (hF:1<=f/\f<=100) (hs:aa f=18) (hw:aY w):ai gT 104 [.int .i64 f,.int .u32 w] (c9 (BW f w)):=by
 have b0:=af w 26 1
 have b1:=af w 12 3
 have b2:=af w 0 8
 have b3:=af w 20 1
 have b4:=af w 16 4
 have b5:=af w 8 4
 refine Spec.enter al k9 100 Tryz.func104 rfl (by kernel_rfl) ?_
 refine (bx ⟨f,0,0,0,0,0,0,0,0,0,0⟩ w hw).u ?_
 refine (az hs).u ?_
 refine (wm f w hF hs hw).u ?_
 exact ax (i_ _)
theorem wo (f w:Int) (hF:1<=f/\f<=100) (hs:aa f=19) (hw:aY w):ai gT 142 [.int .i64 f,.int .u32 w] (c9 (BX f w)):=by
 have b0:=af w 26 1
 have b1:=af w 12 3
 have b2:=af w 0 8
 have b3:=af w 20 1
 have b4:=af w 8 4
 unfold BX
 refine Spec.enter al Lk 100 Tryz.func142 rfl (by kernel_rfl) ?_
 refine (bx ⟨f,0,0,0,0,0,0,0,0,0,0⟩ w hw).u ?_
 refine (oI w hw).u ?_
 refine (az hs).u ?_
 refine ax ?_
 (repeat' first|exact trivial|exact rfl|refine And.intro ?_ ?_)
 all_goals (show (_:Int)=_; (try dsimp only [b_,cF]); first|omega|(unfold fk; omega))
theorem Dw (f w:Int) (hF:1<=f/\f<=100) (hs:aa f=19) (hw:aY w):ai gT 104 [.int .i64 f,.int .u32 w] (c9 (BX f w)):=by
 have b0:=af w 26 1
 have b1:=af w 12 3
 have b2:=af w 0 8
 have b3:=af w 20 1
 have b4:=af w 8 4
 refine Spec.enter al k9 100 Tryz.func104 rfl (by kernel_rfl) ?_
 refine (bx ⟨f,0,0,0,0,0,0,0,0,0,0⟩ w hw).u ?_
 refine (az hs).u ?_
 refine (wo f w hF hs hw).u ?_
 exact ax (i_ _)
theorem wq (f w:Int) (hF:1<=f/\f<=100) (hs:aa f=20) (hw:aY w):ai gT 142 [.int .i64 f,.int .u32 w] (c9 (BY f w)):=by
 have b0:=af w 26 1
 have b1:=af w 12 3
 have b2:=af w 0 8
 have b3:=af w 16 4
 unfold BY
 refine Spec.enter al Lk 100 Tryz.func142 rfl (by kernel_rfl) ?_
 refine (bx ⟨f,0,0,0,0,0,0,0,0,0,0⟩ w hw).u ?_
 refine (oI w hw).u ?_
 refine (az hs).u ?_
 refine ax ?_
 (repeat' first|exact trivial|exact rfl|refine And.intro ?_ ?_)
 all_goals (show (_:Int)=_; (try dsimp only [b_,cF]); first|omega|(unfold fk; omega))
theorem Dx (f w:Int) (hF:1<=f/\f<=100) (hs:aa f=20) (hw:aY w):ai gT 104 [.int .i64 f,.int .u32 w] (c9 (BY f w)):=by
 have b0:=af w 26 1
 have b1:=af w 12 3
 have b2:=af w 0 8
 have b3:=af w 16 4
 refine Spec.enter al k9 100 Tryz.func104 rfl (by kernel_rfl) ?_
 refine (bx ⟨f,0,0,0,0,0,0,0,0,0,0⟩ w hw).u ?_
 refine (az hs).u ?_
 refine (wq f w hF hs hw).u ?_
 exact ax (i_ _)
theorem Dy (f w:Int) (hF:1<=f/\f<=100) (hs:aa f=21) (hw:aY w):ai gT 143 [.int .i64 f,.int .u32 w] (c9 (BZ f w)):=by
 have b0:=af w 12 3
 have b1:=af w 6 2
 have b2:=af w 4 2
 have b3:=af w 20 1
 have b4:=af w 16 4
 have b5:=af w 8 4
 have b6:=af w 0 4
 unfold BZ
 refine Spec.enter al Qo 100 Tryz.func143 rfl (by kernel_rfl) ?_
 refine (bx ⟨f,0,0,0,0,0,0,0,0,0,0⟩ w hw).u ?_
 refine (aR w 4 2 hw (by decide) (by decide)).u ?_
 refine (aR w 12 3 hw (by decide) (by decide)).u ?_
 refine⟨by decide,.inl ⟨aq (by rw[q2]; omega),?_⟩⟩
 refine (aR w 6 2 hw (by decide) (by decide)).u ?_
 have ek:ab w 4 2=0+ab w 4 2*2 ^ 0:=by omega
 have e:bits .or .i64 (ab w 12 3*Ev.aV .i64 2) (ab w 6 2)=0+ab w 12 3*2 ^ 2+ab w 6 2*2 ^ 0:=by
  rw[q2,Rm.cO (ab w 12 3*4) (ab w 6 2) 2 (by omega) (by omega) (by omega) (by omega) (by omega) (by omega)]; omega
 refine⟨[],bf,(fE (0+ab w 4 2*2 ^ 0) (0+ab w 12 3*2 ^ 2+ab w 6 2*2 ^ 0)).use (And.intro ek (And.intro e trivial)) rfl rfl ?_⟩
 repeat (refine And.intro ?_ ?_; rotate_left; focus (
  repeat' (first
   | refine Exists.intro [] (And.intro bf ((aR w 4 2 hw (by decide) (by decide)).use (And.intro rfl (And.intro rfl (And.intro rfl trivial))) rfl rfl ?_))
   | refine Exists.intro [] (And.intro bf ((aR w 12 3 hw (by decide) (by decide)).use (And.intro rfl (And.intro rfl (And.intro rfl trivial))) rfl rfl ?_))
   | refine Exists.intro [] (And.intro bf ((aR w 6 2 hw (by decide) (by decide)).use (And.intro rfl (And.intro rfl (And.intro rfl trivial))) rfl rfl ?_))
   | refine Exists.intro [] (And.intro bf ((fE (0+ab w 4 2*2 ^ 0) (0+ab w 12 3*2 ^ 2+ab w 6 2*2 ^ 0)).use (And.intro ek (And.intro e trivial)) rfl rfl ?_))
   | refine And.intro (show (0:Int)<=2 by decide) (Or.inl (And.intro (aq (by rw[q2]; omega)) ?_))
   | exact rfl
   | exact trivial
   | refine And.intro ?_ ?_)))
 refine (az hs).u ?_
 refine (az hs).u ?_
 refine ax ?_
 (repeat' first|exact trivial|exact rfl|refine And.intro ?_ ?_)
 all_goals (show (_:Int)=_; (try dsimp only [b_,cF]); first|omega|(unfold fk; omega))
theorem Dz (f w:Int) (hF:1<=f/\f<=100) (hs:aa f=21) (hw:aY w):ai gT 104 [.int .i64 f,.int .u32 w] (c9 (BZ f w)):=by
 have b0:=af w 12 3
 have b1:=af w 6 2
 have b2:=af w 4 2
 have b3:=af w 20 1
 have b4:=af w 16 4
 have b5:=af w 8 4
 have b6:=af w 0 4
 refine Spec.enter al k9 100 Tryz.func104 rfl (by kernel_rfl) ?_
 refine (bx ⟨f,0,0,0,0,0,0,0,0,0,0⟩ w hw).u ?_
 refine (az hs).u ?_
 refine (Dy f w hF hs hw).u ?_
 exact ax (i_ _)
theorem DA (f w:Int) (hF:1<=f/\f<=100) (hs:aa f=22) (hw:aY w):ai gT 143 [.int .i64 f,.int .u32 w] (c9 (B0 f w)):=by
 have b0:=af w 12 3
 have b1:=af w 6 2
 have b2:=af w 4 2
 have b3:=af w 20 1
 have b4:=af w 8 4
 have b5:=af w 0 4
 unfold B0
 refine Spec.enter al Qo 100 Tryz.func143 rfl (by kernel_rfl) ?_
 refine (bx ⟨f,0,0,0,0,0,0,0,0,0,0⟩ w hw).u ?_
 refine (aR w 4 2 hw (by decide) (by decide)).u ?_
 refine (aR w 12 3 hw (by decide) (by decide)).u ?_
 refine⟨by decide,.inl ⟨aq (by rw[q2]; omega),?_⟩⟩
 refine (aR w 6 2 hw (by decide) (by decide)).u ?_
 have ek:ab w 4 2=0+ab w 4 2*2 ^ 0:=by omega
 have e:bits .or .i64 (ab w 12 3*Ev.aV .i64 2) (ab w 6 2)=0+ab w 12 3*2 ^ 2+ab w 6 2*2 ^ 0:=by
  rw[q2,Rm.cO (ab w 12 3*4) (ab w 6 2) 2 (by omega) (by omega) (by omega) (by omega) (by omega) (by omega)]; omega
 refine⟨[],bf,(fE (0+ab w 4 2*2 ^ 0) (0+ab w 12 3*2 ^ 2+ab w 6 2*2 ^ 0)).use (And.intro ek (And.intro e trivial)) rfl rfl ?_⟩
 repeat (refine And.intro ?_ ?_; rotate_left; focus (
  repeat' (first
   | refine Exists.intro [] (And.intro bf ((aR w 4 2 hw (by decide) (by decide)).use (And.intro rfl (And.intro rfl (And.intro rfl trivial))) rfl rfl ?_))
   | refine Exists.intro [] (And.intro bf ((aR w 12 3 hw (by decide) (by decide)).use (And.intro rfl (And.intro rfl (And.intro rfl trivial))) rfl rfl ?_))
   | refine Exists.intro [] (And.intro bf ((aR w 6 2 hw (by decide) (by decide)).use (And.intro rfl (And.intro rfl (And.intro rfl trivial))) rfl rfl ?_))
   | refine Exists.intro [] (And.intro bf ((fE (0+ab w 4 2*2 ^ 0) (0+ab w 12 3*2 ^ 2+ab w 6 2*2 ^ 0)).use (And.intro ek (And.intro e trivial)) rfl rfl ?_))
   | refine And.intro (show (0:Int)<=2 by decide) (Or.inl (And.intro (aq (by rw[q2]; omega)) ?_))
   | exact rfl
   | exact trivial
   | refine And.intro ?_ ?_)))
 refine (az hs).u ?_
 refine (az hs).u ?_
 refine ax ?_
 (repeat' first|exact trivial|exact rfl|refine And.intro ?_ ?_)
 all_goals (show (_:Int)=_; (try dsimp only [b_,cF]); first|omega|(unfold fk; omega))
theorem DB (f w:Int) (hF:1<=f/\f<=100) (hs:aa f=22) (hw:aY w):ai gT 104 [.int .i64 f,.int .u32 w] (c9 (B0 f w)):=by
 have b0:=af w 12 3
 have b1:=af w 6 2
 have b2:=af w 4 2
 have b3:=af w 20 1
 have b4:=af w 8 4
 have b5:=af w 0 4
 refine Spec.enter al k9 100 Tryz.func104 rfl (by kernel_rfl) ?_
 refine (bx ⟨f,0,0,0,0,0,0,0,0,0,0⟩ w hw).u ?_
 refine (az hs).u ?_
 refine (DA f w hF hs hw).u ?_
 exact ax (i_ _)
theorem DC (f w:Int) (hF:1<=f/\f<=100) (hs:aa f=23) (hw:aY w):ai gT 143 [.int .i64 f,.int .u32 w] (c9 (B1 f w)):=by
 have b0:=af w 12 3
 have b1:=af w 6 2
 have b2:=af w 4 2
 have b3:=af w 16 4
 have b4:=af w 0 4
 unfold B1
 refine Spec.enter al Qo 100 Tryz.func143 rfl (by kernel_rfl) ?_
 refine (bx ⟨f,0,0,0,0,0,0,0,0,0,0⟩ w hw).u ?_
 refine (aR w 4 2 hw (by decide) (by decide)).u ?_
 refine (aR w 12 3 hw (by decide) (by decide)).u ?_
 refine⟨by decide,.inl ⟨aq (by rw[q2]; omega),?_⟩⟩
 refine (aR w 6 2 hw (by decide) (by decide)).u ?_
 have ek:ab w 4 2=0+ab w 4 2*2 ^ 0:=by omega
 have e:bits .or .i64 (ab w 12 3*Ev.aV .i64 2) (ab w 6 2)=0+ab w 12 3*2 ^ 2+ab w 6 2*2 ^ 0:=by
  rw[q2,Rm.cO (ab w 12 3*4) (ab w 6 2) 2 (by omega) (by omega) (by omega) (by omega) (by omega) (by omega)]; omega
 refine⟨[],bf,(fE (0+ab w 4 2*2 ^ 0) (0+ab w 12 3*2 ^ 2+ab w 6 2*2 ^ 0)).use (And.intro ek (And.intro e trivial)) rfl rfl ?_⟩
 repeat (refine And.intro ?_ ?_; rotate_left; focus (
  repeat' (first
   | refine Exists.intro [] (And.intro bf ((aR w 4 2 hw (by decide) (by decide)).use (And.intro rfl (And.intro rfl (And.intro rfl trivial))) rfl rfl ?_))
   | refine Exists.intro [] (And.intro bf ((aR w 12 3 hw (by decide) (by decide)).use (And.intro rfl (And.intro rfl (And.intro rfl trivial))) rfl rfl ?_))
   | refine Exists.intro [] (And.intro bf ((aR w 6 2 hw (by decide) (by decide)).use (And.intro rfl (And.intro rfl (And.intro rfl trivial))) rfl rfl ?_))
   | refine Exists.intro [] (And.intro bf ((fE (0+ab w 4 2*2 ^ 0) (0+ab w 12 3*2 ^ 2+ab w 6 2*2 ^ 0)).use (And.intro ek (And.intro e trivial)) rfl rfl ?_))
   | refine And.intro (show (0:Int)<=2 by decide) (Or.inl (And.intro (aq (by rw[q2]; omega)) ?_))
   | exact rfl
   | exact trivial
   | refine And.intro ?_ ?_)))
 refine (az hs).u ?_
 refine (az hs).u ?_
 refine ax ?_
 (repeat' first|exact trivial|exact rfl|refine And.intro ?_ ?_)
 all_goals (show (_:Int)=_; (try dsimp only [b_,cF]); first|omega|(unfold fk; omega))
theorem DD (f w:Int) (hF:1<=f/\f<=100) (hs:aa f=23) (hw:aY w):ai gT 104 [.int .i64 f,.int .u32 w] (c9 (B1 f w)):=by
 have b0:=af w 12 3
 have b1:=af w 6 2
 have b2:=af w 4 2
 have b3:=af w 16 4
 have b4:=af w 0 4
 refine Spec.enter al k9 100 Tryz.func104 rfl (by kernel_rfl) ?_
 refine (bx ⟨f,0,0,0,0,0,0,0,0,0,0⟩ w hw).u ?_
 refine (az hs).u ?_
 refine (DC f w hF hs hw).u ?_
 exact ax (i_ _)
theorem wu (f w:Int) (hF:1<=f/\f<=100) (hs:aa f=24) (hw:aY w):ai gT 142 [.int .i64 f,.int .u32 w] (c9 (B2 f w)):=by
 have b0:=af w 26 1
 have b1:=af w 12 3
 have b2:=af w 0 8
 have b3:=af w 16 4
 have b4:=af w 8 4
 unfold B2
 refine Spec.enter al Lk 100 Tryz.func142 rfl (by kernel_rfl) ?_
 refine (bx ⟨f,0,0,0,0,0,0,0,0,0,0⟩ w hw).u ?_
 refine (oI w hw).u ?_
 refine (az hs).u ?_
 refine ax ?_
 (repeat' first|exact trivial|exact rfl|refine And.intro ?_ ?_)
 all_goals (show (_:Int)=_; (try dsimp only [b_,cF]); first|omega|(unfold fk; omega))
theorem DE (f w:Int) (hF:1<=f/\f<=100) (hs:aa f=24) (hw:aY w):ai gT 104 [.int .i64 f,.int .u32 w] (c9 (B2 f w)):=by
 have b0:=af w 26 1
 have b1:=af w 12 3
 have b2:=af w 0 8
 have b3:=af w 16 4
 have b4:=af w 8 4
 refine Spec.enter al k9 100 Tryz.func104 rfl (by kernel_rfl) ?_
 refine (bx ⟨f,0,0,0,0,0,0,0,0,0,0⟩ w hw).u ?_
 refine (az hs).u ?_
 refine (wu f w hF hs hw).u ?_
 exact ax (i_ _)
theorem DF (f w:Int) (hF:1<=f/\f<=100) (hs:aa f=25) (hw:aY w):ai gT 104 [.int .i64 f,.int .u32 w] (c9 (Hv f w)):=by
 have b0:=af w 16 4
 have b1:=af w 12 4
 have b2:=af w 0 12
 unfold Hv
 refine Spec.enter al k9 100 Tryz.func104 rfl (by kernel_rfl) ?_
 refine (bx ⟨f,0,0,0,0,0,0,0,0,0,0⟩ w hw).u ?_
 refine (az hs).u ?_
 refine (aR w 12 4 hw (by decide) (by decide)).u ?_
 refine (aR w 0 12 hw (by decide) (by decide)).u ?_
 refine ax ?_
 (repeat' first|exact trivial|exact rfl|refine And.intro ?_ ?_)
 all_goals (show (_:Int)=_; (try dsimp only [b_,cF]); first|omega|(unfold fk; omega))
theorem DG (f w:Int) (hF:1<=f/\f<=100) (hs:aa f=26) (hw:aY w):ai gT 104 [.int .i64 f,.int .u32 w] (c9 (Hw f w)):=by
 have b0:=af w 16 4
 have b1:=af w 12 4
 have b2:=af w 4 2
 have b3:=af w 0 4
 unfold Hw
 refine Spec.enter al k9 100 Tryz.func104 rfl (by kernel_rfl) ?_
 refine (bx ⟨f,0,0,0,0,0,0,0,0,0,0⟩ w hw).u ?_
 refine (az hs).u ?_
 refine (aR w 12 4 hw (by decide) (by decide)).u ?_
 refine (aR w 4 2 hw (by decide) (by decide)).u ?_
 refine ax ?_
 (repeat' first|exact trivial|exact rfl|refine And.intro ?_ ?_)
 all_goals (show (_:Int)=_; (try dsimp only [b_,cF]); first|omega|(unfold fk; omega))
theorem DH (f w:Int) (hF:1<=f/\f<=100) (hs:aa f=27) (hw:aY w):ai gT 104 [.int .i64 f,.int .u32 w] (c9 (Hx f w)):=by
 have b0:=af w 20 1
 have b1:=af w 16 4
 have b2:=af w 8 4
 have b3:=af w 0 4
 unfold Hx
 refine Spec.enter al k9 100 Tryz.func104 rfl (by kernel_rfl) ?_
 refine (bx ⟨f,0,0,0,0,0,0,0,0,0,0⟩ w hw).u ?_
 refine (az hs).u ?_
 refine ax ?_
 (repeat' first|exact trivial|exact rfl|refine And.intro ?_ ?_)
 all_goals (show (_:Int)=_; (try dsimp only [b_,cF]); first|omega|(unfold fk; omega))
theorem DI (f w:Int) (hF:1<=f/\f<=100) (hs:aa f=28) (hw:aY w):ai gT 104 [.int .i64 f,.int .u32 w] (c9 (Hy f w)):=by
 have b0:=af w 16 4
 have b1:=af w 8 4
 have b2:=af w 0 4
 unfold Hy
 refine Spec.enter al k9 100 Tryz.func104 rfl (by kernel_rfl) ?_
 refine (bx ⟨f,0,0,0,0,0,0,0,0,0,0⟩ w hw).u ?_
 refine (az hs).u ?_
 refine ax ?_
 (repeat' first|exact trivial|exact rfl|refine And.intro ?_ ?_)
 all_goals (show (_:Int)=_; (try dsimp only [b_,cF]); first|omega|(unfold fk; omega))
theorem DJ (f w:Int) (hF:1<=f/\f<=100) (hs:aa f=29) (hw:aY w):ai gT 104 [.int .i64 f,.int .u32 w] (c9 (Hz f w)):=by
 have b0:=af w 16 4
 have b1:=af w 12 4
 have b2:=af w 8 4
 have b3:=af w 0 4
 unfold Hz
 refine Spec.enter al k9 100 Tryz.func104 rfl (by kernel_rfl) ?_
 refine (bx ⟨f,0,0,0,0,0,0,0,0,0,0⟩ w hw).u ?_
 refine (az hs).u ?_
 refine (aR w 12 4 hw (by decide) (by decide)).u ?_
 refine ax ?_
 (repeat' first|exact trivial|exact rfl|refine And.intro ?_ ?_)
 all_goals (show (_:Int)=_; (try dsimp only [b_,cF]); first|omega|(unfold fk; omega))
theorem DK (f w:Int) (hF:1<=f/\f<=100) (hs:aa f=30) (hw:aY w):ai gT 104 [.int .i64 f,.int .u32 w] (c9 (HA f w)):=by
 have b0:=af w 16 4
 have b1:=af w 12 4
 have b2:=af w 8 4
 have b3:=af w 0 4
 unfold HA
 refine Spec.enter al k9 100 Tryz.func104 rfl (by kernel_rfl) ?_
 refine (bx ⟨f,0,0,0,0,0,0,0,0,0,0⟩ w hw).u ?_
 refine (az hs).u ?_
 refine (aR w 12 4 hw (by decide) (by decide)).u ?_
 refine ax ?_
 (repeat' first|exact trivial|exact rfl|refine And.intro ?_ ?_)
 all_goals (show (_:Int)=_; (try dsimp only [b_,cF]); first|omega|(unfold fk; omega))
theorem DL (f w:Int) (hF:1<=f/\f<=100) (hs:aa f=31) (hw:aY w):ai gT 104 [.int .i64 f,.int .u32 w] (c9 (HB f w)):=by
 have b0:=af w 16 4
 have b1:=af w 12 4
 have b2:=af w 8 4
 have b3:=af w 0 4
 unfold HB
 refine Spec.enter al k9 100 Tryz.func104 rfl (by kernel_rfl) ?_
 refine (bx ⟨f,0,0,0,0,0,0,0,0,0,0⟩ w hw).u ?_
 refine (az hs).u ?_
 refine (aR w 12 4 hw (by decide) (by decide)).u ?_
 refine ax ?_
 (repeat' first|exact trivial|exact rfl|refine And.intro ?_ ?_)
 all_goals (show (_:Int)=_; (try dsimp only [b_,cF]); first|omega|(unfold fk; omega))
theorem DM (f w:Int) (hF:1<=f/\f<=100) (hs:aa f=32) (hw:aY w):ai gT 104 [.int .i64 f,.int .u32 w] (c9 (HE f w)):=by
 have b0:=af w 16 4
 have b1:=af w 8 4
 have b2:=af w 0 4
 unfold HE
 refine Spec.enter al k9 100 Tryz.func104 rfl (by kernel_rfl) ?_
 refine (bx ⟨f,0,0,0,0,0,0,0,0,0,0⟩ w hw).u ?_
 refine (az hs).u ?_
 refine ax ?_
 (repeat' first|exact trivial|exact rfl|refine And.intro ?_ ?_)
 all_goals (show (_:Int)=_; (try dsimp only [b_,cF]); first|omega|(unfold fk; omega))
theorem DN (f w:Int) (hF:1<=f/\f<=100) (hs:aa f=33) (hw:aY w):ai gT 104 [.int .i64 f,.int .u32 w] (c9 (HF f w)):=by
 have b0:=af w 26 1
 have b1:=af w 22 4
 have b2:=af w 16 6
 have b3:=af w 13 1
 have b4:=af w 11 1
 have b5:=af w 0 11
 unfold HF
 refine Spec.enter al k9 100 Tryz.func104 rfl (by kernel_rfl) ?_
 refine (bx ⟨f,0,0,0,0,0,0,0,0,0,0⟩ w hw).u ?_
 refine (az hs).u ?_
 refine (aR w 22 4 hw (by decide) (by decide)).u ?_
 refine (yr w hw).u ?_
 refine ax ?_
 (repeat' first|exact trivial|exact rfl|refine And.intro ?_ ?_)
 all_goals (show (_:Int)=_; (try dsimp only [b_,cF]); first|omega|(unfold fk; omega))
theorem DO (f w:Int) (hF:1<=f/\f<=100) (hs:aa f=34) (hw:aY w):ai gT 104 [.int .i64 f,.int .u32 w] (c9 (HH f w)):=by
 have b0:=af w 26 1
 have b1:=af w 16 10
 have b2:=af w 13 1
 have b3:=af w 11 1
 have b4:=af w 0 11
 unfold HH
 refine Spec.enter al k9 100 Tryz.func104 rfl (by kernel_rfl) ?_
 refine (bx ⟨f,0,0,0,0,0,0,0,0,0,0⟩ w hw).u ?_
 refine (az hs).u ?_
 refine (yt w hw).u ?_
 refine ax ?_
 (repeat' first|exact trivial|exact rfl|refine And.intro ?_ ?_)
 all_goals (show (_:Int)=_; (try dsimp only [b_,cF]); first|omega|(unfold fk; omega))
def qx (i:IN):List Int:=[i.form,i.rd,i.rn,i.rm,i.ra,i.ay,i.kind,i.bF,i.set,i.cond,i.av]
def B5 (i:IN):Prop:=∀ x∈qx i,Al x
theorem jC {l:List (IntKind × Int)} {vals:List Value} {w:World} {I:Nat->Prop} {β:aB} (h:bG w I (l.map fun p=>.int p.1 p.2) β vals):vals=l.map fun p=>.int p.1 p.2:=by
 induction l generalizing vals with
 | nil=>cases vals with
  | nil=>rfl
  | cons v vs=>simp only[List.map,bG] at h
 | cons p l ih=>cases vals with
  | nil=>simp only[List.map,bG] at h
  | cons v vs =>
   simp only[List.map,bG,PV.Is] at h
   rw[List.map_cons,h.1,ih h.2]
end Go.Proofs.YtlgkljpgagfndaaGreatDoor.Pw

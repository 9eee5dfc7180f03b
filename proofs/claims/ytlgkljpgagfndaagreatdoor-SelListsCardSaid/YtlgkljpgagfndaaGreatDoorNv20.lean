/- What this claim is proved with: no condition. -/
import Derived.Test.YtlgkljpgagfndaaGreatDoorNv19
import Derived.Test.YtlgkljpgagfndaaGreatDoorNv15
set_option maxRecDepth 100000
set_option maxHeartbeats 8000000
set_option linter.unusedVariables false
set_option linter.unusedSimpArgs false
namespace Go.Proofs.YtlgkljpgagfndaaGreatDoor.Pw
open Go Go.RowKit
theorem C0 (f w:Int) (hF:1<=f/\f<=100) (hs:aa f=17) (hw:a_ w):ai gT 104 [.int .i64 f,.int .u32 w] (cX (GB f w)):=by
 have b0:=af w 26 1
 have b1:=af w 16 4
 have b2:=af w 12 3
 have b3:=af w 0 8
 have b4:=af w 8 4
 unfold GB
 refine Spec.enter al kk 100 Tryz.func104 rfl (by kernel_rfl) ?_
 refine (bA ⟨f,0,0,0,0,0,0,0,0,0,0⟩ w hw).u ?_
 refine (ay hs).u ?_
 refine (GO w hw).u ?_
 refine aw ?_
 (repeat' first|exact trivial|exact rfl|refine And.intro ?_ ?_)
 all_goals (show (_:Int)=_; (try dsimp only [bZ,cD]); first|omega|(unfold eY; omega))
theorem vi (f w:Int) (hF:1<=f/\f<=100) (hs:aa f=18) (hw:a_ w):ai gT 142 [.int .i64 f,.int .u32 w] (cX (AW f w)):=by
 have b0:=af w 26 1
 have b1:=af w 12 3
 have b2:=af w 0 8
 have b3:=af w 20 1
 have b4:=af w 16 4
 have b5:=af w 8 4
 unfold AW
 refine Spec.enter al J6 100 Tryz.func142 rfl (by kernel_rfl) ?_
 refine (bA ⟨f,0,0,0,0,0,0,0,0,0,0⟩ w hw).u ?_
 refine (nR w hw).u ?_
 refine (ay hs).u ?_
 refine aw ?_
 (repeat' first|exact trivial|exact rfl|refine And.intro ?_ ?_)
 all_goals (show (_:Int)=_; (try dsimp only [bZ,cD]); first|omega|(unfold eY; omega))
theorem C1 (f w:Int) (hF:1<=f/\f<=100) (hs:aa f=18) (hw:a_ w):ai gT 104 [.int .i64 f,.int .u32 w] (cX (AW f w)):=by
 have b0:=af w 26 1
 have b1:=af w 12 3
 have b2:=af w 0 8
 have b3:=af w 20 1
 have b4:=af w 16 4
 have b5:=af w 8 4
 refine Spec.enter al kk 100 Tryz.func104 rfl (by kernel_rfl) ?_
 refine (bA ⟨f,0,0,0,0,0,0,0,0,0,0⟩ w hw).u ?_
 refine (ay hs).u ?_
 refine (vi f w hF hs hw).u ?_
 exact aw (iH _)
theorem vj (f w:Int) (hF:1<=f/\f<=100) (hs:aa f=19) (hw:a_ w):ai gT 142 [.int .i64 f,.int .u32 w] (cX (AX f w)):=by
 have b0:=af w 26 1
 have b1:=af w 12 3
 have b2:=af w 0 8
 have b3:=af w 20 1
 have b4:=af w 8 4
 unfold AX
 refine Spec.enter al J6 100 Tryz.func142 rfl (by kernel_rfl) ?_
 refine (bA ⟨f,0,0,0,0,0,0,0,0,0,0⟩ w hw).u ?_
 refine (nR w hw).u ?_
 refine (ay hs).u ?_
 refine aw ?_
 (repeat' first|exact trivial|exact rfl|refine And.intro ?_ ?_)
 all_goals (show (_:Int)=_; (try dsimp only [bZ,cD]); first|omega|(unfold eY; omega))
theorem C2 (f w:Int) (hF:1<=f/\f<=100) (hs:aa f=19) (hw:a_ w):ai gT 104 [.int .i64 f,.int .u32 w] (cX (AX f w)):=by
 have b0:=af w 26 1
 have b1:=af w 12 3
 have b2:=af w 0 8
 have b3:=af w 20 1
 have b4:=af w 8 4
 refine Spec.enter al kk 100 Tryz.func104 rfl (by kernel_rfl) ?_
 refine (bA ⟨f,0,0,0,0,0,0,0,0,0,0⟩ w hw).u ?_
 refine (ay hs).u ?_
 refine (vj f w hF hs hw).u ?_
 exact aw (iH _)
theorem vk (f w:Int) (hF:1<=f/\f<=100) (hs:aa f=20) (hw:a_ w):ai gT 142 [.int .i64 f,.int .u32 w] (cX (AY f w)):=by
 have b0:=af w 26 1
 have b1:=af w 12 3
 have b2:=af w 0 8
 have b3:=af w 16 4
 unfold AY
 refine Spec.enter al J6 100 Tryz.func142 rfl (by kernel_rfl) ?_
 refine (bA ⟨f,0,0,0,0,0,0,0,0,0,0⟩ w hw).u ?_
 refine (nR w hw).u ?_
 refine (ay hs).u ?_
 refine aw ?_
 (repeat' first|exact trivial|exact rfl|refine And.intro ?_ ?_)
 all_goals (show (_:Int)=_; (try dsimp only [bZ,cD]); first|omega|(unfold eY; omega))
theorem C3 (f w:Int) (hF:1<=f/\f<=100) (hs:aa f=20) (hw:a_ w):ai gT 104 [.int .i64 f,.int .u32 w] (cX (AY f w)):=by
 have b0:=af w 26 1
 have b1:=af w 12 3
 have b2:=af w 0 8
 have b3:=af w 16 4
 refine Spec.enter al kk 100 Tryz.func104 rfl (by kernel_rfl) ?_
 refine (bA ⟨f,0,0,0,0,0,0,0,0,0,0⟩ w hw).u ?_
 refine (ay hs).u ?_
 refine (vk f w hF hs hw).u ?_
 exact aw (iH _)
theorem C4 (f w:Int) (hF:1<=f/\f<=100) (hs:aa f=21) (hw:a_ w):ai gT 143 [.int .i64 f,.int .u32 w] (cX (AZ f w)):=by
 have b0:=af w 12 3
 have b1:=af w 6 2
 have b2:=af w 4 2
 have b3:=af w 20 1
 have b4:=af w 16 4
 have b5:=af w 8 4
 have b6:=af w 0 4
 unfold AZ
 refine Spec.enter al OP 100 Tryz.func143 rfl (by kernel_rfl) ?_
 refine (bA ⟨f,0,0,0,0,0,0,0,0,0,0⟩ w hw).u ?_
 refine (aR w 4 2 hw (by decide) (by decide)).u ?_
 refine (aR w 12 3 hw (by decide) (by decide)).u ?_
 refine⟨by decide,.inl ⟨ao (by rw[q2]; omega),?_⟩⟩
 refine (aR w 6 2 hw (by decide) (by decide)).u ?_
 have ek:ab w 4 2=0+ab w 4 2*2 ^ 0:=by omega
 have e:bits .or .i64 (ab w 12 3*Ev.aV .i64 2) (ab w 6 2)=0+ab w 12 3*2 ^ 2+ab w 6 2*2 ^ 0:=by
  rw[q2,Rm.cN (ab w 12 3*4) (ab w 6 2) 2 (by omega) (by omega) (by omega) (by omega) (by omega) (by omega)]; omega
 refine⟨[],bn,(fp (0+ab w 4 2*2 ^ 0) (0+ab w 12 3*2 ^ 2+ab w 6 2*2 ^ 0)).use (And.intro ek (And.intro e trivial)) rfl rfl ?_⟩
 repeat (refine And.intro ?_ ?_; rotate_left; focus (
  repeat' (first
   | refine Exists.intro [] (And.intro bn ((aR w 4 2 hw (by decide) (by decide)).use (And.intro rfl (And.intro rfl (And.intro rfl trivial))) rfl rfl ?_))
   | refine Exists.intro [] (And.intro bn ((aR w 12 3 hw (by decide) (by decide)).use (And.intro rfl (And.intro rfl (And.intro rfl trivial))) rfl rfl ?_))
   | refine Exists.intro [] (And.intro bn ((aR w 6 2 hw (by decide) (by decide)).use (And.intro rfl (And.intro rfl (And.intro rfl trivial))) rfl rfl ?_))
   | refine Exists.intro [] (And.intro bn ((fp (0+ab w 4 2*2 ^ 0) (0+ab w 12 3*2 ^ 2+ab w 6 2*2 ^ 0)).use (And.intro ek (And.intro e trivial)) rfl rfl ?_))
   | refine And.intro (show (0:Int)<=2 by decide) (Or.inl (And.intro (ao (by rw[q2]; omega)) ?_))
   | exact rfl
   | exact trivial
   | refine And.intro ?_ ?_)))
 refine (ay hs).u ?_
 refine (ay hs).u ?_
 refine aw ?_
 (repeat' first|exact trivial|exact rfl|refine And.intro ?_ ?_)
 all_goals (show (_:Int)=_; (try dsimp only [bZ,cD]); first|omega|(unfold eY; omega))
theorem C5 (f w:Int) (hF:1<=f/\f<=100) (hs:aa f=21) (hw:a_ w):ai gT 104 [.int .i64 f,.int .u32 w] (cX (AZ f w)):=by
 have b0:=af w 12 3
 have b1:=af w 6 2
 have b2:=af w 4 2
 have b3:=af w 20 1
 have b4:=af w 16 4
 have b5:=af w 8 4
 have b6:=af w 0 4
 refine Spec.enter al kk 100 Tryz.func104 rfl (by kernel_rfl) ?_
 refine (bA ⟨f,0,0,0,0,0,0,0,0,0,0⟩ w hw).u ?_
 refine (ay hs).u ?_
 refine (C4 f w hF hs hw).u ?_
 exact aw (iH _)
theorem C6 (f w:Int) (hF:1<=f/\f<=100) (hs:aa f=22) (hw:a_ w):ai gT 143 [.int .i64 f,.int .u32 w] (cX (A0 f w)):=by
 have b0:=af w 12 3
 have b1:=af w 6 2
 have b2:=af w 4 2
 have b3:=af w 20 1
 have b4:=af w 8 4
 have b5:=af w 0 4
 unfold A0
 refine Spec.enter al OP 100 Tryz.func143 rfl (by kernel_rfl) ?_
 refine (bA ⟨f,0,0,0,0,0,0,0,0,0,0⟩ w hw).u ?_
 refine (aR w 4 2 hw (by decide) (by decide)).u ?_
 refine (aR w 12 3 hw (by decide) (by decide)).u ?_
 refine⟨by decide,.inl ⟨ao (by rw[q2]; omega),?_⟩⟩
 refine (aR w 6 2 hw (by decide) (by decide)).u ?_
 have ek:ab w 4 2=0+ab w 4 2*2 ^ 0:=by omega
 have e:bits .or .i64 (ab w 12 3*Ev.aV .i64 2) (ab w 6 2)=0+ab w 12 3*2 ^ 2+ab w 6 2*2 ^ 0:=by
  rw[q2,Rm.cN (ab w 12 3*4) (ab w 6 2) 2 (by omega) (by omega) (by omega) (by omega) (by omega) (by omega)]; omega
 refine⟨[],bn,(fp (0+ab w 4 2*2 ^ 0) (0+ab w 12 3*2 ^ 2+ab w 6 2*2 ^ 0)).use (And.intro ek (And.intro e trivial)) rfl rfl ?_⟩
 repeat (refine And.intro ?_ ?_; rotate_left; focus (
  repeat' (first
   | refine Exists.intro [] (And.intro bn ((aR w 4 2 hw (by decide) (by decide)).use (And.intro rfl (And.intro rfl (And.intro rfl trivial))) rfl rfl ?_))
   | refine Exists.intro [] (And.intro bn ((aR w 12 3 hw (by decide) (by decide)).use (And.intro rfl (And.intro rfl (And.intro rfl trivial))) rfl rfl ?_))
   | refine Exists.intro [] (And.intro bn ((aR w 6 2 hw (by decide) (by decide)).use (And.intro rfl (And.intro rfl (And.intro rfl trivial))) rfl rfl ?_))
   | refine Exists.intro [] (And.intro bn ((fp (0+ab w 4 2*2 ^ 0) (0+ab w 12 3*2 ^ 2+ab w 6 2*2 ^ 0)).use (And.intro ek (And.intro e trivial)) rfl rfl ?_))
   | refine And.intro (show (0:Int)<=2 by decide) (Or.inl (And.intro (ao (by rw[q2]; omega)) ?_))
   | exact rfl
   | exact trivial
   | refine And.intro ?_ ?_)))
 refine (ay hs).u ?_
 refine (ay hs).u ?_
 refine aw ?_
 (repeat' first|exact trivial|exact rfl|refine And.intro ?_ ?_)
 all_goals (show (_:Int)=_; (try dsimp only [bZ,cD]); first|omega|(unfold eY; omega))
theorem C7 (f w:Int) (hF:1<=f/\f<=100) (hs:aa f=22) (hw:a_ w):ai gT 104 [.int .i64 f,.int .u32 w] (cX (A0 f w)):=by
 have b0:=af w 12 3
 have b1:=af w 6 2
 have b2:=af w 4 2
 have b3:=af w 20 1
 have b4:=af w 8 4
 have b5:=af w 0 4
 refine Spec.enter al kk 100 Tryz.func104 rfl (by kernel_rfl) ?_
 refine (bA ⟨f,0,0,0,0,0,0,0,0,0,0⟩ w hw).u ?_
 refine (ay hs).u ?_
 refine (C6 f w hF hs hw).u ?_
 exact aw (iH _)
theorem C8 (f w:Int) (hF:1<=f/\f<=100) (hs:aa f=23) (hw:a_ w):ai gT 143 [.int .i64 f,.int .u32 w] (cX (A2 f w)):=by
 have b0:=af w 12 3
 have b1:=af w 6 2
 have b2:=af w 4 2
 have b3:=af w 16 4
 have b4:=af w 0 4
 unfold A2
 refine Spec.enter al OP 100 Tryz.func143 rfl (by kernel_rfl) ?_
 refine (bA ⟨f,0,0,0,0,0,0,0,0,0,0⟩ w hw).u ?_
 refine (aR w 4 2 hw (by decide) (by decide)).u ?_
 refine (aR w 12 3 hw (by decide) (by decide)).u ?_
 refine⟨by decide,.inl ⟨ao (by rw[q2]; omega),?_⟩⟩
 refine (aR w 6 2 hw (by decide) (by decide)).u ?_
 have ek:ab w 4 2=0+ab w 4 2*2 ^ 0:=by omega
 have e:bits .or .i64 (ab w 12 3*Ev.aV .i64 2) (ab w 6 2)=0+ab w 12 3*2 ^ 2+ab w 6 2*2 ^ 0:=by
  rw[q2,Rm.cN (ab w 12 3*4) (ab w 6 2) 2 (by omega) (by omega) (by omega) (by omega) (by omega) (by omega)]; omega
 refine⟨[],bn,(fp (0+ab w 4 2*2 ^ 0) (0+ab w 12 3*2 ^ 2+ab w 6 2*2 ^ 0)).use (And.intro ek (And.intro e trivial)) rfl rfl ?_⟩
 repeat (refine And.intro ?_ ?_; rotate_left; focus (
  repeat' (first
   | refine Exists.intro [] (And.intro bn ((aR w 4 2 hw (by decide) (by decide)).use (And.intro rfl (And.intro rfl (And.intro rfl trivial))) rfl rfl ?_))
   | refine Exists.intro [] (And.intro bn ((aR w 12 3 hw (by decide) (by decide)).use (And.intro rfl (And.intro rfl (And.intro rfl trivial))) rfl rfl ?_))
   | refine Exists.intro [] (And.intro bn ((aR w 6 2 hw (by decide) (by decide)).use (And.intro rfl (And.intro rfl (And.intro rfl trivial))) rfl rfl ?_))
   | refine Exists.intro [] (And.intro bn ((fp (0+ab w 4 2*2 ^ 0) (0+ab w 12 3*2 ^ 2+ab w 6 2*2 ^ 0)).use (And.intro ek (And.intro e trivial)) rfl rfl ?_))
   | refine And.intro (show (0:Int)<=2 by decide) (Or.inl (And.intro (ao (by rw[q2]; omega)) ?_))
   | exact rfl
   | exact trivial
   | refine And.intro ?_ ?_)))
 refine (ay hs).u ?_
 refine (ay hs).u ?_
 refine aw ?_
 (repeat' first|exact trivial|exact rfl|refine And.intro ?_ ?_)
 all_goals (show (_:Int)=_; (try dsimp only [bZ,cD]); first|omega|(unfold eY; omega))
theorem C9 (f w:Int) (hF:1<=f/\f<=100) (hs:aa f=23) (hw:a_ w):ai gT 104 [.int .i64 f,.int .u32 w] (cX (A2 f w)):=by
 have b0:=af w 12 3
 have b1:=af w 6 2
 have b2:=af w 4 2
 have b3:=af w 16 4
 have b4:=af w 0 4
 refine Spec.enter al kk 100 Tryz.func104 rfl (by kernel_rfl) ?_
 refine (bA ⟨f,0,0,0,0,0,0,0,0,0,0⟩ w hw).u ?_
 refine (ay hs).u ?_
 refine (C8 f w hF hs hw).u ?_
 exact aw (iH _)
theorem vl (f w:Int) (hF:1<=f/\f<=100) (hs:aa f=24) (hw:a_ w):ai gT 142 [.int .i64 f,.int .u32 w] (cX (A3 f w)):=by
 have b0:=af w 26 1
 have b1:=af w 12 3
 have b2:=af w 0 8
 have b3:=af w 16 4
 have b4:=af w 8 4
 unfold A3
 refine Spec.enter al J6 100 Tryz.func142 rfl (by kernel_rfl) ?_
 refine (bA ⟨f,0,0,0,0,0,0,0,0,0,0⟩ w hw).u ?_
 refine (nR w hw).u ?_
 refine (ay hs).u ?_
 refine aw ?_
 (repeat' first|exact trivial|exact rfl|refine And.intro ?_ ?_)
 all_goals (show (_:Int)=_; (try dsimp only [bZ,cD]); first|omega|(unfold eY; omega))
theorem C' (f w:Int) (hF:1<=f/\f<=100) (hs:aa f=24) (hw:a_ w):ai gT 104 [.int .i64 f,.int .u32 w] (cX (A3 f w)):=by
 have b0:=af w 26 1
 have b1:=af w 12 3
 have b2:=af w 0 8
 have b3:=af w 16 4
 have b4:=af w 8 4
 refine Spec.enter al kk 100 Tryz.func104 rfl (by kernel_rfl) ?_
 refine (bA ⟨f,0,0,0,0,0,0,0,0,0,0⟩ w hw).u ?_
 refine (ay hs).u ?_
 refine (vl f w hF hs hw).u ?_
 exact aw (iH _)
theorem C_ (f w:Int) (hF:1<=f/\f<=100) (hs:aa f=25) (hw:a_ w):ai gT 104 [.int .i64 f,.int .u32 w] (cX (GC f w)):=by
 have b0:=af w 16 4
 have b1:=af w 12 4
 have b2:=af w 0 12
 unfold GC
 refine Spec.enter al kk 100 Tryz.func104 rfl (by kernel_rfl) ?_
 refine (bA ⟨f,0,0,0,0,0,0,0,0,0,0⟩ w hw).u ?_
 refine (ay hs).u ?_
 refine (aR w 12 4 hw (by decide) (by decide)).u ?_
 refine (aR w 0 12 hw (by decide) (by decide)).u ?_
 refine aw ?_
 (repeat' first|exact trivial|exact rfl|refine And.intro ?_ ?_)
 all_goals (show (_:Int)=_; (try dsimp only [bZ,cD]); first|omega|(unfold eY; omega))
theorem Da (f w:Int) (hF:1<=f/\f<=100) (hs:aa f=26) (hw:a_ w):ai gT 104 [.int .i64 f,.int .u32 w] (cX (GD f w)):=by
 have b0:=af w 16 4
 have b1:=af w 12 4
 have b2:=af w 4 2
 have b3:=af w 0 4
 unfold GD
 refine Spec.enter al kk 100 Tryz.func104 rfl (by kernel_rfl) ?_
 refine (bA ⟨f,0,0,0,0,0,0,0,0,0,0⟩ w hw).u ?_
 refine (ay hs).u ?_
 refine (aR w 12 4 hw (by decide) (by decide)).u ?_
 refine (aR w 4 2 hw (by decide) (by decide)).u ?_
 refine aw ?_
 (repeat' first|exact trivial|exact rfl|refine And.intro ?_ ?_)
 all_goals (show (_:Int)=_; (try dsimp only [bZ,cD]); first|omega|(unfold eY; omega))
theorem Db (f w:Int) (hF:1<=f/\f<=100) (hs:aa f=27) (hw:a_ w):ai gT 104 [.int .i64 f,.int .u32 w] (cX (GF f w)):=by
 have b0:=af w 20 1
 have b1:=af w 16 4
 have b2:=af w 8 4
 have b3:=af w 0 4
 unfold GF
 refine Spec.enter al kk 100 Tryz.func104 rfl (by kernel_rfl) ?_
 refine (bA ⟨f,0,0,0,0,0,0,0,0,0,0⟩ w hw).u ?_
 refine (ay hs).u ?_
 refine aw ?_
 (repeat' first|exact trivial|exact rfl|refine And.intro ?_ ?_)
 all_goals (show (_:Int)=_; (try dsimp only [bZ,cD]); first|omega|(unfold eY; omega))
theorem Dc (f w:Int) (hF:1<=f/\f<=100) (hs:aa f=28) (hw:a_ w):ai gT 104 [.int .i64 f,.int .u32 w] (cX (GG f w)):=by
 have b0:=af w 16 4
 have b1:=af w 8 4
 have b2:=af w 0 4
 unfold GG
 refine Spec.enter al kk 100 Tryz.func104 rfl (by kernel_rfl) ?_
 refine (bA ⟨f,0,0,0,0,0,0,0,0,0,0⟩ w hw).u ?_
 refine (ay hs).u ?_
 refine aw ?_
 (repeat' first|exact trivial|exact rfl|refine And.intro ?_ ?_)
 all_goals (show (_:Int)=_; (try dsimp only [bZ,cD]); first|omega|(unfold eY; omega))
theorem Dd (f w:Int) (hF:1<=f/\f<=100) (hs:aa f=29) (hw:a_ w):ai gT 104 [.int .i64 f,.int .u32 w] (cX (GH f w)):=by
 have b0:=af w 16 4
 have b1:=af w 12 4
 have b2:=af w 8 4
 have b3:=af w 0 4
 unfold GH
 refine Spec.enter al kk 100 Tryz.func104 rfl (by kernel_rfl) ?_
 refine (bA ⟨f,0,0,0,0,0,0,0,0,0,0⟩ w hw).u ?_
 refine (ay hs).u ?_
 refine (aR w 12 4 hw (by decide) (by decide)).u ?_
 refine aw ?_
 (repeat' first|exact trivial|exact rfl|refine And.intro ?_ ?_)
 all_goals (show (_:Int)=_; (try dsimp only [bZ,cD]); first|omega|(unfold eY; omega))
theorem De (f w:Int) (hF:1<=f/\f<=100) (hs:aa f=30) (hw:a_ w):ai gT 104 [.int .i64 f,.int .u32 w] (cX (GI f w)):=by
 have b0:=af w 16 4
 have b1:=af w 12 4
 have b2:=af w 8 4
 have b3:=af w 0 4
 unfold GI
 refine Spec.enter al kk 100 Tryz.func104 rfl (by kernel_rfl) ?_
 refine (bA ⟨f,0,0,0,0,0,0,0,0,0,0⟩ w hw).u ?_
 refine (ay hs).u ?_
 refine (aR w 12 4 hw (by decide) (by decide)).u ?_
 refine aw ?_
 (repeat' first|exact trivial|exact rfl|refine And.intro ?_ ?_)
 all_goals (show (_:Int)=_; (try dsimp only [bZ,cD]); first|omega|(unfold eY; omega))
theorem Df (f w:Int) (hF:1<=f/\f<=100) (hs:aa f=31) (hw:a_ w):ai gT 104 [.int .i64 f,.int .u32 w] (cX (GJ f w)):=by
 have b0:=af w 16 4
 have b1:=af w 12 4
 have b2:=af w 8 4
 have b3:=af w 0 4
 unfold GJ
 refine Spec.enter al kk 100 Tryz.func104 rfl (by kernel_rfl) ?_
 refine (bA ⟨f,0,0,0,0,0,0,0,0,0,0⟩ w hw).u ?_
 refine (ay hs).u ?_
 refine (aR w 12 4 hw (by decide) (by decide)).u ?_
 refine aw ?_
 (repeat' first|exact trivial|exact rfl|refine And.intro ?_ ?_)
 all_goals (show (_:Int)=_; (try dsimp only [bZ,cD]); first|omega|(unfold eY; omega))
theorem Dg (f w:Int) (hF:1<=f/\f<=100) (hs:aa f=32) (hw:a_ w):ai gT 104 [.int .i64 f,.int .u32 w] (cX (GK f w)):=by
 have b0:=af w 16 4
 have b1:=af w 8 4
 have b2:=af w 0 4
 unfold GK
 refine Spec.enter al kk 100 Tryz.func104 rfl (by kernel_rfl) ?_
 refine (bA ⟨f,0,0,0,0,0,0,0,0,0,0⟩ w hw).u ?_
 refine (ay hs).u ?_
 refine aw ?_
 (repeat' first|exact trivial|exact rfl|refine And.intro ?_ ?_)
 all_goals (show (_:Int)=_; (try dsimp only [bZ,cD]); first|omega|(unfold eY; omega))
theorem Dh (f w:Int) (hF:1<=f/\f<=100) (hs:aa f=33) (hw:a_ w):ai gT 104 [.int .i64 f,.int .u32 w] (cX (GL f w)):=by
 have b0:=af w 26 1
 have b1:=af w 22 4
 have b2:=af w 16 6
 have b3:=af w 13 1
 have b4:=af w 11 1
 have b5:=af w 0 11
 unfold GL
 refine Spec.enter al kk 100 Tryz.func104 rfl (by kernel_rfl) ?_
 refine (bA ⟨f,0,0,0,0,0,0,0,0,0,0⟩ w hw).u ?_
 refine (ay hs).u ?_
 refine (aR w 22 4 hw (by decide) (by decide)).u ?_
 refine (xz w hw).u ?_
 refine aw ?_
 (repeat' first|exact trivial|exact rfl|refine And.intro ?_ ?_)
 all_goals (show (_:Int)=_; (try dsimp only [bZ,cD]); first|omega|(unfold eY; omega))
theorem Di (f w:Int) (hF:1<=f/\f<=100) (hs:aa f=34) (hw:a_ w):ai gT 104 [.int .i64 f,.int .u32 w] (cX (GM f w)):=by
 have b0:=af w 26 1
 have b1:=af w 16 10
 have b2:=af w 13 1
 have b3:=af w 11 1
 have b4:=af w 0 11
 unfold GM
 refine Spec.enter al kk 100 Tryz.func104 rfl (by kernel_rfl) ?_
 refine (bA ⟨f,0,0,0,0,0,0,0,0,0,0⟩ w hw).u ?_
 refine (ay hs).u ?_
 refine (xA w hw).u ?_
 refine aw ?_
 (repeat' first|exact trivial|exact rfl|refine And.intro ?_ ?_)
 all_goals (show (_:Int)=_; (try dsimp only [bZ,cD]); first|omega|(unfold eY; omega))
def pX (i:IN):List Int:=[i.form,i.rd,i.rn,i.rm,i.ra,i.az,i.kind,i.bG,i.set,i.cond,i.ar]
def yw (i:IN):Prop:=∀ x∈pX i,zi x
theorem jf {l:List (IntKind × Int)} {bs:List Value} {w:World} {I:Nat->Prop} {β:aB} (h:bH w I (l.map fun p=>.int p.1 p.2) β bs):bs=l.map fun p=>.int p.1 p.2:=by
 induction l generalizing bs with
 | nil=>cases bs with
  | nil=>rfl
  | cons v vs=>simp only[List.map,bH] at h
 | cons p l ih=>cases bs with
  | nil=>simp only[List.map,bH] at h
  | cons v vs =>
   simp only[List.map,bH,PV.Is] at h
   rw[List.map_cons,h.1,ih h.2]
end Go.Proofs.YtlgkljpgagfndaaGreatDoor.Pw

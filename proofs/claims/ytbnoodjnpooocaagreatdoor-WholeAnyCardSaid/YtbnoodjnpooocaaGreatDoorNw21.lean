/- What this claim is proved with: no condition. -/
import Derived.Test.YtbnoodjnpooocaaGreatDoorNw20
import Derived.Test.YtbnoodjnpooocaaGreatDoorNw18
set_option maxRecDepth 100000
set_option maxHeartbeats 8000000
set_option linter.unusedVariables false
set_option linter.unusedSimpArgs false
namespace Go.Proofs.YtbnoodjnpooocaaGreatDoor.Pw
open Go Go.RowKit
theorem F2 (f w:Int) (hF:1<=f/\f<=100) (hs:ab f=17) (hw:bQ w):al gT 117 [.int .i64 f,.int .u32 w] (dE (Kr f w)):=by
 have b0:=ae w 26 1
 have b1:=ae w 16 4
 have b2:=ae w 12 3
 have b3:=ae w 0 8
 have b4:=ae w 8 4
 unfold Kr
 refine Spec.enter aA ll 100 Tryz.func117 rfl (by kernel_rfl) ?_
 refine (bw ⟨f,0,0,0,0,0,0,0,0,0,0⟩ w hw).u ?_
 refine (av hs).u ?_
 refine (KF w hw).u ?_
 refine aF ?_
 (repeat' first|exact trivial|exact rfl|refine And.intro ?_ ?_)
 all_goals (show (_:Int)=_; (try dsimp only [bY,cD]); first|omega|(unfold eS; omega))
theorem yn (f w:Int) (hF:1<=f/\f<=100) (hs:ab f=18) (hw:bQ w):al gT 206 [.int .i64 f,.int .u32 w] (dE (D_ f w)):=by
 have b0:=ae w 26 1
 have b1:=ae w 12 3
 have b2:=ae w 0 8
 have b3:=ae w 20 1
 have b4:=ae w 16 4
 have b5:=ae w 8 4
 unfold D_
 refine Spec.enter aA Jt 100 Tryz.func206 rfl (by kernel_rfl) ?_
 refine (bw ⟨f,0,0,0,0,0,0,0,0,0,0⟩ w hw).u ?_
 refine (pN w hw).u ?_
 refine (av hs).u ?_
 refine aF ?_
 (repeat' first|exact trivial|exact rfl|refine And.intro ?_ ?_)
 all_goals (show (_:Int)=_; (try dsimp only [bY,cD]); first|omega|(unfold eS; omega))
theorem F3 (f w:Int) (hF:1<=f/\f<=100) (hs:ab f=18) (hw:bQ w):al gT 117 [.int .i64 f,.int .u32 w] (dE (D_ f w)):=by
 have b0:=ae w 26 1
 have b1:=ae w 12 3
 have b2:=ae w 0 8
 have b3:=ae w 20 1
 have b4:=ae w 16 4
 have b5:=ae w 8 4
 refine Spec.enter aA ll 100 Tryz.func117 rfl (by kernel_rfl) ?_
 refine (bw ⟨f,0,0,0,0,0,0,0,0,0,0⟩ w hw).u ?_
 refine (av hs).u ?_
 refine (yn f w hF hs hw).u ?_
 exact aF (jH _)
theorem yo (f w:Int) (hF:1<=f/\f<=100) (hs:ab f=19) (hw:bQ w):al gT 206 [.int .i64 f,.int .u32 w] (dE (Ea f w)):=by
 have b0:=ae w 26 1
 have b1:=ae w 12 3
 have b2:=ae w 0 8
 have b3:=ae w 20 1
 have b4:=ae w 8 4
 unfold Ea
 refine Spec.enter aA Jt 100 Tryz.func206 rfl (by kernel_rfl) ?_
 refine (bw ⟨f,0,0,0,0,0,0,0,0,0,0⟩ w hw).u ?_
 refine (pN w hw).u ?_
 refine (av hs).u ?_
 refine aF ?_
 (repeat' first|exact trivial|exact rfl|refine And.intro ?_ ?_)
 all_goals (show (_:Int)=_; (try dsimp only [bY,cD]); first|omega|(unfold eS; omega))
theorem F4 (f w:Int) (hF:1<=f/\f<=100) (hs:ab f=19) (hw:bQ w):al gT 117 [.int .i64 f,.int .u32 w] (dE (Ea f w)):=by
 have b0:=ae w 26 1
 have b1:=ae w 12 3
 have b2:=ae w 0 8
 have b3:=ae w 20 1
 have b4:=ae w 8 4
 refine Spec.enter aA ll 100 Tryz.func117 rfl (by kernel_rfl) ?_
 refine (bw ⟨f,0,0,0,0,0,0,0,0,0,0⟩ w hw).u ?_
 refine (av hs).u ?_
 refine (yo f w hF hs hw).u ?_
 exact aF (jH _)
theorem yp (f w:Int) (hF:1<=f/\f<=100) (hs:ab f=20) (hw:bQ w):al gT 206 [.int .i64 f,.int .u32 w] (dE (Eb f w)):=by
 have b0:=ae w 26 1
 have b1:=ae w 12 3
 have b2:=ae w 0 8
 have b3:=ae w 16 4
 unfold Eb
 refine Spec.enter aA Jt 100 Tryz.func206 rfl (by kernel_rfl) ?_
 refine (bw ⟨f,0,0,0,0,0,0,0,0,0,0⟩ w hw).u ?_
 refine (pN w hw).u ?_
 refine (av hs).u ?_
 refine aF ?_
 (repeat' first|exact trivial|exact rfl|refine And.intro ?_ ?_)
 all_goals (show (_:Int)=_; (try dsimp only [bY,cD]); first|omega|(unfold eS; omega))
theorem F5 (f w:Int) (hF:1<=f/\f<=100) (hs:ab f=20) (hw:bQ w):al gT 117 [.int .i64 f,.int .u32 w] (dE (Eb f w)):=by
 have b0:=ae w 26 1
 have b1:=ae w 12 3
 have b2:=ae w 0 8
 have b3:=ae w 16 4
 refine Spec.enter aA ll 100 Tryz.func117 rfl (by kernel_rfl) ?_
 refine (bw ⟨f,0,0,0,0,0,0,0,0,0,0⟩ w hw).u ?_
 refine (av hs).u ?_
 refine (yp f w hF hs hw).u ?_
 exact aF (jH _)
theorem F6 (f w:Int) (hF:1<=f/\f<=100) (hs:ab f=21) (hw:bQ w):al gT 207 [.int .i64 f,.int .u32 w] (dE (Ec f w)):=by
 have b0:=ae w 12 3
 have b1:=ae w 6 2
 have b2:=ae w 4 2
 have b3:=ae w 20 1
 have b4:=ae w 16 4
 have b5:=ae w 8 4
 have b6:=ae w 0 4
 unfold Ec
 refine Spec.enter aA NJ 100 Tryz.func207 rfl (by kernel_rfl) ?_
 refine (bw ⟨f,0,0,0,0,0,0,0,0,0,0⟩ w hw).u ?_
 refine (aJ w 4 2 hw (by decide) (by decide)).u ?_
 refine (aJ w 12 3 hw (by decide) (by decide)).u ?_
 refine⟨by decide,.inl ⟨bf (by rw[q2]; omega),?_⟩⟩
 refine (aJ w 6 2 hw (by decide) (by decide)).u ?_
 have ek:aa w 4 2=0+aa w 4 2*2 ^ 0:=by omega
 have e:bits .or .i64 (aa w 12 3*Ev.aQ .i64 2) (aa w 6 2)=0+aa w 12 3*2 ^ 2+aa w 6 2*2 ^ 0:=by
  rw[q2,Rm.dm (aa w 12 3*4) (aa w 6 2) 2 (by omega) (by omega) (by omega) (by omega) (by omega) (by omega)]; omega
 refine⟨[],bI,(fw (0+aa w 4 2*2 ^ 0) (0+aa w 12 3*2 ^ 2+aa w 6 2*2 ^ 0)).use (And.intro ek (And.intro e trivial)) rfl rfl ?_⟩
 repeat (refine And.intro ?_ ?_; rotate_left; focus (
  repeat' (first
   | refine Exists.intro [] (And.intro bI ((aJ w 4 2 hw (by decide) (by decide)).use (And.intro rfl (And.intro rfl (And.intro rfl trivial))) rfl rfl ?_))
   | refine Exists.intro [] (And.intro bI ((aJ w 12 3 hw (by decide) (by decide)).use (And.intro rfl (And.intro rfl (And.intro rfl trivial))) rfl rfl ?_))
   | refine Exists.intro [] (And.intro bI ((aJ w 6 2 hw (by decide) (by decide)).use (And.intro rfl (And.intro rfl (And.intro rfl trivial))) rfl rfl ?_))
   | refine Exists.intro [] (And.intro bI ((fw (0+aa w 4 2*2 ^ 0) (0+aa w 12 3*2 ^ 2+aa w 6 2*2 ^ 0)).use (And.intro ek (And.intro e trivial)) rfl rfl ?_))
   | refine And.intro (show (0:Int)<=2 by decide) (Or.inl (And.intro (bf (by rw[q2]; omega)) ?_))
   | exact rfl
   | exact trivial
   | refine And.intro ?_ ?_)))
 refine (av hs).u ?_
 refine (av hs).u ?_
 refine aF ?_
 (repeat' first|exact trivial|exact rfl|refine And.intro ?_ ?_)
 all_goals (show (_:Int)=_; (try dsimp only [bY,cD]); first|omega|(unfold eS; omega))
theorem F7 (f w:Int) (hF:1<=f/\f<=100) (hs:ab f=21) (hw:bQ w):al gT 117 [.int .i64 f,.int .u32 w] (dE (Ec f w)):=by
 have b0:=ae w 12 3
 have b1:=ae w 6 2
 have b2:=ae w 4 2
 have b3:=ae w 20 1
 have b4:=ae w 16 4
 have b5:=ae w 8 4
 have b6:=ae w 0 4
 refine Spec.enter aA ll 100 Tryz.func117 rfl (by kernel_rfl) ?_
 refine (bw ⟨f,0,0,0,0,0,0,0,0,0,0⟩ w hw).u ?_
 refine (av hs).u ?_
 refine (F6 f w hF hs hw).u ?_
 exact aF (jH _)
theorem F8 (f w:Int) (hF:1<=f/\f<=100) (hs:ab f=22) (hw:bQ w):al gT 207 [.int .i64 f,.int .u32 w] (dE (Ed f w)):=by
 have b0:=ae w 12 3
 have b1:=ae w 6 2
 have b2:=ae w 4 2
 have b3:=ae w 20 1
 have b4:=ae w 8 4
 have b5:=ae w 0 4
 unfold Ed
 refine Spec.enter aA NJ 100 Tryz.func207 rfl (by kernel_rfl) ?_
 refine (bw ⟨f,0,0,0,0,0,0,0,0,0,0⟩ w hw).u ?_
 refine (aJ w 4 2 hw (by decide) (by decide)).u ?_
 refine (aJ w 12 3 hw (by decide) (by decide)).u ?_
 refine⟨by decide,.inl ⟨bf (by rw[q2]; omega),?_⟩⟩
 refine (aJ w 6 2 hw (by decide) (by decide)).u ?_
 have ek:aa w 4 2=0+aa w 4 2*2 ^ 0:=by omega
 have e:bits .or .i64 (aa w 12 3*Ev.aQ .i64 2) (aa w 6 2)=0+aa w 12 3*2 ^ 2+aa w 6 2*2 ^ 0:=by
  rw[q2,Rm.dm (aa w 12 3*4) (aa w 6 2) 2 (by omega) (by omega) (by omega) (by omega) (by omega) (by omega)]; omega
 refine⟨[],bI,(fw (0+aa w 4 2*2 ^ 0) (0+aa w 12 3*2 ^ 2+aa w 6 2*2 ^ 0)).use (And.intro ek (And.intro e trivial)) rfl rfl ?_⟩
 repeat (refine And.intro ?_ ?_; rotate_left; focus (
  repeat' (first
   | refine Exists.intro [] (And.intro bI ((aJ w 4 2 hw (by decide) (by decide)).use (And.intro rfl (And.intro rfl (And.intro rfl trivial))) rfl rfl ?_))
   | refine Exists.intro [] (And.intro bI ((aJ w 12 3 hw (by decide) (by decide)).use (And.intro rfl (And.intro rfl (And.intro rfl trivial))) rfl rfl ?_))
   | refine Exists.intro [] (And.intro bI ((aJ w 6 2 hw (by decide) (by decide)).use (And.intro rfl (And.intro rfl (And.intro rfl trivial))) rfl rfl ?_))
   | refine Exists.intro [] (And.intro bI ((fw (0+aa w 4 2*2 ^ 0) (0+aa w 12 3*2 ^ 2+aa w 6 2*2 ^ 0)).use (And.intro ek (And.intro e trivial)) rfl rfl ?_))
   | refine And.intro (show (0:Int)<=2 by decide) (Or.inl (And.intro (bf (by rw[q2]; omega)) ?_))
   | exact rfl
   | exact trivial
   | refine And.intro ?_ ?_)))
 refine (av hs).u ?_
 refine (av hs).u ?_
 refine aF ?_
 (repeat' first|exact trivial|exact rfl|refine And.intro ?_ ?_)
 all_goals (show (_:Int)=_; (try dsimp only [bY,cD]); first|omega|(unfold eS; omega))
theorem F9 (f w:Int) (hF:1<=f/\f<=100) (hs:ab f=22) (hw:bQ w):al gT 117 [.int .i64 f,.int .u32 w] (dE (Ed f w)):=by
 have b0:=ae w 12 3
 have b1:=ae w 6 2
 have b2:=ae w 4 2
 have b3:=ae w 20 1
 have b4:=ae w 8 4
 have b5:=ae w 0 4
 refine Spec.enter aA ll 100 Tryz.func117 rfl (by kernel_rfl) ?_
 refine (bw ⟨f,0,0,0,0,0,0,0,0,0,0⟩ w hw).u ?_
 refine (av hs).u ?_
 refine (F8 f w hF hs hw).u ?_
 exact aF (jH _)
theorem F' (f w:Int) (hF:1<=f/\f<=100) (hs:ab f=23) (hw:bQ w):al gT 207 [.int .i64 f,.int .u32 w] (dE (Ee f w)):=by
 have b0:=ae w 12 3
 have b1:=ae w 6 2
 have b2:=ae w 4 2
 have b3:=ae w 16 4
 have b4:=ae w 0 4
 unfold Ee
 refine Spec.enter aA NJ 100 Tryz.func207 rfl (by kernel_rfl) ?_
 refine (bw ⟨f,0,0,0,0,0,0,0,0,0,0⟩ w hw).u ?_
 refine (aJ w 4 2 hw (by decide) (by decide)).u ?_
 refine (aJ w 12 3 hw (by decide) (by decide)).u ?_
 refine⟨by decide,.inl ⟨bf (by rw[q2]; omega),?_⟩⟩
 refine (aJ w 6 2 hw (by decide) (by decide)).u ?_
 have ek:aa w 4 2=0+aa w 4 2*2 ^ 0:=by omega
 have e:bits .or .i64 (aa w 12 3*Ev.aQ .i64 2) (aa w 6 2)=0+aa w 12 3*2 ^ 2+aa w 6 2*2 ^ 0:=by
  rw[q2,Rm.dm (aa w 12 3*4) (aa w 6 2) 2 (by omega) (by omega) (by omega) (by omega) (by omega) (by omega)]; omega
 refine⟨[],bI,(fw (0+aa w 4 2*2 ^ 0) (0+aa w 12 3*2 ^ 2+aa w 6 2*2 ^ 0)).use (And.intro ek (And.intro e trivial)) rfl rfl ?_⟩
 repeat (refine And.intro ?_ ?_; rotate_left; focus (
  repeat' (first
   | refine Exists.intro [] (And.intro bI ((aJ w 4 2 hw (by decide) (by decide)).use (And.intro rfl (And.intro rfl (And.intro rfl trivial))) rfl rfl ?_))
   | refine Exists.intro [] (And.intro bI ((aJ w 12 3 hw (by decide) (by decide)).use (And.intro rfl (And.intro rfl (And.intro rfl trivial))) rfl rfl ?_))
   | refine Exists.intro [] (And.intro bI ((aJ w 6 2 hw (by decide) (by decide)).use (And.intro rfl (And.intro rfl (And.intro rfl trivial))) rfl rfl ?_))
   | refine Exists.intro [] (And.intro bI ((fw (0+aa w 4 2*2 ^ 0) (0+aa w 12 3*2 ^ 2+aa w 6 2*2 ^ 0)).use (And.intro ek (And.intro e trivial)) rfl rfl ?_))
   | refine And.intro (show (0:Int)<=2 by decide) (Or.inl (And.intro (bf (by rw[q2]; omega)) ?_))
   | exact rfl
   | exact trivial
   | refine And.intro ?_ ?_)))
 refine (av hs).u ?_
 refine (av hs).u ?_
 refine aF ?_
 (repeat' first|exact trivial|exact rfl|refine And.intro ?_ ?_)
 all_goals (show (_:Int)=_; (try dsimp only [bY,cD]); first|omega|(unfold eS; omega))
theorem F_ (f w:Int) (hF:1<=f/\f<=100) (hs:ab f=23) (hw:bQ w):al gT 117 [.int .i64 f,.int .u32 w] (dE (Ee f w)):=by
 have b0:=ae w 12 3
 have b1:=ae w 6 2
 have b2:=ae w 4 2
 have b3:=ae w 16 4
 have b4:=ae w 0 4
 refine Spec.enter aA ll 100 Tryz.func117 rfl (by kernel_rfl) ?_
 refine (bw ⟨f,0,0,0,0,0,0,0,0,0,0⟩ w hw).u ?_
 refine (av hs).u ?_
 refine (F' f w hF hs hw).u ?_
 exact aF (jH _)
theorem yq (f w:Int) (hF:1<=f/\f<=100) (hs:ab f=24) (hw:bQ w):al gT 206 [.int .i64 f,.int .u32 w] (dE (Ef f w)):=by
 have b0:=ae w 26 1
 have b1:=ae w 12 3
 have b2:=ae w 0 8
 have b3:=ae w 16 4
 have b4:=ae w 8 4
 unfold Ef
 refine Spec.enter aA Jt 100 Tryz.func206 rfl (by kernel_rfl) ?_
 refine (bw ⟨f,0,0,0,0,0,0,0,0,0,0⟩ w hw).u ?_
 refine (pN w hw).u ?_
 refine (av hs).u ?_
 refine aF ?_
 (repeat' first|exact trivial|exact rfl|refine And.intro ?_ ?_)
 all_goals (show (_:Int)=_; (try dsimp only [bY,cD]); first|omega|(unfold eS; omega))
theorem Ga (f w:Int) (hF:1<=f/\f<=100) (hs:ab f=24) (hw:bQ w):al gT 117 [.int .i64 f,.int .u32 w] (dE (Ef f w)):=by
 have b0:=ae w 26 1
 have b1:=ae w 12 3
 have b2:=ae w 0 8
 have b3:=ae w 16 4
 have b4:=ae w 8 4
 refine Spec.enter aA ll 100 Tryz.func117 rfl (by kernel_rfl) ?_
 refine (bw ⟨f,0,0,0,0,0,0,0,0,0,0⟩ w hw).u ?_
 refine (av hs).u ?_
 refine (yq f w hF hs hw).u ?_
 exact aF (jH _)
theorem Gb (f w:Int) (hF:1<=f/\f<=100) (hs:ab f=25) (hw:bQ w):al gT 117 [.int .i64 f,.int .u32 w] (dE (Ks f w)):=by
 have b0:=ae w 16 4
 have b1:=ae w 12 4
 have b2:=ae w 0 12
 unfold Ks
 refine Spec.enter aA ll 100 Tryz.func117 rfl (by kernel_rfl) ?_
 refine (bw ⟨f,0,0,0,0,0,0,0,0,0,0⟩ w hw).u ?_
 refine (av hs).u ?_
 refine (aJ w 12 4 hw (by decide) (by decide)).u ?_
 refine (aJ w 0 12 hw (by decide) (by decide)).u ?_
 refine aF ?_
 (repeat' first|exact trivial|exact rfl|refine And.intro ?_ ?_)
 all_goals (show (_:Int)=_; (try dsimp only [bY,cD]); first|omega|(unfold eS; omega))
theorem Gc (f w:Int) (hF:1<=f/\f<=100) (hs:ab f=26) (hw:bQ w):al gT 117 [.int .i64 f,.int .u32 w] (dE (Ku f w)):=by
 have b0:=ae w 16 4
 have b1:=ae w 12 4
 have b2:=ae w 4 2
 have b3:=ae w 0 4
 unfold Ku
 refine Spec.enter aA ll 100 Tryz.func117 rfl (by kernel_rfl) ?_
 refine (bw ⟨f,0,0,0,0,0,0,0,0,0,0⟩ w hw).u ?_
 refine (av hs).u ?_
 refine (aJ w 12 4 hw (by decide) (by decide)).u ?_
 refine (aJ w 4 2 hw (by decide) (by decide)).u ?_
 refine aF ?_
 (repeat' first|exact trivial|exact rfl|refine And.intro ?_ ?_)
 all_goals (show (_:Int)=_; (try dsimp only [bY,cD]); first|omega|(unfold eS; omega))
theorem Gd (f w:Int) (hF:1<=f/\f<=100) (hs:ab f=27) (hw:bQ w):al gT 117 [.int .i64 f,.int .u32 w] (dE (Kv f w)):=by
 have b0:=ae w 20 1
 have b1:=ae w 16 4
 have b2:=ae w 8 4
 have b3:=ae w 0 4
 unfold Kv
 refine Spec.enter aA ll 100 Tryz.func117 rfl (by kernel_rfl) ?_
 refine (bw ⟨f,0,0,0,0,0,0,0,0,0,0⟩ w hw).u ?_
 refine (av hs).u ?_
 refine aF ?_
 (repeat' first|exact trivial|exact rfl|refine And.intro ?_ ?_)
 all_goals (show (_:Int)=_; (try dsimp only [bY,cD]); first|omega|(unfold eS; omega))
theorem Ge (f w:Int) (hF:1<=f/\f<=100) (hs:ab f=28) (hw:bQ w):al gT 117 [.int .i64 f,.int .u32 w] (dE (Kw f w)):=by
 have b0:=ae w 16 4
 have b1:=ae w 8 4
 have b2:=ae w 0 4
 unfold Kw
 refine Spec.enter aA ll 100 Tryz.func117 rfl (by kernel_rfl) ?_
 refine (bw ⟨f,0,0,0,0,0,0,0,0,0,0⟩ w hw).u ?_
 refine (av hs).u ?_
 refine aF ?_
 (repeat' first|exact trivial|exact rfl|refine And.intro ?_ ?_)
 all_goals (show (_:Int)=_; (try dsimp only [bY,cD]); first|omega|(unfold eS; omega))
theorem Gf (f w:Int) (hF:1<=f/\f<=100) (hs:ab f=29) (hw:bQ w):al gT 117 [.int .i64 f,.int .u32 w] (dE (Ky f w)):=by
 have b0:=ae w 16 4
 have b1:=ae w 12 4
 have b2:=ae w 8 4
 have b3:=ae w 0 4
 unfold Ky
 refine Spec.enter aA ll 100 Tryz.func117 rfl (by kernel_rfl) ?_
 refine (bw ⟨f,0,0,0,0,0,0,0,0,0,0⟩ w hw).u ?_
 refine (av hs).u ?_
 refine (aJ w 12 4 hw (by decide) (by decide)).u ?_
 refine aF ?_
 (repeat' first|exact trivial|exact rfl|refine And.intro ?_ ?_)
 all_goals (show (_:Int)=_; (try dsimp only [bY,cD]); first|omega|(unfold eS; omega))
theorem Gg (f w:Int) (hF:1<=f/\f<=100) (hs:ab f=30) (hw:bQ w):al gT 117 [.int .i64 f,.int .u32 w] (dE (Kz f w)):=by
 have b0:=ae w 16 4
 have b1:=ae w 12 4
 have b2:=ae w 8 4
 have b3:=ae w 0 4
 unfold Kz
 refine Spec.enter aA ll 100 Tryz.func117 rfl (by kernel_rfl) ?_
 refine (bw ⟨f,0,0,0,0,0,0,0,0,0,0⟩ w hw).u ?_
 refine (av hs).u ?_
 refine (aJ w 12 4 hw (by decide) (by decide)).u ?_
 refine aF ?_
 (repeat' first|exact trivial|exact rfl|refine And.intro ?_ ?_)
 all_goals (show (_:Int)=_; (try dsimp only [bY,cD]); first|omega|(unfold eS; omega))
theorem Gh (f w:Int) (hF:1<=f/\f<=100) (hs:ab f=31) (hw:bQ w):al gT 117 [.int .i64 f,.int .u32 w] (dE (KA f w)):=by
 have b0:=ae w 16 4
 have b1:=ae w 12 4
 have b2:=ae w 8 4
 have b3:=ae w 0 4
 unfold KA
 refine Spec.enter aA ll 100 Tryz.func117 rfl (by kernel_rfl) ?_
 refine (bw ⟨f,0,0,0,0,0,0,0,0,0,0⟩ w hw).u ?_
 refine (av hs).u ?_
 refine (aJ w 12 4 hw (by decide) (by decide)).u ?_
 refine aF ?_
 (repeat' first|exact trivial|exact rfl|refine And.intro ?_ ?_)
 all_goals (show (_:Int)=_; (try dsimp only [bY,cD]); first|omega|(unfold eS; omega))
theorem Gi (f w:Int) (hF:1<=f/\f<=100) (hs:ab f=32) (hw:bQ w):al gT 117 [.int .i64 f,.int .u32 w] (dE (KB f w)):=by
 have b0:=ae w 16 4
 have b1:=ae w 8 4
 have b2:=ae w 0 4
 unfold KB
 refine Spec.enter aA ll 100 Tryz.func117 rfl (by kernel_rfl) ?_
 refine (bw ⟨f,0,0,0,0,0,0,0,0,0,0⟩ w hw).u ?_
 refine (av hs).u ?_
 refine aF ?_
 (repeat' first|exact trivial|exact rfl|refine And.intro ?_ ?_)
 all_goals (show (_:Int)=_; (try dsimp only [bY,cD]); first|omega|(unfold eS; omega))
theorem Gj (f w:Int) (hF:1<=f/\f<=100) (hs:ab f=33) (hw:bQ w):al gT 117 [.int .i64 f,.int .u32 w] (dE (KC f w)):=by
 have b0:=ae w 26 1
 have b1:=ae w 22 4
 have b2:=ae w 16 6
 have b3:=ae w 13 1
 have b4:=ae w 11 1
 have b5:=ae w 0 11
 unfold KC
 refine Spec.enter aA ll 100 Tryz.func117 rfl (by kernel_rfl) ?_
 refine (bw ⟨f,0,0,0,0,0,0,0,0,0,0⟩ w hw).u ?_
 refine (av hs).u ?_
 refine (aJ w 22 4 hw (by decide) (by decide)).u ?_
 refine (AB w hw).u ?_
 refine aF ?_
 (repeat' first|exact trivial|exact rfl|refine And.intro ?_ ?_)
 all_goals (show (_:Int)=_; (try dsimp only [bY,cD]); first|omega|(unfold eS; omega))
theorem Gk (f w:Int) (hF:1<=f/\f<=100) (hs:ab f=34) (hw:bQ w):al gT 117 [.int .i64 f,.int .u32 w] (dE (KD f w)):=by
 have b0:=ae w 26 1
 have b1:=ae w 16 10
 have b2:=ae w 13 1
 have b3:=ae w 11 1
 have b4:=ae w 0 11
 unfold KD
 refine Spec.enter aA ll 100 Tryz.func117 rfl (by kernel_rfl) ?_
 refine (bw ⟨f,0,0,0,0,0,0,0,0,0,0⟩ w hw).u ?_
 refine (av hs).u ?_
 refine (AD w hw).u ?_
 refine aF ?_
 (repeat' first|exact trivial|exact rfl|refine And.intro ?_ ?_)
 all_goals (show (_:Int)=_; (try dsimp only [bY,cD]); first|omega|(unfold eS; omega))
def uo (i:IN):List Int:=[i.form,i.rd,i.rn,i.rm,i.ra,i.au,i.kind,i.bE,i.set,i.cond,i.aq]
def Rb (i:IN):Prop:=∀ x∈uo i,D5 x
theorem ly {l:List (IntKind × Int)} {vals:List Value} {w:World} {I:Nat->Prop} {β:an} (h:bg w I (l.map fun p=>.int p.1 p.2) β vals):vals=l.map fun p=>.int p.1 p.2:=by
 induction l generalizing vals with
 | nil=>cases vals with
  | nil=>rfl
  | cons v vs=>simp only[List.map,bg] at h
 | cons p l ih=>cases vals with
  | nil=>simp only[List.map,bg] at h
  | cons v vs =>
   simp only[List.map,bg,PV.Is] at h
   rw[List.map_cons,h.1,ih h.2]
end Go.Proofs.YtbnoodjnpooocaaGreatDoor.Pw

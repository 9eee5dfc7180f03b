/- What a law is proved with. -/
import Derived.Test.YtnbngokbamifbaaGreatDoorNi19
import Derived.Test.YtnbngokbamifbaaGreatDoorNi15
import Derived.Test.YtnbngokbamifbaaGreatDoorNiInstU
import Derived.Lib.Agree
import Derived.Test.YtnbngokbamifbaaGreatDoorNi18
import Derived.Test.YtnbngokbamifbaaGreatDoorNi12
import Derived.Test.YtnbngokbamifbaaGreatDoorRows
import Derived.ProofKit
import Derived.LaidMore
import Derived.OpenShut
import Derived.Stop.Joined
import Derived.Lib.LaidTab
set_option linter.unusedVariables false
set_option linter.unusedSimpArgs false
namespace Go.Proofs.YtnbngokbamifbaaGreatDoor.Pw
open Go Go.RowKit
set_option maxHeartbeats 8000000 in
set_option maxRecDepth 100000 in
theorem wideOf_17 (f w : Int) (hF : 1 <= f /\ f <= 100) (hs : shapeV f = 17) (hw : U32 w) : PureF gT 122 [.int .i64 f,.int .u32 w] (inP (rdI17 f w)):=by
 have b0:=bitsV_bd w 26 1
 have b1:=bitsV_bd w 16 4
 have b2:=bitsV_bd w 12 3
 have b3:=bitsV_bd w 0 8
 have b4:=bitsV_bd w 8 4
 unfold rdI17
 refine Spec.enter gTok P122 100 Tryz.func122 rfl (by kernel_rfl) ?_
 refine ⟨[],no_rl,(places_pure ⟨f,0,0,0,0,0,0,0,0,0,0⟩ w hw).use (by repeat' first|exact trivial|exact rfl|exact Iff.rfl|refine And.intro ?_ ?_) rfl rfl ?_⟩
 refine ⟨[],no_rl,(pshapeLit hs).use (And.intro rfl trivial) rfl rfl ?_⟩
 refine ⟨[],no_rl,(number_t w hw).use (by repeat' first|exact trivial|exact rfl|exact Iff.rfl|refine And.intro ?_ ?_) rfl rfl ?_⟩
 refine retE ?_
 (repeat' first | exact trivial | exact rfl | refine And.intro ?_ ?_)
 all_goals (show (_ : Int) = _; (try dsimp only [placesI,threeI]); first | omega | (unfold numT; omega))
set_option maxHeartbeats 8000000 in
set_option maxRecDepth 100000 in
theorem immediate_18 (f w : Int) (hF : 1 <= f /\ f <= 100) (hs : shapeV f = 18) (hw : U32 w) : PureF gT 173 [.int .i64 f,.int .u32 w] (inP (rdI18 f w)):=by
 have b0:=bitsV_bd w 26 1
 have b1:=bitsV_bd w 12 3
 have b2:=bitsV_bd w 0 8
 have b3:=bitsV_bd w 20 1
 have b4:=bitsV_bd w 16 4
 have b5:=bitsV_bd w 8 4
 unfold rdI18
 refine Spec.enter gTok P173 100 Tryz.func173 rfl (by kernel_rfl) ?_
 refine ⟨[],no_rl,(places_pure ⟨f,0,0,0,0,0,0,0,0,0,0⟩ w hw).use (by repeat' first|exact trivial|exact rfl|exact Iff.rfl|refine And.intro ?_ ?_) rfl rfl ?_⟩
 refine ⟨[],no_rl,(number_f w hw).use (by repeat' first|exact trivial|exact rfl|exact Iff.rfl|refine And.intro ?_ ?_) rfl rfl ?_⟩
 refine ⟨[],no_rl,(pshapeLit hs).use (And.intro rfl trivial) rfl rfl ?_⟩
 refine retE ?_
 (repeat' first | exact trivial | exact rfl | refine And.intro ?_ ?_)
 all_goals (show (_ : Int) = _; (try dsimp only [placesI,threeI]); first | omega | (unfold numT; omega))
set_option maxHeartbeats 8000000 in
set_option maxRecDepth 100000 in
theorem wideOf_18 (f w : Int) (hF : 1 <= f /\ f <= 100) (hs : shapeV f = 18) (hw : U32 w) : PureF gT 122 [.int .i64 f,.int .u32 w] (inP (rdI18 f w)):=by
 have b0:=bitsV_bd w 26 1
 have b1:=bitsV_bd w 12 3
 have b2:=bitsV_bd w 0 8
 have b3:=bitsV_bd w 20 1
 have b4:=bitsV_bd w 16 4
 have b5:=bitsV_bd w 8 4
 refine Spec.enter gTok P122 100 Tryz.func122 rfl (by kernel_rfl) ?_
 refine ⟨[],no_rl,(places_pure ⟨f,0,0,0,0,0,0,0,0,0,0⟩ w hw).use (by repeat' first|exact trivial|exact rfl|exact Iff.rfl|refine And.intro ?_ ?_) rfl rfl ?_⟩
 refine ⟨[],no_rl,(pshapeLit hs).use (And.intro rfl trivial) rfl rfl ?_⟩
 refine ⟨[],no_rl,(immediate_18 f w hF hs hw).use (by repeat' first|exact trivial|exact rfl|exact Iff.rfl|refine And.intro ?_ ?_) rfl rfl ?_⟩
 exact retE (leK_refl _)
set_option maxHeartbeats 8000000 in
set_option maxRecDepth 100000 in
theorem immediate_19 (f w : Int) (hF : 1 <= f /\ f <= 100) (hs : shapeV f = 19) (hw : U32 w) : PureF gT 173 [.int .i64 f,.int .u32 w] (inP (rdI19 f w)):=by
 have b0:=bitsV_bd w 26 1
 have b1:=bitsV_bd w 12 3
 have b2:=bitsV_bd w 0 8
 have b3:=bitsV_bd w 20 1
 have b4:=bitsV_bd w 8 4
 unfold rdI19
 refine Spec.enter gTok P173 100 Tryz.func173 rfl (by kernel_rfl) ?_
 refine ⟨[],no_rl,(places_pure ⟨f,0,0,0,0,0,0,0,0,0,0⟩ w hw).use (by repeat' first|exact trivial|exact rfl|exact Iff.rfl|refine And.intro ?_ ?_) rfl rfl ?_⟩
 refine ⟨[],no_rl,(number_f w hw).use (by repeat' first|exact trivial|exact rfl|exact Iff.rfl|refine And.intro ?_ ?_) rfl rfl ?_⟩
 refine ⟨[],no_rl,(pshapeLit hs).use (And.intro rfl trivial) rfl rfl ?_⟩
 refine retE ?_
 (repeat' first | exact trivial | exact rfl | refine And.intro ?_ ?_)
 all_goals (show (_ : Int) = _; (try dsimp only [placesI,threeI]); first | omega | (unfold numT; omega))
set_option maxHeartbeats 8000000 in
set_option maxRecDepth 100000 in
theorem wideOf_19 (f w : Int) (hF : 1 <= f /\ f <= 100) (hs : shapeV f = 19) (hw : U32 w) : PureF gT 122 [.int .i64 f,.int .u32 w] (inP (rdI19 f w)):=by
 have b0:=bitsV_bd w 26 1
 have b1:=bitsV_bd w 12 3
 have b2:=bitsV_bd w 0 8
 have b3:=bitsV_bd w 20 1
 have b4:=bitsV_bd w 8 4
 refine Spec.enter gTok P122 100 Tryz.func122 rfl (by kernel_rfl) ?_
 refine ⟨[],no_rl,(places_pure ⟨f,0,0,0,0,0,0,0,0,0,0⟩ w hw).use (by repeat' first|exact trivial|exact rfl|exact Iff.rfl|refine And.intro ?_ ?_) rfl rfl ?_⟩
 refine ⟨[],no_rl,(pshapeLit hs).use (And.intro rfl trivial) rfl rfl ?_⟩
 refine ⟨[],no_rl,(immediate_19 f w hF hs hw).use (by repeat' first|exact trivial|exact rfl|exact Iff.rfl|refine And.intro ?_ ?_) rfl rfl ?_⟩
 exact retE (leK_refl _)
set_option maxHeartbeats 8000000 in
set_option maxRecDepth 100000 in
theorem immediate_20 (f w : Int) (hF : 1 <= f /\ f <= 100) (hs : shapeV f = 20) (hw : U32 w) : PureF gT 173 [.int .i64 f,.int .u32 w] (inP (rdI20 f w)):=by
 have b0:=bitsV_bd w 26 1
 have b1:=bitsV_bd w 12 3
 have b2:=bitsV_bd w 0 8
 have b3:=bitsV_bd w 16 4
 unfold rdI20
 refine Spec.enter gTok P173 100 Tryz.func173 rfl (by kernel_rfl) ?_
 refine ⟨[],no_rl,(places_pure ⟨f,0,0,0,0,0,0,0,0,0,0⟩ w hw).use (by repeat' first|exact trivial|exact rfl|exact Iff.rfl|refine And.intro ?_ ?_) rfl rfl ?_⟩
 refine ⟨[],no_rl,(number_f w hw).use (by repeat' first|exact trivial|exact rfl|exact Iff.rfl|refine And.intro ?_ ?_) rfl rfl ?_⟩
 refine ⟨[],no_rl,(pshapeLit hs).use (And.intro rfl trivial) rfl rfl ?_⟩
 refine retE ?_
 (repeat' first | exact trivial | exact rfl | refine And.intro ?_ ?_)
 all_goals (show (_ : Int) = _; (try dsimp only [placesI,threeI]); first | omega | (unfold numT; omega))
set_option maxHeartbeats 8000000 in
set_option maxRecDepth 100000 in
theorem wideOf_20 (f w : Int) (hF : 1 <= f /\ f <= 100) (hs : shapeV f = 20) (hw : U32 w) : PureF gT 122 [.int .i64 f,.int .u32 w] (inP (rdI20 f w)):=by
 have b0:=bitsV_bd w 26 1
 have b1:=bitsV_bd w 12 3
 have b2:=bitsV_bd w 0 8
 have b3:=bitsV_bd w 16 4
 refine Spec.enter gTok P122 100 Tryz.func122 rfl (by kernel_rfl) ?_
 refine ⟨[],no_rl,(places_pure ⟨f,0,0,0,0,0,0,0,0,0,0⟩ w hw).use (by repeat' first|exact trivial|exact rfl|exact Iff.rfl|refine And.intro ?_ ?_) rfl rfl ?_⟩
 refine ⟨[],no_rl,(pshapeLit hs).use (And.intro rfl trivial) rfl rfl ?_⟩
 refine ⟨[],no_rl,(immediate_20 f w hF hs hw).use (by repeat' first|exact trivial|exact rfl|exact Iff.rfl|refine And.intro ?_ ?_) rfl rfl ?_⟩
 exact retE (leK_refl _)
set_option maxHeartbeats 8000000 in
set_option maxRecDepth 100000 in
theorem barrel_21 (f w : Int) (hF : 1 <= f /\ f <= 100) (hs : shapeV f = 21) (hw : U32 w) : PureF gT 174 [.int .i64 f,.int .u32 w] (inP (rdI21 f w)):=by
 have b0:=bitsV_bd w 12 3
 have b1:=bitsV_bd w 6 2
 have b2:=bitsV_bd w 4 2
 have b3:=bitsV_bd w 20 1
 have b4:=bitsV_bd w 16 4
 have b5:=bitsV_bd w 8 4
 have b6:=bitsV_bd w 0 4
 unfold rdI21
 refine Spec.enter gTok P174 100 Tryz.func174 rfl (by kernel_rfl) ?_
 refine ⟨[],no_rl,(places_pure ⟨f,0,0,0,0,0,0,0,0,0,0⟩ w hw).use (by repeat' first|exact trivial|exact rfl|exact Iff.rfl|refine And.intro ?_ ?_) rfl rfl ?_⟩
 refine ⟨[],no_rl,(at_pure w 4 2 hw (by decide) (by decide)).use (And.intro rfl (And.intro rfl (And.intro rfl trivial))) rfl rfl ?_⟩
 refine ⟨[],no_rl,(at_pure w 12 3 hw (by decide) (by decide)).use (And.intro rfl (And.intro rfl (And.intro rfl trivial))) rfl rfl ?_⟩
 refine ⟨by decide,.inl ⟨inR_i64 (by rw [q2]; omega),?_⟩⟩
 refine ⟨[],no_rl,(at_pure w 6 2 hw (by decide) (by decide)).use (And.intro rfl (And.intro rfl (And.intro rfl trivial))) rfl rfl ?_⟩
 have ek : bitsV w 4 2 = 0 + bitsV w 4 2 * 2 ^ 0:=by omega
 have e : bits .or .i64 (bitsV w 12 3 * Ev.pow2 .i64 2) (bitsV w 6 2) = 0 + bitsV w 12 3 * 2 ^ 2 + bitsV w 6 2 * 2 ^ 0:=by
  rw [q2,Rm.i64_join (bitsV w 12 3 * 4) (bitsV w 6 2) 2 (by omega) (by omega) (by omega) (by omega) (by omega) (by omega)]; omega
 refine ⟨[],no_rl,(turned_pure (0 + bitsV w 4 2 * 2 ^ 0) (0 + bitsV w 12 3 * 2 ^ 2 + bitsV w 6 2 * 2 ^ 0)).use (And.intro ek (And.intro e trivial)) rfl rfl ?_⟩
 repeat (refine And.intro ?_ ?_; rotate_left; focus (
  repeat' (first
   | refine Exists.intro [] (And.intro no_rl ((at_pure w 4 2 hw (by decide) (by decide)).use (And.intro rfl (And.intro rfl (And.intro rfl trivial))) rfl rfl ?_))
   | refine Exists.intro [] (And.intro no_rl ((at_pure w 12 3 hw (by decide) (by decide)).use (And.intro rfl (And.intro rfl (And.intro rfl trivial))) rfl rfl ?_))
   | refine Exists.intro [] (And.intro no_rl ((at_pure w 6 2 hw (by decide) (by decide)).use (And.intro rfl (And.intro rfl (And.intro rfl trivial))) rfl rfl ?_))
   | refine Exists.intro [] (And.intro no_rl ((turned_pure (0 + bitsV w 4 2 * 2 ^ 0) (0 + bitsV w 12 3 * 2 ^ 2 + bitsV w 6 2 * 2 ^ 0)).use (And.intro ek (And.intro e trivial)) rfl rfl ?_))
   | refine And.intro (show (0 : Int) <= 2 by decide) (Or.inl (And.intro (inR_i64 (by rw [q2]; omega)) ?_))
   | exact rfl
   | exact trivial
   | refine And.intro ?_ ?_)))
 refine ⟨[],no_rl,(pshapeLit hs).use (And.intro rfl trivial) rfl rfl ?_⟩
 refine ⟨[],no_rl,(pshapeLit hs).use (And.intro rfl trivial) rfl rfl ?_⟩
 refine retE ?_
 (repeat' first | exact trivial | exact rfl | refine And.intro ?_ ?_)
 all_goals (show (_ : Int) = _; (try dsimp only [placesI,threeI]); first | omega | (unfold numT; omega))
set_option maxHeartbeats 8000000 in
set_option maxRecDepth 100000 in
theorem wideOf_21 (f w : Int) (hF : 1 <= f /\ f <= 100) (hs : shapeV f = 21) (hw : U32 w) : PureF gT 122 [.int .i64 f,.int .u32 w] (inP (rdI21 f w)):=by
 have b0:=bitsV_bd w 12 3
 have b1:=bitsV_bd w 6 2
 have b2:=bitsV_bd w 4 2
 have b3:=bitsV_bd w 20 1
 have b4:=bitsV_bd w 16 4
 have b5:=bitsV_bd w 8 4
 have b6:=bitsV_bd w 0 4
 refine Spec.enter gTok P122 100 Tryz.func122 rfl (by kernel_rfl) ?_
 refine ⟨[],no_rl,(places_pure ⟨f,0,0,0,0,0,0,0,0,0,0⟩ w hw).use (by repeat' first|exact trivial|exact rfl|exact Iff.rfl|refine And.intro ?_ ?_) rfl rfl ?_⟩
 refine ⟨[],no_rl,(pshapeLit hs).use (And.intro rfl trivial) rfl rfl ?_⟩
 refine ⟨[],no_rl,(barrel_21 f w hF hs hw).use (by repeat' first|exact trivial|exact rfl|exact Iff.rfl|refine And.intro ?_ ?_) rfl rfl ?_⟩
 exact retE (leK_refl _)
set_option maxHeartbeats 8000000 in
set_option maxRecDepth 100000 in
theorem barrel_22 (f w : Int) (hF : 1 <= f /\ f <= 100) (hs : shapeV f = 22) (hw : U32 w) : PureF gT 174 [.int .i64 f,.int .u32 w] (inP (rdI22 f w)):=by
 have b0:=bitsV_bd w 12 3
 have b1:=bitsV_bd w 6 2
 have b2:=bitsV_bd w 4 2
 have b3:=bitsV_bd w 20 1
 have b4:=bitsV_bd w 8 4
 have b5:=bitsV_bd w 0 4
 unfold rdI22
 refine Spec.enter gTok P174 100 Tryz.func174 rfl (by kernel_rfl) ?_
 refine ⟨[],no_rl,(places_pure ⟨f,0,0,0,0,0,0,0,0,0,0⟩ w hw).use (by repeat' first|exact trivial|exact rfl|exact Iff.rfl|refine And.intro ?_ ?_) rfl rfl ?_⟩
 refine ⟨[],no_rl,(at_pure w 4 2 hw (by decide) (by decide)).use (And.intro rfl (And.intro rfl (And.intro rfl trivial))) rfl rfl ?_⟩
 refine ⟨[],no_rl,(at_pure w 12 3 hw (by decide) (by decide)).use (And.intro rfl (And.intro rfl (And.intro rfl trivial))) rfl rfl ?_⟩
 refine ⟨by decide,.inl ⟨inR_i64 (by rw [q2]; omega),?_⟩⟩
 refine ⟨[],no_rl,(at_pure w 6 2 hw (by decide) (by decide)).use (And.intro rfl (And.intro rfl (And.intro rfl trivial))) rfl rfl ?_⟩
 have ek : bitsV w 4 2 = 0 + bitsV w 4 2 * 2 ^ 0:=by omega
 have e : bits .or .i64 (bitsV w 12 3 * Ev.pow2 .i64 2) (bitsV w 6 2) = 0 + bitsV w 12 3 * 2 ^ 2 + bitsV w 6 2 * 2 ^ 0:=by
  rw [q2,Rm.i64_join (bitsV w 12 3 * 4) (bitsV w 6 2) 2 (by omega) (by omega) (by omega) (by omega) (by omega) (by omega)]; omega
 refine ⟨[],no_rl,(turned_pure (0 + bitsV w 4 2 * 2 ^ 0) (0 + bitsV w 12 3 * 2 ^ 2 + bitsV w 6 2 * 2 ^ 0)).use (And.intro ek (And.intro e trivial)) rfl rfl ?_⟩
 repeat (refine And.intro ?_ ?_; rotate_left; focus (
  repeat' (first
   | refine Exists.intro [] (And.intro no_rl ((at_pure w 4 2 hw (by decide) (by decide)).use (And.intro rfl (And.intro rfl (And.intro rfl trivial))) rfl rfl ?_))
   | refine Exists.intro [] (And.intro no_rl ((at_pure w 12 3 hw (by decide) (by decide)).use (And.intro rfl (And.intro rfl (And.intro rfl trivial))) rfl rfl ?_))
   | refine Exists.intro [] (And.intro no_rl ((at_pure w 6 2 hw (by decide) (by decide)).use (And.intro rfl (And.intro rfl (And.intro rfl trivial))) rfl rfl ?_))
   | refine Exists.intro [] (And.intro no_rl ((turned_pure (0 + bitsV w 4 2 * 2 ^ 0) (0 + bitsV w 12 3 * 2 ^ 2 + bitsV w 6 2 * 2 ^ 0)).use (And.intro ek (And.intro e trivial)) rfl rfl ?_))
   | refine And.intro (show (0 : Int) <= 2 by decide) (Or.inl (And.intro (inR_i64 (by rw [q2]; omega)) ?_))
   | exact rfl
   | exact trivial
   | refine And.intro ?_ ?_)))
 refine ⟨[],no_rl,(pshapeLit hs).use (And.intro rfl trivial) rfl rfl ?_⟩
 refine ⟨[],no_rl,(pshapeLit hs).use (And.intro rfl trivial) rfl rfl ?_⟩
 refine retE ?_
 (repeat' first | exact trivial | exact rfl | refine And.intro ?_ ?_)
 all_goals (show (_ : Int) = _; (try dsimp only [placesI,threeI]); first | omega | (unfold numT; omega))
set_option maxHeartbeats 8000000 in
set_option maxRecDepth 100000 in
theorem wideOf_22 (f w : Int) (hF : 1 <= f /\ f <= 100) (hs : shapeV f = 22) (hw : U32 w) : PureF gT 122 [.int .i64 f,.int .u32 w] (inP (rdI22 f w)):=by
 have b0:=bitsV_bd w 12 3
 have b1:=bitsV_bd w 6 2
 have b2:=bitsV_bd w 4 2
 have b3:=bitsV_bd w 20 1
 have b4:=bitsV_bd w 8 4
 have b5:=bitsV_bd w 0 4
 refine Spec.enter gTok P122 100 Tryz.func122 rfl (by kernel_rfl) ?_
 refine ⟨[],no_rl,(places_pure ⟨f,0,0,0,0,0,0,0,0,0,0⟩ w hw).use (by repeat' first|exact trivial|exact rfl|exact Iff.rfl|refine And.intro ?_ ?_) rfl rfl ?_⟩
 refine ⟨[],no_rl,(pshapeLit hs).use (And.intro rfl trivial) rfl rfl ?_⟩
 refine ⟨[],no_rl,(barrel_22 f w hF hs hw).use (by repeat' first|exact trivial|exact rfl|exact Iff.rfl|refine And.intro ?_ ?_) rfl rfl ?_⟩
 exact retE (leK_refl _)
set_option maxHeartbeats 8000000 in
set_option maxRecDepth 100000 in
theorem barrel_23 (f w : Int) (hF : 1 <= f /\ f <= 100) (hs : shapeV f = 23) (hw : U32 w) : PureF gT 174 [.int .i64 f,.int .u32 w] (inP (rdI23 f w)):=by
 have b0:=bitsV_bd w 12 3
 have b1:=bitsV_bd w 6 2
 have b2:=bitsV_bd w 4 2
 have b3:=bitsV_bd w 16 4
 have b4:=bitsV_bd w 0 4
 unfold rdI23
 refine Spec.enter gTok P174 100 Tryz.func174 rfl (by kernel_rfl) ?_
 refine ⟨[],no_rl,(places_pure ⟨f,0,0,0,0,0,0,0,0,0,0⟩ w hw).use (by repeat' first|exact trivial|exact rfl|exact Iff.rfl|refine And.intro ?_ ?_) rfl rfl ?_⟩
 refine ⟨[],no_rl,(at_pure w 4 2 hw (by decide) (by decide)).use (And.intro rfl (And.intro rfl (And.intro rfl trivial))) rfl rfl ?_⟩
 refine ⟨[],no_rl,(at_pure w 12 3 hw (by decide) (by decide)).use (And.intro rfl (And.intro rfl (And.intro rfl trivial))) rfl rfl ?_⟩
 refine ⟨by decide,.inl ⟨inR_i64 (by rw [q2]; omega),?_⟩⟩
 refine ⟨[],no_rl,(at_pure w 6 2 hw (by decide) (by decide)).use (And.intro rfl (And.intro rfl (And.intro rfl trivial))) rfl rfl ?_⟩
 have ek : bitsV w 4 2 = 0 + bitsV w 4 2 * 2 ^ 0:=by omega
 have e : bits .or .i64 (bitsV w 12 3 * Ev.pow2 .i64 2) (bitsV w 6 2) = 0 + bitsV w 12 3 * 2 ^ 2 + bitsV w 6 2 * 2 ^ 0:=by
  rw [q2,Rm.i64_join (bitsV w 12 3 * 4) (bitsV w 6 2) 2 (by omega) (by omega) (by omega) (by omega) (by omega) (by omega)]; omega
 refine ⟨[],no_rl,(turned_pure (0 + bitsV w 4 2 * 2 ^ 0) (0 + bitsV w 12 3 * 2 ^ 2 + bitsV w 6 2 * 2 ^ 0)).use (And.intro ek (And.intro e trivial)) rfl rfl ?_⟩
 repeat (refine And.intro ?_ ?_; rotate_left; focus (
  repeat' (first
   | refine Exists.intro [] (And.intro no_rl ((at_pure w 4 2 hw (by decide) (by decide)).use (And.intro rfl (And.intro rfl (And.intro rfl trivial))) rfl rfl ?_))
   | refine Exists.intro [] (And.intro no_rl ((at_pure w 12 3 hw (by decide) (by decide)).use (And.intro rfl (And.intro rfl (And.intro rfl trivial))) rfl rfl ?_))
   | refine Exists.intro [] (And.intro no_rl ((at_pure w 6 2 hw (by decide) (by decide)).use (And.intro rfl (And.intro rfl (And.intro rfl trivial))) rfl rfl ?_))
   | refine Exists.intro [] (And.intro no_rl ((turned_pure (0 + bitsV w 4 2 * 2 ^ 0) (0 + bitsV w 12 3 * 2 ^ 2 + bitsV w 6 2 * 2 ^ 0)).use (And.intro ek (And.intro e trivial)) rfl rfl ?_))
   | refine And.intro (show (0 : Int) <= 2 by decide) (Or.inl (And.intro (inR_i64 (by rw [q2]; omega)) ?_))
   | exact rfl
   | exact trivial
   | refine And.intro ?_ ?_)))
 refine ⟨[],no_rl,(pshapeLit hs).use (And.intro rfl trivial) rfl rfl ?_⟩
 refine ⟨[],no_rl,(pshapeLit hs).use (And.intro rfl trivial) rfl rfl ?_⟩
 refine retE ?_
 (repeat' first | exact trivial | exact rfl | refine And.intro ?_ ?_)
 all_goals (show (_ : Int) = _; (try dsimp only [placesI,threeI]); first | omega | (unfold numT; omega))
set_option maxHeartbeats 8000000 in
set_option maxRecDepth 100000 in
theorem wideOf_23 (f w : Int) (hF : 1 <= f /\ f <= 100) (hs : shapeV f = 23) (hw : U32 w) : PureF gT 122 [.int .i64 f,.int .u32 w] (inP (rdI23 f w)):=by
 have b0:=bitsV_bd w 12 3
 have b1:=bitsV_bd w 6 2
 have b2:=bitsV_bd w 4 2
 have b3:=bitsV_bd w 16 4
 have b4:=bitsV_bd w 0 4
 refine Spec.enter gTok P122 100 Tryz.func122 rfl (by kernel_rfl) ?_
 refine ⟨[],no_rl,(places_pure ⟨f,0,0,0,0,0,0,0,0,0,0⟩ w hw).use (by repeat' first|exact trivial|exact rfl|exact Iff.rfl|refine And.intro ?_ ?_) rfl rfl ?_⟩
 refine ⟨[],no_rl,(pshapeLit hs).use (And.intro rfl trivial) rfl rfl ?_⟩
 refine ⟨[],no_rl,(barrel_23 f w hF hs hw).use (by repeat' first|exact trivial|exact rfl|exact Iff.rfl|refine And.intro ?_ ?_) rfl rfl ?_⟩
 exact retE (leK_refl _)
set_option maxHeartbeats 8000000 in
set_option maxRecDepth 100000 in
theorem immediate_24 (f w : Int) (hF : 1 <= f /\ f <= 100) (hs : shapeV f = 24) (hw : U32 w) : PureF gT 173 [.int .i64 f,.int .u32 w] (inP (rdI24 f w)):=by
 have b0:=bitsV_bd w 26 1
 have b1:=bitsV_bd w 12 3
 have b2:=bitsV_bd w 0 8
 have b3:=bitsV_bd w 16 4
 have b4:=bitsV_bd w 8 4
 unfold rdI24
 refine Spec.enter gTok P173 100 Tryz.func173 rfl (by kernel_rfl) ?_
 refine ⟨[],no_rl,(places_pure ⟨f,0,0,0,0,0,0,0,0,0,0⟩ w hw).use (by repeat' first|exact trivial|exact rfl|exact Iff.rfl|refine And.intro ?_ ?_) rfl rfl ?_⟩
 refine ⟨[],no_rl,(number_f w hw).use (by repeat' first|exact trivial|exact rfl|exact Iff.rfl|refine And.intro ?_ ?_) rfl rfl ?_⟩
 refine ⟨[],no_rl,(pshapeLit hs).use (And.intro rfl trivial) rfl rfl ?_⟩
 refine retE ?_
 (repeat' first | exact trivial | exact rfl | refine And.intro ?_ ?_)
 all_goals (show (_ : Int) = _; (try dsimp only [placesI,threeI]); first | omega | (unfold numT; omega))
set_option maxHeartbeats 8000000 in
set_option maxRecDepth 100000 in
theorem wideOf_24 (f w : Int) (hF : 1 <= f /\ f <= 100) (hs : shapeV f = 24) (hw : U32 w) : PureF gT 122 [.int .i64 f,.int .u32 w] (inP (rdI24 f w)):=by
 have b0:=bitsV_bd w 26 1
 have b1:=bitsV_bd w 12 3
 have b2:=bitsV_bd w 0 8
 have b3:=bitsV_bd w 16 4
 have b4:=bitsV_bd w 8 4
 refine Spec.enter gTok P122 100 Tryz.func122 rfl (by kernel_rfl) ?_
 refine ⟨[],no_rl,(places_pure ⟨f,0,0,0,0,0,0,0,0,0,0⟩ w hw).use (by repeat' first|exact trivial|exact rfl|exact Iff.rfl|refine And.intro ?_ ?_) rfl rfl ?_⟩
 refine ⟨[],no_rl,(pshapeLit hs).use (And.intro rfl trivial) rfl rfl ?_⟩
 refine ⟨[],no_rl,(immediate_24 f w hF hs hw).use (by repeat' first|exact trivial|exact rfl|exact Iff.rfl|refine And.intro ?_ ?_) rfl rfl ?_⟩
 exact retE (leK_refl _)
set_option maxHeartbeats 8000000 in
set_option maxRecDepth 100000 in
theorem wideOf_25 (f w : Int) (hF : 1 <= f /\ f <= 100) (hs : shapeV f = 25) (hw : U32 w) : PureF gT 122 [.int .i64 f,.int .u32 w] (inP (rdI25 f w)):=by
 have b0:=bitsV_bd w 16 4
 have b1:=bitsV_bd w 12 4
 have b2:=bitsV_bd w 0 12
 unfold rdI25
 refine Spec.enter gTok P122 100 Tryz.func122 rfl (by kernel_rfl) ?_
 refine ⟨[],no_rl,(places_pure ⟨f,0,0,0,0,0,0,0,0,0,0⟩ w hw).use (by repeat' first|exact trivial|exact rfl|exact Iff.rfl|refine And.intro ?_ ?_) rfl rfl ?_⟩
 refine ⟨[],no_rl,(pshapeLit hs).use (And.intro rfl trivial) rfl rfl ?_⟩
 refine ⟨[],no_rl,(at_pure w 12 4 hw (by decide) (by decide)).use (And.intro rfl (And.intro rfl (And.intro rfl trivial))) rfl rfl ?_⟩
 refine ⟨[],no_rl,(at_pure w 0 12 hw (by decide) (by decide)).use (And.intro rfl (And.intro rfl (And.intro rfl trivial))) rfl rfl ?_⟩
 refine retE ?_
 (repeat' first | exact trivial | exact rfl | refine And.intro ?_ ?_)
 all_goals (show (_ : Int) = _; (try dsimp only [placesI,threeI]); first | omega | (unfold numT; omega))
set_option maxHeartbeats 8000000 in
set_option maxRecDepth 100000 in
theorem wideOf_26 (f w : Int) (hF : 1 <= f /\ f <= 100) (hs : shapeV f = 26) (hw : U32 w) : PureF gT 122 [.int .i64 f,.int .u32 w] (inP (rdI26 f w)):=by
 have b0:=bitsV_bd w 16 4
 have b1:=bitsV_bd w 12 4
 have b2:=bitsV_bd w 4 2
 have b3:=bitsV_bd w 0 4
 unfold rdI26
 refine Spec.enter gTok P122 100 Tryz.func122 rfl (by kernel_rfl) ?_
 refine ⟨[],no_rl,(places_pure ⟨f,0,0,0,0,0,0,0,0,0,0⟩ w hw).use (by repeat' first|exact trivial|exact rfl|exact Iff.rfl|refine And.intro ?_ ?_) rfl rfl ?_⟩
 refine ⟨[],no_rl,(pshapeLit hs).use (And.intro rfl trivial) rfl rfl ?_⟩
 refine ⟨[],no_rl,(at_pure w 12 4 hw (by decide) (by decide)).use (And.intro rfl (And.intro rfl (And.intro rfl trivial))) rfl rfl ?_⟩
 refine ⟨[],no_rl,(at_pure w 4 2 hw (by decide) (by decide)).use (And.intro rfl (And.intro rfl (And.intro rfl trivial))) rfl rfl ?_⟩
 refine retE ?_
 (repeat' first | exact trivial | exact rfl | refine And.intro ?_ ?_)
 all_goals (show (_ : Int) = _; (try dsimp only [placesI,threeI]); first | omega | (unfold numT; omega))
set_option maxHeartbeats 8000000 in
set_option maxRecDepth 100000 in
theorem wideOf_27 (f w : Int) (hF : 1 <= f /\ f <= 100) (hs : shapeV f = 27) (hw : U32 w) : PureF gT 122 [.int .i64 f,.int .u32 w] (inP (rdI27 f w)):=by
 have b0:=bitsV_bd w 20 1
 have b1:=bitsV_bd w 16 4
 have b2:=bitsV_bd w 8 4
 have b3:=bitsV_bd w 0 4
 unfold rdI27
 refine Spec.enter gTok P122 100 Tryz.func122 rfl (by kernel_rfl) ?_
 refine ⟨[],no_rl,(places_pure ⟨f,0,0,0,0,0,0,0,0,0,0⟩ w hw).use (by repeat' first|exact trivial|exact rfl|exact Iff.rfl|refine And.intro ?_ ?_) rfl rfl ?_⟩
 refine ⟨[],no_rl,(pshapeLit hs).use (And.intro rfl trivial) rfl rfl ?_⟩
 refine retE ?_
 (repeat' first | exact trivial | exact rfl | refine And.intro ?_ ?_)
 all_goals (show (_ : Int) = _; (try dsimp only [placesI,threeI]); first | omega | (unfold numT; omega))
set_option maxHeartbeats 8000000 in
set_option maxRecDepth 100000 in
theorem wideOf_28 (f w : Int) (hF : 1 <= f /\ f <= 100) (hs : shapeV f = 28) (hw : U32 w) : PureF gT 122 [.int .i64 f,.int .u32 w] (inP (rdI28 f w)):=by
 have b0:=bitsV_bd w 16 4
 have b1:=bitsV_bd w 8 4
 have b2:=bitsV_bd w 0 4
 unfold rdI28
 refine Spec.enter gTok P122 100 Tryz.func122 rfl (by kernel_rfl) ?_
 refine ⟨[],no_rl,(places_pure ⟨f,0,0,0,0,0,0,0,0,0,0⟩ w hw).use (by repeat' first|exact trivial|exact rfl|exact Iff.rfl|refine And.intro ?_ ?_) rfl rfl ?_⟩
 refine ⟨[],no_rl,(pshapeLit hs).use (And.intro rfl trivial) rfl rfl ?_⟩
 refine retE ?_
 (repeat' first | exact trivial | exact rfl | refine And.intro ?_ ?_)
 all_goals (show (_ : Int) = _; (try dsimp only [placesI,threeI]); first | omega | (unfold numT; omega))
set_option maxHeartbeats 8000000 in
set_option maxRecDepth 100000 in
theorem wideOf_29 (f w : Int) (hF : 1 <= f /\ f <= 100) (hs : shapeV f = 29) (hw : U32 w) : PureF gT 122 [.int .i64 f,.int .u32 w] (inP (rdI29 f w)):=by
 have b0:=bitsV_bd w 16 4
 have b1:=bitsV_bd w 12 4
 have b2:=bitsV_bd w 8 4
 have b3:=bitsV_bd w 0 4
 unfold rdI29
 refine Spec.enter gTok P122 100 Tryz.func122 rfl (by kernel_rfl) ?_
 refine ⟨[],no_rl,(places_pure ⟨f,0,0,0,0,0,0,0,0,0,0⟩ w hw).use (by repeat' first|exact trivial|exact rfl|exact Iff.rfl|refine And.intro ?_ ?_) rfl rfl ?_⟩
 refine ⟨[],no_rl,(pshapeLit hs).use (And.intro rfl trivial) rfl rfl ?_⟩
 refine ⟨[],no_rl,(at_pure w 12 4 hw (by decide) (by decide)).use (And.intro rfl (And.intro rfl (And.intro rfl trivial))) rfl rfl ?_⟩
 refine retE ?_
 (repeat' first | exact trivial | exact rfl | refine And.intro ?_ ?_)
 all_goals (show (_ : Int) = _; (try dsimp only [placesI,threeI]); first | omega | (unfold numT; omega))
set_option maxHeartbeats 8000000 in
set_option maxRecDepth 100000 in
theorem wideOf_30 (f w : Int) (hF : 1 <= f /\ f <= 100) (hs : shapeV f = 30) (hw : U32 w) : PureF gT 122 [.int .i64 f,.int .u32 w] (inP (rdI30 f w)):=by
 have b0:=bitsV_bd w 16 4
 have b1:=bitsV_bd w 12 4
 have b2:=bitsV_bd w 8 4
 have b3:=bitsV_bd w 0 4
 unfold rdI30
 refine Spec.enter gTok P122 100 Tryz.func122 rfl (by kernel_rfl) ?_
 refine ⟨[],no_rl,(places_pure ⟨f,0,0,0,0,0,0,0,0,0,0⟩ w hw).use (by repeat' first|exact trivial|exact rfl|exact Iff.rfl|refine And.intro ?_ ?_) rfl rfl ?_⟩
 refine ⟨[],no_rl,(pshapeLit hs).use (And.intro rfl trivial) rfl rfl ?_⟩
 refine ⟨[],no_rl,(at_pure w 12 4 hw (by decide) (by decide)).use (And.intro rfl (And.intro rfl (And.intro rfl trivial))) rfl rfl ?_⟩
 refine retE ?_
 (repeat' first | exact trivial | exact rfl | refine And.intro ?_ ?_)
 all_goals (show (_ : Int) = _; (try dsimp only [placesI,threeI]); first | omega | (unfold numT; omega))
set_option maxHeartbeats 8000000 in
set_option maxRecDepth 100000 in
theorem wideOf_31 (f w : Int) (hF : 1 <= f /\ f <= 100) (hs : shapeV f = 31) (hw : U32 w) : PureF gT 122 [.int .i64 f,.int .u32 w] (inP (rdI31 f w)):=by
 have b0:=bitsV_bd w 16 4
 have b1:=bitsV_bd w 12 4
 have b2:=bitsV_bd w 8 4
 have b3:=bitsV_bd w 0 4
 unfold rdI31
 refine Spec.enter gTok P122 100 Tryz.func122 rfl (by kernel_rfl) ?_
 refine ⟨[],no_rl,(places_pure ⟨f,0,0,0,0,0,0,0,0,0,0⟩ w hw).use (by repeat' first|exact trivial|exact rfl|exact Iff.rfl|refine And.intro ?_ ?_) rfl rfl ?_⟩
 refine ⟨[],no_rl,(pshapeLit hs).use (And.intro rfl trivial) rfl rfl ?_⟩
 refine ⟨[],no_rl,(at_pure w 12 4 hw (by decide) (by decide)).use (And.intro rfl (And.intro rfl (And.intro rfl trivial))) rfl rfl ?_⟩
 refine retE ?_
 (repeat' first | exact trivial | exact rfl | refine And.intro ?_ ?_)
 all_goals (show (_ : Int) = _; (try dsimp only [placesI,threeI]); first | omega | (unfold numT; omega))
set_option maxHeartbeats 8000000 in
set_option maxRecDepth 100000 in
theorem wideOf_32 (f w : Int) (hF : 1 <= f /\ f <= 100) (hs : shapeV f = 32) (hw : U32 w) : PureF gT 122 [.int .i64 f,.int .u32 w] (inP (rdI32 f w)):=by
 have b0:=bitsV_bd w 16 4
 have b1:=bitsV_bd w 8 4
 have b2:=bitsV_bd w 0 4
 unfold rdI32
 refine Spec.enter gTok P122 100 Tryz.func122 rfl (by kernel_rfl) ?_
 refine ⟨[],no_rl,(places_pure ⟨f,0,0,0,0,0,0,0,0,0,0⟩ w hw).use (by repeat' first|exact trivial|exact rfl|exact Iff.rfl|refine And.intro ?_ ?_) rfl rfl ?_⟩
 refine ⟨[],no_rl,(pshapeLit hs).use (And.intro rfl trivial) rfl rfl ?_⟩
 refine retE ?_
 (repeat' first | exact trivial | exact rfl | refine And.intro ?_ ?_)
 all_goals (show (_ : Int) = _; (try dsimp only [placesI,threeI]); first | omega | (unfold numT; omega))
set_option maxHeartbeats 8000000 in
set_option maxRecDepth 100000 in
theorem wideOf_33 (f w : Int) (hF : 1 <= f /\ f <= 100) (hs : shapeV f = 33) (hw : U32 w) : PureF gT 122 [.int .i64 f,.int .u32 w] (inP (rdI33 f w)):=by
 have b0:=bitsV_bd w 26 1
 have b1:=bitsV_bd w 22 4
 have b2:=bitsV_bd w 16 6
 have b3:=bitsV_bd w 13 1
 have b4:=bitsV_bd w 11 1
 have b5:=bitsV_bd w 0 11
 unfold rdI33
 refine Spec.enter gTok P122 100 Tryz.func122 rfl (by kernel_rfl) ?_
 refine ⟨[],no_rl,(places_pure ⟨f,0,0,0,0,0,0,0,0,0,0⟩ w hw).use (by repeat' first|exact trivial|exact rfl|exact Iff.rfl|refine And.intro ?_ ?_) rfl rfl ?_⟩
 refine ⟨[],no_rl,(pshapeLit hs).use (And.intro rfl trivial) rfl rfl ?_⟩
 refine ⟨[],no_rl,(at_pure w 22 4 hw (by decide) (by decide)).use (And.intro rfl (And.intro rfl (And.intro rfl trivial))) rfl rfl ?_⟩
 refine ⟨[],no_rl,(condOf_pure w hw).use (And.intro rfl trivial) rfl rfl ?_⟩
 refine retE ?_
 (repeat' first | exact trivial | exact rfl | refine And.intro ?_ ?_)
 all_goals (show (_ : Int) = _; (try dsimp only [placesI,threeI]); first | omega | (unfold numT; omega))
set_option maxHeartbeats 8000000 in
set_option maxRecDepth 100000 in
theorem wideOf_34 (f w : Int) (hF : 1 <= f /\ f <= 100) (hs : shapeV f = 34) (hw : U32 w) : PureF gT 122 [.int .i64 f,.int .u32 w] (inP (rdI34 f w)):=by
 have b0:=bitsV_bd w 26 1
 have b1:=bitsV_bd w 16 10
 have b2:=bitsV_bd w 13 1
 have b3:=bitsV_bd w 11 1
 have b4:=bitsV_bd w 0 11
 unfold rdI34
 refine Spec.enter gTok P122 100 Tryz.func122 rfl (by kernel_rfl) ?_
 refine ⟨[],no_rl,(places_pure ⟨f,0,0,0,0,0,0,0,0,0,0⟩ w hw).use (by repeat' first|exact trivial|exact rfl|exact Iff.rfl|refine And.intro ?_ ?_) rfl rfl ?_⟩
 refine ⟨[],no_rl,(pshapeLit hs).use (And.intro rfl trivial) rfl rfl ?_⟩
 refine ⟨[],no_rl,(jumpOf_pure w hw).use (And.intro rfl trivial) rfl rfl ?_⟩
 refine retE ?_
 (repeat' first | exact trivial | exact rfl | refine And.intro ?_ ?_)
 all_goals (show (_ : Int) = _; (try dsimp only [placesI,threeI]); first | omega | (unfold numT; omega))
end Go.Proofs.YtnbngokbamifbaaGreatDoor.Pw
namespace Go.Proofs.YtnbngokbamifbaaGreatDoor.Pw
open Go Go.RowKit
def inLs (i : IN) : List Int:=[i.form,i.rd,i.rn,i.rm,i.ra,i.imm,i.kind,i.by_,i.set,i.cond,i.regs]
def IOk (i : IN) : Prop:=∀ x ∈ inLs i,I64 x
end Go.Proofs.YtnbngokbamifbaaGreatDoor.Pw
namespace Go.Proofs.YtnbngokbamifbaaGreatDoor.Pw
open Go Go.RowKit
theorem shape_wide {f : Int} (h : 1 <= f /\ f <= 100) : 17 <= shapeV f ↔ 48 <= f:=by
 have h1 : ((List.range 100).all fun k=>decide (17 <= shapeV ((k + 1 : Nat) : Int) ↔ 48 <= k + 1)) = true:=by decide +kernel
 have h2:=of_decide_eq_true (List.all_eq_true.1 h1 (f.toNat - 1) (List.mem_range.2 (by omega)))
 rw [show (((f.toNat - 1 + 1 : Nat)) : Int) = f by omega] at h2
 omega
theorem cases16 {s : Int} (h : 1 <= s /\ s <= 16) : s = 1 \/ s = 2 \/ s = 3 \/ s = 4 \/ s = 5 \/ s = 6 \/ s = 7 \/ s = 8 \/ s = 9 \/ s = 10 \/ s = 11 \/ s = 12 \/ s = 13 \/ s = 14 \/ s = 15 \/ s = 16:=by omega
theorem cases18 {s : Int} (h : 17 <= s /\ s <= 34) : s = 17 \/ s = 18 \/ s = 19 \/ s = 20 \/ s = 21 \/ s = 22 \/ s = 23 \/ s = 24 \/ s = 25 \/ s = 26 \/ s = 27 \/ s = 28 \/ s = 29 \/ s = 30 \/ s = 31 \/ s = 32 \/ s = 33 \/ s = 34:=by omega
theorem narrowOf_all (f w : Int) (hF : 1 <= f /\ f <= 100) (hn : ¬ 48 <= f) (hw : U32 w) : PureF gT 121 [.int .i64 f,.int .u32 w] (inP (readV f w)):=by
 have h17:=shape_wide hF
 have hb:=shape_bd hF
 rcases cases16 (s:=shapeV f) (by omega) with hs | hs | hs | hs | hs | hs | hs | hs | hs | hs | hs | hs | hs | hs | hs | hs
 ·rw [rd_1 hs]; exact narrowOf_1 f w hF hs hw
 ·rw [rd_2 hs]; exact narrowOf_2 f w hF hs hw
 ·rw [rd_3 hs]; exact narrowOf_3 f w hF hs hw
 ·rw [rd_4 hs]; exact narrowOf_4 f w hF hs hw
 ·rw [rd_5 hs]; exact narrowOf_5 f w hF hs hw
 ·rw [rd_6 hs]; exact narrowOf_6 f w hF hs hw
 ·rw [rd_7 hs]; exact narrowOf_7 f w hF hs hw
 ·rw [rd_8 hs]; exact narrowOf_8 f w hF hs hw
 ·rw [rd_9 hs]; exact narrowOf_9 f w hF hs hw
 ·rw [rd_10 hs]; exact narrowOf_10 f w hF hs hw
 ·rw [rd_11 hs]; exact narrowOf_11 f w hF hs hw
 ·rw [rd_12 hs]; exact narrowOf_12 f w hF hs hw
 ·rw [rd_13 hs]; exact narrowOf_13 f w hF hs hw
 ·rw [rd_14 hs]; exact narrowOf_14 f w hF hs hw
 ·rw [rd_15 hs]; exact narrowOf_15 f w hF hs hw
 ·rw [rd_16 hs]; exact narrowOf_16 f w hF hs hw
 
theorem wideOf_all (f w : Int) (hF : 1 <= f /\ f <= 100) (hn : 48 <= f) (hw : U32 w) : PureF gT 122 [.int .i64 f,.int .u32 w] (inP (readV f w)):=by
 have h17:=shape_wide hF
 have hb:=shape_bd hF
 rcases cases18 (s:=shapeV f) (by omega) with hs | hs | hs | hs | hs | hs | hs | hs | hs | hs | hs | hs | hs | hs | hs | hs | hs | hs
 ·rw [rd_17 hs]; exact wideOf_17 f w hF hs hw
 ·rw [rd_18 hs]; exact wideOf_18 f w hF hs hw
 ·rw [rd_19 hs]; exact wideOf_19 f w hF hs hw
 ·rw [rd_20 hs]; exact wideOf_20 f w hF hs hw
 ·rw [rd_21 hs]; exact wideOf_21 f w hF hs hw
 ·rw [rd_22 hs]; exact wideOf_22 f w hF hs hw
 ·rw [rd_23 hs]; exact wideOf_23 f w hF hs hw
 ·rw [rd_24 hs]; exact wideOf_24 f w hF hs hw
 ·rw [rd_25 hs]; exact wideOf_25 f w hF hs hw
 ·rw [rd_26 hs]; exact wideOf_26 f w hF hs hw
 ·rw [rd_27 hs]; exact wideOf_27 f w hF hs hw
 ·rw [rd_28 hs]; exact wideOf_28 f w hF hs hw
 ·rw [rd_29 hs]; exact wideOf_29 f w hF hs hw
 ·rw [rd_30 hs]; exact wideOf_30 f w hF hs hw
 ·rw [rd_31 hs]; exact wideOf_31 f w hF hs hw
 ·rw [rd_32 hs]; exact wideOf_32 f w hF hs hw
 ·rw [rd_33 hs]; exact wideOf_33 f w hF hs hw
 ·rw [rd_34 hs]; exact wideOf_34 f w hF hs hw
 
def orV (i : IN) : Int:=((orF (turnI i) (fieldsV (shapeV i.form)) : Nat) : Int)
theorem narrow_all (i : IN) (hr : rightV i) (hn : ¬ 48 <= i.form) (hg : i.regs <= 9223372036854775807) : PureF gT 178 [inP i] (.int .u32 (orV i)):=by
 have h17:=shape_wide hr.1
 have hb:=shape_bd hr.1
 unfold orV
 unfold rightV at hr
 rw [turnI_not (by omega)]
 rcases cases16 (s:=shapeV i.form) (by omega) with hs | hs | hs | hs | hs | hs | hs | hs | hs | hs | hs | hs | hs | hs | hs | hs
 ·rw [hs] at hr ⊢; exact narrow_1 i hs hr hg
 ·rw [hs] at hr ⊢; exact narrow_2 i hs hr hg
 ·rw [hs] at hr ⊢; exact narrow_3 i hs hr hg
 ·rw [hs] at hr ⊢; exact narrow_4 i hs hr hg
 ·rw [hs] at hr ⊢; exact narrow_5 i hs hr hg
 ·rw [hs] at hr ⊢; exact narrow_6 i hs hr hg
 ·rw [hs] at hr ⊢; exact narrow_7 i hs hr hg
 ·rw [hs] at hr ⊢; exact narrow_8 i hs hr hg
 ·rw [hs] at hr ⊢; exact narrow_9 i hs hr hg
 ·rw [hs] at hr ⊢; exact narrow_10 i hs hr hg
 ·rw [hs] at hr ⊢; exact narrow_11 i hs hr hg
 ·rw [hs] at hr ⊢; exact narrow_12 i hs hr hg
 ·rw [hs] at hr ⊢; exact narrow_13 i hs hr hg
 ·rw [hs] at hr ⊢; exact narrow_14 i hs hr hg
 ·rw [hs] at hr ⊢; exact narrow_15 i hs hr hg
 ·rw [hs] at hr ⊢; exact narrow_16 i hs hr hg
 
theorem wide_all (i : IN) (hr : rightV i) (hn : 48 <= i.form) (hg : i.regs <= 9223372036854775807) : PureF gT 177 [inP i] (.int .u32 (orV i)):=by
 have h17:=shape_wide hr.1
 have hb:=shape_bd hr.1
 unfold orV
 unfold rightV at hr
 rcases cases18 (s:=shapeV i.form) (by omega) with hs | hs | hs | hs | hs | hs | hs | hs | hs | hs | hs | hs | hs | hs | hs | hs | hs | hs
 ·rw [turnI_not (by omega)]; rw [hs] at hr ⊢; exact wide_17 i hs hr hg
 ·rw [turnI_not (by omega)]; rw [hs] at hr ⊢; exact wide_18 i hs hr hg
 ·rw [turnI_not (by omega)]; rw [hs] at hr ⊢; exact wide_19 i hs hr hg
 ·rw [turnI_not (by omega)]; rw [hs] at hr ⊢; exact wide_20 i hs hr hg
 ·rw [turnI_not (by omega)]; rw [hs] at hr ⊢; exact wide_21 i hs hr hg
 ·rw [turnI_not (by omega)]; rw [hs] at hr ⊢; exact wide_22 i hs hr hg
 ·rw [turnI_not (by omega)]; rw [hs] at hr ⊢; exact wide_23 i hs hr hg
 ·rw [turnI_not (by omega)]; rw [hs] at hr ⊢; exact wide_24 i hs hr hg
 ·rw [turnI_not (by omega)]; rw [hs] at hr ⊢; exact wide_25 i hs hr hg
 ·rw [turnI_not (by omega)]; rw [hs] at hr ⊢; exact wide_26 i hs hr hg
 ·rw [turnI_not (by omega)]; rw [hs] at hr ⊢; exact wide_27 i hs hr hg
 ·rw [turnI_not (by omega)]; rw [hs] at hr ⊢; exact wide_28 i hs hr hg
 ·rw [turnI_not (by omega)]; rw [hs] at hr ⊢; exact wide_29 i hs hr hg
 ·rw [turnI_not (by omega)]; rw [hs] at hr ⊢; exact wide_30 i hs hr hg
 ·rw [turnI_not (by omega)]; rw [hs] at hr ⊢; exact wide_31 i hs hr hg
 ·rw [turnI_not (by omega)]; rw [hs] at hr ⊢; exact wide_32 i hs hr hg
 ·rw [turnI_not (by omega)]; rw [hs] at hr ⊢; exact wide_33 i hs hr hg
 ·rw [hs] at hr ⊢; exact wide_34 i hs hr hg
theorem orV_lt (i : IN) : orF (turnI i) (fieldsV (shapeV i.form)) < 4294967296:=by
 have h:=wordF_lt (turnI i) (fieldsV (shapeV i.form)) (fields_ok _)
 rw [wordF_or] at h
 exact Nat.lt_of_le_of_lt Nat.right_le_or h
theorem pack_or (i : IN) : bits .or .u32 (fbV i.form) (orV i) = wordV i:=by
 have b:=fb_bd i.form
 have l:=orV_lt i
 rw [word_or]
 unfold orV
 rw [u32_or _ _ b.1 b.2 (by omega) (by omega),Int.toNat_natCast]
set_option maxRecDepth 100000 in
theorem pack_pure (i : IN) (hr : rightV i) (hg : i.regs <= 9223372036854775807) : PureF gT 123 [inP i] (.int .u32 (wordV i)):=by
 refine Spec.enter gTok P123 100 Tryz.func123 rfl (by kernel_rfl) ?_
 refine ⟨[],no_rl,(form_wide i.form).use (by repeat' first|exact trivial|exact rfl|exact Iff.rfl|refine And.intro ?_ ?_) rfl rfl ?_⟩
 refine And.intro (fun h=>?_) (fun h=>?_)
 ·refine ⟨[],no_rl,(formBits_pure i.form).use (by repeat' first|exact trivial|exact rfl|exact Iff.rfl|refine And.intro ?_ ?_) rfl rfl ?_⟩
  refine ⟨[],no_rl,(wide_all i hr h.1 hg).use (by repeat' first|exact trivial|exact rfl|exact Iff.rfl|refine And.intro ?_ ?_) rfl rfl ?_⟩
  refine retE ?_
  exact pack_or i
 ·refine ⟨[],no_rl,(formBits_pure i.form).use (by repeat' first|exact trivial|exact rfl|exact Iff.rfl|refine And.intro ?_ ?_) rfl rfl ?_⟩
  refine ⟨[],no_rl,(narrow_all i hr (fun e=>h ⟨e,hr.1.2⟩) hg).use (by repeat' first|exact trivial|exact rfl|exact Iff.rfl|refine And.intro ?_ ?_) rfl rfl ?_⟩
  refine retE ?_
  exact pack_or i
end Go.Proofs.YtnbngokbamifbaaGreatDoor.Pw
namespace Go.Proofs.YtnbngokbamifbaaGreatDoor.Pw
open Go Go.RowKit
theorem span_tab : ∀ k : Fin 35,(fieldsV ((k.1 : Nat) : Int)).all (fun x=>decide (x.2.1 + x.2.2.2 <= 25)) = true:=by decide
theorem fields_span (s : Int) : ∀ x ∈ fieldsV s,x.2.1 + x.2.2.2 <= 25:=by
 have h : (fieldsV s).all (fun x=>decide (x.2.1 + x.2.2.2 <= 25)) = true:=by
  by_cases h : s < 1 \/ 34 < s
  ·rw [fields_none s h]; rfl
  ·have h1:=span_tab ⟨s.toNat,by omega⟩
   rwa [show (((⟨s.toNat,by omega⟩ : Fin 35).1 : Nat) : Int) = s by simp only []; omega] at h1
 exact fun x hx=>of_decide_eq_true (List.all_eq_true.1 h x hx)
theorem term_bd (w : Int) (a n l : Nat) (h : l + n <= 25) : 0 <= bitsV w a n * 2 ^ l /\ bitsV w a n * 2 ^ l <= 33554432:=by
 have b:=bitsV_bd w a n
 have p1:=pow_cast l
 have p2:=pow_cast n
 have q1:=Nat.two_pow_pos l
 have e : ((bitsV w a n).toNat : Int) = bitsV w a n:=Int.toNat_of_nonneg b.1
 have h1 : (bitsV w a n).toNat < 2 ^ n:=by omega
 have h2 : (bitsV w a n).toNat * 2 ^ l <= 2 ^ n * 2 ^ l:=Nat.mul_le_mul_right _ (Nat.le_of_lt h1)
 have h3 : 2 ^ n * 2 ^ l <= 2 ^ 25:=by rw [← Nat.pow_add]; exact Nat.pow_le_pow_right (by omega) (by omega)
 have e2 : bitsV w a n * 2 ^ l = (((bitsV w a n).toNat * 2 ^ l : Nat) : Int):=by rw [Int.natCast_mul,e,p1]
 rw [e2]
 have h4 : (2 : Nat) ^ 25 = 33554432:=by decide
 omega
theorem sum_bd (w : Int) : ∀ (l : List (Nat × Nat × Nat × Nat)) (a : Int),(∀ x ∈ l,x.2.1 + x.2.2.2 <= 25) -> a <= l.foldl (fun a x=>a + bitsV w x.2.2.1 x.2.2.2 * 2 ^ x.2.1) a /\ l.foldl (fun a x=>a + bitsV w x.2.2.1 x.2.2.2 * 2 ^ x.2.1) a <= a + l.length * 33554432
 | [],a,_=>by simp
 | x :: l,a,h=>by
  have ih:=sum_bd w l (a + bitsV w x.2.2.1 x.2.2.2 * 2 ^ x.2.1) fun y hy=>h y (List.mem_cons_of_mem _ hy)
  have t:=term_bd w x.2.2.1 x.2.2.2 x.2.1 (h x (List.mem_cons_self ..))
  rw [List.foldl_cons,List.length_cons]
  omega
theorem xV_bd (s w : Int) (f : Nat) : 0 <= xV s w f /\ xV s w f <= 234881024:=by
 have h:=sum_bd w ((fieldsV s).filter fun x=>decide (x.1 = f)) 0 fun x hx=>fields_span s x (List.mem_filter.1 hx).1
 have l1 : ((fieldsV s).filter fun x=>decide (x.1 = f)).length <= 7:=Nat.le_trans (List.length_filter_le ..) (fields_len s)
 unfold xV
 omega
theorem least_bd (x : Int) (w : Nat) (hw : w <= 25) : x - 33554432 <= leastV x w /\ leastV x w <= x:=by
 have p : (2 : Int) ^ w <= 33554432 /\ 0 < (2 : Int) ^ w:=by
  have h1 : (2 ^ w : Nat) <= 2 ^ 25:=Nat.pow_le_pow_right (by omega) hw
  have h3:=pow_cast w
  have:=Nat.two_pow_pos w
  have h4 : (2 : Nat) ^ 25 = 33554432:=by decide
  omega
 unfold leastV; split <;> omega
theorem immA_bd (s f x : Int) (hx : 0 <= x /\ x <= 234881024) : -1099511627776 <= immA s f x /\ immA s f x <= 1099511627776:=by
 have a:=least_bd x 9 (by decide)
 have b:=least_bd x 12 (by decide)
 have c:=least_bd x 21 (by decide)
 have t:=turnN_bd x 2 (by decide)
 have d:=least_bd (turnN x 2) 25 (by decide)
 unfold immA
 (repeat' split) <;> omega
theorem read_bd (f w : Int) : ∀ k,k < 10 -> -1099511627776 <= getV (readV f w) k /\ getV (readV f w) k <= 1099511627776:=by
 intro k hk
 have x:=fun n=>xV_bd (shapeV f) w n
 match k,hk with
 | 0,_=>have:=x 0; exact ⟨by show _ <= xV (shapeV f) w 0; omega,by show xV (shapeV f) w 0 <= _; omega⟩
 | 1,_=>have:=x 1; exact ⟨by show _ <= xV (shapeV f) w 1; omega,by show xV (shapeV f) w 1 <= _; omega⟩
 | 2,_ =>
  have:=x 2
  have b:=bitsV_bd w 0 4
  have e : -1099511627776 <= rmA (shapeV f) w (xV (shapeV f) w 2) /\ rmA (shapeV f) w (xV (shapeV f) w 2) <= 1099511627776:=by unfold rmA; split <;> omega
  exact e
 | 3,_=>have:=x 3; exact ⟨by show _ <= xV (shapeV f) w 3; omega,by show xV (shapeV f) w 3 <= _; omega⟩
 | 4,_=>exact immA_bd (shapeV f) f (xV (shapeV f) w 4) (x 4)
 | 5,_=>have:=x 5; exact ⟨by show _ <= xV (shapeV f) w 5; omega,by show xV (shapeV f) w 5 <= _; omega⟩
 | 6,_ =>
  have:=x 6
  have e : -1099511627776 <= byA (shapeV f) (xV (shapeV f) w 5) (xV (shapeV f) w 6) /\ byA (shapeV f) (xV (shapeV f) w 5) (xV (shapeV f) w 6) <= 1099511627776:=by unfold byA; split <;> omega
  exact e
 | 7,_=>have:=x 7; exact ⟨by show _ <= xV (shapeV f) w 7; omega,by show xV (shapeV f) w 7 <= _; omega⟩
 | 8,_=>have:=x 8; exact ⟨by show _ <= xV (shapeV f) w 8; omega,by show xV (shapeV f) w 8 <= _; omega⟩
 | 9,_=>have:=x 9; exact ⟨by show _ <= xV (shapeV f) w 9; omega,by show xV (shapeV f) w 9 <= _; omega⟩
def hitV (w f : Int) : Prop:=rightV (readV f w) /\ wordV (readV f w) = w
theorem hit_mask {w f : Int} (h : hitV w f) : bits .and .u32 w (fbV f) = fbV f:=by
 have b:=fb_bd f
 have e:=h.2
 rw [word_or] at e
 have l : (fbV (readV f w).form).toNat = (fbV f).toNat:=rfl
 rw [l] at e
 have lt:=or4_lt (show (fbV f).toNat < 4294967296 by omega) (orV_lt (readV f w))
 obtain ⟨a,ha⟩ : ∃ a,a = (fbV f).toNat:=⟨_,rfl⟩
 obtain ⟨o,ho⟩ : ∃ o,o = orF (turnI (readV f w)) (fieldsV (shapeV (readV f w).form)):=⟨_,rfl⟩
 rw [← ha,← ho] at e lt
 have ea : fbV f = (a : Int):=by omega
 rw [ea,← e,u32_and _ _ (by omega) (by omega) (by omega) (by omega),Int.toNat_natCast,Int.toNat_natCast]
 congr 1
 apply Nat.eq_of_testBit_eq
 intro p
 rw [Nat.testBit_and,Nat.testBit_or]
 cases a.testBit p <;> simp
def formIn (wide : Prop) (f : Int) : Prop:=(wide /\ 48 <= f /\ f <= 100) \/ (¬ wide /\ 1 <= f /\ f <= 47)
def firstF (w : Int) (wide : Prop) (f : Int) : Prop:=formIn wide f /\ hitV w f /\ ∀ g,formIn wide g -> g < f -> ¬ hitV w g
theorem first_one {w : Int} {wide : Prop} {f g : Int} (hf : firstF w wide f) (hg : firstF w wide g) : f = g:=by
 by_cases h : f < g
 ·exact absurd hf.2.1 (hg.2.2 f hf.1 h)
 by_cases h2 : g < f
 ·exact absurd hg.2.1 (hf.2.2 g hg.1 h2)
 omega
noncomputable def ofI (w : Int) (wide : Prop) : IN:=open Classical in if h : ∃ f,firstF w wide f then readV h.choose w else iZ
noncomputable def ofE (w : Int) (wide : Prop) : Int:=open Classical in if ∃ f,firstF w wide f then 0 else 40
theorem ofI_is {w : Int} {wide : Prop} {f : Int} (h : firstF w wide f) : ofI w wide = readV f w:=by
 have e : ∃ f,firstF w wide f:=⟨f,h⟩
 unfold ofI
 rw [dif_pos e,first_one e.choose_spec h]
theorem ofE_is {w : Int} {wide : Prop} {f : Int} (h : firstF w wide f) : ofE w wide = 0:=if_pos ⟨f,h⟩
theorem ofI_no {w : Int} {wide : Prop} (h : ∀ f,formIn wide f -> ¬ hitV w f) : ofI w wide = iZ:=dif_neg fun ⟨f,hf⟩=>h f hf.1 hf.2.1
theorem ofE_no {w : Int} {wide : Prop} (h : ∀ f,formIn wide f -> ¬ hitV w f) : ofE w wide = 40:=if_neg fun ⟨f,hf⟩=>h f hf.1 hf.2.1
theorem of_word (i : IN) (h : rightV i) (hg : i.regs <= 9223372036854775807) : firstF (wordV i) (48 <= i.form) i.form:=by
 have hb:=back i h hg
 have hit : hitV (wordV i) i.form:=by unfold hitV; rw [hb]; exact ⟨h,rfl⟩
 have f1:=h.1
 refine ⟨by unfold formIn; omega,hit,fun g hgf hlt hh=>?_⟩
 have e:=once_form (a:=readV g (wordV i)) (b:=i) hh.1 h (by show 48 <= g ↔ 48 <= i.form; unfold formIn at hgf; omega) hh.2
 have : g = i.form:=e
 omega
end Go.Proofs.YtnbngokbamifbaaGreatDoor.Pw
namespace Go.Proofs.YtnbngokbamifbaaGreatDoor.Pw
open Go Go.RowKit
theorem word_yes (i : IN) (h : rightV i) (hI : IOk i) : PureF gT 84 [inP i] (.tup [.int .u32 (wordV i),.int .i64 0]):=by
 refine Spec.enter gTok P84 100 Tryz.func84 rfl (by kernel_rfl) ?_
 refine ⟨[],no_rl,(right_pure i (hI i.imm (by simp [inLs]))).use (by repeat' first|exact trivial|exact rfl|exact Iff.rfl|refine And.intro ?_ ?_) rfl rfl ?_⟩
 refine And.intro (fun h'=>absurd h h') (fun _=>?_)
 refine ⟨[],no_rl,(pack_pure i h (hI i.regs (by simp [inLs])).2).use (by repeat' first|exact trivial|exact rfl|exact Iff.rfl|refine And.intro ?_ ?_) rfl rfl ?_⟩
 (refine retE ?_; repeat' first|exact trivial|exact rfl|exact Iff.rfl|refine And.intro ?_ ?_)
theorem word_no (i : IN) (h : ¬ rightV i) (hI : IOk i) : PureF gT 84 [inP i] (.tup [.int .u32 0,.int .i64 10]):=by
 refine Spec.enter gTok P84 100 Tryz.func84 rfl (by kernel_rfl) ?_
 refine ⟨[],no_rl,(right_pure i (hI i.imm (by simp [inLs]))).use (by repeat' first|exact trivial|exact rfl|exact Iff.rfl|refine And.intro ?_ ?_) rfl rfl ?_⟩
 refine And.intro (fun _=>?_) (fun h'=>absurd h h')
 (refine retE ?_; repeat' first|exact trivial|exact rfl|exact Iff.rfl|refine And.intro ?_ ?_)
theorem read_ok {f w : Int} (hf : I64 f) : IOk (readV f w):=by
 intro x hx
 have b:=read_bd f w
 simp only [inLs,List.mem_cons,List.not_mem_nil,or_false] at hx
 have key : ∀ k,k < 10 -> I64 (getV (readV f w) k):=fun k hk=>by have:=b k hk; unfold I64; omega
 rcases hx with rfl | rfl | rfl | rfl | rfl | rfl | rfl | rfl | rfl | rfl | rfl
 ·exact hf
 ·exact key 0 (by decide)
 ·exact key 1 (by decide)
 ·exact key 2 (by decide)
 ·exact key 3 (by decide)
 ·exact key 4 (by decide)
 ·exact key 5 (by decide)
 ·exact key 6 (by decide)
 ·exact key 7 (by decide)
 ·exact key 8 (by decide)
 ·exact key 9 (by decide)
set_option maxHeartbeats 8000000 in
set_option maxRecDepth 100000 in
theorem of_pure (w : Int) (wide : Prop) (hw : U32 w) : PureF gT 69 [.int .u32 w,.bool wide] (.tup [inP (ofI w wide),.int .i64 (ofE w wide)]):=by
 refine Spec.enter gTok P69 100 Tryz.func69 rfl (by kernel_rfl) ?_
 refine SW.loopS gTok P69 (by kernel_rfl) (α:={k : Nat // k <= 100 /\ ∀ g : Int,formIn wide g -> g < k + 1 -> ¬ hitV w g}) (fun k=>[(6,.int .i64 (k.1 + 1 : Nat))]) (fun k=>100 - k.1) ⟨0,by omega,fun g hg hlt=>by unfold formIn at hg; omega⟩ 100 ?_ ?_
 ·repeat' first | exact Iff.rfl | exact trivial | exact rfl | refine And.intro ?_ ?_
 rintro ⟨k,hk,hno⟩
 refine And.intro (fun h=>?_) (fun h=>?_)
 ·have hk100 : ((k + 1 : Nat) : Int) <= 100:=h
  have hF : 1 <= ((k + 1 : Nat) : Int) /\ ((k + 1 : Nat) : Int) <= 100:=⟨by omega,hk100⟩
  have hf : I64 ((k + 1 : Nat) : Int):=by unfold I64; omega
  have next : ¬ (formIn wide ((k + 1 : Nat) : Int) /\ hitV w ((k + 1 : Nat) : Int)) -> ∀ g : Int,formIn wide g -> g < ((k + 1 : Nat) : Int) + 1 -> ¬ hitV w g:=fun hn g hg hlt hh=>by
   by_cases e : g = ((k + 1 : Nat) : Int)
   ·subst e; exact hn ⟨hg,hh⟩
   ·exact hno g hg (by omega) hh
  refine ⟨[],no_rl,(form_wide ((k + 1 : Nat) : Int)).use (by repeat' first|exact trivial|exact rfl|exact Iff.rfl|refine And.intro ?_ ?_) rfl rfl ?_⟩
  refine And.intro (fun hne=>?_) (fun heq=>?_)
  ·refine .inl ⟨inR_i64 (show _ <= ((k + 1 : Nat) : Int) + 1 /\ ((k + 1 : Nat) : Int) + 1 <= _ by omega),⟨⟨k + 1,by omega,next fun hh=>hne ?_⟩,show 100 - (k + 1) < 100 - k by omega,?_⟩⟩
   ·unfold formIn at hh; exact ⟨fun h2=>hh.1.elim (fun e=>e.1) (fun e=>absurd h2.1 (by omega)),fun h2=>hh.1.elim (fun e=>e.2) (fun e=>absurd h2 e.1)⟩
   repeat' first | exact Iff.rfl | exact trivial | exact rfl | refine And.intro ?_ ?_
  have heq:=Classical.not_not.1 heq
  refine ⟨[],no_rl,(formBits_pure ((k + 1 : Nat) : Int)).use (by repeat' first|exact trivial|exact rfl|exact Iff.rfl|refine And.intro ?_ ?_) rfl rfl ?_⟩
  refine ⟨[],no_rl,(formBits_pure ((k + 1 : Nat) : Int)).use (by repeat' first|exact trivial|exact rfl|exact Iff.rfl|refine And.intro ?_ ?_) rfl rfl ?_⟩
  refine And.intro (fun hm=>?_) (fun hm=>?_)
  ·refine .inl ⟨inR_i64 (show _ <= ((k + 1 : Nat) : Int) + 1 /\ ((k + 1 : Nat) : Int) + 1 <= _ by omega),⟨⟨k + 1,by omega,next fun hh=>hm (hit_mask hh.2)⟩,show 100 - (k + 1) < 100 - k by omega,?_⟩⟩
   repeat' first | exact Iff.rfl | exact trivial | exact rfl | refine And.intro ?_ ?_
  have hin : formIn wide ((k + 1 : Nat) : Int):=by
   unfold formIn
   by_cases hW : wide
   ·exact .inl ⟨hW,heq.2 hW⟩
   ·refine .inr ⟨hW,by omega,?_⟩
    by_cases h48 : 48 <= ((k + 1 : Nat) : Int)
    ·exact absurd (heq.1 ⟨h48,hk100⟩) hW
    ·omega
  have hI:=read_ok (w:=w) hf
  have hR:=right_pure (readV ((k + 1 : Nat) : Int) w) (hI (readV ((k + 1 : Nat) : Int) w).imm (by simp [inLs]))
  by_cases hW : wide
  ·have h48:=(heq.2 hW).1
   refine ⟨[],no_rl,(narrowOf_wide ((k + 1 : Nat) : Int) w ((shape_wide hF).2 h48) hw).use (by repeat' first|exact trivial|exact rfl|exact Iff.rfl|refine And.intro ?_ ?_) rfl rfl ?_⟩
   refine And.intro (fun _=>?_) (fun hn=>absurd hW hn)
   refine ⟨[],no_rl,(wideOf_all ((k + 1 : Nat) : Int) w hF h48 hw).use (by repeat' first|exact trivial|exact rfl|exact Iff.rfl|refine And.intro ?_ ?_) rfl rfl ?_⟩
   refine ⟨[],no_rl,hR.use (by repeat' first|exact trivial|exact rfl|exact Iff.rfl|refine And.intro ?_ ?_) rfl rfl ?_⟩
   refine And.intro (fun hr=>?_) (fun hr=>?_)
   ·refine ⟨[],no_rl,(pack_pure (readV ((k + 1 : Nat) : Int) w) hr (hI (readV ((k + 1 : Nat) : Int) w).regs (by simp [inLs])).2).use (by repeat' first|exact trivial|exact rfl|exact Iff.rfl|refine And.intro ?_ ?_) rfl rfl ?_⟩
    refine And.intro (fun hp=>?_) (fun hp=>?_)
    ·have hfst : firstF w wide ((k + 1 : Nat) : Int):=⟨hin,⟨hr,hp⟩,fun g hg hlt=>hno g hg (by omega)⟩
     rw [ofI_is hfst,ofE_is hfst]
     (refine retE ?_; repeat' first|exact trivial|exact rfl|exact Iff.rfl|refine And.intro ?_ ?_)
    ·refine .inl ⟨inR_i64 (show _ <= ((k + 1 : Nat) : Int) + 1 /\ ((k + 1 : Nat) : Int) + 1 <= _ by omega),⟨⟨k + 1,by omega,next fun hh=>hp hh.2.2⟩,show 100 - (k + 1) < 100 - k by omega,?_⟩⟩
     repeat' first | exact Iff.rfl | exact trivial | exact rfl | refine And.intro ?_ ?_
   ·refine .inl ⟨inR_i64 (show _ <= ((k + 1 : Nat) : Int) + 1 /\ ((k + 1 : Nat) : Int) + 1 <= _ by omega),⟨⟨k + 1,by omega,next fun hh=>hr hh.2.1⟩,show 100 - (k + 1) < 100 - k by omega,?_⟩⟩
    repeat' first | exact Iff.rfl | exact trivial | exact rfl | refine And.intro ?_ ?_
  ·have h48 : ¬ 48 <= ((k + 1 : Nat) : Int):=fun e=>hW (heq.1 ⟨e,hk100⟩)
   refine ⟨[],no_rl,(narrowOf_all ((k + 1 : Nat) : Int) w hF h48 hw).use (by repeat' first|exact trivial|exact rfl|exact Iff.rfl|refine And.intro ?_ ?_) rfl rfl ?_⟩
   refine And.intro (fun h=>absurd h hW) (fun _=>?_)
   refine ⟨[],no_rl,hR.use (by repeat' first|exact trivial|exact rfl|exact Iff.rfl|refine And.intro ?_ ?_) rfl rfl ?_⟩
   refine And.intro (fun hr=>?_) (fun hr=>?_)
   ·refine ⟨[],no_rl,(pack_pure (readV ((k + 1 : Nat) : Int) w) hr (hI (readV ((k + 1 : Nat) : Int) w).regs (by simp [inLs])).2).use (by repeat' first|exact trivial|exact rfl|exact Iff.rfl|refine And.intro ?_ ?_) rfl rfl ?_⟩
    refine And.intro (fun hp=>?_) (fun hp=>?_)
    ·have hfst : firstF w wide ((k + 1 : Nat) : Int):=⟨hin,⟨hr,hp⟩,fun g hg hlt=>hno g hg (by omega)⟩
     rw [ofI_is hfst,ofE_is hfst]
     (refine retE ?_; repeat' first|exact trivial|exact rfl|exact Iff.rfl|refine And.intro ?_ ?_)
    ·refine .inl ⟨inR_i64 (show _ <= ((k + 1 : Nat) : Int) + 1 /\ ((k + 1 : Nat) : Int) + 1 <= _ by omega),⟨⟨k + 1,by omega,next fun hh=>hp hh.2.2⟩,show 100 - (k + 1) < 100 - k by omega,?_⟩⟩
     repeat' first | exact Iff.rfl | exact trivial | exact rfl | refine And.intro ?_ ?_
   ·refine .inl ⟨inR_i64 (show _ <= ((k + 1 : Nat) : Int) + 1 /\ ((k + 1 : Nat) : Int) + 1 <= _ by omega),⟨⟨k + 1,by omega,next fun hh=>hr hh.2.1⟩,show 100 - (k + 1) < 100 - k by omega,?_⟩⟩
    repeat' first | exact Iff.rfl | exact trivial | exact rfl | refine And.intro ?_ ?_
 ·have hk100 : ¬ ((k + 1 : Nat) : Int) <= 100:=h
  have hall : ∀ f,formIn wide f -> ¬ hitV w f:=fun f hf=>hno f hf (by unfold formIn at hf; omega)
  rw [ofI_no hall,ofE_no hall]
  (refine retE ?_; repeat' first|exact trivial|exact rfl|exact Iff.rfl|refine And.intro ?_ ?_)
end Go.Proofs.YtnbngokbamifbaaGreatDoor.Pw
namespace Go.Proofs.YtnbngokbamifbaaGreatDoor.Pw
open Go Go.RowKit
def beginsV (h : Int) : Prop:=29 <= h % 65536 / 2048
theorem begins_pure (h : Int) (hh : U32 h) : PureF gT 68 [.int .u32 h] (.bool (beginsV h)):=by
 have e : bits .and .u32 h 65535 = h % 65536:=and_mask h 16 hh.1 hh.2 (by decide)
 refine Spec.enter gTok P68 100 Tryz.func68 rfl (by kernel_rfl) ?_
 refine ⟨by decide,?_⟩
 refine retE ?_
 show 29 <= bits .and .u32 h 65535 / Ev.pow2 .u32 11 ↔ beginsV h
 rw [e,r11]; exact Iff.rfl
def sizeV (f : Int) : Int:=if 48 <= f /\ f <= 100 then 4 else if 1 <= f /\ f <= 47 then 2 else 0
theorem size_pure (f : Int) : PureF gT 88 [.int .i64 f] (.int .i64 (sizeV f)):=by
 refine Spec.enter gTok P88 100 Tryz.func88 rfl (by kernel_rfl) ?_
 refine ⟨[],no_rl,(form_is f).use (by repeat' first|exact trivial|exact rfl|exact Iff.rfl|refine And.intro ?_ ?_) rfl rfl ?_⟩
 refine And.intro (fun h=>?_) (fun h=>?_)
 ·exact retE (show (0 : Int) = sizeV f by unfold sizeV; rw [if_neg (by omega),if_neg (by omega)])
 refine ⟨[],no_rl,(form_wide f).use (by repeat' first|exact trivial|exact rfl|exact Iff.rfl|refine And.intro ?_ ?_) rfl rfl ?_⟩
 refine And.intro (fun h2=>?_) (fun h2=>?_)
 ·exact retE (show (4 : Int) = sizeV f by unfold sizeV; rw [if_pos h2])
 ·exact retE (show (2 : Int) = sizeV f by unfold sizeV; rw [if_neg h2,if_pos (by omega)])
theorem ibytes_pure (i : IN) : PureF gT 54 [inP i] (.int .i64 (sizeV i.form)):=by
 refine Spec.enter gTok P54 100 Tryz.func54 rfl (by kernel_rfl) ?_
 refine ⟨[],no_rl,(size_pure i.form).use (by repeat' first|exact trivial|exact rfl|exact Iff.rfl|refine And.intro ?_ ?_) rfl rfl ?_⟩
 exact retE rfl
theorem lit_ok (i : IN) (h : (inLs i).all (fun x=>decide (-9223372036854775808 <= x /\ x <= 9223372036854775807)) = true) : IOk i:=fun x hx=>of_decide_eq_true (p:=-9223372036854775808 <= x /\ x <= 9223372036854775807) (List.all_eq_true.1 h x hx)
end Go.Proofs.YtnbngokbamifbaaGreatDoor.Pw
namespace Go.Proofs.YtnbngokbamifbaaGreatDoor.Pw
open Go Go.RowKit
theorem Op.argS {P : Program} {t : TypeId} {S : PV -> Prop} (h : Op P t S) (hS : ∀ y,S y -> ∃ xs,y = .agg xs) {H : Type} {ec : TypeId × Value -> H} {w : World} {base : Nat} {held : Bool} {vs : Array Value} {d : DataW H} {p : List MemPlace} (ht : DataW.Trod ec P w base (fun _=>true) held t (.agg vs) d p) (hwt : ∀ n ∈ d.weights P t,n <= reachBytes) :
  ∃ y,S y /\ y.Is w (In w) no (.agg vs):=by
 obtain ⟨fuel,ht⟩:=ht
 obtain ⟨y,hy,_,hi,_⟩:=h ec w base held fuel _ _ ht hwt
 refine ⟨y,hy,?_⟩
 obtain ⟨xs,rfl⟩:=hS y hy
 simp only [PV.Is]
 exact ⟨vs,rfl,hi⟩
end Go.Proofs.YtnbngokbamifbaaGreatDoor.Pw
namespace Go.Proofs.YtnbngokbamifbaaGreatDoor.codeLaid
open Go.ChangeShapes Go.WideShapes Go.ChangeAt Go.RowKit Go.Deep
def laidList : List (String × DataW Unit):=[("remontoire/imm.factors",Rows.laid_remontoire_imm_factors),("remontoire/inst.shapes",Rows.laid_remontoire_inst_shapes)]
def fuel : Nat:=3000
theorem door_met (os : Os) (args : Array Value) : laidMetH Tryz.prog laidList ((World.doorLaid Tryz.prog fuel os).forCall (fun _ _=>0) ⟨#[],args,[]⟩).memory :=
 laidMetH_of_parts3 (fuel:=8) (laidMet_of_run' 8 (by kernel_rfl) (by kernel_rfl)) (by kernel_rfl) (by kernel_rfl)
end Go.Proofs.YtnbngokbamifbaaGreatDoor.codeLaid
namespace Go.Proofs.YtnbngokbamifbaaGreatDoor.Pw
open Go Go.RowKit
theorem immCode {W : World} (h : laidMetH Tryz.prog codeLaid.laidList W) : ImmOk gT (In W) W :=
 immOk_laid (laid:=codeLaid.laidList) (by kernel_rfl) h fun x hx=>by
  have hx' : x ∈ [(1,facP),(0,shP)]:=hx
  simp only [List.mem_cons,List.not_mem_nil,or_false] at hx'
  rcases hx' with rfl | rfl
  ·exact ⟨"remontoire/imm.factors",_,221,List.mem_cons_self,by kernel_rfl,by kernel_rfl,by kernel_rfl,nofun⟩
  ·exact ⟨"remontoire/inst.shapes",_,237,List.mem_cons_of_mem _ List.mem_cons_self,by kernel_rfl,by kernel_rfl,by kernel_rfl,nofun⟩
theorem inR_u32c {z : Int} (h : InR .u32 z) : 0 <= z /\ z <= 4294967295:=by unfold InR Ev.kmin Ev.kmax at h; simp only [IntKind.signed,IntKind.bits] at h; simpa using h
theorem inR_i64c {z : Int} (h : InR .i64 z) : I64 z:=by unfold InR Ev.kmin Ev.kmax at h; simp only [IntKind.signed,IntKind.bits] at h; unfold I64; simpa using h
theorem opU32c : Op Tryz.prog 39 (SInt .u32):=opInt Tryz.underlying39 (by kernel_rfl)
theorem opI64c : Op Tryz.prog 3 (SInt .i64):=opInt Tryz.underlying3 (by kernel_rfl)
theorem opIN_ : Op Tryz.prog 76 (SAgg (List.replicate 11 (SInt .i64))) :=
 opAgg (Ss:=List.replicate 11 (SInt .i64)) Tryz.underlying76
  ⟨rfl,opInt Tryz.underlying74 (by kernel_rfl),(show _ = _ by kernel_rfl),opI64c,(show _ = _ by kernel_rfl),opI64c,(show _ = _ by kernel_rfl),opI64c,(show _ = _ by kernel_rfl),opI64c,(show _ = _ by kernel_rfl),opI64c,(show _ = _ by kernel_rfl),opI64c,(show _ = _ by kernel_rfl),opI64c,(show _ = _ by kernel_rfl),opI64c,(show _ = _ by kernel_rfl),opI64c,(show _ = _ by kernel_rfl),opI64c,(show _ = _ by kernel_rfl)⟩
theorem in_dec (x : PV) (h : SAgg (List.replicate 11 (SInt .i64)) x) : ∃ i : IN,IOk i /\ x = inP i:=by
 obtain ⟨xs,h,rfl⟩:=h
 obtain ⟨_,_,rfl,⟨a0,b0,rfl⟩,h_1⟩:=all2_cons (S:=SInt .i64) (Ss:=List.replicate 10 (SInt .i64)) h
 obtain ⟨_,_,rfl,⟨a1,b1,rfl⟩,h_2⟩:=all2_cons (S:=SInt .i64) (Ss:=List.replicate 9 (SInt .i64)) h_1
 obtain ⟨_,_,rfl,⟨a2,b2,rfl⟩,h_3⟩:=all2_cons (S:=SInt .i64) (Ss:=List.replicate 8 (SInt .i64)) h_2
 obtain ⟨_,_,rfl,⟨a3,b3,rfl⟩,h_4⟩:=all2_cons (S:=SInt .i64) (Ss:=List.replicate 7 (SInt .i64)) h_3
 obtain ⟨_,_,rfl,⟨a4,b4,rfl⟩,h_5⟩:=all2_cons (S:=SInt .i64) (Ss:=List.replicate 6 (SInt .i64)) h_4
 obtain ⟨_,_,rfl,⟨a5,b5,rfl⟩,h_6⟩:=all2_cons (S:=SInt .i64) (Ss:=List.replicate 5 (SInt .i64)) h_5
 obtain ⟨_,_,rfl,⟨a6,b6,rfl⟩,h_7⟩:=all2_cons (S:=SInt .i64) (Ss:=List.replicate 4 (SInt .i64)) h_6
 obtain ⟨_,_,rfl,⟨a7,b7,rfl⟩,h_8⟩:=all2_cons (S:=SInt .i64) (Ss:=List.replicate 3 (SInt .i64)) h_7
 obtain ⟨_,_,rfl,⟨a8,b8,rfl⟩,h_9⟩:=all2_cons (S:=SInt .i64) (Ss:=List.replicate 2 (SInt .i64)) h_8
 obtain ⟨_,_,rfl,⟨a9,b9,rfl⟩,h_10⟩:=all2_cons (S:=SInt .i64) (Ss:=List.replicate 1 (SInt .i64)) h_9
 obtain ⟨_,_,rfl,⟨a10,b10,rfl⟩,h_11⟩:=all2_cons (S:=SInt .i64) (Ss:=List.replicate 0 (SInt .i64)) h_10
 obtain rfl:=all2_nil h_11
 refine ⟨⟨a0,a1,a2,a3,a4,a5,a6,a7,a8,a9,a10⟩,fun x hx=>?_,rfl⟩
 simp only [inLs,List.mem_cons,List.not_mem_nil,or_false] at hx
 rcases hx with rfl | rfl | rfl | rfl | rfl | rfl | rfl | rfl | rfl | rfl | rfl
 ·exact inR_i64c b0
 ·exact inR_i64c b1
 ·exact inR_i64c b2
 ·exact inR_i64c b3
 ·exact inR_i64c b4
 ·exact inR_i64c b5
 ·exact inR_i64c b6
 ·exact inR_i64c b7
 ·exact inR_i64c b8
 ·exact inR_i64c b9
 ·exact inR_i64c b10
def SIN (x : PV) : Prop:=∃ i : IN,IOk i /\ x = inP i
theorem opIN : Op Tryz.prog 76 SIN:=opIN_.weak in_dec
end Go.Proofs.YtnbngokbamifbaaGreatDoor.Pw

/- What the laws of this claim are proved with, joined (join.py) of 14 texts: no condition. -/
import Derived.Test.YthpkejlmelednaaDoorKi7
import Derived.Test.YthpkejlmelednaaDoorKi6
import Derived.Test.YthpkejlmelednaaDoorKiInstU
import Derived.Lib.Agree
import Derived.Test.YthpkejlmelednaaDoorKi4
import Derived.Test.YthpkejlmelednaaDoorRows
import Derived.ProofKit
import Derived.LaidMore
import Derived.OpenShut
import Derived.Stop.Joined
import Derived.Lib.LaidTab
set_option linter.unusedVariables false
set_option linter.unusedSimpArgs false

/- Chapter 4 over values: the document's reading of wide shapes (by gen_tv.py). -/
namespace Go.Proofs.YthpkejlmelednaaDoor.Pw
open Go Go.RowKit

abbrev fl_17 : List PV := [.agg [.lit .i64 4, .lit .i64 11, .lit .i64 26, .lit .i64 1], .agg [.lit .i64 4, .lit .i64 12, .lit .i64 16, .lit .i64 4], .agg [.lit .i64 4, .lit .i64 8, .lit .i64 12, .lit .i64 3], .agg [.lit .i64 4, .lit .i64 0, .lit .i64 0, .lit .i64 8], .agg [.lit .i64 0, .lit .i64 0, .lit .i64 8, .lit .i64 4]]
set_option maxHeartbeats 8000000 in
set_option maxRecDepth 100000 in
theorem read_17 (f w : Int) (hs : shapeV f = 17) (hf : I64 f) (hw : U32 w) : PureF gT 70 [.int .i64 f, .int .i64 w] (inP (rdI17 f w)) := by
  have hw' : -1099511627776 ≤ w ∧ w ≤ 9223372036854775807 := by unfold U32 at hw; omega
  have b0 := bitsV_bd w 26 1
  have b1 := bitsV_bd w 16 4
  have b2 := bitsV_bd w 12 3
  have b3 := bitsV_bd w 0 8
  have b4 := bitsV_bd w 8 4
  refine Spec.enter gTok P70 100 Tryd.func70 rfl (by kernel_rfl) ?_
  refine ⟨[], no_rl, (shapeLit hf hs).use (And.intro rfl trivial) rfl rfl ?_⟩
  refine ⟨[], no_rl, fieldsLit_17.use (And.intro rfl trivial) rfl rfl ?_⟩
  refine SW.rounds gTok P70 (by kernel_rfl) (N := 60) 6 ?_
  refine fun _ => And.intro (fun _ => ?_) (fun h => absurd (show (0 : Int) < 5 by decide) h)
  repeat (refine ⟨PV, fl_17, id, rfl, by decide, by decide, fun x hx => ?_⟩; cases hx)
  refine ⟨[], no_rl, (bits_pure w 26 1 hw' (by decide) (by decide)).use (And.intro rfl (And.intro rfl (And.intro rfl trivial))) rfl rfl ?_⟩
  repeat (refine ⟨PV, fl_17, id, rfl, by decide, by decide, fun x hx => ?_⟩; cases hx)
  refine ⟨[], no_rl, (power_pure 11 (by decide)).use (And.intro rfl trivial) rfl rfl ?_⟩
  refine .inl ⟨inR_i64 (by omega), ?_⟩
  refine .inl ⟨inR_i64 (by omega), ?_⟩
  refine fun _ => And.intro (fun _ => ?_) (fun h => absurd (show (1 : Int) < 5 by decide) h)
  repeat (refine ⟨PV, fl_17, id, rfl, by decide, by decide, fun x hx => ?_⟩; cases hx)
  refine ⟨[], no_rl, (bits_pure w 16 4 hw' (by decide) (by decide)).use (And.intro rfl (And.intro rfl (And.intro rfl trivial))) rfl rfl ?_⟩
  repeat (refine ⟨PV, fl_17, id, rfl, by decide, by decide, fun x hx => ?_⟩; cases hx)
  refine ⟨[], no_rl, (power_pure 12 (by decide)).use (And.intro rfl trivial) rfl rfl ?_⟩
  refine .inl ⟨inR_i64 (by omega), ?_⟩
  refine .inl ⟨inR_i64 (by omega), ?_⟩
  refine fun _ => And.intro (fun _ => ?_) (fun h => absurd (show (2 : Int) < 5 by decide) h)
  repeat (refine ⟨PV, fl_17, id, rfl, by decide, by decide, fun x hx => ?_⟩; cases hx)
  refine ⟨[], no_rl, (bits_pure w 12 3 hw' (by decide) (by decide)).use (And.intro rfl (And.intro rfl (And.intro rfl trivial))) rfl rfl ?_⟩
  repeat (refine ⟨PV, fl_17, id, rfl, by decide, by decide, fun x hx => ?_⟩; cases hx)
  refine ⟨[], no_rl, (power_pure 8 (by decide)).use (And.intro rfl trivial) rfl rfl ?_⟩
  refine .inl ⟨inR_i64 (by omega), ?_⟩
  refine .inl ⟨inR_i64 (by omega), ?_⟩
  refine fun _ => And.intro (fun _ => ?_) (fun h => absurd (show (3 : Int) < 5 by decide) h)
  repeat (refine ⟨PV, fl_17, id, rfl, by decide, by decide, fun x hx => ?_⟩; cases hx)
  refine ⟨[], no_rl, (bits_pure w 0 8 hw' (by decide) (by decide)).use (And.intro rfl (And.intro rfl (And.intro rfl trivial))) rfl rfl ?_⟩
  repeat (refine ⟨PV, fl_17, id, rfl, by decide, by decide, fun x hx => ?_⟩; cases hx)
  refine ⟨[], no_rl, (power_pure 0 (by decide)).use (And.intro rfl trivial) rfl rfl ?_⟩
  refine .inl ⟨inR_i64 (by omega), ?_⟩
  refine .inl ⟨inR_i64 (by omega), ?_⟩
  refine fun _ => And.intro (fun _ => ?_) (fun h => absurd (show (4 : Int) < 5 by decide) h)
  repeat (refine ⟨PV, fl_17, id, rfl, by decide, by decide, fun x hx => ?_⟩; cases hx)
  refine ⟨[], no_rl, (bits_pure w 8 4 hw' (by decide) (by decide)).use (And.intro rfl (And.intro rfl (And.intro rfl trivial))) rfl rfl ?_⟩
  repeat (refine ⟨PV, fl_17, id, rfl, by decide, by decide, fun x hx => ?_⟩; cases hx)
  refine ⟨[], no_rl, (power_pure 0 (by decide)).use (And.intro rfl trivial) rfl rfl ?_⟩
  refine .inl ⟨inR_i64 (by omega), ?_⟩
  refine .inl ⟨inR_i64 (by omega), ?_⟩
  refine fun _ => And.intro (fun h => absurd h (show ¬ (5 : Int) < 5 by decide)) (fun _ => ?_)
  (refine retE ?_; repeat' first | exact trivial | exact rfl | exact Iff.rfl | exact Or.inl rfl | refine And.intro ?_ ?_)
abbrev fl_18 : List PV := [.agg [.lit .i64 4, .lit .i64 11, .lit .i64 26, .lit .i64 1], .agg [.lit .i64 4, .lit .i64 8, .lit .i64 12, .lit .i64 3], .agg [.lit .i64 4, .lit .i64 0, .lit .i64 0, .lit .i64 8], .agg [.lit .i64 7, .lit .i64 0, .lit .i64 20, .lit .i64 1], .agg [.lit .i64 1, .lit .i64 0, .lit .i64 16, .lit .i64 4], .agg [.lit .i64 0, .lit .i64 0, .lit .i64 8, .lit .i64 4]]
set_option maxHeartbeats 8000000 in
set_option maxRecDepth 100000 in
theorem read_18 (f w : Int) (hs : shapeV f = 18) (hf : I64 f) (hw : U32 w) : PureF gT 70 [.int .i64 f, .int .i64 w] (inP (rdI18 f w)) := by
  have hw' : -1099511627776 ≤ w ∧ w ≤ 9223372036854775807 := by unfold U32 at hw; omega
  have b0 := bitsV_bd w 26 1
  have b1 := bitsV_bd w 12 3
  have b2 := bitsV_bd w 0 8
  have b3 := bitsV_bd w 20 1
  have b4 := bitsV_bd w 16 4
  have b5 := bitsV_bd w 8 4
  refine Spec.enter gTok P70 100 Tryd.func70 rfl (by kernel_rfl) ?_
  refine ⟨[], no_rl, (shapeLit hf hs).use (And.intro rfl trivial) rfl rfl ?_⟩
  refine ⟨[], no_rl, fieldsLit_18.use (And.intro rfl trivial) rfl rfl ?_⟩
  refine SW.rounds gTok P70 (by kernel_rfl) (N := 60) 7 ?_
  refine fun _ => And.intro (fun _ => ?_) (fun h => absurd (show (0 : Int) < 6 by decide) h)
  repeat (refine ⟨PV, fl_18, id, rfl, by decide, by decide, fun x hx => ?_⟩; cases hx)
  refine ⟨[], no_rl, (bits_pure w 26 1 hw' (by decide) (by decide)).use (And.intro rfl (And.intro rfl (And.intro rfl trivial))) rfl rfl ?_⟩
  repeat (refine ⟨PV, fl_18, id, rfl, by decide, by decide, fun x hx => ?_⟩; cases hx)
  refine ⟨[], no_rl, (power_pure 11 (by decide)).use (And.intro rfl trivial) rfl rfl ?_⟩
  refine .inl ⟨inR_i64 (by omega), ?_⟩
  refine .inl ⟨inR_i64 (by omega), ?_⟩
  refine fun _ => And.intro (fun _ => ?_) (fun h => absurd (show (1 : Int) < 6 by decide) h)
  repeat (refine ⟨PV, fl_18, id, rfl, by decide, by decide, fun x hx => ?_⟩; cases hx)
  refine ⟨[], no_rl, (bits_pure w 12 3 hw' (by decide) (by decide)).use (And.intro rfl (And.intro rfl (And.intro rfl trivial))) rfl rfl ?_⟩
  repeat (refine ⟨PV, fl_18, id, rfl, by decide, by decide, fun x hx => ?_⟩; cases hx)
  refine ⟨[], no_rl, (power_pure 8 (by decide)).use (And.intro rfl trivial) rfl rfl ?_⟩
  refine .inl ⟨inR_i64 (by omega), ?_⟩
  refine .inl ⟨inR_i64 (by omega), ?_⟩
  refine fun _ => And.intro (fun _ => ?_) (fun h => absurd (show (2 : Int) < 6 by decide) h)
  repeat (refine ⟨PV, fl_18, id, rfl, by decide, by decide, fun x hx => ?_⟩; cases hx)
  refine ⟨[], no_rl, (bits_pure w 0 8 hw' (by decide) (by decide)).use (And.intro rfl (And.intro rfl (And.intro rfl trivial))) rfl rfl ?_⟩
  repeat (refine ⟨PV, fl_18, id, rfl, by decide, by decide, fun x hx => ?_⟩; cases hx)
  refine ⟨[], no_rl, (power_pure 0 (by decide)).use (And.intro rfl trivial) rfl rfl ?_⟩
  refine .inl ⟨inR_i64 (by omega), ?_⟩
  refine .inl ⟨inR_i64 (by omega), ?_⟩
  refine fun _ => And.intro (fun _ => ?_) (fun h => absurd (show (3 : Int) < 6 by decide) h)
  repeat (refine ⟨PV, fl_18, id, rfl, by decide, by decide, fun x hx => ?_⟩; cases hx)
  refine ⟨[], no_rl, (bits_pure w 20 1 hw' (by decide) (by decide)).use (And.intro rfl (And.intro rfl (And.intro rfl trivial))) rfl rfl ?_⟩
  repeat (refine ⟨PV, fl_18, id, rfl, by decide, by decide, fun x hx => ?_⟩; cases hx)
  refine ⟨[], no_rl, (power_pure 0 (by decide)).use (And.intro rfl trivial) rfl rfl ?_⟩
  refine .inl ⟨inR_i64 (by omega), ?_⟩
  refine .inl ⟨inR_i64 (by omega), ?_⟩
  refine fun _ => And.intro (fun _ => ?_) (fun h => absurd (show (4 : Int) < 6 by decide) h)
  repeat (refine ⟨PV, fl_18, id, rfl, by decide, by decide, fun x hx => ?_⟩; cases hx)
  refine ⟨[], no_rl, (bits_pure w 16 4 hw' (by decide) (by decide)).use (And.intro rfl (And.intro rfl (And.intro rfl trivial))) rfl rfl ?_⟩
  repeat (refine ⟨PV, fl_18, id, rfl, by decide, by decide, fun x hx => ?_⟩; cases hx)
  refine ⟨[], no_rl, (power_pure 0 (by decide)).use (And.intro rfl trivial) rfl rfl ?_⟩
  refine .inl ⟨inR_i64 (by omega), ?_⟩
  refine .inl ⟨inR_i64 (by omega), ?_⟩
  refine fun _ => And.intro (fun _ => ?_) (fun h => absurd (show (5 : Int) < 6 by decide) h)
  repeat (refine ⟨PV, fl_18, id, rfl, by decide, by decide, fun x hx => ?_⟩; cases hx)
  refine ⟨[], no_rl, (bits_pure w 8 4 hw' (by decide) (by decide)).use (And.intro rfl (And.intro rfl (And.intro rfl trivial))) rfl rfl ?_⟩
  repeat (refine ⟨PV, fl_18, id, rfl, by decide, by decide, fun x hx => ?_⟩; cases hx)
  refine ⟨[], no_rl, (power_pure 0 (by decide)).use (And.intro rfl trivial) rfl rfl ?_⟩
  refine .inl ⟨inR_i64 (by omega), ?_⟩
  refine .inl ⟨inR_i64 (by omega), ?_⟩
  refine fun _ => And.intro (fun h => absurd h (show ¬ (6 : Int) < 6 by decide)) (fun _ => ?_)
  (refine retE ?_; repeat' first | exact trivial | exact rfl | exact Iff.rfl | exact Or.inl rfl | refine And.intro ?_ ?_)
abbrev fl_19 : List PV := [.agg [.lit .i64 4, .lit .i64 11, .lit .i64 26, .lit .i64 1], .agg [.lit .i64 4, .lit .i64 8, .lit .i64 12, .lit .i64 3], .agg [.lit .i64 4, .lit .i64 0, .lit .i64 0, .lit .i64 8], .agg [.lit .i64 7, .lit .i64 0, .lit .i64 20, .lit .i64 1], .agg [.lit .i64 0, .lit .i64 0, .lit .i64 8, .lit .i64 4]]
set_option maxHeartbeats 8000000 in
set_option maxRecDepth 100000 in
theorem read_19 (f w : Int) (hs : shapeV f = 19) (hf : I64 f) (hw : U32 w) : PureF gT 70 [.int .i64 f, .int .i64 w] (inP (rdI19 f w)) := by
  have hw' : -1099511627776 ≤ w ∧ w ≤ 9223372036854775807 := by unfold U32 at hw; omega
  have b0 := bitsV_bd w 26 1
  have b1 := bitsV_bd w 12 3
  have b2 := bitsV_bd w 0 8
  have b3 := bitsV_bd w 20 1
  have b4 := bitsV_bd w 8 4
  refine Spec.enter gTok P70 100 Tryd.func70 rfl (by kernel_rfl) ?_
  refine ⟨[], no_rl, (shapeLit hf hs).use (And.intro rfl trivial) rfl rfl ?_⟩
  refine ⟨[], no_rl, fieldsLit_19.use (And.intro rfl trivial) rfl rfl ?_⟩
  refine SW.rounds gTok P70 (by kernel_rfl) (N := 60) 6 ?_
  refine fun _ => And.intro (fun _ => ?_) (fun h => absurd (show (0 : Int) < 5 by decide) h)
  repeat (refine ⟨PV, fl_19, id, rfl, by decide, by decide, fun x hx => ?_⟩; cases hx)
  refine ⟨[], no_rl, (bits_pure w 26 1 hw' (by decide) (by decide)).use (And.intro rfl (And.intro rfl (And.intro rfl trivial))) rfl rfl ?_⟩
  repeat (refine ⟨PV, fl_19, id, rfl, by decide, by decide, fun x hx => ?_⟩; cases hx)
  refine ⟨[], no_rl, (power_pure 11 (by decide)).use (And.intro rfl trivial) rfl rfl ?_⟩
  refine .inl ⟨inR_i64 (by omega), ?_⟩
  refine .inl ⟨inR_i64 (by omega), ?_⟩
  refine fun _ => And.intro (fun _ => ?_) (fun h => absurd (show (1 : Int) < 5 by decide) h)
  repeat (refine ⟨PV, fl_19, id, rfl, by decide, by decide, fun x hx => ?_⟩; cases hx)
  refine ⟨[], no_rl, (bits_pure w 12 3 hw' (by decide) (by decide)).use (And.intro rfl (And.intro rfl (And.intro rfl trivial))) rfl rfl ?_⟩
  repeat (refine ⟨PV, fl_19, id, rfl, by decide, by decide, fun x hx => ?_⟩; cases hx)
  refine ⟨[], no_rl, (power_pure 8 (by decide)).use (And.intro rfl trivial) rfl rfl ?_⟩
  refine .inl ⟨inR_i64 (by omega), ?_⟩
  refine .inl ⟨inR_i64 (by omega), ?_⟩
  refine fun _ => And.intro (fun _ => ?_) (fun h => absurd (show (2 : Int) < 5 by decide) h)
  repeat (refine ⟨PV, fl_19, id, rfl, by decide, by decide, fun x hx => ?_⟩; cases hx)
  refine ⟨[], no_rl, (bits_pure w 0 8 hw' (by decide) (by decide)).use (And.intro rfl (And.intro rfl (And.intro rfl trivial))) rfl rfl ?_⟩
  repeat (refine ⟨PV, fl_19, id, rfl, by decide, by decide, fun x hx => ?_⟩; cases hx)
  refine ⟨[], no_rl, (power_pure 0 (by decide)).use (And.intro rfl trivial) rfl rfl ?_⟩
  refine .inl ⟨inR_i64 (by omega), ?_⟩
  refine .inl ⟨inR_i64 (by omega), ?_⟩
  refine fun _ => And.intro (fun _ => ?_) (fun h => absurd (show (3 : Int) < 5 by decide) h)
  repeat (refine ⟨PV, fl_19, id, rfl, by decide, by decide, fun x hx => ?_⟩; cases hx)
  refine ⟨[], no_rl, (bits_pure w 20 1 hw' (by decide) (by decide)).use (And.intro rfl (And.intro rfl (And.intro rfl trivial))) rfl rfl ?_⟩
  repeat (refine ⟨PV, fl_19, id, rfl, by decide, by decide, fun x hx => ?_⟩; cases hx)
  refine ⟨[], no_rl, (power_pure 0 (by decide)).use (And.intro rfl trivial) rfl rfl ?_⟩
  refine .inl ⟨inR_i64 (by omega), ?_⟩
  refine .inl ⟨inR_i64 (by omega), ?_⟩
  refine fun _ => And.intro (fun _ => ?_) (fun h => absurd (show (4 : Int) < 5 by decide) h)
  repeat (refine ⟨PV, fl_19, id, rfl, by decide, by decide, fun x hx => ?_⟩; cases hx)
  refine ⟨[], no_rl, (bits_pure w 8 4 hw' (by decide) (by decide)).use (And.intro rfl (And.intro rfl (And.intro rfl trivial))) rfl rfl ?_⟩
  repeat (refine ⟨PV, fl_19, id, rfl, by decide, by decide, fun x hx => ?_⟩; cases hx)
  refine ⟨[], no_rl, (power_pure 0 (by decide)).use (And.intro rfl trivial) rfl rfl ?_⟩
  refine .inl ⟨inR_i64 (by omega), ?_⟩
  refine .inl ⟨inR_i64 (by omega), ?_⟩
  refine fun _ => And.intro (fun h => absurd h (show ¬ (5 : Int) < 5 by decide)) (fun _ => ?_)
  (refine retE ?_; repeat' first | exact trivial | exact rfl | exact Iff.rfl | exact Or.inl rfl | refine And.intro ?_ ?_)
abbrev fl_20 : List PV := [.agg [.lit .i64 4, .lit .i64 11, .lit .i64 26, .lit .i64 1], .agg [.lit .i64 4, .lit .i64 8, .lit .i64 12, .lit .i64 3], .agg [.lit .i64 4, .lit .i64 0, .lit .i64 0, .lit .i64 8], .agg [.lit .i64 1, .lit .i64 0, .lit .i64 16, .lit .i64 4]]
set_option maxHeartbeats 8000000 in
set_option maxRecDepth 100000 in
theorem read_20 (f w : Int) (hs : shapeV f = 20) (hf : I64 f) (hw : U32 w) : PureF gT 70 [.int .i64 f, .int .i64 w] (inP (rdI20 f w)) := by
  have hw' : -1099511627776 ≤ w ∧ w ≤ 9223372036854775807 := by unfold U32 at hw; omega
  have b0 := bitsV_bd w 26 1
  have b1 := bitsV_bd w 12 3
  have b2 := bitsV_bd w 0 8
  have b3 := bitsV_bd w 16 4
  refine Spec.enter gTok P70 100 Tryd.func70 rfl (by kernel_rfl) ?_
  refine ⟨[], no_rl, (shapeLit hf hs).use (And.intro rfl trivial) rfl rfl ?_⟩
  refine ⟨[], no_rl, fieldsLit_20.use (And.intro rfl trivial) rfl rfl ?_⟩
  refine SW.rounds gTok P70 (by kernel_rfl) (N := 60) 5 ?_
  refine fun _ => And.intro (fun _ => ?_) (fun h => absurd (show (0 : Int) < 4 by decide) h)
  repeat (refine ⟨PV, fl_20, id, rfl, by decide, by decide, fun x hx => ?_⟩; cases hx)
  refine ⟨[], no_rl, (bits_pure w 26 1 hw' (by decide) (by decide)).use (And.intro rfl (And.intro rfl (And.intro rfl trivial))) rfl rfl ?_⟩
  repeat (refine ⟨PV, fl_20, id, rfl, by decide, by decide, fun x hx => ?_⟩; cases hx)
  refine ⟨[], no_rl, (power_pure 11 (by decide)).use (And.intro rfl trivial) rfl rfl ?_⟩
  refine .inl ⟨inR_i64 (by omega), ?_⟩
  refine .inl ⟨inR_i64 (by omega), ?_⟩
  refine fun _ => And.intro (fun _ => ?_) (fun h => absurd (show (1 : Int) < 4 by decide) h)
  repeat (refine ⟨PV, fl_20, id, rfl, by decide, by decide, fun x hx => ?_⟩; cases hx)
  refine ⟨[], no_rl, (bits_pure w 12 3 hw' (by decide) (by decide)).use (And.intro rfl (And.intro rfl (And.intro rfl trivial))) rfl rfl ?_⟩
  repeat (refine ⟨PV, fl_20, id, rfl, by decide, by decide, fun x hx => ?_⟩; cases hx)
  refine ⟨[], no_rl, (power_pure 8 (by decide)).use (And.intro rfl trivial) rfl rfl ?_⟩
  refine .inl ⟨inR_i64 (by omega), ?_⟩
  refine .inl ⟨inR_i64 (by omega), ?_⟩
  refine fun _ => And.intro (fun _ => ?_) (fun h => absurd (show (2 : Int) < 4 by decide) h)
  repeat (refine ⟨PV, fl_20, id, rfl, by decide, by decide, fun x hx => ?_⟩; cases hx)
  refine ⟨[], no_rl, (bits_pure w 0 8 hw' (by decide) (by decide)).use (And.intro rfl (And.intro rfl (And.intro rfl trivial))) rfl rfl ?_⟩
  repeat (refine ⟨PV, fl_20, id, rfl, by decide, by decide, fun x hx => ?_⟩; cases hx)
  refine ⟨[], no_rl, (power_pure 0 (by decide)).use (And.intro rfl trivial) rfl rfl ?_⟩
  refine .inl ⟨inR_i64 (by omega), ?_⟩
  refine .inl ⟨inR_i64 (by omega), ?_⟩
  refine fun _ => And.intro (fun _ => ?_) (fun h => absurd (show (3 : Int) < 4 by decide) h)
  repeat (refine ⟨PV, fl_20, id, rfl, by decide, by decide, fun x hx => ?_⟩; cases hx)
  refine ⟨[], no_rl, (bits_pure w 16 4 hw' (by decide) (by decide)).use (And.intro rfl (And.intro rfl (And.intro rfl trivial))) rfl rfl ?_⟩
  repeat (refine ⟨PV, fl_20, id, rfl, by decide, by decide, fun x hx => ?_⟩; cases hx)
  refine ⟨[], no_rl, (power_pure 0 (by decide)).use (And.intro rfl trivial) rfl rfl ?_⟩
  refine .inl ⟨inR_i64 (by omega), ?_⟩
  refine .inl ⟨inR_i64 (by omega), ?_⟩
  refine fun _ => And.intro (fun h => absurd h (show ¬ (4 : Int) < 4 by decide)) (fun _ => ?_)
  (refine retE ?_; repeat' first | exact trivial | exact rfl | exact Iff.rfl | exact Or.inl rfl | refine And.intro ?_ ?_)
abbrev fl_21 : List PV := [.agg [.lit .i64 6, .lit .i64 2, .lit .i64 12, .lit .i64 3], .agg [.lit .i64 6, .lit .i64 0, .lit .i64 6, .lit .i64 2], .agg [.lit .i64 5, .lit .i64 0, .lit .i64 4, .lit .i64 2], .agg [.lit .i64 7, .lit .i64 0, .lit .i64 20, .lit .i64 1], .agg [.lit .i64 1, .lit .i64 0, .lit .i64 16, .lit .i64 4], .agg [.lit .i64 0, .lit .i64 0, .lit .i64 8, .lit .i64 4], .agg [.lit .i64 2, .lit .i64 0, .lit .i64 0, .lit .i64 4]]
set_option maxHeartbeats 8000000 in
set_option maxRecDepth 100000 in
theorem read_21 (f w : Int) (hs : shapeV f = 21) (hf : I64 f) (hw : U32 w) : PureF gT 70 [.int .i64 f, .int .i64 w] (inP (rdI21 f w)) := by
  have hw' : -1099511627776 ≤ w ∧ w ≤ 9223372036854775807 := by unfold U32 at hw; omega
  have b0 := bitsV_bd w 12 3
  have b1 := bitsV_bd w 6 2
  have b2 := bitsV_bd w 4 2
  have b3 := bitsV_bd w 20 1
  have b4 := bitsV_bd w 16 4
  have b5 := bitsV_bd w 8 4
  have b6 := bitsV_bd w 0 4
  refine Spec.enter gTok P70 100 Tryd.func70 rfl (by kernel_rfl) ?_
  refine ⟨[], no_rl, (shapeLit hf hs).use (And.intro rfl trivial) rfl rfl ?_⟩
  refine ⟨[], no_rl, fieldsLit_21.use (And.intro rfl trivial) rfl rfl ?_⟩
  refine SW.rounds gTok P70 (by kernel_rfl) (N := 60) 8 ?_
  refine fun _ => And.intro (fun _ => ?_) (fun h => absurd (show (0 : Int) < 7 by decide) h)
  repeat (refine ⟨PV, fl_21, id, rfl, by decide, by decide, fun x hx => ?_⟩; cases hx)
  refine ⟨[], no_rl, (bits_pure w 12 3 hw' (by decide) (by decide)).use (And.intro rfl (And.intro rfl (And.intro rfl trivial))) rfl rfl ?_⟩
  repeat (refine ⟨PV, fl_21, id, rfl, by decide, by decide, fun x hx => ?_⟩; cases hx)
  refine ⟨[], no_rl, (power_pure 2 (by decide)).use (And.intro rfl trivial) rfl rfl ?_⟩
  refine .inl ⟨inR_i64 (by omega), ?_⟩
  refine .inl ⟨inR_i64 (by omega), ?_⟩
  refine fun _ => And.intro (fun _ => ?_) (fun h => absurd (show (1 : Int) < 7 by decide) h)
  repeat (refine ⟨PV, fl_21, id, rfl, by decide, by decide, fun x hx => ?_⟩; cases hx)
  refine ⟨[], no_rl, (bits_pure w 6 2 hw' (by decide) (by decide)).use (And.intro rfl (And.intro rfl (And.intro rfl trivial))) rfl rfl ?_⟩
  repeat (refine ⟨PV, fl_21, id, rfl, by decide, by decide, fun x hx => ?_⟩; cases hx)
  refine ⟨[], no_rl, (power_pure 0 (by decide)).use (And.intro rfl trivial) rfl rfl ?_⟩
  refine .inl ⟨inR_i64 (by omega), ?_⟩
  refine .inl ⟨inR_i64 (by omega), ?_⟩
  refine fun _ => And.intro (fun _ => ?_) (fun h => absurd (show (2 : Int) < 7 by decide) h)
  repeat (refine ⟨PV, fl_21, id, rfl, by decide, by decide, fun x hx => ?_⟩; cases hx)
  refine ⟨[], no_rl, (bits_pure w 4 2 hw' (by decide) (by decide)).use (And.intro rfl (And.intro rfl (And.intro rfl trivial))) rfl rfl ?_⟩
  repeat (refine ⟨PV, fl_21, id, rfl, by decide, by decide, fun x hx => ?_⟩; cases hx)
  refine ⟨[], no_rl, (power_pure 0 (by decide)).use (And.intro rfl trivial) rfl rfl ?_⟩
  refine .inl ⟨inR_i64 (by omega), ?_⟩
  refine .inl ⟨inR_i64 (by omega), ?_⟩
  refine fun _ => And.intro (fun _ => ?_) (fun h => absurd (show (3 : Int) < 7 by decide) h)
  repeat (refine ⟨PV, fl_21, id, rfl, by decide, by decide, fun x hx => ?_⟩; cases hx)
  refine ⟨[], no_rl, (bits_pure w 20 1 hw' (by decide) (by decide)).use (And.intro rfl (And.intro rfl (And.intro rfl trivial))) rfl rfl ?_⟩
  repeat (refine ⟨PV, fl_21, id, rfl, by decide, by decide, fun x hx => ?_⟩; cases hx)
  refine ⟨[], no_rl, (power_pure 0 (by decide)).use (And.intro rfl trivial) rfl rfl ?_⟩
  refine .inl ⟨inR_i64 (by omega), ?_⟩
  refine .inl ⟨inR_i64 (by omega), ?_⟩
  refine fun _ => And.intro (fun _ => ?_) (fun h => absurd (show (4 : Int) < 7 by decide) h)
  repeat (refine ⟨PV, fl_21, id, rfl, by decide, by decide, fun x hx => ?_⟩; cases hx)
  refine ⟨[], no_rl, (bits_pure w 16 4 hw' (by decide) (by decide)).use (And.intro rfl (And.intro rfl (And.intro rfl trivial))) rfl rfl ?_⟩
  repeat (refine ⟨PV, fl_21, id, rfl, by decide, by decide, fun x hx => ?_⟩; cases hx)
  refine ⟨[], no_rl, (power_pure 0 (by decide)).use (And.intro rfl trivial) rfl rfl ?_⟩
  refine .inl ⟨inR_i64 (by omega), ?_⟩
  refine .inl ⟨inR_i64 (by omega), ?_⟩
  refine fun _ => And.intro (fun _ => ?_) (fun h => absurd (show (5 : Int) < 7 by decide) h)
  repeat (refine ⟨PV, fl_21, id, rfl, by decide, by decide, fun x hx => ?_⟩; cases hx)
  refine ⟨[], no_rl, (bits_pure w 8 4 hw' (by decide) (by decide)).use (And.intro rfl (And.intro rfl (And.intro rfl trivial))) rfl rfl ?_⟩
  repeat (refine ⟨PV, fl_21, id, rfl, by decide, by decide, fun x hx => ?_⟩; cases hx)
  refine ⟨[], no_rl, (power_pure 0 (by decide)).use (And.intro rfl trivial) rfl rfl ?_⟩
  refine .inl ⟨inR_i64 (by omega), ?_⟩
  refine .inl ⟨inR_i64 (by omega), ?_⟩
  refine fun _ => And.intro (fun _ => ?_) (fun h => absurd (show (6 : Int) < 7 by decide) h)
  repeat (refine ⟨PV, fl_21, id, rfl, by decide, by decide, fun x hx => ?_⟩; cases hx)
  refine ⟨[], no_rl, (bits_pure w 0 4 hw' (by decide) (by decide)).use (And.intro rfl (And.intro rfl (And.intro rfl trivial))) rfl rfl ?_⟩
  repeat (refine ⟨PV, fl_21, id, rfl, by decide, by decide, fun x hx => ?_⟩; cases hx)
  refine ⟨[], no_rl, (power_pure 0 (by decide)).use (And.intro rfl trivial) rfl rfl ?_⟩
  refine .inl ⟨inR_i64 (by omega), ?_⟩
  refine .inl ⟨inR_i64 (by omega), ?_⟩
  refine fun _ => And.intro (fun h => absurd h (show ¬ (7 : Int) < 7 by decide)) (fun _ => ?_)
  refine And.intro (fun h0 => And.intro (fun h1 => ?_) (fun h1 => And.intro (fun h2 => ?_) (fun h2 => ?_))) (fun h0 => ?_)
  · refine retE ?_
    exact ⟨rfl, rfl, rfl, rfl, rfl, rfl, rfl, (if_pos (And.intro h0 (Or.inl h1))).symm, rfl, rfl, rfl, trivial⟩
  · refine retE ?_
    exact ⟨rfl, rfl, rfl, rfl, rfl, rfl, rfl, (if_pos (And.intro h0 (Or.inr h2))).symm, rfl, rfl, rfl, trivial⟩
  · refine retE ?_
    exact ⟨rfl, rfl, rfl, rfl, rfl, rfl, rfl, (if_neg (fun e => e.2.elim h1 h2)).symm, rfl, rfl, rfl, trivial⟩
  · refine retE ?_
    exact ⟨rfl, rfl, rfl, rfl, rfl, rfl, rfl, (if_neg (fun e => h0 e.1)).symm, rfl, rfl, rfl, trivial⟩
abbrev fl_22 : List PV := [.agg [.lit .i64 6, .lit .i64 2, .lit .i64 12, .lit .i64 3], .agg [.lit .i64 6, .lit .i64 0, .lit .i64 6, .lit .i64 2], .agg [.lit .i64 5, .lit .i64 0, .lit .i64 4, .lit .i64 2], .agg [.lit .i64 7, .lit .i64 0, .lit .i64 20, .lit .i64 1], .agg [.lit .i64 0, .lit .i64 0, .lit .i64 8, .lit .i64 4], .agg [.lit .i64 2, .lit .i64 0, .lit .i64 0, .lit .i64 4]]
set_option maxHeartbeats 8000000 in
set_option maxRecDepth 100000 in
theorem read_22 (f w : Int) (hs : shapeV f = 22) (hf : I64 f) (hw : U32 w) : PureF gT 70 [.int .i64 f, .int .i64 w] (inP (rdI22 f w)) := by
  have hw' : -1099511627776 ≤ w ∧ w ≤ 9223372036854775807 := by unfold U32 at hw; omega
  have b0 := bitsV_bd w 12 3
  have b1 := bitsV_bd w 6 2
  have b2 := bitsV_bd w 4 2
  have b3 := bitsV_bd w 20 1
  have b4 := bitsV_bd w 8 4
  have b5 := bitsV_bd w 0 4
  refine Spec.enter gTok P70 100 Tryd.func70 rfl (by kernel_rfl) ?_
  refine ⟨[], no_rl, (shapeLit hf hs).use (And.intro rfl trivial) rfl rfl ?_⟩
  refine ⟨[], no_rl, fieldsLit_22.use (And.intro rfl trivial) rfl rfl ?_⟩
  refine SW.rounds gTok P70 (by kernel_rfl) (N := 60) 7 ?_
  refine fun _ => And.intro (fun _ => ?_) (fun h => absurd (show (0 : Int) < 6 by decide) h)
  repeat (refine ⟨PV, fl_22, id, rfl, by decide, by decide, fun x hx => ?_⟩; cases hx)
  refine ⟨[], no_rl, (bits_pure w 12 3 hw' (by decide) (by decide)).use (And.intro rfl (And.intro rfl (And.intro rfl trivial))) rfl rfl ?_⟩
  repeat (refine ⟨PV, fl_22, id, rfl, by decide, by decide, fun x hx => ?_⟩; cases hx)
  refine ⟨[], no_rl, (power_pure 2 (by decide)).use (And.intro rfl trivial) rfl rfl ?_⟩
  refine .inl ⟨inR_i64 (by omega), ?_⟩
  refine .inl ⟨inR_i64 (by omega), ?_⟩
  refine fun _ => And.intro (fun _ => ?_) (fun h => absurd (show (1 : Int) < 6 by decide) h)
  repeat (refine ⟨PV, fl_22, id, rfl, by decide, by decide, fun x hx => ?_⟩; cases hx)
  refine ⟨[], no_rl, (bits_pure w 6 2 hw' (by decide) (by decide)).use (And.intro rfl (And.intro rfl (And.intro rfl trivial))) rfl rfl ?_⟩
  repeat (refine ⟨PV, fl_22, id, rfl, by decide, by decide, fun x hx => ?_⟩; cases hx)
  refine ⟨[], no_rl, (power_pure 0 (by decide)).use (And.intro rfl trivial) rfl rfl ?_⟩
  refine .inl ⟨inR_i64 (by omega), ?_⟩
  refine .inl ⟨inR_i64 (by omega), ?_⟩
  refine fun _ => And.intro (fun _ => ?_) (fun h => absurd (show (2 : Int) < 6 by decide) h)
  repeat (refine ⟨PV, fl_22, id, rfl, by decide, by decide, fun x hx => ?_⟩; cases hx)
  refine ⟨[], no_rl, (bits_pure w 4 2 hw' (by decide) (by decide)).use (And.intro rfl (And.intro rfl (And.intro rfl trivial))) rfl rfl ?_⟩
  repeat (refine ⟨PV, fl_22, id, rfl, by decide, by decide, fun x hx => ?_⟩; cases hx)
  refine ⟨[], no_rl, (power_pure 0 (by decide)).use (And.intro rfl trivial) rfl rfl ?_⟩
  refine .inl ⟨inR_i64 (by omega), ?_⟩
  refine .inl ⟨inR_i64 (by omega), ?_⟩
  refine fun _ => And.intro (fun _ => ?_) (fun h => absurd (show (3 : Int) < 6 by decide) h)
  repeat (refine ⟨PV, fl_22, id, rfl, by decide, by decide, fun x hx => ?_⟩; cases hx)
  refine ⟨[], no_rl, (bits_pure w 20 1 hw' (by decide) (by decide)).use (And.intro rfl (And.intro rfl (And.intro rfl trivial))) rfl rfl ?_⟩
  repeat (refine ⟨PV, fl_22, id, rfl, by decide, by decide, fun x hx => ?_⟩; cases hx)
  refine ⟨[], no_rl, (power_pure 0 (by decide)).use (And.intro rfl trivial) rfl rfl ?_⟩
  refine .inl ⟨inR_i64 (by omega), ?_⟩
  refine .inl ⟨inR_i64 (by omega), ?_⟩
  refine fun _ => And.intro (fun _ => ?_) (fun h => absurd (show (4 : Int) < 6 by decide) h)
  repeat (refine ⟨PV, fl_22, id, rfl, by decide, by decide, fun x hx => ?_⟩; cases hx)
  refine ⟨[], no_rl, (bits_pure w 8 4 hw' (by decide) (by decide)).use (And.intro rfl (And.intro rfl (And.intro rfl trivial))) rfl rfl ?_⟩
  repeat (refine ⟨PV, fl_22, id, rfl, by decide, by decide, fun x hx => ?_⟩; cases hx)
  refine ⟨[], no_rl, (power_pure 0 (by decide)).use (And.intro rfl trivial) rfl rfl ?_⟩
  refine .inl ⟨inR_i64 (by omega), ?_⟩
  refine .inl ⟨inR_i64 (by omega), ?_⟩
  refine fun _ => And.intro (fun _ => ?_) (fun h => absurd (show (5 : Int) < 6 by decide) h)
  repeat (refine ⟨PV, fl_22, id, rfl, by decide, by decide, fun x hx => ?_⟩; cases hx)
  refine ⟨[], no_rl, (bits_pure w 0 4 hw' (by decide) (by decide)).use (And.intro rfl (And.intro rfl (And.intro rfl trivial))) rfl rfl ?_⟩
  repeat (refine ⟨PV, fl_22, id, rfl, by decide, by decide, fun x hx => ?_⟩; cases hx)
  refine ⟨[], no_rl, (power_pure 0 (by decide)).use (And.intro rfl trivial) rfl rfl ?_⟩
  refine .inl ⟨inR_i64 (by omega), ?_⟩
  refine .inl ⟨inR_i64 (by omega), ?_⟩
  refine fun _ => And.intro (fun h => absurd h (show ¬ (6 : Int) < 6 by decide)) (fun _ => ?_)
  refine And.intro (fun h0 => And.intro (fun h1 => ?_) (fun h1 => And.intro (fun h2 => ?_) (fun h2 => ?_))) (fun h0 => ?_)
  · refine retE ?_
    exact ⟨rfl, rfl, rfl, rfl, rfl, rfl, rfl, (if_pos (And.intro h0 (Or.inl h1))).symm, rfl, rfl, rfl, trivial⟩
  · refine retE ?_
    exact ⟨rfl, rfl, rfl, rfl, rfl, rfl, rfl, (if_pos (And.intro h0 (Or.inr h2))).symm, rfl, rfl, rfl, trivial⟩
  · refine retE ?_
    exact ⟨rfl, rfl, rfl, rfl, rfl, rfl, rfl, (if_neg (fun e => e.2.elim h1 h2)).symm, rfl, rfl, rfl, trivial⟩
  · refine retE ?_
    exact ⟨rfl, rfl, rfl, rfl, rfl, rfl, rfl, (if_neg (fun e => h0 e.1)).symm, rfl, rfl, rfl, trivial⟩
abbrev fl_23 : List PV := [.agg [.lit .i64 6, .lit .i64 2, .lit .i64 12, .lit .i64 3], .agg [.lit .i64 6, .lit .i64 0, .lit .i64 6, .lit .i64 2], .agg [.lit .i64 5, .lit .i64 0, .lit .i64 4, .lit .i64 2], .agg [.lit .i64 1, .lit .i64 0, .lit .i64 16, .lit .i64 4], .agg [.lit .i64 2, .lit .i64 0, .lit .i64 0, .lit .i64 4]]
set_option maxHeartbeats 8000000 in
set_option maxRecDepth 100000 in
theorem read_23 (f w : Int) (hs : shapeV f = 23) (hf : I64 f) (hw : U32 w) : PureF gT 70 [.int .i64 f, .int .i64 w] (inP (rdI23 f w)) := by
  have hw' : -1099511627776 ≤ w ∧ w ≤ 9223372036854775807 := by unfold U32 at hw; omega
  have b0 := bitsV_bd w 12 3
  have b1 := bitsV_bd w 6 2
  have b2 := bitsV_bd w 4 2
  have b3 := bitsV_bd w 16 4
  have b4 := bitsV_bd w 0 4
  refine Spec.enter gTok P70 100 Tryd.func70 rfl (by kernel_rfl) ?_
  refine ⟨[], no_rl, (shapeLit hf hs).use (And.intro rfl trivial) rfl rfl ?_⟩
  refine ⟨[], no_rl, fieldsLit_23.use (And.intro rfl trivial) rfl rfl ?_⟩
  refine SW.rounds gTok P70 (by kernel_rfl) (N := 60) 6 ?_
  refine fun _ => And.intro (fun _ => ?_) (fun h => absurd (show (0 : Int) < 5 by decide) h)
  repeat (refine ⟨PV, fl_23, id, rfl, by decide, by decide, fun x hx => ?_⟩; cases hx)
  refine ⟨[], no_rl, (bits_pure w 12 3 hw' (by decide) (by decide)).use (And.intro rfl (And.intro rfl (And.intro rfl trivial))) rfl rfl ?_⟩
  repeat (refine ⟨PV, fl_23, id, rfl, by decide, by decide, fun x hx => ?_⟩; cases hx)
  refine ⟨[], no_rl, (power_pure 2 (by decide)).use (And.intro rfl trivial) rfl rfl ?_⟩
  refine .inl ⟨inR_i64 (by omega), ?_⟩
  refine .inl ⟨inR_i64 (by omega), ?_⟩
  refine fun _ => And.intro (fun _ => ?_) (fun h => absurd (show (1 : Int) < 5 by decide) h)
  repeat (refine ⟨PV, fl_23, id, rfl, by decide, by decide, fun x hx => ?_⟩; cases hx)
  refine ⟨[], no_rl, (bits_pure w 6 2 hw' (by decide) (by decide)).use (And.intro rfl (And.intro rfl (And.intro rfl trivial))) rfl rfl ?_⟩
  repeat (refine ⟨PV, fl_23, id, rfl, by decide, by decide, fun x hx => ?_⟩; cases hx)
  refine ⟨[], no_rl, (power_pure 0 (by decide)).use (And.intro rfl trivial) rfl rfl ?_⟩
  refine .inl ⟨inR_i64 (by omega), ?_⟩
  refine .inl ⟨inR_i64 (by omega), ?_⟩
  refine fun _ => And.intro (fun _ => ?_) (fun h => absurd (show (2 : Int) < 5 by decide) h)
  repeat (refine ⟨PV, fl_23, id, rfl, by decide, by decide, fun x hx => ?_⟩; cases hx)
  refine ⟨[], no_rl, (bits_pure w 4 2 hw' (by decide) (by decide)).use (And.intro rfl (And.intro rfl (And.intro rfl trivial))) rfl rfl ?_⟩
  repeat (refine ⟨PV, fl_23, id, rfl, by decide, by decide, fun x hx => ?_⟩; cases hx)
  refine ⟨[], no_rl, (power_pure 0 (by decide)).use (And.intro rfl trivial) rfl rfl ?_⟩
  refine .inl ⟨inR_i64 (by omega), ?_⟩
  refine .inl ⟨inR_i64 (by omega), ?_⟩
  refine fun _ => And.intro (fun _ => ?_) (fun h => absurd (show (3 : Int) < 5 by decide) h)
  repeat (refine ⟨PV, fl_23, id, rfl, by decide, by decide, fun x hx => ?_⟩; cases hx)
  refine ⟨[], no_rl, (bits_pure w 16 4 hw' (by decide) (by decide)).use (And.intro rfl (And.intro rfl (And.intro rfl trivial))) rfl rfl ?_⟩
  repeat (refine ⟨PV, fl_23, id, rfl, by decide, by decide, fun x hx => ?_⟩; cases hx)
  refine ⟨[], no_rl, (power_pure 0 (by decide)).use (And.intro rfl trivial) rfl rfl ?_⟩
  refine .inl ⟨inR_i64 (by omega), ?_⟩
  refine .inl ⟨inR_i64 (by omega), ?_⟩
  refine fun _ => And.intro (fun _ => ?_) (fun h => absurd (show (4 : Int) < 5 by decide) h)
  repeat (refine ⟨PV, fl_23, id, rfl, by decide, by decide, fun x hx => ?_⟩; cases hx)
  refine ⟨[], no_rl, (bits_pure w 0 4 hw' (by decide) (by decide)).use (And.intro rfl (And.intro rfl (And.intro rfl trivial))) rfl rfl ?_⟩
  repeat (refine ⟨PV, fl_23, id, rfl, by decide, by decide, fun x hx => ?_⟩; cases hx)
  refine ⟨[], no_rl, (power_pure 0 (by decide)).use (And.intro rfl trivial) rfl rfl ?_⟩
  refine .inl ⟨inR_i64 (by omega), ?_⟩
  refine .inl ⟨inR_i64 (by omega), ?_⟩
  refine fun _ => And.intro (fun h => absurd h (show ¬ (5 : Int) < 5 by decide)) (fun _ => ?_)
  refine And.intro (fun h0 => And.intro (fun h1 => ?_) (fun h1 => And.intro (fun h2 => ?_) (fun h2 => ?_))) (fun h0 => ?_)
  · refine retE ?_
    exact ⟨rfl, rfl, rfl, rfl, rfl, rfl, rfl, (if_pos (And.intro h0 (Or.inl h1))).symm, rfl, rfl, rfl, trivial⟩
  · refine retE ?_
    exact ⟨rfl, rfl, rfl, rfl, rfl, rfl, rfl, (if_pos (And.intro h0 (Or.inr h2))).symm, rfl, rfl, rfl, trivial⟩
  · refine retE ?_
    exact ⟨rfl, rfl, rfl, rfl, rfl, rfl, rfl, (if_neg (fun e => e.2.elim h1 h2)).symm, rfl, rfl, rfl, trivial⟩
  · refine retE ?_
    exact ⟨rfl, rfl, rfl, rfl, rfl, rfl, rfl, (if_neg (fun e => h0 e.1)).symm, rfl, rfl, rfl, trivial⟩
abbrev fl_24 : List PV := [.agg [.lit .i64 4, .lit .i64 11, .lit .i64 26, .lit .i64 1], .agg [.lit .i64 4, .lit .i64 8, .lit .i64 12, .lit .i64 3], .agg [.lit .i64 4, .lit .i64 0, .lit .i64 0, .lit .i64 8], .agg [.lit .i64 1, .lit .i64 0, .lit .i64 16, .lit .i64 4], .agg [.lit .i64 0, .lit .i64 0, .lit .i64 8, .lit .i64 4]]
set_option maxHeartbeats 8000000 in
set_option maxRecDepth 100000 in
theorem read_24 (f w : Int) (hs : shapeV f = 24) (hf : I64 f) (hw : U32 w) : PureF gT 70 [.int .i64 f, .int .i64 w] (inP (rdI24 f w)) := by
  have hw' : -1099511627776 ≤ w ∧ w ≤ 9223372036854775807 := by unfold U32 at hw; omega
  have b0 := bitsV_bd w 26 1
  have b1 := bitsV_bd w 12 3
  have b2 := bitsV_bd w 0 8
  have b3 := bitsV_bd w 16 4
  have b4 := bitsV_bd w 8 4
  refine Spec.enter gTok P70 100 Tryd.func70 rfl (by kernel_rfl) ?_
  refine ⟨[], no_rl, (shapeLit hf hs).use (And.intro rfl trivial) rfl rfl ?_⟩
  refine ⟨[], no_rl, fieldsLit_24.use (And.intro rfl trivial) rfl rfl ?_⟩
  refine SW.rounds gTok P70 (by kernel_rfl) (N := 60) 6 ?_
  refine fun _ => And.intro (fun _ => ?_) (fun h => absurd (show (0 : Int) < 5 by decide) h)
  repeat (refine ⟨PV, fl_24, id, rfl, by decide, by decide, fun x hx => ?_⟩; cases hx)
  refine ⟨[], no_rl, (bits_pure w 26 1 hw' (by decide) (by decide)).use (And.intro rfl (And.intro rfl (And.intro rfl trivial))) rfl rfl ?_⟩
  repeat (refine ⟨PV, fl_24, id, rfl, by decide, by decide, fun x hx => ?_⟩; cases hx)
  refine ⟨[], no_rl, (power_pure 11 (by decide)).use (And.intro rfl trivial) rfl rfl ?_⟩
  refine .inl ⟨inR_i64 (by omega), ?_⟩
  refine .inl ⟨inR_i64 (by omega), ?_⟩
  refine fun _ => And.intro (fun _ => ?_) (fun h => absurd (show (1 : Int) < 5 by decide) h)
  repeat (refine ⟨PV, fl_24, id, rfl, by decide, by decide, fun x hx => ?_⟩; cases hx)
  refine ⟨[], no_rl, (bits_pure w 12 3 hw' (by decide) (by decide)).use (And.intro rfl (And.intro rfl (And.intro rfl trivial))) rfl rfl ?_⟩
  repeat (refine ⟨PV, fl_24, id, rfl, by decide, by decide, fun x hx => ?_⟩; cases hx)
  refine ⟨[], no_rl, (power_pure 8 (by decide)).use (And.intro rfl trivial) rfl rfl ?_⟩
  refine .inl ⟨inR_i64 (by omega), ?_⟩
  refine .inl ⟨inR_i64 (by omega), ?_⟩
  refine fun _ => And.intro (fun _ => ?_) (fun h => absurd (show (2 : Int) < 5 by decide) h)
  repeat (refine ⟨PV, fl_24, id, rfl, by decide, by decide, fun x hx => ?_⟩; cases hx)
  refine ⟨[], no_rl, (bits_pure w 0 8 hw' (by decide) (by decide)).use (And.intro rfl (And.intro rfl (And.intro rfl trivial))) rfl rfl ?_⟩
  repeat (refine ⟨PV, fl_24, id, rfl, by decide, by decide, fun x hx => ?_⟩; cases hx)
  refine ⟨[], no_rl, (power_pure 0 (by decide)).use (And.intro rfl trivial) rfl rfl ?_⟩
  refine .inl ⟨inR_i64 (by omega), ?_⟩
  refine .inl ⟨inR_i64 (by omega), ?_⟩
  refine fun _ => And.intro (fun _ => ?_) (fun h => absurd (show (3 : Int) < 5 by decide) h)
  repeat (refine ⟨PV, fl_24, id, rfl, by decide, by decide, fun x hx => ?_⟩; cases hx)
  refine ⟨[], no_rl, (bits_pure w 16 4 hw' (by decide) (by decide)).use (And.intro rfl (And.intro rfl (And.intro rfl trivial))) rfl rfl ?_⟩
  repeat (refine ⟨PV, fl_24, id, rfl, by decide, by decide, fun x hx => ?_⟩; cases hx)
  refine ⟨[], no_rl, (power_pure 0 (by decide)).use (And.intro rfl trivial) rfl rfl ?_⟩
  refine .inl ⟨inR_i64 (by omega), ?_⟩
  refine .inl ⟨inR_i64 (by omega), ?_⟩
  refine fun _ => And.intro (fun _ => ?_) (fun h => absurd (show (4 : Int) < 5 by decide) h)
  repeat (refine ⟨PV, fl_24, id, rfl, by decide, by decide, fun x hx => ?_⟩; cases hx)
  refine ⟨[], no_rl, (bits_pure w 8 4 hw' (by decide) (by decide)).use (And.intro rfl (And.intro rfl (And.intro rfl trivial))) rfl rfl ?_⟩
  repeat (refine ⟨PV, fl_24, id, rfl, by decide, by decide, fun x hx => ?_⟩; cases hx)
  refine ⟨[], no_rl, (power_pure 0 (by decide)).use (And.intro rfl trivial) rfl rfl ?_⟩
  refine .inl ⟨inR_i64 (by omega), ?_⟩
  refine .inl ⟨inR_i64 (by omega), ?_⟩
  refine fun _ => And.intro (fun h => absurd h (show ¬ (5 : Int) < 5 by decide)) (fun _ => ?_)
  (refine retE ?_; repeat' first | exact trivial | exact rfl | exact Iff.rfl | exact Or.inl rfl | refine And.intro ?_ ?_)
abbrev fl_25 : List PV := [.agg [.lit .i64 1, .lit .i64 0, .lit .i64 16, .lit .i64 4], .agg [.lit .i64 0, .lit .i64 0, .lit .i64 12, .lit .i64 4], .agg [.lit .i64 4, .lit .i64 0, .lit .i64 0, .lit .i64 12]]
set_option maxHeartbeats 8000000 in
set_option maxRecDepth 100000 in
theorem read_25 (f w : Int) (hs : shapeV f = 25) (hf : I64 f) (hw : U32 w) : PureF gT 70 [.int .i64 f, .int .i64 w] (inP (rdI25 f w)) := by
  have hw' : -1099511627776 ≤ w ∧ w ≤ 9223372036854775807 := by unfold U32 at hw; omega
  have b0 := bitsV_bd w 16 4
  have b1 := bitsV_bd w 12 4
  have b2 := bitsV_bd w 0 12
  refine Spec.enter gTok P70 100 Tryd.func70 rfl (by kernel_rfl) ?_
  refine ⟨[], no_rl, (shapeLit hf hs).use (And.intro rfl trivial) rfl rfl ?_⟩
  refine ⟨[], no_rl, fieldsLit_25.use (And.intro rfl trivial) rfl rfl ?_⟩
  refine SW.rounds gTok P70 (by kernel_rfl) (N := 60) 4 ?_
  refine fun _ => And.intro (fun _ => ?_) (fun h => absurd (show (0 : Int) < 3 by decide) h)
  repeat (refine ⟨PV, fl_25, id, rfl, by decide, by decide, fun x hx => ?_⟩; cases hx)
  refine ⟨[], no_rl, (bits_pure w 16 4 hw' (by decide) (by decide)).use (And.intro rfl (And.intro rfl (And.intro rfl trivial))) rfl rfl ?_⟩
  repeat (refine ⟨PV, fl_25, id, rfl, by decide, by decide, fun x hx => ?_⟩; cases hx)
  refine ⟨[], no_rl, (power_pure 0 (by decide)).use (And.intro rfl trivial) rfl rfl ?_⟩
  refine .inl ⟨inR_i64 (by omega), ?_⟩
  refine .inl ⟨inR_i64 (by omega), ?_⟩
  refine fun _ => And.intro (fun _ => ?_) (fun h => absurd (show (1 : Int) < 3 by decide) h)
  repeat (refine ⟨PV, fl_25, id, rfl, by decide, by decide, fun x hx => ?_⟩; cases hx)
  refine ⟨[], no_rl, (bits_pure w 12 4 hw' (by decide) (by decide)).use (And.intro rfl (And.intro rfl (And.intro rfl trivial))) rfl rfl ?_⟩
  repeat (refine ⟨PV, fl_25, id, rfl, by decide, by decide, fun x hx => ?_⟩; cases hx)
  refine ⟨[], no_rl, (power_pure 0 (by decide)).use (And.intro rfl trivial) rfl rfl ?_⟩
  refine .inl ⟨inR_i64 (by omega), ?_⟩
  refine .inl ⟨inR_i64 (by omega), ?_⟩
  refine fun _ => And.intro (fun _ => ?_) (fun h => absurd (show (2 : Int) < 3 by decide) h)
  repeat (refine ⟨PV, fl_25, id, rfl, by decide, by decide, fun x hx => ?_⟩; cases hx)
  refine ⟨[], no_rl, (bits_pure w 0 12 hw' (by decide) (by decide)).use (And.intro rfl (And.intro rfl (And.intro rfl trivial))) rfl rfl ?_⟩
  repeat (refine ⟨PV, fl_25, id, rfl, by decide, by decide, fun x hx => ?_⟩; cases hx)
  refine ⟨[], no_rl, (power_pure 0 (by decide)).use (And.intro rfl trivial) rfl rfl ?_⟩
  refine .inl ⟨inR_i64 (by omega), ?_⟩
  refine .inl ⟨inR_i64 (by omega), ?_⟩
  refine fun _ => And.intro (fun h => absurd h (show ¬ (3 : Int) < 3 by decide)) (fun _ => ?_)
  (refine retE ?_; repeat' first | exact trivial | exact rfl | exact Iff.rfl | exact Or.inl rfl | refine And.intro ?_ ?_)
abbrev fl_26 : List PV := [.agg [.lit .i64 1, .lit .i64 0, .lit .i64 16, .lit .i64 4], .agg [.lit .i64 0, .lit .i64 0, .lit .i64 12, .lit .i64 4], .agg [.lit .i64 6, .lit .i64 0, .lit .i64 4, .lit .i64 2], .agg [.lit .i64 2, .lit .i64 0, .lit .i64 0, .lit .i64 4]]
set_option maxHeartbeats 8000000 in
set_option maxRecDepth 100000 in
theorem read_26 (f w : Int) (hs : shapeV f = 26) (hf : I64 f) (hw : U32 w) : PureF gT 70 [.int .i64 f, .int .i64 w] (inP (rdI26 f w)) := by
  have hw' : -1099511627776 ≤ w ∧ w ≤ 9223372036854775807 := by unfold U32 at hw; omega
  have b0 := bitsV_bd w 16 4
  have b1 := bitsV_bd w 12 4
  have b2 := bitsV_bd w 4 2
  have b3 := bitsV_bd w 0 4
  refine Spec.enter gTok P70 100 Tryd.func70 rfl (by kernel_rfl) ?_
  refine ⟨[], no_rl, (shapeLit hf hs).use (And.intro rfl trivial) rfl rfl ?_⟩
  refine ⟨[], no_rl, fieldsLit_26.use (And.intro rfl trivial) rfl rfl ?_⟩
  refine SW.rounds gTok P70 (by kernel_rfl) (N := 60) 5 ?_
  refine fun _ => And.intro (fun _ => ?_) (fun h => absurd (show (0 : Int) < 4 by decide) h)
  repeat (refine ⟨PV, fl_26, id, rfl, by decide, by decide, fun x hx => ?_⟩; cases hx)
  refine ⟨[], no_rl, (bits_pure w 16 4 hw' (by decide) (by decide)).use (And.intro rfl (And.intro rfl (And.intro rfl trivial))) rfl rfl ?_⟩
  repeat (refine ⟨PV, fl_26, id, rfl, by decide, by decide, fun x hx => ?_⟩; cases hx)
  refine ⟨[], no_rl, (power_pure 0 (by decide)).use (And.intro rfl trivial) rfl rfl ?_⟩
  refine .inl ⟨inR_i64 (by omega), ?_⟩
  refine .inl ⟨inR_i64 (by omega), ?_⟩
  refine fun _ => And.intro (fun _ => ?_) (fun h => absurd (show (1 : Int) < 4 by decide) h)
  repeat (refine ⟨PV, fl_26, id, rfl, by decide, by decide, fun x hx => ?_⟩; cases hx)
  refine ⟨[], no_rl, (bits_pure w 12 4 hw' (by decide) (by decide)).use (And.intro rfl (And.intro rfl (And.intro rfl trivial))) rfl rfl ?_⟩
  repeat (refine ⟨PV, fl_26, id, rfl, by decide, by decide, fun x hx => ?_⟩; cases hx)
  refine ⟨[], no_rl, (power_pure 0 (by decide)).use (And.intro rfl trivial) rfl rfl ?_⟩
  refine .inl ⟨inR_i64 (by omega), ?_⟩
  refine .inl ⟨inR_i64 (by omega), ?_⟩
  refine fun _ => And.intro (fun _ => ?_) (fun h => absurd (show (2 : Int) < 4 by decide) h)
  repeat (refine ⟨PV, fl_26, id, rfl, by decide, by decide, fun x hx => ?_⟩; cases hx)
  refine ⟨[], no_rl, (bits_pure w 4 2 hw' (by decide) (by decide)).use (And.intro rfl (And.intro rfl (And.intro rfl trivial))) rfl rfl ?_⟩
  repeat (refine ⟨PV, fl_26, id, rfl, by decide, by decide, fun x hx => ?_⟩; cases hx)
  refine ⟨[], no_rl, (power_pure 0 (by decide)).use (And.intro rfl trivial) rfl rfl ?_⟩
  refine .inl ⟨inR_i64 (by omega), ?_⟩
  refine .inl ⟨inR_i64 (by omega), ?_⟩
  refine fun _ => And.intro (fun _ => ?_) (fun h => absurd (show (3 : Int) < 4 by decide) h)
  repeat (refine ⟨PV, fl_26, id, rfl, by decide, by decide, fun x hx => ?_⟩; cases hx)
  refine ⟨[], no_rl, (bits_pure w 0 4 hw' (by decide) (by decide)).use (And.intro rfl (And.intro rfl (And.intro rfl trivial))) rfl rfl ?_⟩
  repeat (refine ⟨PV, fl_26, id, rfl, by decide, by decide, fun x hx => ?_⟩; cases hx)
  refine ⟨[], no_rl, (power_pure 0 (by decide)).use (And.intro rfl trivial) rfl rfl ?_⟩
  refine .inl ⟨inR_i64 (by omega), ?_⟩
  refine .inl ⟨inR_i64 (by omega), ?_⟩
  refine fun _ => And.intro (fun h => absurd h (show ¬ (4 : Int) < 4 by decide)) (fun _ => ?_)
  (refine retE ?_; repeat' first | exact trivial | exact rfl | exact Iff.rfl | exact Or.inl rfl | refine And.intro ?_ ?_)

end Go.Proofs.YthpkejlmelednaaDoor.Pw

/- Chapter 4 over values: the document's reading of wide shapes (by gen_tv.py). -/
namespace Go.Proofs.YthpkejlmelednaaDoor.Pw
open Go Go.RowKit

abbrev fl_27 : List PV := [.agg [.lit .i64 7, .lit .i64 0, .lit .i64 20, .lit .i64 1], .agg [.lit .i64 1, .lit .i64 0, .lit .i64 16, .lit .i64 4], .agg [.lit .i64 0, .lit .i64 0, .lit .i64 8, .lit .i64 4], .agg [.lit .i64 2, .lit .i64 0, .lit .i64 0, .lit .i64 4]]
set_option maxHeartbeats 8000000 in
set_option maxRecDepth 100000 in
theorem read_27 (f w : Int) (hs : shapeV f = 27) (hf : I64 f) (hw : U32 w) : PureF gT 70 [.int .i64 f, .int .i64 w] (inP (rdI27 f w)) := by
  have hw' : -1099511627776 ≤ w ∧ w ≤ 9223372036854775807 := by unfold U32 at hw; omega
  have b0 := bitsV_bd w 20 1
  have b1 := bitsV_bd w 16 4
  have b2 := bitsV_bd w 8 4
  have b3 := bitsV_bd w 0 4
  refine Spec.enter gTok P70 100 Tryd.func70 rfl (by kernel_rfl) ?_
  refine ⟨[], no_rl, (shapeLit hf hs).use (And.intro rfl trivial) rfl rfl ?_⟩
  refine ⟨[], no_rl, fieldsLit_27.use (And.intro rfl trivial) rfl rfl ?_⟩
  refine SW.rounds gTok P70 (by kernel_rfl) (N := 60) 5 ?_
  refine fun _ => And.intro (fun _ => ?_) (fun h => absurd (show (0 : Int) < 4 by decide) h)
  repeat (refine ⟨PV, fl_27, id, rfl, by decide, by decide, fun x hx => ?_⟩; cases hx)
  refine ⟨[], no_rl, (bits_pure w 20 1 hw' (by decide) (by decide)).use (And.intro rfl (And.intro rfl (And.intro rfl trivial))) rfl rfl ?_⟩
  repeat (refine ⟨PV, fl_27, id, rfl, by decide, by decide, fun x hx => ?_⟩; cases hx)
  refine ⟨[], no_rl, (power_pure 0 (by decide)).use (And.intro rfl trivial) rfl rfl ?_⟩
  refine .inl ⟨inR_i64 (by omega), ?_⟩
  refine .inl ⟨inR_i64 (by omega), ?_⟩
  refine fun _ => And.intro (fun _ => ?_) (fun h => absurd (show (1 : Int) < 4 by decide) h)
  repeat (refine ⟨PV, fl_27, id, rfl, by decide, by decide, fun x hx => ?_⟩; cases hx)
  refine ⟨[], no_rl, (bits_pure w 16 4 hw' (by decide) (by decide)).use (And.intro rfl (And.intro rfl (And.intro rfl trivial))) rfl rfl ?_⟩
  repeat (refine ⟨PV, fl_27, id, rfl, by decide, by decide, fun x hx => ?_⟩; cases hx)
  refine ⟨[], no_rl, (power_pure 0 (by decide)).use (And.intro rfl trivial) rfl rfl ?_⟩
  refine .inl ⟨inR_i64 (by omega), ?_⟩
  refine .inl ⟨inR_i64 (by omega), ?_⟩
  refine fun _ => And.intro (fun _ => ?_) (fun h => absurd (show (2 : Int) < 4 by decide) h)
  repeat (refine ⟨PV, fl_27, id, rfl, by decide, by decide, fun x hx => ?_⟩; cases hx)
  refine ⟨[], no_rl, (bits_pure w 8 4 hw' (by decide) (by decide)).use (And.intro rfl (And.intro rfl (And.intro rfl trivial))) rfl rfl ?_⟩
  repeat (refine ⟨PV, fl_27, id, rfl, by decide, by decide, fun x hx => ?_⟩; cases hx)
  refine ⟨[], no_rl, (power_pure 0 (by decide)).use (And.intro rfl trivial) rfl rfl ?_⟩
  refine .inl ⟨inR_i64 (by omega), ?_⟩
  refine .inl ⟨inR_i64 (by omega), ?_⟩
  refine fun _ => And.intro (fun _ => ?_) (fun h => absurd (show (3 : Int) < 4 by decide) h)
  repeat (refine ⟨PV, fl_27, id, rfl, by decide, by decide, fun x hx => ?_⟩; cases hx)
  refine ⟨[], no_rl, (bits_pure w 0 4 hw' (by decide) (by decide)).use (And.intro rfl (And.intro rfl (And.intro rfl trivial))) rfl rfl ?_⟩
  repeat (refine ⟨PV, fl_27, id, rfl, by decide, by decide, fun x hx => ?_⟩; cases hx)
  refine ⟨[], no_rl, (power_pure 0 (by decide)).use (And.intro rfl trivial) rfl rfl ?_⟩
  refine .inl ⟨inR_i64 (by omega), ?_⟩
  refine .inl ⟨inR_i64 (by omega), ?_⟩
  refine fun _ => And.intro (fun h => absurd h (show ¬ (4 : Int) < 4 by decide)) (fun _ => ?_)
  (refine retE ?_; repeat' first | exact trivial | exact rfl | exact Iff.rfl | exact Or.inl rfl | refine And.intro ?_ ?_)
abbrev fl_28 : List PV := [.agg [.lit .i64 1, .lit .i64 0, .lit .i64 16, .lit .i64 4], .agg [.lit .i64 0, .lit .i64 0, .lit .i64 8, .lit .i64 4], .agg [.lit .i64 2, .lit .i64 0, .lit .i64 0, .lit .i64 4]]
set_option maxHeartbeats 8000000 in
set_option maxRecDepth 100000 in
theorem read_28 (f w : Int) (hs : shapeV f = 28) (hf : I64 f) (hw : U32 w) : PureF gT 70 [.int .i64 f, .int .i64 w] (inP (rdI28 f w)) := by
  have hw' : -1099511627776 ≤ w ∧ w ≤ 9223372036854775807 := by unfold U32 at hw; omega
  have b0 := bitsV_bd w 16 4
  have b1 := bitsV_bd w 8 4
  have b2 := bitsV_bd w 0 4
  refine Spec.enter gTok P70 100 Tryd.func70 rfl (by kernel_rfl) ?_
  refine ⟨[], no_rl, (shapeLit hf hs).use (And.intro rfl trivial) rfl rfl ?_⟩
  refine ⟨[], no_rl, fieldsLit_28.use (And.intro rfl trivial) rfl rfl ?_⟩
  refine SW.rounds gTok P70 (by kernel_rfl) (N := 60) 4 ?_
  refine fun _ => And.intro (fun _ => ?_) (fun h => absurd (show (0 : Int) < 3 by decide) h)
  repeat (refine ⟨PV, fl_28, id, rfl, by decide, by decide, fun x hx => ?_⟩; cases hx)
  refine ⟨[], no_rl, (bits_pure w 16 4 hw' (by decide) (by decide)).use (And.intro rfl (And.intro rfl (And.intro rfl trivial))) rfl rfl ?_⟩
  repeat (refine ⟨PV, fl_28, id, rfl, by decide, by decide, fun x hx => ?_⟩; cases hx)
  refine ⟨[], no_rl, (power_pure 0 (by decide)).use (And.intro rfl trivial) rfl rfl ?_⟩
  refine .inl ⟨inR_i64 (by omega), ?_⟩
  refine .inl ⟨inR_i64 (by omega), ?_⟩
  refine fun _ => And.intro (fun _ => ?_) (fun h => absurd (show (1 : Int) < 3 by decide) h)
  repeat (refine ⟨PV, fl_28, id, rfl, by decide, by decide, fun x hx => ?_⟩; cases hx)
  refine ⟨[], no_rl, (bits_pure w 8 4 hw' (by decide) (by decide)).use (And.intro rfl (And.intro rfl (And.intro rfl trivial))) rfl rfl ?_⟩
  repeat (refine ⟨PV, fl_28, id, rfl, by decide, by decide, fun x hx => ?_⟩; cases hx)
  refine ⟨[], no_rl, (power_pure 0 (by decide)).use (And.intro rfl trivial) rfl rfl ?_⟩
  refine .inl ⟨inR_i64 (by omega), ?_⟩
  refine .inl ⟨inR_i64 (by omega), ?_⟩
  refine fun _ => And.intro (fun _ => ?_) (fun h => absurd (show (2 : Int) < 3 by decide) h)
  repeat (refine ⟨PV, fl_28, id, rfl, by decide, by decide, fun x hx => ?_⟩; cases hx)
  refine ⟨[], no_rl, (bits_pure w 0 4 hw' (by decide) (by decide)).use (And.intro rfl (And.intro rfl (And.intro rfl trivial))) rfl rfl ?_⟩
  repeat (refine ⟨PV, fl_28, id, rfl, by decide, by decide, fun x hx => ?_⟩; cases hx)
  refine ⟨[], no_rl, (power_pure 0 (by decide)).use (And.intro rfl trivial) rfl rfl ?_⟩
  refine .inl ⟨inR_i64 (by omega), ?_⟩
  refine .inl ⟨inR_i64 (by omega), ?_⟩
  refine fun _ => And.intro (fun h => absurd h (show ¬ (3 : Int) < 3 by decide)) (fun _ => ?_)
  (refine retE ?_; repeat' first | exact trivial | exact rfl | exact Iff.rfl | exact Or.inl rfl | refine And.intro ?_ ?_)
abbrev fl_29 : List PV := [.agg [.lit .i64 1, .lit .i64 0, .lit .i64 16, .lit .i64 4], .agg [.lit .i64 3, .lit .i64 0, .lit .i64 12, .lit .i64 4], .agg [.lit .i64 0, .lit .i64 0, .lit .i64 8, .lit .i64 4], .agg [.lit .i64 2, .lit .i64 0, .lit .i64 0, .lit .i64 4]]
set_option maxHeartbeats 8000000 in
set_option maxRecDepth 100000 in
theorem read_29 (f w : Int) (hs : shapeV f = 29) (hf : I64 f) (hw : U32 w) : PureF gT 70 [.int .i64 f, .int .i64 w] (inP (rdI29 f w)) := by
  have hw' : -1099511627776 ≤ w ∧ w ≤ 9223372036854775807 := by unfold U32 at hw; omega
  have b0 := bitsV_bd w 16 4
  have b1 := bitsV_bd w 12 4
  have b2 := bitsV_bd w 8 4
  have b3 := bitsV_bd w 0 4
  refine Spec.enter gTok P70 100 Tryd.func70 rfl (by kernel_rfl) ?_
  refine ⟨[], no_rl, (shapeLit hf hs).use (And.intro rfl trivial) rfl rfl ?_⟩
  refine ⟨[], no_rl, fieldsLit_29.use (And.intro rfl trivial) rfl rfl ?_⟩
  refine SW.rounds gTok P70 (by kernel_rfl) (N := 60) 5 ?_
  refine fun _ => And.intro (fun _ => ?_) (fun h => absurd (show (0 : Int) < 4 by decide) h)
  repeat (refine ⟨PV, fl_29, id, rfl, by decide, by decide, fun x hx => ?_⟩; cases hx)
  refine ⟨[], no_rl, (bits_pure w 16 4 hw' (by decide) (by decide)).use (And.intro rfl (And.intro rfl (And.intro rfl trivial))) rfl rfl ?_⟩
  repeat (refine ⟨PV, fl_29, id, rfl, by decide, by decide, fun x hx => ?_⟩; cases hx)
  refine ⟨[], no_rl, (power_pure 0 (by decide)).use (And.intro rfl trivial) rfl rfl ?_⟩
  refine .inl ⟨inR_i64 (by omega), ?_⟩
  refine .inl ⟨inR_i64 (by omega), ?_⟩
  refine fun _ => And.intro (fun _ => ?_) (fun h => absurd (show (1 : Int) < 4 by decide) h)
  repeat (refine ⟨PV, fl_29, id, rfl, by decide, by decide, fun x hx => ?_⟩; cases hx)
  refine ⟨[], no_rl, (bits_pure w 12 4 hw' (by decide) (by decide)).use (And.intro rfl (And.intro rfl (And.intro rfl trivial))) rfl rfl ?_⟩
  repeat (refine ⟨PV, fl_29, id, rfl, by decide, by decide, fun x hx => ?_⟩; cases hx)
  refine ⟨[], no_rl, (power_pure 0 (by decide)).use (And.intro rfl trivial) rfl rfl ?_⟩
  refine .inl ⟨inR_i64 (by omega), ?_⟩
  refine .inl ⟨inR_i64 (by omega), ?_⟩
  refine fun _ => And.intro (fun _ => ?_) (fun h => absurd (show (2 : Int) < 4 by decide) h)
  repeat (refine ⟨PV, fl_29, id, rfl, by decide, by decide, fun x hx => ?_⟩; cases hx)
  refine ⟨[], no_rl, (bits_pure w 8 4 hw' (by decide) (by decide)).use (And.intro rfl (And.intro rfl (And.intro rfl trivial))) rfl rfl ?_⟩
  repeat (refine ⟨PV, fl_29, id, rfl, by decide, by decide, fun x hx => ?_⟩; cases hx)
  refine ⟨[], no_rl, (power_pure 0 (by decide)).use (And.intro rfl trivial) rfl rfl ?_⟩
  refine .inl ⟨inR_i64 (by omega), ?_⟩
  refine .inl ⟨inR_i64 (by omega), ?_⟩
  refine fun _ => And.intro (fun _ => ?_) (fun h => absurd (show (3 : Int) < 4 by decide) h)
  repeat (refine ⟨PV, fl_29, id, rfl, by decide, by decide, fun x hx => ?_⟩; cases hx)
  refine ⟨[], no_rl, (bits_pure w 0 4 hw' (by decide) (by decide)).use (And.intro rfl (And.intro rfl (And.intro rfl trivial))) rfl rfl ?_⟩
  repeat (refine ⟨PV, fl_29, id, rfl, by decide, by decide, fun x hx => ?_⟩; cases hx)
  refine ⟨[], no_rl, (power_pure 0 (by decide)).use (And.intro rfl trivial) rfl rfl ?_⟩
  refine .inl ⟨inR_i64 (by omega), ?_⟩
  refine .inl ⟨inR_i64 (by omega), ?_⟩
  refine fun _ => And.intro (fun h => absurd h (show ¬ (4 : Int) < 4 by decide)) (fun _ => ?_)
  (refine retE ?_; repeat' first | exact trivial | exact rfl | exact Iff.rfl | exact Or.inl rfl | refine And.intro ?_ ?_)
abbrev fl_30 : List PV := [.agg [.lit .i64 1, .lit .i64 0, .lit .i64 16, .lit .i64 4], .agg [.lit .i64 3, .lit .i64 0, .lit .i64 12, .lit .i64 4], .agg [.lit .i64 0, .lit .i64 0, .lit .i64 8, .lit .i64 4], .agg [.lit .i64 2, .lit .i64 0, .lit .i64 0, .lit .i64 4]]
set_option maxHeartbeats 8000000 in
set_option maxRecDepth 100000 in
theorem read_30 (f w : Int) (hs : shapeV f = 30) (hf : I64 f) (hw : U32 w) : PureF gT 70 [.int .i64 f, .int .i64 w] (inP (rdI30 f w)) := by
  have hw' : -1099511627776 ≤ w ∧ w ≤ 9223372036854775807 := by unfold U32 at hw; omega
  have b0 := bitsV_bd w 16 4
  have b1 := bitsV_bd w 12 4
  have b2 := bitsV_bd w 8 4
  have b3 := bitsV_bd w 0 4
  refine Spec.enter gTok P70 100 Tryd.func70 rfl (by kernel_rfl) ?_
  refine ⟨[], no_rl, (shapeLit hf hs).use (And.intro rfl trivial) rfl rfl ?_⟩
  refine ⟨[], no_rl, fieldsLit_30.use (And.intro rfl trivial) rfl rfl ?_⟩
  refine SW.rounds gTok P70 (by kernel_rfl) (N := 60) 5 ?_
  refine fun _ => And.intro (fun _ => ?_) (fun h => absurd (show (0 : Int) < 4 by decide) h)
  repeat (refine ⟨PV, fl_30, id, rfl, by decide, by decide, fun x hx => ?_⟩; cases hx)
  refine ⟨[], no_rl, (bits_pure w 16 4 hw' (by decide) (by decide)).use (And.intro rfl (And.intro rfl (And.intro rfl trivial))) rfl rfl ?_⟩
  repeat (refine ⟨PV, fl_30, id, rfl, by decide, by decide, fun x hx => ?_⟩; cases hx)
  refine ⟨[], no_rl, (power_pure 0 (by decide)).use (And.intro rfl trivial) rfl rfl ?_⟩
  refine .inl ⟨inR_i64 (by omega), ?_⟩
  refine .inl ⟨inR_i64 (by omega), ?_⟩
  refine fun _ => And.intro (fun _ => ?_) (fun h => absurd (show (1 : Int) < 4 by decide) h)
  repeat (refine ⟨PV, fl_30, id, rfl, by decide, by decide, fun x hx => ?_⟩; cases hx)
  refine ⟨[], no_rl, (bits_pure w 12 4 hw' (by decide) (by decide)).use (And.intro rfl (And.intro rfl (And.intro rfl trivial))) rfl rfl ?_⟩
  repeat (refine ⟨PV, fl_30, id, rfl, by decide, by decide, fun x hx => ?_⟩; cases hx)
  refine ⟨[], no_rl, (power_pure 0 (by decide)).use (And.intro rfl trivial) rfl rfl ?_⟩
  refine .inl ⟨inR_i64 (by omega), ?_⟩
  refine .inl ⟨inR_i64 (by omega), ?_⟩
  refine fun _ => And.intro (fun _ => ?_) (fun h => absurd (show (2 : Int) < 4 by decide) h)
  repeat (refine ⟨PV, fl_30, id, rfl, by decide, by decide, fun x hx => ?_⟩; cases hx)
  refine ⟨[], no_rl, (bits_pure w 8 4 hw' (by decide) (by decide)).use (And.intro rfl (And.intro rfl (And.intro rfl trivial))) rfl rfl ?_⟩
  repeat (refine ⟨PV, fl_30, id, rfl, by decide, by decide, fun x hx => ?_⟩; cases hx)
  refine ⟨[], no_rl, (power_pure 0 (by decide)).use (And.intro rfl trivial) rfl rfl ?_⟩
  refine .inl ⟨inR_i64 (by omega), ?_⟩
  refine .inl ⟨inR_i64 (by omega), ?_⟩
  refine fun _ => And.intro (fun _ => ?_) (fun h => absurd (show (3 : Int) < 4 by decide) h)
  repeat (refine ⟨PV, fl_30, id, rfl, by decide, by decide, fun x hx => ?_⟩; cases hx)
  refine ⟨[], no_rl, (bits_pure w 0 4 hw' (by decide) (by decide)).use (And.intro rfl (And.intro rfl (And.intro rfl trivial))) rfl rfl ?_⟩
  repeat (refine ⟨PV, fl_30, id, rfl, by decide, by decide, fun x hx => ?_⟩; cases hx)
  refine ⟨[], no_rl, (power_pure 0 (by decide)).use (And.intro rfl trivial) rfl rfl ?_⟩
  refine .inl ⟨inR_i64 (by omega), ?_⟩
  refine .inl ⟨inR_i64 (by omega), ?_⟩
  refine fun _ => And.intro (fun h => absurd h (show ¬ (4 : Int) < 4 by decide)) (fun _ => ?_)
  (refine retE ?_; repeat' first | exact trivial | exact rfl | exact Iff.rfl | exact Or.inl rfl | refine And.intro ?_ ?_)
abbrev fl_31 : List PV := [.agg [.lit .i64 1, .lit .i64 0, .lit .i64 16, .lit .i64 4], .agg [.lit .i64 0, .lit .i64 0, .lit .i64 12, .lit .i64 4], .agg [.lit .i64 3, .lit .i64 0, .lit .i64 8, .lit .i64 4], .agg [.lit .i64 2, .lit .i64 0, .lit .i64 0, .lit .i64 4]]
set_option maxHeartbeats 8000000 in
set_option maxRecDepth 100000 in
theorem read_31 (f w : Int) (hs : shapeV f = 31) (hf : I64 f) (hw : U32 w) : PureF gT 70 [.int .i64 f, .int .i64 w] (inP (rdI31 f w)) := by
  have hw' : -1099511627776 ≤ w ∧ w ≤ 9223372036854775807 := by unfold U32 at hw; omega
  have b0 := bitsV_bd w 16 4
  have b1 := bitsV_bd w 12 4
  have b2 := bitsV_bd w 8 4
  have b3 := bitsV_bd w 0 4
  refine Spec.enter gTok P70 100 Tryd.func70 rfl (by kernel_rfl) ?_
  refine ⟨[], no_rl, (shapeLit hf hs).use (And.intro rfl trivial) rfl rfl ?_⟩
  refine ⟨[], no_rl, fieldsLit_31.use (And.intro rfl trivial) rfl rfl ?_⟩
  refine SW.rounds gTok P70 (by kernel_rfl) (N := 60) 5 ?_
  refine fun _ => And.intro (fun _ => ?_) (fun h => absurd (show (0 : Int) < 4 by decide) h)
  repeat (refine ⟨PV, fl_31, id, rfl, by decide, by decide, fun x hx => ?_⟩; cases hx)
  refine ⟨[], no_rl, (bits_pure w 16 4 hw' (by decide) (by decide)).use (And.intro rfl (And.intro rfl (And.intro rfl trivial))) rfl rfl ?_⟩
  repeat (refine ⟨PV, fl_31, id, rfl, by decide, by decide, fun x hx => ?_⟩; cases hx)
  refine ⟨[], no_rl, (power_pure 0 (by decide)).use (And.intro rfl trivial) rfl rfl ?_⟩
  refine .inl ⟨inR_i64 (by omega), ?_⟩
  refine .inl ⟨inR_i64 (by omega), ?_⟩
  refine fun _ => And.intro (fun _ => ?_) (fun h => absurd (show (1 : Int) < 4 by decide) h)
  repeat (refine ⟨PV, fl_31, id, rfl, by decide, by decide, fun x hx => ?_⟩; cases hx)
  refine ⟨[], no_rl, (bits_pure w 12 4 hw' (by decide) (by decide)).use (And.intro rfl (And.intro rfl (And.intro rfl trivial))) rfl rfl ?_⟩
  repeat (refine ⟨PV, fl_31, id, rfl, by decide, by decide, fun x hx => ?_⟩; cases hx)
  refine ⟨[], no_rl, (power_pure 0 (by decide)).use (And.intro rfl trivial) rfl rfl ?_⟩
  refine .inl ⟨inR_i64 (by omega), ?_⟩
  refine .inl ⟨inR_i64 (by omega), ?_⟩
  refine fun _ => And.intro (fun _ => ?_) (fun h => absurd (show (2 : Int) < 4 by decide) h)
  repeat (refine ⟨PV, fl_31, id, rfl, by decide, by decide, fun x hx => ?_⟩; cases hx)
  refine ⟨[], no_rl, (bits_pure w 8 4 hw' (by decide) (by decide)).use (And.intro rfl (And.intro rfl (And.intro rfl trivial))) rfl rfl ?_⟩
  repeat (refine ⟨PV, fl_31, id, rfl, by decide, by decide, fun x hx => ?_⟩; cases hx)
  refine ⟨[], no_rl, (power_pure 0 (by decide)).use (And.intro rfl trivial) rfl rfl ?_⟩
  refine .inl ⟨inR_i64 (by omega), ?_⟩
  refine .inl ⟨inR_i64 (by omega), ?_⟩
  refine fun _ => And.intro (fun _ => ?_) (fun h => absurd (show (3 : Int) < 4 by decide) h)
  repeat (refine ⟨PV, fl_31, id, rfl, by decide, by decide, fun x hx => ?_⟩; cases hx)
  refine ⟨[], no_rl, (bits_pure w 0 4 hw' (by decide) (by decide)).use (And.intro rfl (And.intro rfl (And.intro rfl trivial))) rfl rfl ?_⟩
  repeat (refine ⟨PV, fl_31, id, rfl, by decide, by decide, fun x hx => ?_⟩; cases hx)
  refine ⟨[], no_rl, (power_pure 0 (by decide)).use (And.intro rfl trivial) rfl rfl ?_⟩
  refine .inl ⟨inR_i64 (by omega), ?_⟩
  refine .inl ⟨inR_i64 (by omega), ?_⟩
  refine fun _ => And.intro (fun h => absurd h (show ¬ (4 : Int) < 4 by decide)) (fun _ => ?_)
  (refine retE ?_; repeat' first | exact trivial | exact rfl | exact Iff.rfl | exact Or.inl rfl | refine And.intro ?_ ?_)
abbrev fl_32 : List PV := [.agg [.lit .i64 2, .lit .i64 0, .lit .i64 16, .lit .i64 4], .agg [.lit .i64 0, .lit .i64 0, .lit .i64 8, .lit .i64 4], .agg [.lit .i64 2, .lit .i64 0, .lit .i64 0, .lit .i64 4]]
set_option maxHeartbeats 8000000 in
set_option maxRecDepth 100000 in
theorem read_32 (f w : Int) (hs : shapeV f = 32) (hf : I64 f) (hw : U32 w) : PureF gT 70 [.int .i64 f, .int .i64 w] (inP (rdI32 f w)) := by
  have hw' : -1099511627776 ≤ w ∧ w ≤ 9223372036854775807 := by unfold U32 at hw; omega
  have b0 := bitsV_bd w 16 4
  have b1 := bitsV_bd w 8 4
  have b2 := bitsV_bd w 0 4
  refine Spec.enter gTok P70 100 Tryd.func70 rfl (by kernel_rfl) ?_
  refine ⟨[], no_rl, (shapeLit hf hs).use (And.intro rfl trivial) rfl rfl ?_⟩
  refine ⟨[], no_rl, fieldsLit_32.use (And.intro rfl trivial) rfl rfl ?_⟩
  refine SW.rounds gTok P70 (by kernel_rfl) (N := 60) 4 ?_
  refine fun _ => And.intro (fun _ => ?_) (fun h => absurd (show (0 : Int) < 3 by decide) h)
  repeat (refine ⟨PV, fl_32, id, rfl, by decide, by decide, fun x hx => ?_⟩; cases hx)
  refine ⟨[], no_rl, (bits_pure w 16 4 hw' (by decide) (by decide)).use (And.intro rfl (And.intro rfl (And.intro rfl trivial))) rfl rfl ?_⟩
  repeat (refine ⟨PV, fl_32, id, rfl, by decide, by decide, fun x hx => ?_⟩; cases hx)
  refine ⟨[], no_rl, (power_pure 0 (by decide)).use (And.intro rfl trivial) rfl rfl ?_⟩
  refine .inl ⟨inR_i64 (by omega), ?_⟩
  refine .inl ⟨inR_i64 (by omega), ?_⟩
  refine fun _ => And.intro (fun _ => ?_) (fun h => absurd (show (1 : Int) < 3 by decide) h)
  repeat (refine ⟨PV, fl_32, id, rfl, by decide, by decide, fun x hx => ?_⟩; cases hx)
  refine ⟨[], no_rl, (bits_pure w 8 4 hw' (by decide) (by decide)).use (And.intro rfl (And.intro rfl (And.intro rfl trivial))) rfl rfl ?_⟩
  repeat (refine ⟨PV, fl_32, id, rfl, by decide, by decide, fun x hx => ?_⟩; cases hx)
  refine ⟨[], no_rl, (power_pure 0 (by decide)).use (And.intro rfl trivial) rfl rfl ?_⟩
  refine .inl ⟨inR_i64 (by omega), ?_⟩
  refine .inl ⟨inR_i64 (by omega), ?_⟩
  refine fun _ => And.intro (fun _ => ?_) (fun h => absurd (show (2 : Int) < 3 by decide) h)
  repeat (refine ⟨PV, fl_32, id, rfl, by decide, by decide, fun x hx => ?_⟩; cases hx)
  refine ⟨[], no_rl, (bits_pure w 0 4 hw' (by decide) (by decide)).use (And.intro rfl (And.intro rfl (And.intro rfl trivial))) rfl rfl ?_⟩
  repeat (refine ⟨PV, fl_32, id, rfl, by decide, by decide, fun x hx => ?_⟩; cases hx)
  refine ⟨[], no_rl, (power_pure 0 (by decide)).use (And.intro rfl trivial) rfl rfl ?_⟩
  refine .inl ⟨inR_i64 (by omega), ?_⟩
  refine .inl ⟨inR_i64 (by omega), ?_⟩
  refine fun _ => And.intro (fun h => absurd h (show ¬ (3 : Int) < 3 by decide)) (fun _ => ?_)
  refine ⟨[], no_rl, (bits_pure w 0 4 hw' (by decide) (by decide)).use (And.intro rfl (And.intro rfl (And.intro rfl trivial))) rfl rfl ?_⟩
  (refine retE ?_; repeat' first | exact trivial | exact rfl | exact Iff.rfl | exact Or.inl rfl | refine And.intro ?_ ?_)
abbrev fl_33 : List PV := [.agg [.lit .i64 4, .lit .i64 20, .lit .i64 26, .lit .i64 1], .agg [.lit .i64 8, .lit .i64 0, .lit .i64 22, .lit .i64 4], .agg [.lit .i64 4, .lit .i64 12, .lit .i64 16, .lit .i64 6], .agg [.lit .i64 4, .lit .i64 18, .lit .i64 13, .lit .i64 1], .agg [.lit .i64 4, .lit .i64 19, .lit .i64 11, .lit .i64 1], .agg [.lit .i64 4, .lit .i64 1, .lit .i64 0, .lit .i64 11]]
set_option maxHeartbeats 8000000 in
set_option maxRecDepth 100000 in
theorem read_33 (f w : Int) (hs : shapeV f = 33) (hf : I64 f) (hw : U32 w) : PureF gT 70 [.int .i64 f, .int .i64 w] (inP (rdI33 f w)) := by
  have hw' : -1099511627776 ≤ w ∧ w ≤ 9223372036854775807 := by unfold U32 at hw; omega
  have b0 := bitsV_bd w 26 1
  have b1 := bitsV_bd w 22 4
  have b2 := bitsV_bd w 16 6
  have b3 := bitsV_bd w 13 1
  have b4 := bitsV_bd w 11 1
  have b5 := bitsV_bd w 0 11
  refine Spec.enter gTok P70 100 Tryd.func70 rfl (by kernel_rfl) ?_
  refine ⟨[], no_rl, (shapeLit hf hs).use (And.intro rfl trivial) rfl rfl ?_⟩
  refine ⟨[], no_rl, fieldsLit_33.use (And.intro rfl trivial) rfl rfl ?_⟩
  refine SW.rounds gTok P70 (by kernel_rfl) (N := 60) 7 ?_
  refine fun _ => And.intro (fun _ => ?_) (fun h => absurd (show (0 : Int) < 6 by decide) h)
  repeat (refine ⟨PV, fl_33, id, rfl, by decide, by decide, fun x hx => ?_⟩; cases hx)
  refine ⟨[], no_rl, (bits_pure w 26 1 hw' (by decide) (by decide)).use (And.intro rfl (And.intro rfl (And.intro rfl trivial))) rfl rfl ?_⟩
  repeat (refine ⟨PV, fl_33, id, rfl, by decide, by decide, fun x hx => ?_⟩; cases hx)
  refine ⟨[], no_rl, (power_pure 20 (by decide)).use (And.intro rfl trivial) rfl rfl ?_⟩
  refine .inl ⟨inR_i64 (by omega), ?_⟩
  refine .inl ⟨inR_i64 (by omega), ?_⟩
  refine fun _ => And.intro (fun _ => ?_) (fun h => absurd (show (1 : Int) < 6 by decide) h)
  repeat (refine ⟨PV, fl_33, id, rfl, by decide, by decide, fun x hx => ?_⟩; cases hx)
  refine ⟨[], no_rl, (bits_pure w 22 4 hw' (by decide) (by decide)).use (And.intro rfl (And.intro rfl (And.intro rfl trivial))) rfl rfl ?_⟩
  repeat (refine ⟨PV, fl_33, id, rfl, by decide, by decide, fun x hx => ?_⟩; cases hx)
  refine ⟨[], no_rl, (power_pure 0 (by decide)).use (And.intro rfl trivial) rfl rfl ?_⟩
  refine .inl ⟨inR_i64 (by omega), ?_⟩
  refine .inl ⟨inR_i64 (by omega), ?_⟩
  refine fun _ => And.intro (fun _ => ?_) (fun h => absurd (show (2 : Int) < 6 by decide) h)
  repeat (refine ⟨PV, fl_33, id, rfl, by decide, by decide, fun x hx => ?_⟩; cases hx)
  refine ⟨[], no_rl, (bits_pure w 16 6 hw' (by decide) (by decide)).use (And.intro rfl (And.intro rfl (And.intro rfl trivial))) rfl rfl ?_⟩
  repeat (refine ⟨PV, fl_33, id, rfl, by decide, by decide, fun x hx => ?_⟩; cases hx)
  refine ⟨[], no_rl, (power_pure 12 (by decide)).use (And.intro rfl trivial) rfl rfl ?_⟩
  refine .inl ⟨inR_i64 (by omega), ?_⟩
  refine .inl ⟨inR_i64 (by omega), ?_⟩
  refine fun _ => And.intro (fun _ => ?_) (fun h => absurd (show (3 : Int) < 6 by decide) h)
  repeat (refine ⟨PV, fl_33, id, rfl, by decide, by decide, fun x hx => ?_⟩; cases hx)
  refine ⟨[], no_rl, (bits_pure w 13 1 hw' (by decide) (by decide)).use (And.intro rfl (And.intro rfl (And.intro rfl trivial))) rfl rfl ?_⟩
  repeat (refine ⟨PV, fl_33, id, rfl, by decide, by decide, fun x hx => ?_⟩; cases hx)
  refine ⟨[], no_rl, (power_pure 18 (by decide)).use (And.intro rfl trivial) rfl rfl ?_⟩
  refine .inl ⟨inR_i64 (by omega), ?_⟩
  refine .inl ⟨inR_i64 (by omega), ?_⟩
  refine fun _ => And.intro (fun _ => ?_) (fun h => absurd (show (4 : Int) < 6 by decide) h)
  repeat (refine ⟨PV, fl_33, id, rfl, by decide, by decide, fun x hx => ?_⟩; cases hx)
  refine ⟨[], no_rl, (bits_pure w 11 1 hw' (by decide) (by decide)).use (And.intro rfl (And.intro rfl (And.intro rfl trivial))) rfl rfl ?_⟩
  repeat (refine ⟨PV, fl_33, id, rfl, by decide, by decide, fun x hx => ?_⟩; cases hx)
  refine ⟨[], no_rl, (power_pure 19 (by decide)).use (And.intro rfl trivial) rfl rfl ?_⟩
  refine .inl ⟨inR_i64 (by omega), ?_⟩
  refine .inl ⟨inR_i64 (by omega), ?_⟩
  refine fun _ => And.intro (fun _ => ?_) (fun h => absurd (show (5 : Int) < 6 by decide) h)
  repeat (refine ⟨PV, fl_33, id, rfl, by decide, by decide, fun x hx => ?_⟩; cases hx)
  refine ⟨[], no_rl, (bits_pure w 0 11 hw' (by decide) (by decide)).use (And.intro rfl (And.intro rfl (And.intro rfl trivial))) rfl rfl ?_⟩
  repeat (refine ⟨PV, fl_33, id, rfl, by decide, by decide, fun x hx => ?_⟩; cases hx)
  refine ⟨[], no_rl, (power_pure 1 (by decide)).use (And.intro rfl trivial) rfl rfl ?_⟩
  refine .inl ⟨inR_i64 (by omega), ?_⟩
  refine .inl ⟨inR_i64 (by omega), ?_⟩
  refine fun _ => And.intro (fun h => absurd h (show ¬ (6 : Int) < 6 by decide)) (fun _ => ?_)
  refine ⟨[], no_rl, (least_pure (0 + bitsV w 26 1 * 2 ^ 20 + bitsV w 16 6 * 2 ^ 12 + bitsV w 13 1 * 2 ^ 18 + bitsV w 11 1 * 2 ^ 19 + bitsV w 0 11 * 2 ^ 1) 21 ⟨by omega, by omega⟩ (by decide)).use (And.intro rfl (And.intro rfl trivial)) rfl rfl ?_⟩
  (refine retE ?_; repeat' first | exact trivial | exact rfl | exact Iff.rfl | exact Or.inl rfl | refine And.intro ?_ ?_)
abbrev fl_34 : List PV := [.agg [.lit .i64 4, .lit .i64 24, .lit .i64 26, .lit .i64 1], .agg [.lit .i64 4, .lit .i64 12, .lit .i64 16, .lit .i64 10], .agg [.lit .i64 4, .lit .i64 23, .lit .i64 13, .lit .i64 1], .agg [.lit .i64 4, .lit .i64 22, .lit .i64 11, .lit .i64 1], .agg [.lit .i64 4, .lit .i64 1, .lit .i64 0, .lit .i64 11]]
set_option maxHeartbeats 8000000 in
set_option maxRecDepth 100000 in
theorem read_34 (f w : Int) (hs : shapeV f = 34) (hf : I64 f) (hw : U32 w) : PureF gT 70 [.int .i64 f, .int .i64 w] (inP (rdI34 f w)) := by
  have hw' : -1099511627776 ≤ w ∧ w ≤ 9223372036854775807 := by unfold U32 at hw; omega
  have b0 := bitsV_bd w 26 1
  have b1 := bitsV_bd w 16 10
  have b2 := bitsV_bd w 13 1
  have b3 := bitsV_bd w 11 1
  have b4 := bitsV_bd w 0 11
  refine Spec.enter gTok P70 100 Tryd.func70 rfl (by kernel_rfl) ?_
  refine ⟨[], no_rl, (shapeLit hf hs).use (And.intro rfl trivial) rfl rfl ?_⟩
  refine ⟨[], no_rl, fieldsLit_34.use (And.intro rfl trivial) rfl rfl ?_⟩
  refine SW.rounds gTok P70 (by kernel_rfl) (N := 60) 6 ?_
  refine fun _ => And.intro (fun _ => ?_) (fun h => absurd (show (0 : Int) < 5 by decide) h)
  repeat (refine ⟨PV, fl_34, id, rfl, by decide, by decide, fun x hx => ?_⟩; cases hx)
  refine ⟨[], no_rl, (bits_pure w 26 1 hw' (by decide) (by decide)).use (And.intro rfl (And.intro rfl (And.intro rfl trivial))) rfl rfl ?_⟩
  repeat (refine ⟨PV, fl_34, id, rfl, by decide, by decide, fun x hx => ?_⟩; cases hx)
  refine ⟨[], no_rl, (power_pure 24 (by decide)).use (And.intro rfl trivial) rfl rfl ?_⟩
  refine .inl ⟨inR_i64 (by omega), ?_⟩
  refine .inl ⟨inR_i64 (by omega), ?_⟩
  refine fun _ => And.intro (fun _ => ?_) (fun h => absurd (show (1 : Int) < 5 by decide) h)
  repeat (refine ⟨PV, fl_34, id, rfl, by decide, by decide, fun x hx => ?_⟩; cases hx)
  refine ⟨[], no_rl, (bits_pure w 16 10 hw' (by decide) (by decide)).use (And.intro rfl (And.intro rfl (And.intro rfl trivial))) rfl rfl ?_⟩
  repeat (refine ⟨PV, fl_34, id, rfl, by decide, by decide, fun x hx => ?_⟩; cases hx)
  refine ⟨[], no_rl, (power_pure 12 (by decide)).use (And.intro rfl trivial) rfl rfl ?_⟩
  refine .inl ⟨inR_i64 (by omega), ?_⟩
  refine .inl ⟨inR_i64 (by omega), ?_⟩
  refine fun _ => And.intro (fun _ => ?_) (fun h => absurd (show (2 : Int) < 5 by decide) h)
  repeat (refine ⟨PV, fl_34, id, rfl, by decide, by decide, fun x hx => ?_⟩; cases hx)
  refine ⟨[], no_rl, (bits_pure w 13 1 hw' (by decide) (by decide)).use (And.intro rfl (And.intro rfl (And.intro rfl trivial))) rfl rfl ?_⟩
  repeat (refine ⟨PV, fl_34, id, rfl, by decide, by decide, fun x hx => ?_⟩; cases hx)
  refine ⟨[], no_rl, (power_pure 23 (by decide)).use (And.intro rfl trivial) rfl rfl ?_⟩
  refine .inl ⟨inR_i64 (by omega), ?_⟩
  refine .inl ⟨inR_i64 (by omega), ?_⟩
  refine fun _ => And.intro (fun _ => ?_) (fun h => absurd (show (3 : Int) < 5 by decide) h)
  repeat (refine ⟨PV, fl_34, id, rfl, by decide, by decide, fun x hx => ?_⟩; cases hx)
  refine ⟨[], no_rl, (bits_pure w 11 1 hw' (by decide) (by decide)).use (And.intro rfl (And.intro rfl (And.intro rfl trivial))) rfl rfl ?_⟩
  repeat (refine ⟨PV, fl_34, id, rfl, by decide, by decide, fun x hx => ?_⟩; cases hx)
  refine ⟨[], no_rl, (power_pure 22 (by decide)).use (And.intro rfl trivial) rfl rfl ?_⟩
  refine .inl ⟨inR_i64 (by omega), ?_⟩
  refine .inl ⟨inR_i64 (by omega), ?_⟩
  refine fun _ => And.intro (fun _ => ?_) (fun h => absurd (show (4 : Int) < 5 by decide) h)
  repeat (refine ⟨PV, fl_34, id, rfl, by decide, by decide, fun x hx => ?_⟩; cases hx)
  refine ⟨[], no_rl, (bits_pure w 0 11 hw' (by decide) (by decide)).use (And.intro rfl (And.intro rfl (And.intro rfl trivial))) rfl rfl ?_⟩
  repeat (refine ⟨PV, fl_34, id, rfl, by decide, by decide, fun x hx => ?_⟩; cases hx)
  refine ⟨[], no_rl, (power_pure 1 (by decide)).use (And.intro rfl trivial) rfl rfl ?_⟩
  refine .inl ⟨inR_i64 (by omega), ?_⟩
  refine .inl ⟨inR_i64 (by omega), ?_⟩
  refine fun _ => And.intro (fun h => absurd h (show ¬ (5 : Int) < 5 by decide)) (fun _ => ?_)
  have tb := turn_bd (n := 0 + bitsV w 26 1 * 2 ^ 24 + bitsV w 16 10 * 2 ^ 12 + bitsV w 13 1 * 2 ^ 23 + bitsV w 11 1 * 2 ^ 22 + bitsV w 0 11 * 2 ^ 1) ⟨by omega, by omega⟩
  refine ⟨[], no_rl, (turn_pure (0 + bitsV w 26 1 * 2 ^ 24 + bitsV w 16 10 * 2 ^ 12 + bitsV w 13 1 * 2 ^ 23 + bitsV w 11 1 * 2 ^ 22 + bitsV w 0 11 * 2 ^ 1) ⟨by omega, by omega⟩).use (And.intro rfl trivial) rfl rfl ?_⟩
  refine ⟨[], no_rl, (least_pure (turnN (0 + bitsV w 26 1 * 2 ^ 24 + bitsV w 16 10 * 2 ^ 12 + bitsV w 13 1 * 2 ^ 23 + bitsV w 11 1 * 2 ^ 22 + bitsV w 0 11 * 2 ^ 1) 2) 25 ⟨by omega, by omega⟩ (by decide)).use (And.intro rfl (And.intro rfl trivial)) rfl rfl ?_⟩
  (refine retE ?_; repeat' first | exact trivial | exact rfl | exact Iff.rfl | exact Or.inl rfl | refine And.intro ?_ ?_)

end Go.Proofs.YthpkejlmelednaaDoor.Pw

/- Chapter 4 over values: the program's reading of narrow shapes (by gen_tw.py). -/
namespace Go.Proofs.YthpkejlmelednaaDoor.Pw
open Go Go.RowKit

theorem leK_refl : ∀ (i : IN), leK (inP i) (inP i) := fun i => ⟨rfl, rfl, rfl, rfl, rfl, rfl, rfl, rfl, rfl, rfl, rfl, trivial⟩
theorem q2 : Ev.pow2 .i64 2 = 4 := by decide
theorem q14 : Ev.pow2 .i64 14 = 16384 := by decide
theorem q15 : Ev.pow2 .i64 15 = 32768 := by decide
set_option maxHeartbeats 8000000 in
set_option maxRecDepth 100000 in
theorem narrowOf_1 (f w : Int) (hF : 1 ≤ f ∧ f ≤ 100) (hs : shapeV f = 1) (hw : U32 w) : PureF gT 68 [.int .i64 f, .int .u32 w] (inP (rdI1 f w)) := by
  have b0 := bitsV_bd w 6 5
  have b1 := bitsV_bd w 3 3
  have b2 := bitsV_bd w 0 3
  unfold rdI1
  refine Spec.enter gTok P68 100 Tryd.func68 rfl (by kernel_rfl) ?_
  have h3 := shape_one hF hs
  have e : ∀ x : Int, x = 0 + x * 2 ^ 0 := fun x => by omega
  refine ⟨[], no_rl, (pshapeLit hs).use (And.intro rfl trivial) rfl rfl ?_⟩
  refine ⟨[], no_rl, (at_pure w 0 3 hw (by decide) (by decide)).use (And.intro rfl (And.intro rfl (And.intro rfl trivial))) rfl rfl ?_⟩
  refine ⟨[], no_rl, (at_pure w 3 3 hw (by decide) (by decide)).use (And.intro rfl (And.intro rfl (And.intro rfl trivial))) rfl rfl ?_⟩
  refine ⟨[], no_rl, (at_pure w 6 5 hw (by decide) (by decide)).use (And.intro rfl (And.intro rfl (And.intro rfl trivial))) rfl rfl ?_⟩
  refine And.intro (fun h1 => ?_) (fun h1 => ?_)
  · refine ⟨[], no_rl, (turned_pure 1 (0 + bitsV w 6 5 * 2 ^ 0)).use (And.intro rfl (And.intro (e _) trivial)) rfl rfl ?_⟩
    refine retE ?_
    (repeat' first | exact trivial | exact rfl | exact e _ | refine And.intro ?_ ?_)
    show (if 0 + bitsV w 6 5 * 2 ^ 0 = 0 ∧ ((1 : Int) = 1 ∨ (1 : Int) = 2) then (32 : Int) else _) = if 1 < f ∧ 0 + bitsV w 6 5 * 2 ^ 0 = 0 then (32 : Int) else 0 + bitsV w 6 5 * 2 ^ 0
    have h1' : ¬ f = 1 := h1
    (repeat' split) <;> omega
  · refine retE ?_
    (repeat' first | exact trivial | exact rfl | exact e _ | refine And.intro ?_ ?_)
    show bitsV w 6 5 = if 1 < f ∧ 0 + bitsV w 6 5 * 2 ^ 0 = 0 then (32 : Int) else 0 + bitsV w 6 5 * 2 ^ 0
    have h1' : ¬ ¬ f = 1 := h1
    (repeat' split) <;> omega
set_option maxHeartbeats 8000000 in
set_option maxRecDepth 100000 in
theorem narrowOf_2 (f w : Int) (hF : 1 ≤ f ∧ f ≤ 100) (hs : shapeV f = 2) (hw : U32 w) : PureF gT 68 [.int .i64 f, .int .u32 w] (inP (rdI2 f w)) := by
  have b0 := bitsV_bd w 6 3
  have b1 := bitsV_bd w 3 3
  have b2 := bitsV_bd w 0 3
  unfold rdI2
  refine Spec.enter gTok P68 100 Tryd.func68 rfl (by kernel_rfl) ?_
  refine ⟨[], no_rl, (pshapeLit hs).use (And.intro rfl trivial) rfl rfl ?_⟩
  refine ⟨[], no_rl, (three_pure ⟨f, 0, 0, 0, 0, 0, 0, 0, 0, 0, 0⟩ w hw).use (by repeat' first | exact trivial | exact rfl | exact Iff.rfl | exact Or.inl rfl | refine And.intro ?_ ?_) rfl rfl ?_⟩
  refine ⟨[], no_rl, (at_pure w 6 3 hw (by decide) (by decide)).use (And.intro rfl (And.intro rfl (And.intro rfl trivial))) rfl rfl ?_⟩
  refine retE ?_
  (repeat' first | exact trivial | exact rfl | refine And.intro ?_ ?_)
  all_goals (show (_ : Int) = _; (try dsimp only [placesI, threeI]); first | omega | (unfold numT; omega))
set_option maxHeartbeats 8000000 in
set_option maxRecDepth 100000 in
theorem narrowOf_3 (f w : Int) (hF : 1 ≤ f ∧ f ≤ 100) (hs : shapeV f = 3) (hw : U32 w) : PureF gT 68 [.int .i64 f, .int .u32 w] (inP (rdI3 f w)) := by
  have b0 := bitsV_bd w 6 3
  have b1 := bitsV_bd w 3 3
  have b2 := bitsV_bd w 0 3
  unfold rdI3
  refine Spec.enter gTok P68 100 Tryd.func68 rfl (by kernel_rfl) ?_
  refine ⟨[], no_rl, (pshapeLit hs).use (And.intro rfl trivial) rfl rfl ?_⟩
  refine ⟨[], no_rl, (three_pure ⟨f, 0, 0, 0, 0, 0, 0, 0, 0, 0, 0⟩ w hw).use (by repeat' first | exact trivial | exact rfl | exact Iff.rfl | exact Or.inl rfl | refine And.intro ?_ ?_) rfl rfl ?_⟩
  refine ⟨[], no_rl, (at_pure w 6 3 hw (by decide) (by decide)).use (And.intro rfl (And.intro rfl (And.intro rfl trivial))) rfl rfl ?_⟩
  refine retE ?_
  (repeat' first | exact trivial | exact rfl | refine And.intro ?_ ?_)
  all_goals (show (_ : Int) = _; (try dsimp only [placesI, threeI]); first | omega | (unfold numT; omega))
set_option maxHeartbeats 8000000 in
set_option maxRecDepth 100000 in
theorem narrowOf_4 (f w : Int) (hF : 1 ≤ f ∧ f ≤ 100) (hs : shapeV f = 4) (hw : U32 w) : PureF gT 68 [.int .i64 f, .int .u32 w] (inP (rdI4 f w)) := by
  have b0 := bitsV_bd w 8 3
  have b1 := bitsV_bd w 0 8
  unfold rdI4
  refine Spec.enter gTok P68 100 Tryd.func68 rfl (by kernel_rfl) ?_
  refine ⟨[], no_rl, (pshapeLit hs).use (And.intro rfl trivial) rfl rfl ?_⟩
  refine ⟨[], no_rl, (at_pure w 8 3 hw (by decide) (by decide)).use (And.intro rfl (And.intro rfl (And.intro rfl trivial))) rfl rfl ?_⟩
  refine ⟨[], no_rl, (at_pure w 0 8 hw (by decide) (by decide)).use (And.intro rfl (And.intro rfl (And.intro rfl trivial))) rfl rfl ?_⟩
  refine retE ?_
  (repeat' first | exact trivial | exact rfl | refine And.intro ?_ ?_)
  all_goals (show (_ : Int) = _; (try dsimp only [placesI, threeI]); first | omega | (unfold numT; omega))
set_option maxHeartbeats 8000000 in
set_option maxRecDepth 100000 in
theorem narrowOf_5 (f w : Int) (hF : 1 ≤ f ∧ f ≤ 100) (hs : shapeV f = 5) (hw : U32 w) : PureF gT 68 [.int .i64 f, .int .u32 w] (inP (rdI5 f w)) := by
  have b0 := bitsV_bd w 3 3
  have b1 := bitsV_bd w 0 3
  unfold rdI5
  refine Spec.enter gTok P68 100 Tryd.func68 rfl (by kernel_rfl) ?_
  refine ⟨[], no_rl, (pshapeLit hs).use (And.intro rfl trivial) rfl rfl ?_⟩
  refine ⟨[], no_rl, (at_pure w 0 3 hw (by decide) (by decide)).use (And.intro rfl (And.intro rfl (And.intro rfl trivial))) rfl rfl ?_⟩
  refine ⟨[], no_rl, (at_pure w 3 3 hw (by decide) (by decide)).use (And.intro rfl (And.intro rfl (And.intro rfl trivial))) rfl rfl ?_⟩
  refine retE ?_
  (repeat' first | exact trivial | exact rfl | refine And.intro ?_ ?_)
  all_goals (show (_ : Int) = _; (try dsimp only [placesI, threeI]); first | omega | (unfold numT; omega))
set_option maxHeartbeats 8000000 in
set_option maxRecDepth 100000 in
theorem narrowOf_6 (f w : Int) (hF : 1 ≤ f ∧ f ≤ 100) (hs : shapeV f = 6) (hw : U32 w) : PureF gT 68 [.int .i64 f, .int .u32 w] (inP (rdI6 f w)) := by
  have b0 := bitsV_bd w 7 1
  have b1 := bitsV_bd w 3 4
  have b2 := bitsV_bd w 0 3
  unfold rdI6
  refine Spec.enter gTok P68 100 Tryd.func68 rfl (by kernel_rfl) ?_
  refine ⟨[], no_rl, (pshapeLit hs).use (And.intro rfl trivial) rfl rfl ?_⟩
  refine ⟨[], no_rl, (at_pure w 7 1 hw (by decide) (by decide)).use (And.intro rfl (And.intro rfl (And.intro rfl trivial))) rfl rfl ?_⟩
  refine ⟨by decide, .inl ⟨inR_i64 (by rw [q3]; omega), ?_⟩⟩
  refine ⟨[], no_rl, (at_pure w 0 3 hw (by decide) (by decide)).use (And.intro rfl (And.intro rfl (And.intro rfl trivial))) rfl rfl ?_⟩
  refine ⟨[], no_rl, (at_pure w 3 4 hw (by decide) (by decide)).use (And.intro rfl (And.intro rfl (And.intro rfl trivial))) rfl rfl ?_⟩
  have e : bits .or .i64 (bitsV w 7 1 * Ev.pow2 .i64 3) (bitsV w 0 3) = 0 + bitsV w 7 1 * 2 ^ 3 + bitsV w 0 3 * 2 ^ 0 := by
    rw [q3, Rm.i64_join (bitsV w 7 1 * 8) (bitsV w 0 3) 3 (by omega) (by omega) (by omega) (by omega) (by omega) (by omega)]; omega
  refine retE ?_
  (repeat' first | exact trivial | exact rfl | exact e | refine And.intro ?_ ?_)
  all_goals (show (_ : Int) = _; (try dsimp only [placesI, threeI]); omega)
set_option maxHeartbeats 8000000 in
set_option maxRecDepth 100000 in
theorem narrowOf_7 (f w : Int) (hF : 1 ≤ f ∧ f ≤ 100) (hs : shapeV f = 7) (hw : U32 w) : PureF gT 68 [.int .i64 f, .int .u32 w] (inP (rdI7 f w)) := by
  have b0 := bitsV_bd w 3 4
  unfold rdI7
  refine Spec.enter gTok P68 100 Tryd.func68 rfl (by kernel_rfl) ?_
  refine ⟨[], no_rl, (pshapeLit hs).use (And.intro rfl trivial) rfl rfl ?_⟩
  refine ⟨[], no_rl, (at_pure w 3 4 hw (by decide) (by decide)).use (And.intro rfl (And.intro rfl (And.intro rfl trivial))) rfl rfl ?_⟩
  refine retE ?_
  (repeat' first | exact trivial | exact rfl | refine And.intro ?_ ?_)
  all_goals (show (_ : Int) = _; (try dsimp only [placesI, threeI]); first | omega | (unfold numT; omega))
set_option maxHeartbeats 8000000 in
set_option maxRecDepth 100000 in
theorem narrowOf_8 (f w : Int) (hF : 1 ≤ f ∧ f ≤ 100) (hs : shapeV f = 8) (hw : U32 w) : PureF gT 68 [.int .i64 f, .int .u32 w] (inP (rdI8 f w)) := by
  have b0 := bitsV_bd w 8 3
  have b1 := bitsV_bd w 0 8
  unfold rdI8
  refine Spec.enter gTok P68 100 Tryd.func68 rfl (by kernel_rfl) ?_
  refine ⟨[], no_rl, (pshapeLit hs).use (And.intro rfl trivial) rfl rfl ?_⟩
  refine ⟨[], no_rl, (at_pure w 8 3 hw (by decide) (by decide)).use (And.intro rfl (And.intro rfl (And.intro rfl trivial))) rfl rfl ?_⟩
  refine ⟨[], no_rl, (at_pure w 0 8 hw (by decide) (by decide)).use (And.intro rfl (And.intro rfl (And.intro rfl trivial))) rfl rfl ?_⟩
  refine .inl ⟨inR_i64 (by omega), ?_⟩
  refine retE ?_
  (repeat' first | exact trivial | exact rfl | refine And.intro ?_ ?_)
  all_goals (show (_ : Int) = _; (try dsimp only [placesI, threeI]); first | omega | (unfold numT; omega))
set_option maxHeartbeats 8000000 in
set_option maxRecDepth 100000 in
theorem narrowOf_9 (f w : Int) (hF : 1 ≤ f ∧ f ≤ 100) (hs : shapeV f = 9) (hw : U32 w) : PureF gT 68 [.int .i64 f, .int .u32 w] (inP (rdI9 f w)) := by
  have b0 := bitsV_bd w 6 5
  have b1 := bitsV_bd w 3 3
  have b2 := bitsV_bd w 0 3
  unfold rdI9
  refine Spec.enter gTok P68 100 Tryd.func68 rfl (by kernel_rfl) ?_
  refine ⟨[], no_rl, (pshapeLit hs).use (And.intro rfl trivial) rfl rfl ?_⟩
  refine ⟨[], no_rl, (three_pure ⟨f, 0, 0, 0, 0, 0, 0, 0, 0, 0, 0⟩ w hw).use (by repeat' first | exact trivial | exact rfl | exact Iff.rfl | exact Or.inl rfl | refine And.intro ?_ ?_) rfl rfl ?_⟩
  refine ⟨[], no_rl, (at_pure w 6 5 hw (by decide) (by decide)).use (And.intro rfl (And.intro rfl (And.intro rfl trivial))) rfl rfl ?_⟩
  refine .inl ⟨inR_i64 (by omega), ?_⟩
  refine retE ?_
  (repeat' first | exact trivial | exact rfl | refine And.intro ?_ ?_)
  all_goals (show (_ : Int) = _; (try dsimp only [placesI, threeI]); first | omega | (unfold numT; omega))
set_option maxHeartbeats 8000000 in
set_option maxRecDepth 100000 in
theorem narrowOf_10 (f w : Int) (hF : 1 ≤ f ∧ f ≤ 100) (hs : shapeV f = 10) (hw : U32 w) : PureF gT 68 [.int .i64 f, .int .u32 w] (inP (rdI10 f w)) := by
  have b0 := bitsV_bd w 0 7
  unfold rdI10
  refine Spec.enter gTok P68 100 Tryd.func68 rfl (by kernel_rfl) ?_
  refine ⟨[], no_rl, (pshapeLit hs).use (And.intro rfl trivial) rfl rfl ?_⟩
  refine ⟨[], no_rl, (at_pure w 0 7 hw (by decide) (by decide)).use (And.intro rfl (And.intro rfl (And.intro rfl trivial))) rfl rfl ?_⟩
  refine .inl ⟨inR_i64 (by omega), ?_⟩
  refine retE ?_
  (repeat' first | exact trivial | exact rfl | refine And.intro ?_ ?_)
  all_goals (show (_ : Int) = _; (try dsimp only [placesI, threeI]); first | omega | (unfold numT; omega))
set_option maxHeartbeats 8000000 in
set_option maxRecDepth 100000 in
theorem narrowOf_11 (f w : Int) (hF : 1 ≤ f ∧ f ≤ 100) (hs : shapeV f = 11) (hw : U32 w) : PureF gT 68 [.int .i64 f, .int .u32 w] (inP (rdI11 f w)) := by
  have b0 := bitsV_bd w 8 1
  have b1 := bitsV_bd w 0 8
  unfold rdI11
  refine Spec.enter gTok P68 100 Tryd.func68 rfl (by kernel_rfl) ?_
  refine ⟨[], no_rl, (pshapeLit hs).use (And.intro rfl trivial) rfl rfl ?_⟩
  refine ⟨[], no_rl, (at_pure w 8 1 hw (by decide) (by decide)).use (And.intro rfl (And.intro rfl (And.intro rfl trivial))) rfl rfl ?_⟩
  refine ⟨by decide, .inl ⟨inR_i64 (by rw [q14]; omega), ?_⟩⟩
  refine ⟨[], no_rl, (at_pure w 0 8 hw (by decide) (by decide)).use (And.intro rfl (And.intro rfl (And.intro rfl trivial))) rfl rfl ?_⟩
  have e : bits .or .i64 (bitsV w 8 1 * Ev.pow2 .i64 14) (bitsV w 0 8) = 0 + bitsV w 8 1 * 2 ^ 14 + bitsV w 0 8 * 2 ^ 0 := by
    rw [q14, Rm.i64_join (bitsV w 8 1 * 16384) (bitsV w 0 8) 14 (by omega) (by omega) (by omega) (by omega) (by omega) (by omega)]; omega
  refine retE ?_
  (repeat' first | exact trivial | exact rfl | exact e | refine And.intro ?_ ?_)
  all_goals (show (_ : Int) = _; (try dsimp only [placesI, threeI]); omega)
set_option maxHeartbeats 8000000 in
set_option maxRecDepth 100000 in
theorem narrowOf_12 (f w : Int) (hF : 1 ≤ f ∧ f ≤ 100) (hs : shapeV f = 12) (hw : U32 w) : PureF gT 68 [.int .i64 f, .int .u32 w] (inP (rdI12 f w)) := by
  have b0 := bitsV_bd w 8 1
  have b1 := bitsV_bd w 0 8
  unfold rdI12
  refine Spec.enter gTok P68 100 Tryd.func68 rfl (by kernel_rfl) ?_
  refine ⟨[], no_rl, (pshapeLit hs).use (And.intro rfl trivial) rfl rfl ?_⟩
  refine ⟨[], no_rl, (at_pure w 8 1 hw (by decide) (by decide)).use (And.intro rfl (And.intro rfl (And.intro rfl trivial))) rfl rfl ?_⟩
  refine ⟨by decide, .inl ⟨inR_i64 (by rw [q15]; omega), ?_⟩⟩
  refine ⟨[], no_rl, (at_pure w 0 8 hw (by decide) (by decide)).use (And.intro rfl (And.intro rfl (And.intro rfl trivial))) rfl rfl ?_⟩
  have e : bits .or .i64 (bitsV w 8 1 * Ev.pow2 .i64 15) (bitsV w 0 8) = 0 + bitsV w 8 1 * 2 ^ 15 + bitsV w 0 8 * 2 ^ 0 := by
    rw [q15, Rm.i64_join (bitsV w 8 1 * 32768) (bitsV w 0 8) 15 (by omega) (by omega) (by omega) (by omega) (by omega) (by omega)]; omega
  refine retE ?_
  (repeat' first | exact trivial | exact rfl | exact e | refine And.intro ?_ ?_)
  all_goals (show (_ : Int) = _; (try dsimp only [placesI, threeI]); omega)
set_option maxHeartbeats 8000000 in
set_option maxRecDepth 100000 in
theorem narrowOf_13 (f w : Int) (hF : 1 ≤ f ∧ f ≤ 100) (hs : shapeV f = 13) (hw : U32 w) : PureF gT 68 [.int .i64 f, .int .u32 w] (inP (rdI13 f w)) := by
  unfold rdI13
  refine Spec.enter gTok P68 100 Tryd.func68 rfl (by kernel_rfl) ?_
  refine ⟨[], no_rl, (pshapeLit hs).use (And.intro rfl trivial) rfl rfl ?_⟩
  (refine retE ?_; repeat' first | exact trivial | exact rfl | exact Iff.rfl | exact Or.inl rfl | refine And.intro ?_ ?_)
set_option maxHeartbeats 8000000 in
set_option maxRecDepth 100000 in
theorem narrowOf_14 (f w : Int) (hF : 1 ≤ f ∧ f ≤ 100) (hs : shapeV f = 14) (hw : U32 w) : PureF gT 68 [.int .i64 f, .int .u32 w] (inP (rdI14 f w)) := by
  have b0 := bitsV_bd w 0 8
  unfold rdI14
  refine Spec.enter gTok P68 100 Tryd.func68 rfl (by kernel_rfl) ?_
  refine ⟨[], no_rl, (pshapeLit hs).use (And.intro rfl trivial) rfl rfl ?_⟩
  refine ⟨[], no_rl, (at_pure w 0 8 hw (by decide) (by decide)).use (And.intro rfl (And.intro rfl (And.intro rfl trivial))) rfl rfl ?_⟩
  refine retE ?_
  (repeat' first | exact trivial | exact rfl | refine And.intro ?_ ?_)
  all_goals (show (_ : Int) = _; (try dsimp only [placesI, threeI]); first | omega | (unfold numT; omega))
set_option maxHeartbeats 8000000 in
set_option maxRecDepth 100000 in
theorem narrowOf_15 (f w : Int) (hF : 1 ≤ f ∧ f ≤ 100) (hs : shapeV f = 15) (hw : U32 w) : PureF gT 68 [.int .i64 f, .int .u32 w] (inP (rdI15 f w)) := by
  have b0 := bitsV_bd w 8 4
  have b1 := bitsV_bd w 0 8
  unfold rdI15
  refine Spec.enter gTok P68 100 Tryd.func68 rfl (by kernel_rfl) ?_
  refine ⟨[], no_rl, (pshapeLit hs).use (And.intro rfl trivial) rfl rfl ?_⟩
  refine ⟨[], no_rl, (at_pure w 8 4 hw (by decide) (by decide)).use (And.intro rfl (And.intro rfl (And.intro rfl trivial))) rfl rfl ?_⟩
  refine ⟨[], no_rl, (at_pure w 0 8 hw (by decide) (by decide)).use (And.intro rfl (And.intro rfl (And.intro rfl trivial))) rfl rfl ?_⟩
  refine ⟨by decide, .inl ⟨inR_i64 (by rw [q1]; omega), ?_⟩⟩
  refine ⟨[], no_rl, (signed_pure (0 + bitsV w 0 8 * 2 ^ 1) 8 (by decide) ⟨by omega, by omega⟩).use (And.intro (show bitsV w 0 8 * Ev.pow2 .i64 1 = _ by rw [q1]; omega) (And.intro rfl trivial)) rfl rfl ?_⟩
  refine retE ?_
  (repeat' first | exact trivial | exact rfl | refine And.intro ?_ ?_)
  all_goals (show (_ : Int) = _; (try dsimp only [placesI, threeI]); first | omega | (unfold numT; omega))
set_option maxHeartbeats 8000000 in
set_option maxRecDepth 100000 in
theorem narrowOf_16 (f w : Int) (hF : 1 ≤ f ∧ f ≤ 100) (hs : shapeV f = 16) (hw : U32 w) : PureF gT 68 [.int .i64 f, .int .u32 w] (inP (rdI16 f w)) := by
  have b0 := bitsV_bd w 0 11
  unfold rdI16
  refine Spec.enter gTok P68 100 Tryd.func68 rfl (by kernel_rfl) ?_
  refine ⟨[], no_rl, (pshapeLit hs).use (And.intro rfl trivial) rfl rfl ?_⟩
  refine ⟨[], no_rl, (at_pure w 0 11 hw (by decide) (by decide)).use (And.intro rfl (And.intro rfl (And.intro rfl trivial))) rfl rfl ?_⟩
  refine ⟨by decide, .inl ⟨inR_i64 (by rw [q1]; omega), ?_⟩⟩
  refine ⟨[], no_rl, (signed_pure (0 + bitsV w 0 11 * 2 ^ 1) 11 (by decide) ⟨by omega, by omega⟩).use (And.intro (show bitsV w 0 11 * Ev.pow2 .i64 1 = _ by rw [q1]; omega) (And.intro rfl trivial)) rfl rfl ?_⟩
  refine retE ?_
  (repeat' first | exact trivial | exact rfl | refine And.intro ?_ ?_)
  all_goals (show (_ : Int) = _; (try dsimp only [placesI, threeI]); first | omega | (unfold numT; omega))
set_option maxHeartbeats 8000000 in
set_option maxRecDepth 100000 in
theorem narrowOf_wide (f w : Int) (hs : 17 ≤ shapeV f) (hw : U32 w) : PureF gT 68 [.int .i64 f, .int .u32 w] (inP ⟨f, 0, 0, 0, 0, 0, 0, 0, 0, 0, 0⟩) := by
  refine Spec.enter gTok P68 100 Tryd.func68 rfl (by kernel_rfl) ?_
  refine ⟨[], no_rl, (shape_pure f).use (And.intro rfl trivial) rfl rfl ?_⟩
  iterate 15 (refine And.intro (fun h => absurd (show shapeV f = _ from h) (by omega)) (fun _ => ?_))
  (refine retE ?_; repeat' first | exact trivial | exact rfl | exact Iff.rfl | exact Or.inl rfl | refine And.intro ?_ ?_)

end Go.Proofs.YthpkejlmelednaaDoor.Pw

/- Chapter 4 over values: the program's reading of wide shapes (by gen_tw.py). -/
namespace Go.Proofs.YthpkejlmelednaaDoor.Pw
open Go Go.RowKit

set_option maxHeartbeats 8000000 in
set_option maxRecDepth 100000 in
theorem wideOf_17 (f w : Int) (hF : 1 ≤ f ∧ f ≤ 100) (hs : shapeV f = 17) (hw : U32 w) : PureF gT 69 [.int .i64 f, .int .u32 w] (inP (rdI17 f w)) := by
  have b0 := bitsV_bd w 26 1
  have b1 := bitsV_bd w 16 4
  have b2 := bitsV_bd w 12 3
  have b3 := bitsV_bd w 0 8
  have b4 := bitsV_bd w 8 4
  unfold rdI17
  refine Spec.enter gTok P69 100 Tryd.func69 rfl (by kernel_rfl) ?_
  refine ⟨[], no_rl, (places_pure ⟨f, 0, 0, 0, 0, 0, 0, 0, 0, 0, 0⟩ w hw).use (by repeat' first | exact trivial | exact rfl | exact Iff.rfl | exact Or.inl rfl | refine And.intro ?_ ?_) rfl rfl ?_⟩
  refine ⟨[], no_rl, (pshapeLit hs).use (And.intro rfl trivial) rfl rfl ?_⟩
  refine ⟨[], no_rl, (number_t w hw).use (by repeat' first | exact trivial | exact rfl | exact Iff.rfl | exact Or.inl rfl | refine And.intro ?_ ?_) rfl rfl ?_⟩
  refine retE ?_
  (repeat' first | exact trivial | exact rfl | refine And.intro ?_ ?_)
  all_goals (show (_ : Int) = _; (try dsimp only [placesI, threeI]); first | omega | (unfold numT; omega))
set_option maxHeartbeats 8000000 in
set_option maxRecDepth 100000 in
theorem immediate_18 (f w : Int) (hF : 1 ≤ f ∧ f ≤ 100) (hs : shapeV f = 18) (hw : U32 w) : PureF gT 126 [.int .i64 f, .int .u32 w] (inP (rdI18 f w)) := by
  have b0 := bitsV_bd w 26 1
  have b1 := bitsV_bd w 12 3
  have b2 := bitsV_bd w 0 8
  have b3 := bitsV_bd w 20 1
  have b4 := bitsV_bd w 16 4
  have b5 := bitsV_bd w 8 4
  unfold rdI18
  refine Spec.enter gTok P126 100 Tryd.func126 rfl (by kernel_rfl) ?_
  refine ⟨[], no_rl, (places_pure ⟨f, 0, 0, 0, 0, 0, 0, 0, 0, 0, 0⟩ w hw).use (by repeat' first | exact trivial | exact rfl | exact Iff.rfl | exact Or.inl rfl | refine And.intro ?_ ?_) rfl rfl ?_⟩
  refine ⟨[], no_rl, (number_f w hw).use (by repeat' first | exact trivial | exact rfl | exact Iff.rfl | exact Or.inl rfl | refine And.intro ?_ ?_) rfl rfl ?_⟩
  refine ⟨[], no_rl, (pshapeLit hs).use (And.intro rfl trivial) rfl rfl ?_⟩
  refine retE ?_
  (repeat' first | exact trivial | exact rfl | refine And.intro ?_ ?_)
  all_goals (show (_ : Int) = _; (try dsimp only [placesI, threeI]); first | omega | (unfold numT; omega))
set_option maxHeartbeats 8000000 in
set_option maxRecDepth 100000 in
theorem wideOf_18 (f w : Int) (hF : 1 ≤ f ∧ f ≤ 100) (hs : shapeV f = 18) (hw : U32 w) : PureF gT 69 [.int .i64 f, .int .u32 w] (inP (rdI18 f w)) := by
  have b0 := bitsV_bd w 26 1
  have b1 := bitsV_bd w 12 3
  have b2 := bitsV_bd w 0 8
  have b3 := bitsV_bd w 20 1
  have b4 := bitsV_bd w 16 4
  have b5 := bitsV_bd w 8 4
  refine Spec.enter gTok P69 100 Tryd.func69 rfl (by kernel_rfl) ?_
  refine ⟨[], no_rl, (places_pure ⟨f, 0, 0, 0, 0, 0, 0, 0, 0, 0, 0⟩ w hw).use (by repeat' first | exact trivial | exact rfl | exact Iff.rfl | exact Or.inl rfl | refine And.intro ?_ ?_) rfl rfl ?_⟩
  refine ⟨[], no_rl, (pshapeLit hs).use (And.intro rfl trivial) rfl rfl ?_⟩
  refine ⟨[], no_rl, (immediate_18 f w hF hs hw).use (by repeat' first | exact trivial | exact rfl | exact Iff.rfl | exact Or.inl rfl | refine And.intro ?_ ?_) rfl rfl ?_⟩
  exact retE (leK_refl _)
set_option maxHeartbeats 8000000 in
set_option maxRecDepth 100000 in
theorem immediate_19 (f w : Int) (hF : 1 ≤ f ∧ f ≤ 100) (hs : shapeV f = 19) (hw : U32 w) : PureF gT 126 [.int .i64 f, .int .u32 w] (inP (rdI19 f w)) := by
  have b0 := bitsV_bd w 26 1
  have b1 := bitsV_bd w 12 3
  have b2 := bitsV_bd w 0 8
  have b3 := bitsV_bd w 20 1
  have b4 := bitsV_bd w 8 4
  unfold rdI19
  refine Spec.enter gTok P126 100 Tryd.func126 rfl (by kernel_rfl) ?_
  refine ⟨[], no_rl, (places_pure ⟨f, 0, 0, 0, 0, 0, 0, 0, 0, 0, 0⟩ w hw).use (by repeat' first | exact trivial | exact rfl | exact Iff.rfl | exact Or.inl rfl | refine And.intro ?_ ?_) rfl rfl ?_⟩
  refine ⟨[], no_rl, (number_f w hw).use (by repeat' first | exact trivial | exact rfl | exact Iff.rfl | exact Or.inl rfl | refine And.intro ?_ ?_) rfl rfl ?_⟩
  refine ⟨[], no_rl, (pshapeLit hs).use (And.intro rfl trivial) rfl rfl ?_⟩
  refine retE ?_
  (repeat' first | exact trivial | exact rfl | refine And.intro ?_ ?_)
  all_goals (show (_ : Int) = _; (try dsimp only [placesI, threeI]); first | omega | (unfold numT; omega))
set_option maxHeartbeats 8000000 in
set_option maxRecDepth 100000 in
theorem wideOf_19 (f w : Int) (hF : 1 ≤ f ∧ f ≤ 100) (hs : shapeV f = 19) (hw : U32 w) : PureF gT 69 [.int .i64 f, .int .u32 w] (inP (rdI19 f w)) := by
  have b0 := bitsV_bd w 26 1
  have b1 := bitsV_bd w 12 3
  have b2 := bitsV_bd w 0 8
  have b3 := bitsV_bd w 20 1
  have b4 := bitsV_bd w 8 4
  refine Spec.enter gTok P69 100 Tryd.func69 rfl (by kernel_rfl) ?_
  refine ⟨[], no_rl, (places_pure ⟨f, 0, 0, 0, 0, 0, 0, 0, 0, 0, 0⟩ w hw).use (by repeat' first | exact trivial | exact rfl | exact Iff.rfl | exact Or.inl rfl | refine And.intro ?_ ?_) rfl rfl ?_⟩
  refine ⟨[], no_rl, (pshapeLit hs).use (And.intro rfl trivial) rfl rfl ?_⟩
  refine ⟨[], no_rl, (immediate_19 f w hF hs hw).use (by repeat' first | exact trivial | exact rfl | exact Iff.rfl | exact Or.inl rfl | refine And.intro ?_ ?_) rfl rfl ?_⟩
  exact retE (leK_refl _)
set_option maxHeartbeats 8000000 in
set_option maxRecDepth 100000 in
theorem immediate_20 (f w : Int) (hF : 1 ≤ f ∧ f ≤ 100) (hs : shapeV f = 20) (hw : U32 w) : PureF gT 126 [.int .i64 f, .int .u32 w] (inP (rdI20 f w)) := by
  have b0 := bitsV_bd w 26 1
  have b1 := bitsV_bd w 12 3
  have b2 := bitsV_bd w 0 8
  have b3 := bitsV_bd w 16 4
  unfold rdI20
  refine Spec.enter gTok P126 100 Tryd.func126 rfl (by kernel_rfl) ?_
  refine ⟨[], no_rl, (places_pure ⟨f, 0, 0, 0, 0, 0, 0, 0, 0, 0, 0⟩ w hw).use (by repeat' first | exact trivial | exact rfl | exact Iff.rfl | exact Or.inl rfl | refine And.intro ?_ ?_) rfl rfl ?_⟩
  refine ⟨[], no_rl, (number_f w hw).use (by repeat' first | exact trivial | exact rfl | exact Iff.rfl | exact Or.inl rfl | refine And.intro ?_ ?_) rfl rfl ?_⟩
  refine ⟨[], no_rl, (pshapeLit hs).use (And.intro rfl trivial) rfl rfl ?_⟩
  refine retE ?_
  (repeat' first | exact trivial | exact rfl | refine And.intro ?_ ?_)
  all_goals (show (_ : Int) = _; (try dsimp only [placesI, threeI]); first | omega | (unfold numT; omega))
set_option maxHeartbeats 8000000 in
set_option maxRecDepth 100000 in
theorem wideOf_20 (f w : Int) (hF : 1 ≤ f ∧ f ≤ 100) (hs : shapeV f = 20) (hw : U32 w) : PureF gT 69 [.int .i64 f, .int .u32 w] (inP (rdI20 f w)) := by
  have b0 := bitsV_bd w 26 1
  have b1 := bitsV_bd w 12 3
  have b2 := bitsV_bd w 0 8
  have b3 := bitsV_bd w 16 4
  refine Spec.enter gTok P69 100 Tryd.func69 rfl (by kernel_rfl) ?_
  refine ⟨[], no_rl, (places_pure ⟨f, 0, 0, 0, 0, 0, 0, 0, 0, 0, 0⟩ w hw).use (by repeat' first | exact trivial | exact rfl | exact Iff.rfl | exact Or.inl rfl | refine And.intro ?_ ?_) rfl rfl ?_⟩
  refine ⟨[], no_rl, (pshapeLit hs).use (And.intro rfl trivial) rfl rfl ?_⟩
  refine ⟨[], no_rl, (immediate_20 f w hF hs hw).use (by repeat' first | exact trivial | exact rfl | exact Iff.rfl | exact Or.inl rfl | refine And.intro ?_ ?_) rfl rfl ?_⟩
  exact retE (leK_refl _)
set_option maxHeartbeats 8000000 in
set_option maxRecDepth 100000 in
theorem barrel_21 (f w : Int) (hF : 1 ≤ f ∧ f ≤ 100) (hs : shapeV f = 21) (hw : U32 w) : PureF gT 127 [.int .i64 f, .int .u32 w] (inP (rdI21 f w)) := by
  have b0 := bitsV_bd w 12 3
  have b1 := bitsV_bd w 6 2
  have b2 := bitsV_bd w 4 2
  have b3 := bitsV_bd w 20 1
  have b4 := bitsV_bd w 16 4
  have b5 := bitsV_bd w 8 4
  have b6 := bitsV_bd w 0 4
  unfold rdI21
  refine Spec.enter gTok P127 100 Tryd.func127 rfl (by kernel_rfl) ?_
  refine ⟨[], no_rl, (places_pure ⟨f, 0, 0, 0, 0, 0, 0, 0, 0, 0, 0⟩ w hw).use (by repeat' first | exact trivial | exact rfl | exact Iff.rfl | exact Or.inl rfl | refine And.intro ?_ ?_) rfl rfl ?_⟩
  refine ⟨[], no_rl, (at_pure w 4 2 hw (by decide) (by decide)).use (And.intro rfl (And.intro rfl (And.intro rfl trivial))) rfl rfl ?_⟩
  refine ⟨[], no_rl, (at_pure w 12 3 hw (by decide) (by decide)).use (And.intro rfl (And.intro rfl (And.intro rfl trivial))) rfl rfl ?_⟩
  refine ⟨by decide, .inl ⟨inR_i64 (by rw [q2]; omega), ?_⟩⟩
  refine ⟨[], no_rl, (at_pure w 6 2 hw (by decide) (by decide)).use (And.intro rfl (And.intro rfl (And.intro rfl trivial))) rfl rfl ?_⟩
  have ek : bitsV w 4 2 = 0 + bitsV w 4 2 * 2 ^ 0 := by omega
  have e : bits .or .i64 (bitsV w 12 3 * Ev.pow2 .i64 2) (bitsV w 6 2) = 0 + bitsV w 12 3 * 2 ^ 2 + bitsV w 6 2 * 2 ^ 0 := by
    rw [q2, Rm.i64_join (bitsV w 12 3 * 4) (bitsV w 6 2) 2 (by omega) (by omega) (by omega) (by omega) (by omega) (by omega)]; omega
  refine ⟨[], no_rl, (turned_pure (0 + bitsV w 4 2 * 2 ^ 0) (0 + bitsV w 12 3 * 2 ^ 2 + bitsV w 6 2 * 2 ^ 0)).use (And.intro ek (And.intro e trivial)) rfl rfl ?_⟩
  repeat (refine And.intro ?_ ?_; rotate_left; focus (
    repeat' (first
      | refine Exists.intro [] (And.intro no_rl ((at_pure w 4 2 hw (by decide) (by decide)).use (And.intro rfl (And.intro rfl (And.intro rfl trivial))) rfl rfl ?_))
      | refine Exists.intro [] (And.intro no_rl ((at_pure w 12 3 hw (by decide) (by decide)).use (And.intro rfl (And.intro rfl (And.intro rfl trivial))) rfl rfl ?_))
      | refine Exists.intro [] (And.intro no_rl ((at_pure w 6 2 hw (by decide) (by decide)).use (And.intro rfl (And.intro rfl (And.intro rfl trivial))) rfl rfl ?_))
      | refine Exists.intro [] (And.intro no_rl ((turned_pure (0 + bitsV w 4 2 * 2 ^ 0) (0 + bitsV w 12 3 * 2 ^ 2 + bitsV w 6 2 * 2 ^ 0)).use (And.intro ek (And.intro e trivial)) rfl rfl ?_))
      | refine And.intro (show (0 : Int) ≤ 2 by decide) (Or.inl (And.intro (inR_i64 (by rw [q2]; omega)) ?_))
      | exact rfl
      | exact trivial
      | refine And.intro ?_ ?_)))
  refine ⟨[], no_rl, (pshapeLit hs).use (And.intro rfl trivial) rfl rfl ?_⟩
  refine ⟨[], no_rl, (pshapeLit hs).use (And.intro rfl trivial) rfl rfl ?_⟩
  refine retE ?_
  (repeat' first | exact trivial | exact rfl | refine And.intro ?_ ?_)
  all_goals (show (_ : Int) = _; (try dsimp only [placesI, threeI]); first | omega | (unfold numT; omega))
set_option maxHeartbeats 8000000 in
set_option maxRecDepth 100000 in
theorem wideOf_21 (f w : Int) (hF : 1 ≤ f ∧ f ≤ 100) (hs : shapeV f = 21) (hw : U32 w) : PureF gT 69 [.int .i64 f, .int .u32 w] (inP (rdI21 f w)) := by
  have b0 := bitsV_bd w 12 3
  have b1 := bitsV_bd w 6 2
  have b2 := bitsV_bd w 4 2
  have b3 := bitsV_bd w 20 1
  have b4 := bitsV_bd w 16 4
  have b5 := bitsV_bd w 8 4
  have b6 := bitsV_bd w 0 4
  refine Spec.enter gTok P69 100 Tryd.func69 rfl (by kernel_rfl) ?_
  refine ⟨[], no_rl, (places_pure ⟨f, 0, 0, 0, 0, 0, 0, 0, 0, 0, 0⟩ w hw).use (by repeat' first | exact trivial | exact rfl | exact Iff.rfl | exact Or.inl rfl | refine And.intro ?_ ?_) rfl rfl ?_⟩
  refine ⟨[], no_rl, (pshapeLit hs).use (And.intro rfl trivial) rfl rfl ?_⟩
  refine ⟨[], no_rl, (barrel_21 f w hF hs hw).use (by repeat' first | exact trivial | exact rfl | exact Iff.rfl | exact Or.inl rfl | refine And.intro ?_ ?_) rfl rfl ?_⟩
  exact retE (leK_refl _)
set_option maxHeartbeats 8000000 in
set_option maxRecDepth 100000 in
theorem barrel_22 (f w : Int) (hF : 1 ≤ f ∧ f ≤ 100) (hs : shapeV f = 22) (hw : U32 w) : PureF gT 127 [.int .i64 f, .int .u32 w] (inP (rdI22 f w)) := by
  have b0 := bitsV_bd w 12 3
  have b1 := bitsV_bd w 6 2
  have b2 := bitsV_bd w 4 2
  have b3 := bitsV_bd w 20 1
  have b4 := bitsV_bd w 8 4
  have b5 := bitsV_bd w 0 4
  unfold rdI22
  refine Spec.enter gTok P127 100 Tryd.func127 rfl (by kernel_rfl) ?_
  refine ⟨[], no_rl, (places_pure ⟨f, 0, 0, 0, 0, 0, 0, 0, 0, 0, 0⟩ w hw).use (by repeat' first | exact trivial | exact rfl | exact Iff.rfl | exact Or.inl rfl | refine And.intro ?_ ?_) rfl rfl ?_⟩
  refine ⟨[], no_rl, (at_pure w 4 2 hw (by decide) (by decide)).use (And.intro rfl (And.intro rfl (And.intro rfl trivial))) rfl rfl ?_⟩
  refine ⟨[], no_rl, (at_pure w 12 3 hw (by decide) (by decide)).use (And.intro rfl (And.intro rfl (And.intro rfl trivial))) rfl rfl ?_⟩
  refine ⟨by decide, .inl ⟨inR_i64 (by rw [q2]; omega), ?_⟩⟩
  refine ⟨[], no_rl, (at_pure w 6 2 hw (by decide) (by decide)).use (And.intro rfl (And.intro rfl (And.intro rfl trivial))) rfl rfl ?_⟩
  have ek : bitsV w 4 2 = 0 + bitsV w 4 2 * 2 ^ 0 := by omega
  have e : bits .or .i64 (bitsV w 12 3 * Ev.pow2 .i64 2) (bitsV w 6 2) = 0 + bitsV w 12 3 * 2 ^ 2 + bitsV w 6 2 * 2 ^ 0 := by
    rw [q2, Rm.i64_join (bitsV w 12 3 * 4) (bitsV w 6 2) 2 (by omega) (by omega) (by omega) (by omega) (by omega) (by omega)]; omega
  refine ⟨[], no_rl, (turned_pure (0 + bitsV w 4 2 * 2 ^ 0) (0 + bitsV w 12 3 * 2 ^ 2 + bitsV w 6 2 * 2 ^ 0)).use (And.intro ek (And.intro e trivial)) rfl rfl ?_⟩
  repeat (refine And.intro ?_ ?_; rotate_left; focus (
    repeat' (first
      | refine Exists.intro [] (And.intro no_rl ((at_pure w 4 2 hw (by decide) (by decide)).use (And.intro rfl (And.intro rfl (And.intro rfl trivial))) rfl rfl ?_))
      | refine Exists.intro [] (And.intro no_rl ((at_pure w 12 3 hw (by decide) (by decide)).use (And.intro rfl (And.intro rfl (And.intro rfl trivial))) rfl rfl ?_))
      | refine Exists.intro [] (And.intro no_rl ((at_pure w 6 2 hw (by decide) (by decide)).use (And.intro rfl (And.intro rfl (And.intro rfl trivial))) rfl rfl ?_))
      | refine Exists.intro [] (And.intro no_rl ((turned_pure (0 + bitsV w 4 2 * 2 ^ 0) (0 + bitsV w 12 3 * 2 ^ 2 + bitsV w 6 2 * 2 ^ 0)).use (And.intro ek (And.intro e trivial)) rfl rfl ?_))
      | refine And.intro (show (0 : Int) ≤ 2 by decide) (Or.inl (And.intro (inR_i64 (by rw [q2]; omega)) ?_))
      | exact rfl
      | exact trivial
      | refine And.intro ?_ ?_)))
  refine ⟨[], no_rl, (pshapeLit hs).use (And.intro rfl trivial) rfl rfl ?_⟩
  refine ⟨[], no_rl, (pshapeLit hs).use (And.intro rfl trivial) rfl rfl ?_⟩
  refine retE ?_
  (repeat' first | exact trivial | exact rfl | refine And.intro ?_ ?_)
  all_goals (show (_ : Int) = _; (try dsimp only [placesI, threeI]); first | omega | (unfold numT; omega))
set_option maxHeartbeats 8000000 in
set_option maxRecDepth 100000 in
theorem wideOf_22 (f w : Int) (hF : 1 ≤ f ∧ f ≤ 100) (hs : shapeV f = 22) (hw : U32 w) : PureF gT 69 [.int .i64 f, .int .u32 w] (inP (rdI22 f w)) := by
  have b0 := bitsV_bd w 12 3
  have b1 := bitsV_bd w 6 2
  have b2 := bitsV_bd w 4 2
  have b3 := bitsV_bd w 20 1
  have b4 := bitsV_bd w 8 4
  have b5 := bitsV_bd w 0 4
  refine Spec.enter gTok P69 100 Tryd.func69 rfl (by kernel_rfl) ?_
  refine ⟨[], no_rl, (places_pure ⟨f, 0, 0, 0, 0, 0, 0, 0, 0, 0, 0⟩ w hw).use (by repeat' first | exact trivial | exact rfl | exact Iff.rfl | exact Or.inl rfl | refine And.intro ?_ ?_) rfl rfl ?_⟩
  refine ⟨[], no_rl, (pshapeLit hs).use (And.intro rfl trivial) rfl rfl ?_⟩
  refine ⟨[], no_rl, (barrel_22 f w hF hs hw).use (by repeat' first | exact trivial | exact rfl | exact Iff.rfl | exact Or.inl rfl | refine And.intro ?_ ?_) rfl rfl ?_⟩
  exact retE (leK_refl _)
set_option maxHeartbeats 8000000 in
set_option maxRecDepth 100000 in
theorem barrel_23 (f w : Int) (hF : 1 ≤ f ∧ f ≤ 100) (hs : shapeV f = 23) (hw : U32 w) : PureF gT 127 [.int .i64 f, .int .u32 w] (inP (rdI23 f w)) := by
  have b0 := bitsV_bd w 12 3
  have b1 := bitsV_bd w 6 2
  have b2 := bitsV_bd w 4 2
  have b3 := bitsV_bd w 16 4
  have b4 := bitsV_bd w 0 4
  unfold rdI23
  refine Spec.enter gTok P127 100 Tryd.func127 rfl (by kernel_rfl) ?_
  refine ⟨[], no_rl, (places_pure ⟨f, 0, 0, 0, 0, 0, 0, 0, 0, 0, 0⟩ w hw).use (by repeat' first | exact trivial | exact rfl | exact Iff.rfl | exact Or.inl rfl | refine And.intro ?_ ?_) rfl rfl ?_⟩
  refine ⟨[], no_rl, (at_pure w 4 2 hw (by decide) (by decide)).use (And.intro rfl (And.intro rfl (And.intro rfl trivial))) rfl rfl ?_⟩
  refine ⟨[], no_rl, (at_pure w 12 3 hw (by decide) (by decide)).use (And.intro rfl (And.intro rfl (And.intro rfl trivial))) rfl rfl ?_⟩
  refine ⟨by decide, .inl ⟨inR_i64 (by rw [q2]; omega), ?_⟩⟩
  refine ⟨[], no_rl, (at_pure w 6 2 hw (by decide) (by decide)).use (And.intro rfl (And.intro rfl (And.intro rfl trivial))) rfl rfl ?_⟩
  have ek : bitsV w 4 2 = 0 + bitsV w 4 2 * 2 ^ 0 := by omega
  have e : bits .or .i64 (bitsV w 12 3 * Ev.pow2 .i64 2) (bitsV w 6 2) = 0 + bitsV w 12 3 * 2 ^ 2 + bitsV w 6 2 * 2 ^ 0 := by
    rw [q2, Rm.i64_join (bitsV w 12 3 * 4) (bitsV w 6 2) 2 (by omega) (by omega) (by omega) (by omega) (by omega) (by omega)]; omega
  refine ⟨[], no_rl, (turned_pure (0 + bitsV w 4 2 * 2 ^ 0) (0 + bitsV w 12 3 * 2 ^ 2 + bitsV w 6 2 * 2 ^ 0)).use (And.intro ek (And.intro e trivial)) rfl rfl ?_⟩
  repeat (refine And.intro ?_ ?_; rotate_left; focus (
    repeat' (first
      | refine Exists.intro [] (And.intro no_rl ((at_pure w 4 2 hw (by decide) (by decide)).use (And.intro rfl (And.intro rfl (And.intro rfl trivial))) rfl rfl ?_))
      | refine Exists.intro [] (And.intro no_rl ((at_pure w 12 3 hw (by decide) (by decide)).use (And.intro rfl (And.intro rfl (And.intro rfl trivial))) rfl rfl ?_))
      | refine Exists.intro [] (And.intro no_rl ((at_pure w 6 2 hw (by decide) (by decide)).use (And.intro rfl (And.intro rfl (And.intro rfl trivial))) rfl rfl ?_))
      | refine Exists.intro [] (And.intro no_rl ((turned_pure (0 + bitsV w 4 2 * 2 ^ 0) (0 + bitsV w 12 3 * 2 ^ 2 + bitsV w 6 2 * 2 ^ 0)).use (And.intro ek (And.intro e trivial)) rfl rfl ?_))
      | refine And.intro (show (0 : Int) ≤ 2 by decide) (Or.inl (And.intro (inR_i64 (by rw [q2]; omega)) ?_))
      | exact rfl
      | exact trivial
      | refine And.intro ?_ ?_)))
  refine ⟨[], no_rl, (pshapeLit hs).use (And.intro rfl trivial) rfl rfl ?_⟩
  refine ⟨[], no_rl, (pshapeLit hs).use (And.intro rfl trivial) rfl rfl ?_⟩
  refine retE ?_
  (repeat' first | exact trivial | exact rfl | refine And.intro ?_ ?_)
  all_goals (show (_ : Int) = _; (try dsimp only [placesI, threeI]); first | omega | (unfold numT; omega))
set_option maxHeartbeats 8000000 in
set_option maxRecDepth 100000 in
theorem wideOf_23 (f w : Int) (hF : 1 ≤ f ∧ f ≤ 100) (hs : shapeV f = 23) (hw : U32 w) : PureF gT 69 [.int .i64 f, .int .u32 w] (inP (rdI23 f w)) := by
  have b0 := bitsV_bd w 12 3
  have b1 := bitsV_bd w 6 2
  have b2 := bitsV_bd w 4 2
  have b3 := bitsV_bd w 16 4
  have b4 := bitsV_bd w 0 4
  refine Spec.enter gTok P69 100 Tryd.func69 rfl (by kernel_rfl) ?_
  refine ⟨[], no_rl, (places_pure ⟨f, 0, 0, 0, 0, 0, 0, 0, 0, 0, 0⟩ w hw).use (by repeat' first | exact trivial | exact rfl | exact Iff.rfl | exact Or.inl rfl | refine And.intro ?_ ?_) rfl rfl ?_⟩
  refine ⟨[], no_rl, (pshapeLit hs).use (And.intro rfl trivial) rfl rfl ?_⟩
  refine ⟨[], no_rl, (barrel_23 f w hF hs hw).use (by repeat' first | exact trivial | exact rfl | exact Iff.rfl | exact Or.inl rfl | refine And.intro ?_ ?_) rfl rfl ?_⟩
  exact retE (leK_refl _)
set_option maxHeartbeats 8000000 in
set_option maxRecDepth 100000 in
theorem immediate_24 (f w : Int) (hF : 1 ≤ f ∧ f ≤ 100) (hs : shapeV f = 24) (hw : U32 w) : PureF gT 126 [.int .i64 f, .int .u32 w] (inP (rdI24 f w)) := by
  have b0 := bitsV_bd w 26 1
  have b1 := bitsV_bd w 12 3
  have b2 := bitsV_bd w 0 8
  have b3 := bitsV_bd w 16 4
  have b4 := bitsV_bd w 8 4
  unfold rdI24
  refine Spec.enter gTok P126 100 Tryd.func126 rfl (by kernel_rfl) ?_
  refine ⟨[], no_rl, (places_pure ⟨f, 0, 0, 0, 0, 0, 0, 0, 0, 0, 0⟩ w hw).use (by repeat' first | exact trivial | exact rfl | exact Iff.rfl | exact Or.inl rfl | refine And.intro ?_ ?_) rfl rfl ?_⟩
  refine ⟨[], no_rl, (number_f w hw).use (by repeat' first | exact trivial | exact rfl | exact Iff.rfl | exact Or.inl rfl | refine And.intro ?_ ?_) rfl rfl ?_⟩
  refine ⟨[], no_rl, (pshapeLit hs).use (And.intro rfl trivial) rfl rfl ?_⟩
  refine retE ?_
  (repeat' first | exact trivial | exact rfl | refine And.intro ?_ ?_)
  all_goals (show (_ : Int) = _; (try dsimp only [placesI, threeI]); first | omega | (unfold numT; omega))
set_option maxHeartbeats 8000000 in
set_option maxRecDepth 100000 in
theorem wideOf_24 (f w : Int) (hF : 1 ≤ f ∧ f ≤ 100) (hs : shapeV f = 24) (hw : U32 w) : PureF gT 69 [.int .i64 f, .int .u32 w] (inP (rdI24 f w)) := by
  have b0 := bitsV_bd w 26 1
  have b1 := bitsV_bd w 12 3
  have b2 := bitsV_bd w 0 8
  have b3 := bitsV_bd w 16 4
  have b4 := bitsV_bd w 8 4
  refine Spec.enter gTok P69 100 Tryd.func69 rfl (by kernel_rfl) ?_
  refine ⟨[], no_rl, (places_pure ⟨f, 0, 0, 0, 0, 0, 0, 0, 0, 0, 0⟩ w hw).use (by repeat' first | exact trivial | exact rfl | exact Iff.rfl | exact Or.inl rfl | refine And.intro ?_ ?_) rfl rfl ?_⟩
  refine ⟨[], no_rl, (pshapeLit hs).use (And.intro rfl trivial) rfl rfl ?_⟩
  refine ⟨[], no_rl, (immediate_24 f w hF hs hw).use (by repeat' first | exact trivial | exact rfl | exact Iff.rfl | exact Or.inl rfl | refine And.intro ?_ ?_) rfl rfl ?_⟩
  exact retE (leK_refl _)
set_option maxHeartbeats 8000000 in
set_option maxRecDepth 100000 in
theorem wideOf_25 (f w : Int) (hF : 1 ≤ f ∧ f ≤ 100) (hs : shapeV f = 25) (hw : U32 w) : PureF gT 69 [.int .i64 f, .int .u32 w] (inP (rdI25 f w)) := by
  have b0 := bitsV_bd w 16 4
  have b1 := bitsV_bd w 12 4
  have b2 := bitsV_bd w 0 12
  unfold rdI25
  refine Spec.enter gTok P69 100 Tryd.func69 rfl (by kernel_rfl) ?_
  refine ⟨[], no_rl, (places_pure ⟨f, 0, 0, 0, 0, 0, 0, 0, 0, 0, 0⟩ w hw).use (by repeat' first | exact trivial | exact rfl | exact Iff.rfl | exact Or.inl rfl | refine And.intro ?_ ?_) rfl rfl ?_⟩
  refine ⟨[], no_rl, (pshapeLit hs).use (And.intro rfl trivial) rfl rfl ?_⟩
  refine ⟨[], no_rl, (at_pure w 12 4 hw (by decide) (by decide)).use (And.intro rfl (And.intro rfl (And.intro rfl trivial))) rfl rfl ?_⟩
  refine ⟨[], no_rl, (at_pure w 0 12 hw (by decide) (by decide)).use (And.intro rfl (And.intro rfl (And.intro rfl trivial))) rfl rfl ?_⟩
  refine retE ?_
  (repeat' first | exact trivial | exact rfl | refine And.intro ?_ ?_)
  all_goals (show (_ : Int) = _; (try dsimp only [placesI, threeI]); first | omega | (unfold numT; omega))
set_option maxHeartbeats 8000000 in
set_option maxRecDepth 100000 in
theorem wideOf_26 (f w : Int) (hF : 1 ≤ f ∧ f ≤ 100) (hs : shapeV f = 26) (hw : U32 w) : PureF gT 69 [.int .i64 f, .int .u32 w] (inP (rdI26 f w)) := by
  have b0 := bitsV_bd w 16 4
  have b1 := bitsV_bd w 12 4
  have b2 := bitsV_bd w 4 2
  have b3 := bitsV_bd w 0 4
  unfold rdI26
  refine Spec.enter gTok P69 100 Tryd.func69 rfl (by kernel_rfl) ?_
  refine ⟨[], no_rl, (places_pure ⟨f, 0, 0, 0, 0, 0, 0, 0, 0, 0, 0⟩ w hw).use (by repeat' first | exact trivial | exact rfl | exact Iff.rfl | exact Or.inl rfl | refine And.intro ?_ ?_) rfl rfl ?_⟩
  refine ⟨[], no_rl, (pshapeLit hs).use (And.intro rfl trivial) rfl rfl ?_⟩
  refine ⟨[], no_rl, (at_pure w 12 4 hw (by decide) (by decide)).use (And.intro rfl (And.intro rfl (And.intro rfl trivial))) rfl rfl ?_⟩
  refine ⟨[], no_rl, (at_pure w 4 2 hw (by decide) (by decide)).use (And.intro rfl (And.intro rfl (And.intro rfl trivial))) rfl rfl ?_⟩
  refine retE ?_
  (repeat' first | exact trivial | exact rfl | refine And.intro ?_ ?_)
  all_goals (show (_ : Int) = _; (try dsimp only [placesI, threeI]); first | omega | (unfold numT; omega))
set_option maxHeartbeats 8000000 in
set_option maxRecDepth 100000 in
theorem wideOf_27 (f w : Int) (hF : 1 ≤ f ∧ f ≤ 100) (hs : shapeV f = 27) (hw : U32 w) : PureF gT 69 [.int .i64 f, .int .u32 w] (inP (rdI27 f w)) := by
  have b0 := bitsV_bd w 20 1
  have b1 := bitsV_bd w 16 4
  have b2 := bitsV_bd w 8 4
  have b3 := bitsV_bd w 0 4
  unfold rdI27
  refine Spec.enter gTok P69 100 Tryd.func69 rfl (by kernel_rfl) ?_
  refine ⟨[], no_rl, (places_pure ⟨f, 0, 0, 0, 0, 0, 0, 0, 0, 0, 0⟩ w hw).use (by repeat' first | exact trivial | exact rfl | exact Iff.rfl | exact Or.inl rfl | refine And.intro ?_ ?_) rfl rfl ?_⟩
  refine ⟨[], no_rl, (pshapeLit hs).use (And.intro rfl trivial) rfl rfl ?_⟩
  refine retE ?_
  (repeat' first | exact trivial | exact rfl | refine And.intro ?_ ?_)
  all_goals (show (_ : Int) = _; (try dsimp only [placesI, threeI]); first | omega | (unfold numT; omega))
set_option maxHeartbeats 8000000 in
set_option maxRecDepth 100000 in
theorem wideOf_28 (f w : Int) (hF : 1 ≤ f ∧ f ≤ 100) (hs : shapeV f = 28) (hw : U32 w) : PureF gT 69 [.int .i64 f, .int .u32 w] (inP (rdI28 f w)) := by
  have b0 := bitsV_bd w 16 4
  have b1 := bitsV_bd w 8 4
  have b2 := bitsV_bd w 0 4
  unfold rdI28
  refine Spec.enter gTok P69 100 Tryd.func69 rfl (by kernel_rfl) ?_
  refine ⟨[], no_rl, (places_pure ⟨f, 0, 0, 0, 0, 0, 0, 0, 0, 0, 0⟩ w hw).use (by repeat' first | exact trivial | exact rfl | exact Iff.rfl | exact Or.inl rfl | refine And.intro ?_ ?_) rfl rfl ?_⟩
  refine ⟨[], no_rl, (pshapeLit hs).use (And.intro rfl trivial) rfl rfl ?_⟩
  refine retE ?_
  (repeat' first | exact trivial | exact rfl | refine And.intro ?_ ?_)
  all_goals (show (_ : Int) = _; (try dsimp only [placesI, threeI]); first | omega | (unfold numT; omega))
set_option maxHeartbeats 8000000 in
set_option maxRecDepth 100000 in
theorem wideOf_29 (f w : Int) (hF : 1 ≤ f ∧ f ≤ 100) (hs : shapeV f = 29) (hw : U32 w) : PureF gT 69 [.int .i64 f, .int .u32 w] (inP (rdI29 f w)) := by
  have b0 := bitsV_bd w 16 4
  have b1 := bitsV_bd w 12 4
  have b2 := bitsV_bd w 8 4
  have b3 := bitsV_bd w 0 4
  unfold rdI29
  refine Spec.enter gTok P69 100 Tryd.func69 rfl (by kernel_rfl) ?_
  refine ⟨[], no_rl, (places_pure ⟨f, 0, 0, 0, 0, 0, 0, 0, 0, 0, 0⟩ w hw).use (by repeat' first | exact trivial | exact rfl | exact Iff.rfl | exact Or.inl rfl | refine And.intro ?_ ?_) rfl rfl ?_⟩
  refine ⟨[], no_rl, (pshapeLit hs).use (And.intro rfl trivial) rfl rfl ?_⟩
  refine ⟨[], no_rl, (at_pure w 12 4 hw (by decide) (by decide)).use (And.intro rfl (And.intro rfl (And.intro rfl trivial))) rfl rfl ?_⟩
  refine retE ?_
  (repeat' first | exact trivial | exact rfl | refine And.intro ?_ ?_)
  all_goals (show (_ : Int) = _; (try dsimp only [placesI, threeI]); first | omega | (unfold numT; omega))
set_option maxHeartbeats 8000000 in
set_option maxRecDepth 100000 in
theorem wideOf_30 (f w : Int) (hF : 1 ≤ f ∧ f ≤ 100) (hs : shapeV f = 30) (hw : U32 w) : PureF gT 69 [.int .i64 f, .int .u32 w] (inP (rdI30 f w)) := by
  have b0 := bitsV_bd w 16 4
  have b1 := bitsV_bd w 12 4
  have b2 := bitsV_bd w 8 4
  have b3 := bitsV_bd w 0 4
  unfold rdI30
  refine Spec.enter gTok P69 100 Tryd.func69 rfl (by kernel_rfl) ?_
  refine ⟨[], no_rl, (places_pure ⟨f, 0, 0, 0, 0, 0, 0, 0, 0, 0, 0⟩ w hw).use (by repeat' first | exact trivial | exact rfl | exact Iff.rfl | exact Or.inl rfl | refine And.intro ?_ ?_) rfl rfl ?_⟩
  refine ⟨[], no_rl, (pshapeLit hs).use (And.intro rfl trivial) rfl rfl ?_⟩
  refine ⟨[], no_rl, (at_pure w 12 4 hw (by decide) (by decide)).use (And.intro rfl (And.intro rfl (And.intro rfl trivial))) rfl rfl ?_⟩
  refine retE ?_
  (repeat' first | exact trivial | exact rfl | refine And.intro ?_ ?_)
  all_goals (show (_ : Int) = _; (try dsimp only [placesI, threeI]); first | omega | (unfold numT; omega))
set_option maxHeartbeats 8000000 in
set_option maxRecDepth 100000 in
theorem wideOf_31 (f w : Int) (hF : 1 ≤ f ∧ f ≤ 100) (hs : shapeV f = 31) (hw : U32 w) : PureF gT 69 [.int .i64 f, .int .u32 w] (inP (rdI31 f w)) := by
  have b0 := bitsV_bd w 16 4
  have b1 := bitsV_bd w 12 4
  have b2 := bitsV_bd w 8 4
  have b3 := bitsV_bd w 0 4
  unfold rdI31
  refine Spec.enter gTok P69 100 Tryd.func69 rfl (by kernel_rfl) ?_
  refine ⟨[], no_rl, (places_pure ⟨f, 0, 0, 0, 0, 0, 0, 0, 0, 0, 0⟩ w hw).use (by repeat' first | exact trivial | exact rfl | exact Iff.rfl | exact Or.inl rfl | refine And.intro ?_ ?_) rfl rfl ?_⟩
  refine ⟨[], no_rl, (pshapeLit hs).use (And.intro rfl trivial) rfl rfl ?_⟩
  refine ⟨[], no_rl, (at_pure w 12 4 hw (by decide) (by decide)).use (And.intro rfl (And.intro rfl (And.intro rfl trivial))) rfl rfl ?_⟩
  refine retE ?_
  (repeat' first | exact trivial | exact rfl | refine And.intro ?_ ?_)
  all_goals (show (_ : Int) = _; (try dsimp only [placesI, threeI]); first | omega | (unfold numT; omega))
set_option maxHeartbeats 8000000 in
set_option maxRecDepth 100000 in
theorem wideOf_32 (f w : Int) (hF : 1 ≤ f ∧ f ≤ 100) (hs : shapeV f = 32) (hw : U32 w) : PureF gT 69 [.int .i64 f, .int .u32 w] (inP (rdI32 f w)) := by
  have b0 := bitsV_bd w 16 4
  have b1 := bitsV_bd w 8 4
  have b2 := bitsV_bd w 0 4
  unfold rdI32
  refine Spec.enter gTok P69 100 Tryd.func69 rfl (by kernel_rfl) ?_
  refine ⟨[], no_rl, (places_pure ⟨f, 0, 0, 0, 0, 0, 0, 0, 0, 0, 0⟩ w hw).use (by repeat' first | exact trivial | exact rfl | exact Iff.rfl | exact Or.inl rfl | refine And.intro ?_ ?_) rfl rfl ?_⟩
  refine ⟨[], no_rl, (pshapeLit hs).use (And.intro rfl trivial) rfl rfl ?_⟩
  refine retE ?_
  (repeat' first | exact trivial | exact rfl | refine And.intro ?_ ?_)
  all_goals (show (_ : Int) = _; (try dsimp only [placesI, threeI]); first | omega | (unfold numT; omega))
set_option maxHeartbeats 8000000 in
set_option maxRecDepth 100000 in
theorem wideOf_33 (f w : Int) (hF : 1 ≤ f ∧ f ≤ 100) (hs : shapeV f = 33) (hw : U32 w) : PureF gT 69 [.int .i64 f, .int .u32 w] (inP (rdI33 f w)) := by
  have b0 := bitsV_bd w 26 1
  have b1 := bitsV_bd w 22 4
  have b2 := bitsV_bd w 16 6
  have b3 := bitsV_bd w 13 1
  have b4 := bitsV_bd w 11 1
  have b5 := bitsV_bd w 0 11
  unfold rdI33
  refine Spec.enter gTok P69 100 Tryd.func69 rfl (by kernel_rfl) ?_
  refine ⟨[], no_rl, (places_pure ⟨f, 0, 0, 0, 0, 0, 0, 0, 0, 0, 0⟩ w hw).use (by repeat' first | exact trivial | exact rfl | exact Iff.rfl | exact Or.inl rfl | refine And.intro ?_ ?_) rfl rfl ?_⟩
  refine ⟨[], no_rl, (pshapeLit hs).use (And.intro rfl trivial) rfl rfl ?_⟩
  refine ⟨[], no_rl, (at_pure w 22 4 hw (by decide) (by decide)).use (And.intro rfl (And.intro rfl (And.intro rfl trivial))) rfl rfl ?_⟩
  refine ⟨[], no_rl, (condOf_pure w hw).use (And.intro rfl trivial) rfl rfl ?_⟩
  refine retE ?_
  (repeat' first | exact trivial | exact rfl | refine And.intro ?_ ?_)
  all_goals (show (_ : Int) = _; (try dsimp only [placesI, threeI]); first | omega | (unfold numT; omega))
set_option maxHeartbeats 8000000 in
set_option maxRecDepth 100000 in
theorem wideOf_34 (f w : Int) (hF : 1 ≤ f ∧ f ≤ 100) (hs : shapeV f = 34) (hw : U32 w) : PureF gT 69 [.int .i64 f, .int .u32 w] (inP (rdI34 f w)) := by
  have b0 := bitsV_bd w 26 1
  have b1 := bitsV_bd w 16 10
  have b2 := bitsV_bd w 13 1
  have b3 := bitsV_bd w 11 1
  have b4 := bitsV_bd w 0 11
  unfold rdI34
  refine Spec.enter gTok P69 100 Tryd.func69 rfl (by kernel_rfl) ?_
  refine ⟨[], no_rl, (places_pure ⟨f, 0, 0, 0, 0, 0, 0, 0, 0, 0, 0⟩ w hw).use (by repeat' first | exact trivial | exact rfl | exact Iff.rfl | exact Or.inl rfl | refine And.intro ?_ ?_) rfl rfl ?_⟩
  refine ⟨[], no_rl, (pshapeLit hs).use (And.intro rfl trivial) rfl rfl ?_⟩
  refine ⟨[], no_rl, (jumpOf_pure w hw).use (And.intro rfl trivial) rfl rfl ?_⟩
  refine retE ?_
  (repeat' first | exact trivial | exact rfl | refine And.intro ?_ ?_)
  all_goals (show (_ : Int) = _; (try dsimp only [placesI, threeI]); first | omega | (unfold numT; omega))

end Go.Proofs.YthpkejlmelednaaDoor.Pw

/- Chapter 3 over values: the document's Right is the program's. -/
namespace Go.Proofs.YthpkejlmelednaaDoor.Pw
open Go Go.RowKit

def inLs (i : IN) : List Int := [i.form, i.rd, i.rn, i.rm, i.ra, i.imm, i.kind, i.by_, i.set, i.cond, i.regs]
/-- all of an instruction's numbers are ints -/
def IOk (i : IN) : Prop := ∀ x ∈ inLs i, I64 x
theorem inP_is {i : IN} {w : World} {I : Nat → Prop} {β : Places} : (inP i).Is w I β (Ev.instVals (inLs i)) :=
  is_agg (vs := ((inLs i).map (Value.int .i64)).toArray) (isLc (is_int ..) (isLc (is_int ..) (isLc (is_int ..) (isLc (is_int ..) (isLc (is_int ..) (isLc (is_int ..) (isLc (is_int ..) (isLc (is_int ..) (isLc (is_int ..) (isLc (is_int ..) (isLc (is_int ..) isLn)))))))))))
theorem inP_val {i : IN} {w : World} {I : Nat → Prop} {β : Places} {v : Value} (h : (inP i).Is w I β v) : v = Ev.instVals (inLs i) := by
  unfold inP inFs at h
  simp only [PV.Is] at h
  obtain ⟨vs, rfl, h⟩ := h
  have key : ∀ (l : List Int) (us : List Value), IsL w I (l.map (PV.int .i64)) β us → us = l.map (Value.int .i64) := by
    intro l
    induction l with
    | nil => intro us h; exact isL0 h
    | cons x l ih =>
      intro us h
      cases us with
      | nil => simp only [List.map, IsL] at h
      | cons u us =>
        simp only [List.map, IsL, PV.Is] at h
        rw [h.1, ih us h.2]; rfl
  have h2 := key (inLs i) vs.toList h
  show Value.agg vs = .agg _
  rw [← h2]
theorem jx2_of {I : Nat → Prop} {w : World} (hM : ImmOk gT I w) : Ev.jx2.J w :=
  Ev.jx2_mk (facOf hM) (tab_row hM (g := 0) (k := .i64) (l := shL) (show (0, shP) ∈ gT.tabs from List.mem_cons_of_mem _ List.mem_cons_self))
theorem refRight_pure (i : IN) (hi : IOk i) : PureF gT 16 [inP i] (.bool (rightV i)) :=
  PureF.of_at (entersT Tryd.func16 rfl (by kernel_rfl)) fun I β w vals hM hA => by
    obtain ⟨v, rfl, h1⟩ := isL1 hA
    obtain rfl := inP_val h1
    obtain ⟨c1, c2⟩ := Ev.rightB_calls (inLs i) rfl hi w (jx2_of hM)
    have c3 := (right_pure i (hi i.imm (by simp [inLs]))).calls hM (isLc inP_is isLn) (.bool (pb (rightV i))) fun w' I' β' v' h => by simpa only [PV.Is] using h
    have e := Lib.agree (by kernel_rfl) c1 c3
    refine ⟨.bool (pb (rightV i)), by simp only [PV.Is], fun _ _ _ => by simp only [PV.Is], ?_⟩
    rw [← e]; exact c2

end Go.Proofs.YthpkejlmelednaaDoor.Pw

/- Chapter 4 over values: packing and reading, of all shapes; an instruction's bits; the instruction of bits. -/
namespace Go.Proofs.YthpkejlmelednaaDoor.Pw
open Go Go.RowKit

theorem shape_wide {f : Int} (h : 1 ≤ f ∧ f ≤ 100) : 17 ≤ shapeV f ↔ 48 ≤ f := by
  have h1 : ((List.range 100).all fun k => decide (17 ≤ shapeV ((k + 1 : Nat) : Int) ↔ 48 ≤ k + 1)) = true := by decide +kernel
  have h2 := of_decide_eq_true (List.all_eq_true.1 h1 (f.toNat - 1) (List.mem_range.2 (by omega)))
  rw [show (((f.toNat - 1 + 1 : Nat)) : Int) = f by omega] at h2
  omega
theorem cases16 {s : Int} (h : 1 ≤ s ∧ s ≤ 16) : s = 1 ∨ s = 2 ∨ s = 3 ∨ s = 4 ∨ s = 5 ∨ s = 6 ∨ s = 7 ∨ s = 8 ∨ s = 9 ∨ s = 10 ∨ s = 11 ∨ s = 12 ∨ s = 13 ∨ s = 14 ∨ s = 15 ∨ s = 16 := by omega
theorem cases18 {s : Int} (h : 17 ≤ s ∧ s ≤ 34) : s = 17 ∨ s = 18 ∨ s = 19 ∨ s = 20 ∨ s = 21 ∨ s = 22 ∨ s = 23 ∨ s = 24 ∨ s = 25 ∨ s = 26 ∨ s = 27 ∨ s = 28 ∨ s = 29 ∨ s = 30 ∨ s = 31 ∨ s = 32 ∨ s = 33 ∨ s = 34 := by omega
theorem read_all (f w : Int) (hF : 1 ≤ f ∧ f ≤ 100) (hw : U32 w) : PureF gT 70 [.int .i64 f, .int .i64 w] (inP (readV f w)) := by
  have hf : I64 f := by unfold I64; omega
  rcases cases34 (shape_bd hF) with hs | hs | hs | hs | hs | hs | hs | hs | hs | hs | hs | hs | hs | hs | hs | hs | hs | hs | hs | hs | hs | hs | hs | hs | hs | hs | hs | hs | hs | hs | hs | hs | hs | hs
  · rw [rd_1 hs]; exact read_1 f w hs hf hw
  · rw [rd_2 hs]; exact read_2 f w hs hf hw
  · rw [rd_3 hs]; exact read_3 f w hs hf hw
  · rw [rd_4 hs]; exact read_4 f w hs hf hw
  · rw [rd_5 hs]; exact read_5 f w hs hf hw
  · rw [rd_6 hs]; exact read_6 f w hs hf hw
  · rw [rd_7 hs]; exact read_7 f w hs hf hw
  · rw [rd_8 hs]; exact read_8 f w hs hf hw
  · rw [rd_9 hs]; exact read_9 f w hs hf hw
  · rw [rd_10 hs]; exact read_10 f w hs hf hw
  · rw [rd_11 hs]; exact read_11 f w hs hf hw
  · rw [rd_12 hs]; exact read_12 f w hs hf hw
  · rw [rd_13 hs]; exact read_13 f w hs hf hw
  · rw [rd_14 hs]; exact read_14 f w hs hf hw
  · rw [rd_15 hs]; exact read_15 f w hs hf hw
  · rw [rd_16 hs]; exact read_16 f w hs hf hw
  · rw [rd_17 hs]; exact read_17 f w hs hf hw
  · rw [rd_18 hs]; exact read_18 f w hs hf hw
  · rw [rd_19 hs]; exact read_19 f w hs hf hw
  · rw [rd_20 hs]; exact read_20 f w hs hf hw
  · rw [rd_21 hs]; exact read_21 f w hs hf hw
  · rw [rd_22 hs]; exact read_22 f w hs hf hw
  · rw [rd_23 hs]; exact read_23 f w hs hf hw
  · rw [rd_24 hs]; exact read_24 f w hs hf hw
  · rw [rd_25 hs]; exact read_25 f w hs hf hw
  · rw [rd_26 hs]; exact read_26 f w hs hf hw
  · rw [rd_27 hs]; exact read_27 f w hs hf hw
  · rw [rd_28 hs]; exact read_28 f w hs hf hw
  · rw [rd_29 hs]; exact read_29 f w hs hf hw
  · rw [rd_30 hs]; exact read_30 f w hs hf hw
  · rw [rd_31 hs]; exact read_31 f w hs hf hw
  · rw [rd_32 hs]; exact read_32 f w hs hf hw
  · rw [rd_33 hs]; exact read_33 f w hs hf hw
  · rw [rd_34 hs]; exact read_34 f w hs hf hw
  
theorem narrowOf_all (f w : Int) (hF : 1 ≤ f ∧ f ≤ 100) (hn : ¬ 48 ≤ f) (hw : U32 w) : PureF gT 68 [.int .i64 f, .int .u32 w] (inP (readV f w)) := by
  have h17 := shape_wide hF
  have hb := shape_bd hF
  rcases cases16 (s := shapeV f) (by omega) with hs | hs | hs | hs | hs | hs | hs | hs | hs | hs | hs | hs | hs | hs | hs | hs
  · rw [rd_1 hs]; exact narrowOf_1 f w hF hs hw
  · rw [rd_2 hs]; exact narrowOf_2 f w hF hs hw
  · rw [rd_3 hs]; exact narrowOf_3 f w hF hs hw
  · rw [rd_4 hs]; exact narrowOf_4 f w hF hs hw
  · rw [rd_5 hs]; exact narrowOf_5 f w hF hs hw
  · rw [rd_6 hs]; exact narrowOf_6 f w hF hs hw
  · rw [rd_7 hs]; exact narrowOf_7 f w hF hs hw
  · rw [rd_8 hs]; exact narrowOf_8 f w hF hs hw
  · rw [rd_9 hs]; exact narrowOf_9 f w hF hs hw
  · rw [rd_10 hs]; exact narrowOf_10 f w hF hs hw
  · rw [rd_11 hs]; exact narrowOf_11 f w hF hs hw
  · rw [rd_12 hs]; exact narrowOf_12 f w hF hs hw
  · rw [rd_13 hs]; exact narrowOf_13 f w hF hs hw
  · rw [rd_14 hs]; exact narrowOf_14 f w hF hs hw
  · rw [rd_15 hs]; exact narrowOf_15 f w hF hs hw
  · rw [rd_16 hs]; exact narrowOf_16 f w hF hs hw
  
theorem wideOf_all (f w : Int) (hF : 1 ≤ f ∧ f ≤ 100) (hn : 48 ≤ f) (hw : U32 w) : PureF gT 69 [.int .i64 f, .int .u32 w] (inP (readV f w)) := by
  have h17 := shape_wide hF
  have hb := shape_bd hF
  rcases cases18 (s := shapeV f) (by omega) with hs | hs | hs | hs | hs | hs | hs | hs | hs | hs | hs | hs | hs | hs | hs | hs | hs | hs
  · rw [rd_17 hs]; exact wideOf_17 f w hF hs hw
  · rw [rd_18 hs]; exact wideOf_18 f w hF hs hw
  · rw [rd_19 hs]; exact wideOf_19 f w hF hs hw
  · rw [rd_20 hs]; exact wideOf_20 f w hF hs hw
  · rw [rd_21 hs]; exact wideOf_21 f w hF hs hw
  · rw [rd_22 hs]; exact wideOf_22 f w hF hs hw
  · rw [rd_23 hs]; exact wideOf_23 f w hF hs hw
  · rw [rd_24 hs]; exact wideOf_24 f w hF hs hw
  · rw [rd_25 hs]; exact wideOf_25 f w hF hs hw
  · rw [rd_26 hs]; exact wideOf_26 f w hF hs hw
  · rw [rd_27 hs]; exact wideOf_27 f w hF hs hw
  · rw [rd_28 hs]; exact wideOf_28 f w hF hs hw
  · rw [rd_29 hs]; exact wideOf_29 f w hF hs hw
  · rw [rd_30 hs]; exact wideOf_30 f w hF hs hw
  · rw [rd_31 hs]; exact wideOf_31 f w hF hs hw
  · rw [rd_32 hs]; exact wideOf_32 f w hF hs hw
  · rw [rd_33 hs]; exact wideOf_33 f w hF hs hw
  · rw [rd_34 hs]; exact wideOf_34 f w hF hs hw
  
def orV (i : IN) : Int := ((orF (turnI i) (fieldsV (shapeV i.form)) : Nat) : Int)
theorem narrow_all (i : IN) (hr : rightV i) (hn : ¬ 48 ≤ i.form) (hg : i.regs ≤ 9223372036854775807) : PureF gT 118 [inP i] (.int .u32 (orV i)) := by
  have h17 := shape_wide hr.1
  have hb := shape_bd hr.1
  unfold orV
  unfold rightV at hr
  rw [turnI_not (by omega)]
  rcases cases16 (s := shapeV i.form) (by omega) with hs | hs | hs | hs | hs | hs | hs | hs | hs | hs | hs | hs | hs | hs | hs | hs
  · rw [hs] at hr ⊢; exact narrow_1 i hs hr hg
  · rw [hs] at hr ⊢; exact narrow_2 i hs hr hg
  · rw [hs] at hr ⊢; exact narrow_3 i hs hr hg
  · rw [hs] at hr ⊢; exact narrow_4 i hs hr hg
  · rw [hs] at hr ⊢; exact narrow_5 i hs hr hg
  · rw [hs] at hr ⊢; exact narrow_6 i hs hr hg
  · rw [hs] at hr ⊢; exact narrow_7 i hs hr hg
  · rw [hs] at hr ⊢; exact narrow_8 i hs hr hg
  · rw [hs] at hr ⊢; exact narrow_9 i hs hr hg
  · rw [hs] at hr ⊢; exact narrow_10 i hs hr hg
  · rw [hs] at hr ⊢; exact narrow_11 i hs hr hg
  · rw [hs] at hr ⊢; exact narrow_12 i hs hr hg
  · rw [hs] at hr ⊢; exact narrow_13 i hs hr hg
  · rw [hs] at hr ⊢; exact narrow_14 i hs hr hg
  · rw [hs] at hr ⊢; exact narrow_15 i hs hr hg
  · rw [hs] at hr ⊢; exact narrow_16 i hs hr hg
  
theorem wide_all (i : IN) (hr : rightV i) (hn : 48 ≤ i.form) (hg : i.regs ≤ 9223372036854775807) : PureF gT 117 [inP i] (.int .u32 (orV i)) := by
  have h17 := shape_wide hr.1
  have hb := shape_bd hr.1
  unfold orV
  unfold rightV at hr
  rcases cases18 (s := shapeV i.form) (by omega) with hs | hs | hs | hs | hs | hs | hs | hs | hs | hs | hs | hs | hs | hs | hs | hs | hs | hs
  · rw [turnI_not (by omega)]; rw [hs] at hr ⊢; exact wide_17 i hs hr hg
  · rw [turnI_not (by omega)]; rw [hs] at hr ⊢; exact wide_18 i hs hr hg
  · rw [turnI_not (by omega)]; rw [hs] at hr ⊢; exact wide_19 i hs hr hg
  · rw [turnI_not (by omega)]; rw [hs] at hr ⊢; exact wide_20 i hs hr hg
  · rw [turnI_not (by omega)]; rw [hs] at hr ⊢; exact wide_21 i hs hr hg
  · rw [turnI_not (by omega)]; rw [hs] at hr ⊢; exact wide_22 i hs hr hg
  · rw [turnI_not (by omega)]; rw [hs] at hr ⊢; exact wide_23 i hs hr hg
  · rw [turnI_not (by omega)]; rw [hs] at hr ⊢; exact wide_24 i hs hr hg
  · rw [turnI_not (by omega)]; rw [hs] at hr ⊢; exact wide_25 i hs hr hg
  · rw [turnI_not (by omega)]; rw [hs] at hr ⊢; exact wide_26 i hs hr hg
  · rw [turnI_not (by omega)]; rw [hs] at hr ⊢; exact wide_27 i hs hr hg
  · rw [turnI_not (by omega)]; rw [hs] at hr ⊢; exact wide_28 i hs hr hg
  · rw [turnI_not (by omega)]; rw [hs] at hr ⊢; exact wide_29 i hs hr hg
  · rw [turnI_not (by omega)]; rw [hs] at hr ⊢; exact wide_30 i hs hr hg
  · rw [turnI_not (by omega)]; rw [hs] at hr ⊢; exact wide_31 i hs hr hg
  · rw [turnI_not (by omega)]; rw [hs] at hr ⊢; exact wide_32 i hs hr hg
  · rw [turnI_not (by omega)]; rw [hs] at hr ⊢; exact wide_33 i hs hr hg
  · rw [hs] at hr ⊢; exact wide_34 i hs hr hg
theorem orV_lt (i : IN) : orF (turnI i) (fieldsV (shapeV i.form)) < 4294967296 := by
  have h := wordF_lt (turnI i) (fieldsV (shapeV i.form)) (fields_ok _)
  rw [wordF_or] at h
  exact Nat.lt_of_le_of_lt Nat.right_le_or h
theorem pack_or (i : IN) : bits .or .u32 (fbV i.form) (orV i) = wordV i := by
  have b := fb_bd i.form
  have l := orV_lt i
  rw [word_or]
  unfold orV
  rw [u32_or _ _ b.1 b.2 (by omega) (by omega), Int.toNat_natCast]
set_option maxRecDepth 100000 in
theorem pack_pure (i : IN) (hr : rightV i) (hg : i.regs ≤ 9223372036854775807) : PureF gT 64 [inP i] (.int .u32 (wordV i)) := by
  refine Spec.enter gTok P64 100 Tryd.func64 rfl (by kernel_rfl) ?_
  refine ⟨[], no_rl, (form_wide i.form).use (by repeat' first | exact trivial | exact rfl | exact Iff.rfl | exact Or.inl rfl | refine And.intro ?_ ?_) rfl rfl ?_⟩
  refine And.intro (fun h => ?_) (fun h => ?_)
  · refine ⟨[], no_rl, (formBits_pure i.form).use (by repeat' first | exact trivial | exact rfl | exact Iff.rfl | exact Or.inl rfl | refine And.intro ?_ ?_) rfl rfl ?_⟩
    refine ⟨[], no_rl, (wide_all i hr h.1 hg).use (by repeat' first | exact trivial | exact rfl | exact Iff.rfl | exact Or.inl rfl | refine And.intro ?_ ?_) rfl rfl ?_⟩
    refine retE ?_
    exact pack_or i
  · refine ⟨[], no_rl, (formBits_pure i.form).use (by repeat' first | exact trivial | exact rfl | exact Iff.rfl | exact Or.inl rfl | refine And.intro ?_ ?_) rfl rfl ?_⟩
    refine ⟨[], no_rl, (narrow_all i hr (fun e => h ⟨e, hr.1.2⟩) hg).use (by repeat' first | exact trivial | exact rfl | exact Iff.rfl | exact Or.inl rfl | refine And.intro ?_ ?_) rfl rfl ?_⟩
    refine retE ?_
    exact pack_or i
/-- the bits that Word yields, and its error -/
noncomputable def wordX4 (i : IN) : Int := open Classical in if rightV i then wordV i else 0
noncomputable def wordE4 (i : IN) : Int := open Classical in if rightV i then 0 else 20

end Go.Proofs.YthpkejlmelednaaDoor.Pw

/- Chapter 4, plain: which instruction bits are. -/
namespace Go.Proofs.YthpkejlmelednaaDoor.Pw
open Go Go.RowKit

/-! ### readings stay within bounds -/
theorem span_tab : ∀ k : Fin 35, (fieldsV ((k.1 : Nat) : Int)).all (fun x => decide (x.2.1 + x.2.2.2 ≤ 25)) = true := by decide
theorem fields_span (s : Int) : ∀ x ∈ fieldsV s, x.2.1 + x.2.2.2 ≤ 25 := by
  have h : (fieldsV s).all (fun x => decide (x.2.1 + x.2.2.2 ≤ 25)) = true := by
    by_cases h : s < 1 ∨ 34 < s
    · rw [fields_none s h]; rfl
    · have h1 := span_tab ⟨s.toNat, by omega⟩
      rwa [show (((⟨s.toNat, by omega⟩ : Fin 35).1 : Nat) : Int) = s by simp only []; omega] at h1
  exact fun x hx => of_decide_eq_true (List.all_eq_true.1 h x hx)
theorem term_bd (w : Int) (a n l : Nat) (h : l + n ≤ 25) : 0 ≤ bitsV w a n * 2 ^ l ∧ bitsV w a n * 2 ^ l ≤ 33554432 := by
  have b := bitsV_bd w a n
  have p1 := pow_cast l
  have p2 := pow_cast n
  have q1 := Nat.two_pow_pos l
  have e : ((bitsV w a n).toNat : Int) = bitsV w a n := Int.toNat_of_nonneg b.1
  have h1 : (bitsV w a n).toNat < 2 ^ n := by omega
  have h2 : (bitsV w a n).toNat * 2 ^ l ≤ 2 ^ n * 2 ^ l := Nat.mul_le_mul_right _ (Nat.le_of_lt h1)
  have h3 : 2 ^ n * 2 ^ l ≤ 2 ^ 25 := by rw [← Nat.pow_add]; exact Nat.pow_le_pow_right (by omega) (by omega)
  have e2 : bitsV w a n * 2 ^ l = (((bitsV w a n).toNat * 2 ^ l : Nat) : Int) := by rw [Int.natCast_mul, e, p1]
  rw [e2]
  have h4 : (2 : Nat) ^ 25 = 33554432 := by decide
  omega
theorem sum_bd (w : Int) : ∀ (l : List (Nat × Nat × Nat × Nat)) (a : Int), (∀ x ∈ l, x.2.1 + x.2.2.2 ≤ 25) → a ≤ l.foldl (fun a x => a + bitsV w x.2.2.1 x.2.2.2 * 2 ^ x.2.1) a ∧ l.foldl (fun a x => a + bitsV w x.2.2.1 x.2.2.2 * 2 ^ x.2.1) a ≤ a + l.length * 33554432
  | [], a, _ => by simp
  | x :: l, a, h => by
    have ih := sum_bd w l (a + bitsV w x.2.2.1 x.2.2.2 * 2 ^ x.2.1) fun y hy => h y (List.mem_cons_of_mem _ hy)
    have t := term_bd w x.2.2.1 x.2.2.2 x.2.1 (h x (List.mem_cons_self ..))
    rw [List.foldl_cons, List.length_cons]
    omega
theorem xV_bd (s w : Int) (f : Nat) : 0 ≤ xV s w f ∧ xV s w f ≤ 234881024 := by
  have h := sum_bd w ((fieldsV s).filter fun x => decide (x.1 = f)) 0 fun x hx => fields_span s x (List.mem_filter.1 hx).1
  have l1 : ((fieldsV s).filter fun x => decide (x.1 = f)).length ≤ 7 := Nat.le_trans (List.length_filter_le ..) (fields_len s)
  unfold xV
  omega
theorem least_bd (x : Int) (w : Nat) (hw : w ≤ 25) : x - 33554432 ≤ leastV x w ∧ leastV x w ≤ x := by
  have p : (2 : Int) ^ w ≤ 33554432 ∧ 0 < (2 : Int) ^ w := by
    have h1 : (2 ^ w : Nat) ≤ 2 ^ 25 := Nat.pow_le_pow_right (by omega) hw
    have h3 := pow_cast w
    have := Nat.two_pow_pos w
    have h4 : (2 : Nat) ^ 25 = 33554432 := by decide
    omega
  unfold leastV; split <;> omega
theorem immA_bd (s f x : Int) (hx : 0 ≤ x ∧ x ≤ 234881024) : -1099511627776 ≤ immA s f x ∧ immA s f x ≤ 1099511627776 := by
  have a := least_bd x 9 (by decide)
  have b := least_bd x 12 (by decide)
  have c := least_bd x 21 (by decide)
  have t := turnN_bd x 2 (by decide)
  have d := least_bd (turnN x 2) 25 (by decide)
  unfold immA
  (repeat' split) <;> omega
theorem read_bd (f w : Int) : ∀ k, k < 10 → -1099511627776 ≤ getV (readV f w) k ∧ getV (readV f w) k ≤ 1099511627776 := by
  intro k hk
  have x := fun n => xV_bd (shapeV f) w n
  match k, hk with
  | 0, _ => have := x 0; exact ⟨by show _ ≤ xV (shapeV f) w 0; omega, by show xV (shapeV f) w 0 ≤ _; omega⟩
  | 1, _ => have := x 1; exact ⟨by show _ ≤ xV (shapeV f) w 1; omega, by show xV (shapeV f) w 1 ≤ _; omega⟩
  | 2, _ =>
    have := x 2
    have b := bitsV_bd w 0 4
    have e : -1099511627776 ≤ rmA (shapeV f) w (xV (shapeV f) w 2) ∧ rmA (shapeV f) w (xV (shapeV f) w 2) ≤ 1099511627776 := by unfold rmA; split <;> omega
    exact e
  | 3, _ => have := x 3; exact ⟨by show _ ≤ xV (shapeV f) w 3; omega, by show xV (shapeV f) w 3 ≤ _; omega⟩
  | 4, _ => exact immA_bd (shapeV f) f (xV (shapeV f) w 4) (x 4)
  | 5, _ => have := x 5; exact ⟨by show _ ≤ xV (shapeV f) w 5; omega, by show xV (shapeV f) w 5 ≤ _; omega⟩
  | 6, _ =>
    have := x 6
    have e : -1099511627776 ≤ byA (shapeV f) (xV (shapeV f) w 5) (xV (shapeV f) w 6) ∧ byA (shapeV f) (xV (shapeV f) w 5) (xV (shapeV f) w 6) ≤ 1099511627776 := by unfold byA; split <;> omega
    exact e
  | 7, _ => have := x 7; exact ⟨by show _ ≤ xV (shapeV f) w 7; omega, by show xV (shapeV f) w 7 ≤ _; omega⟩
  | 8, _ => have := x 8; exact ⟨by show _ ≤ xV (shapeV f) w 8; omega, by show xV (shapeV f) w 8 ≤ _; omega⟩
  | 9, _ => have := x 9; exact ⟨by show _ ≤ xV (shapeV f) w 9; omega, by show xV (shapeV f) w 9 ≤ _; omega⟩
/-! ### right instructions' numbers -/
def ruB (r : RU) : Bool := decide ((-16777216 ≤ r.i0 ∧ r.i1 ≤ 16777214) ∧ (0 ≤ r.b0 ∧ r.b1 ≤ 3))
theorem ru_tab : ∀ k : Fin 35, ruB (ruW ((k.1 : Nat) : Int)) = true := by decide
theorem ruW_none (s : Int) (h : s < 1 ∨ 34 < s) : ruW s = r0U := by
  unfold ruW
  repeat rw [if_neg (by omega)]
  unfold ruN
  repeat rw [if_neg (by omega)]
theorem ru_bd (s : Int) : (-16777216 ≤ (ruW s).i0 ∧ (ruW s).i1 ≤ 16777214) ∧ (0 ≤ (ruW s).b0 ∧ (ruW s).b1 ≤ 3) := by
  by_cases h : s < 1 ∨ 34 < s
  · rw [ruW_none s h]; decide
  · have h1 := ru_tab ⟨s.toNat, by omega⟩
    rw [show (((⟨s.toNat, by omega⟩ : Fin 35).1 : Nat) : Int) = s by simp only []; omega] at h1
    exact of_decide_eq_true h1
theorem right_bd {i : IN} (h : rightV i) (hg : i.regs ≤ 9223372036854775807) : ∀ k, k < 10 → -1099511627776 ≤ getV i k ∧ getV i k ≤ 9223372036854775807 := by
  obtain ⟨hf, h1, h2, h3, h4, h5, h6, h7, h8, h9, h10⟩ := h
  have r1 := has_bd h1
  have r2 := has_bd h2
  have r3 := has_bd h3
  have r4 := has_bd h4
  have b := ru_bd (shapeV i.form)
  intro k hk
  match k, hk with
  | 0, _ => exact ⟨by show _ ≤ i.rd; omega, by show i.rd ≤ _; omega⟩
  | 1, _ => exact ⟨by show _ ≤ i.rn; omega, by show i.rn ≤ _; omega⟩
  | 2, _ => exact ⟨by show _ ≤ i.rm; omega, by show i.rm ≤ _; omega⟩
  | 3, _ => exact ⟨by show _ ≤ i.ra; omega, by show i.ra ≤ _; omega⟩
  | 4, _ =>
    have : -1099511627776 ≤ i.imm ∧ i.imm ≤ 9223372036854775807 := by rcases h7 with h7 | h7 <;> omega
    exact this
  | 5, _ =>
    have : 0 ≤ i.kind ∧ i.kind ≤ 4 := by
      rcases h9 with h9 | h9
      · have := kind_bd h9.2; omega
      · omega
    exact ⟨by show _ ≤ i.kind; omega, by show i.kind ≤ _; omega⟩
  | 6, _ =>
    have : 0 ≤ i.by_ ∧ i.by_ ≤ 32 := by
      rcases h9 with h9 | h9
      · have := h9.2; unfold barrelV at this; omega
      · rcases h9.2.2 with h | h <;> omega
    exact ⟨by show _ ≤ i.by_; omega, by show i.by_ ≤ _; omega⟩
  | 7, _ => exact ⟨by show _ ≤ i.set; omega, by show i.set ≤ _; omega⟩
  | 8, _ => exact ⟨by show _ ≤ i.cond; omega, by show i.cond ≤ _; omega⟩
  | 9, _ =>
    have : 0 ≤ i.regs := by rcases h5 with h5 | h5 <;> omega
    exact ⟨by show _ ≤ i.regs; omega, hg⟩
/-! ### the instruction of bits -/
/-- is a form's reading of a word right, and its bits the word's? -/
def hitV (w f : Int) : Prop := rightV (readV f w) ∧ wordV (readV f w) = w
theorem hit_mask {w f : Int} (h : hitV w f) : bits .and .u32 w (fbV f) = fbV f := by
  have b := fb_bd f
  have e := h.2
  rw [word_or] at e
  have l : (fbV (readV f w).form).toNat = (fbV f).toNat := rfl
  rw [l] at e
  have lt := or4_lt (show (fbV f).toNat < 4294967296 by omega) (orV_lt (readV f w))
  obtain ⟨a, ha⟩ : ∃ a, a = (fbV f).toNat := ⟨_, rfl⟩
  obtain ⟨o, ho⟩ : ∃ o, o = orF (turnI (readV f w)) (fieldsV (shapeV (readV f w).form)) := ⟨_, rfl⟩
  rw [← ha, ← ho] at e lt
  have ea : fbV f = (a : Int) := by omega
  rw [ea, ← e, u32_and _ _ (by omega) (by omega) (by omega) (by omega), Int.toNat_natCast, Int.toNat_natCast]
  congr 1
  apply Nat.eq_of_testBit_eq
  intro p
  rw [Nat.testBit_and, Nat.testBit_or]
  cases a.testBit p <;> simp
/-- the forms that are asked, of a length -/
def formIn (wide : Prop) (f : Int) : Prop := (wide ∧ 48 ≤ f ∧ f ≤ 100) ∨ (¬ wide ∧ 1 ≤ f ∧ f ≤ 47)
/-- the first form that hits -/
def firstF (w : Int) (wide : Prop) (f : Int) : Prop := formIn wide f ∧ hitV w f ∧ ∀ g, formIn wide g → g < f → ¬ hitV w g
theorem first_one {w : Int} {wide : Prop} {f g : Int} (hf : firstF w wide f) (hg : firstF w wide g) : f = g := by
  by_cases h : f < g
  · exact absurd hf.2.1 (hg.2.2 f hf.1 h)
  by_cases h2 : g < f
  · exact absurd hg.2.1 (hf.2.2 g hg.1 h2)
  omega
noncomputable def ofI (w : Int) (wide : Prop) : IN := open Classical in if h : ∃ f, firstF w wide f then readV h.choose w else iZ
noncomputable def ofE (w : Int) (wide : Prop) : Int := open Classical in if ∃ f, firstF w wide f then 0 else 40
theorem ofI_is {w : Int} {wide : Prop} {f : Int} (h : firstF w wide f) : ofI w wide = readV f w := by
  have e : ∃ f, firstF w wide f := ⟨f, h⟩
  unfold ofI
  rw [dif_pos e, first_one e.choose_spec h]
theorem ofE_is {w : Int} {wide : Prop} {f : Int} (h : firstF w wide f) : ofE w wide = 0 := if_pos ⟨f, h⟩
theorem ofI_no {w : Int} {wide : Prop} (h : ∀ f, formIn wide f → ¬ hitV w f) : ofI w wide = iZ := dif_neg fun ⟨f, hf⟩ => h f hf.1 hf.2.1
theorem ofE_no {w : Int} {wide : Prop} (h : ∀ f, formIn wide f → ¬ hitV w f) : ofE w wide = 40 := if_neg fun ⟨f, hf⟩ => h f hf.1 hf.2.1
/-- a right instruction's bits are read as it -/
theorem of_word (i : IN) (h : rightV i) (hg : i.regs ≤ 9223372036854775807) : firstF (wordV i) (48 ≤ i.form) i.form := by
  have hb := back i h hg
  have hit : hitV (wordV i) i.form := by unfold hitV; rw [hb]; exact ⟨h, rfl⟩
  have f1 := h.1
  refine ⟨by unfold formIn; omega, hit, fun g hgf hlt hh => ?_⟩
  have e := once_form (a := readV g (wordV i)) (b := i) hh.1 h (by show 48 ≤ g ↔ 48 ≤ i.form; unfold formIn at hgf; omega) hh.2
  have : g = i.form := e
  omega

end Go.Proofs.YthpkejlmelednaaDoor.Pw

/- Chapter 4 over values: an instruction's bits, and the instruction of bits, as the program and the document say. -/
namespace Go.Proofs.YthpkejlmelednaaDoor.Pw
open Go Go.RowKit

theorem word_yes (i : IN) (h : rightV i) (hI : IOk i) : PureF gT 27 [inP i] (.tup [.int .u32 (wordV i), .int .i64 0]) := by
  refine Spec.enter gTok P27 100 Tryd.func27 rfl (by kernel_rfl) ?_
  refine ⟨[], no_rl, (right_pure i (hI i.imm (by simp [inLs]))).use (by repeat' first | exact trivial | exact rfl | exact Iff.rfl | exact Or.inl rfl | refine And.intro ?_ ?_) rfl rfl ?_⟩
  refine And.intro (fun h' => absurd h h') (fun _ => ?_)
  refine ⟨[], no_rl, (pack_pure i h (hI i.regs (by simp [inLs])).2).use (by repeat' first | exact trivial | exact rfl | exact Iff.rfl | exact Or.inl rfl | refine And.intro ?_ ?_) rfl rfl ?_⟩
  (refine retE ?_; repeat' first | exact trivial | exact rfl | exact Iff.rfl | exact Or.inl rfl | refine And.intro ?_ ?_)
theorem word_no (i : IN) (h : ¬ rightV i) (hI : IOk i) : PureF gT 27 [inP i] (.tup [.int .u32 0, .int .i64 10]) := by
  refine Spec.enter gTok P27 100 Tryd.func27 rfl (by kernel_rfl) ?_
  refine ⟨[], no_rl, (right_pure i (hI i.imm (by simp [inLs]))).use (by repeat' first | exact trivial | exact rfl | exact Iff.rfl | exact Or.inl rfl | refine And.intro ?_ ?_) rfl rfl ?_⟩
  refine And.intro (fun _ => ?_) (fun h' => absurd h h')
  (refine retE ?_; repeat' first | exact trivial | exact rfl | exact Iff.rfl | exact Or.inl rfl | refine And.intro ?_ ?_)
theorem read_ok {f w : Int} (hf : I64 f) : IOk (readV f w) := by
  intro x hx
  have b := read_bd f w
  simp only [inLs, List.mem_cons, List.not_mem_nil, or_false] at hx
  have key : ∀ k, k < 10 → I64 (getV (readV f w) k) := fun k hk => by have := b k hk; unfold I64; omega
  rcases hx with rfl | rfl | rfl | rfl | rfl | rfl | rfl | rfl | rfl | rfl | rfl
  · exact hf
  · exact key 0 (by decide)
  · exact key 1 (by decide)
  · exact key 2 (by decide)
  · exact key 3 (by decide)
  · exact key 4 (by decide)
  · exact key 5 (by decide)
  · exact key 6 (by decide)
  · exact key 7 (by decide)
  · exact key 8 (by decide)
  · exact key 9 (by decide)
theorem read_wb (f w : Int) : WB (readV f w) := fun k hk => by have := read_bd f w k hk; omega
set_option maxHeartbeats 8000000 in
set_option maxRecDepth 100000 in
theorem of_pure (w : Int) (wide : Prop) (hw : U32 w) : PureF gT 29 [.int .u32 w, .bool wide] (.tup [inP (ofI w wide), .int .i64 (ofE w wide)]) := by
  refine Spec.enter gTok P29 100 Tryd.func29 rfl (by kernel_rfl) ?_
  refine SW.loopS gTok P29 (by kernel_rfl) (α := {k : Nat // k ≤ 100 ∧ ∀ g : Int, formIn wide g → g < k + 1 → ¬ hitV w g}) (fun k => [(6, .int .i64 (k.1 + 1 : Nat))]) (fun k => 100 - k.1) ⟨0, by omega, fun g hg hlt => by unfold formIn at hg; omega⟩ 100 ?_ ?_
  · repeat' first | exact Iff.rfl | exact trivial | exact rfl | refine And.intro ?_ ?_
  rintro ⟨k, hk, hno⟩
  refine And.intro (fun h => ?_) (fun h => ?_)
  · have hk100 : ((k + 1 : Nat) : Int) ≤ 100 := h
    have hF : 1 ≤ ((k + 1 : Nat) : Int) ∧ ((k + 1 : Nat) : Int) ≤ 100 := ⟨by omega, hk100⟩
    have hf : I64 ((k + 1 : Nat) : Int) := by unfold I64; omega
    have next : ¬ (formIn wide ((k + 1 : Nat) : Int) ∧ hitV w ((k + 1 : Nat) : Int)) → ∀ g : Int, formIn wide g → g < ((k + 1 : Nat) : Int) + 1 → ¬ hitV w g := fun hn g hg hlt hh => by
      by_cases e : g = ((k + 1 : Nat) : Int)
      · subst e; exact hn ⟨hg, hh⟩
      · exact hno g hg (by omega) hh
    refine ⟨[], no_rl, (form_wide ((k + 1 : Nat) : Int)).use (by repeat' first | exact trivial | exact rfl | exact Iff.rfl | exact Or.inl rfl | refine And.intro ?_ ?_) rfl rfl ?_⟩
    refine And.intro (fun hne => ?_) (fun heq => ?_)
    · refine .inl ⟨inR_i64 (show _ ≤ ((k + 1 : Nat) : Int) + 1 ∧ ((k + 1 : Nat) : Int) + 1 ≤ _ by omega), ⟨⟨k + 1, by omega, next fun hh => hne ?_⟩, show 100 - (k + 1) < 100 - k by omega, ?_⟩⟩
      · unfold formIn at hh; exact ⟨fun h2 => hh.1.elim (fun e => e.1) (fun e => absurd h2.1 (by omega)), fun h2 => hh.1.elim (fun e => e.2) (fun e => absurd h2 e.1)⟩
      repeat' first | exact Iff.rfl | exact trivial | exact rfl | refine And.intro ?_ ?_
    have heq := Classical.not_not.1 heq
    refine ⟨[], no_rl, (formBits_pure ((k + 1 : Nat) : Int)).use (by repeat' first | exact trivial | exact rfl | exact Iff.rfl | exact Or.inl rfl | refine And.intro ?_ ?_) rfl rfl ?_⟩
    refine ⟨[], no_rl, (formBits_pure ((k + 1 : Nat) : Int)).use (by repeat' first | exact trivial | exact rfl | exact Iff.rfl | exact Or.inl rfl | refine And.intro ?_ ?_) rfl rfl ?_⟩
    refine And.intro (fun hm => ?_) (fun hm => ?_)
    · refine .inl ⟨inR_i64 (show _ ≤ ((k + 1 : Nat) : Int) + 1 ∧ ((k + 1 : Nat) : Int) + 1 ≤ _ by omega), ⟨⟨k + 1, by omega, next fun hh => hm (hit_mask hh.2)⟩, show 100 - (k + 1) < 100 - k by omega, ?_⟩⟩
      repeat' first | exact Iff.rfl | exact trivial | exact rfl | refine And.intro ?_ ?_
    have hin : formIn wide ((k + 1 : Nat) : Int) := by
      unfold formIn
      by_cases hW : wide
      · exact .inl ⟨hW, heq.2 hW⟩
      · refine .inr ⟨hW, by omega, ?_⟩
        by_cases h48 : 48 ≤ ((k + 1 : Nat) : Int)
        · exact absurd (heq.1 ⟨h48, hk100⟩) hW
        · omega
    have hI := read_ok (w := w) hf
    have hR := right_pure (readV ((k + 1 : Nat) : Int) w) (hI (readV ((k + 1 : Nat) : Int) w).imm (by simp [inLs]))
    by_cases hW : wide
    · have h48 := (heq.2 hW).1
      refine ⟨[], no_rl, (narrowOf_wide ((k + 1 : Nat) : Int) w ((shape_wide hF).2 h48) hw).use (by repeat' first | exact trivial | exact rfl | exact Iff.rfl | exact Or.inl rfl | refine And.intro ?_ ?_) rfl rfl ?_⟩
      refine And.intro (fun _ => ?_) (fun hn => absurd hW hn)
      refine ⟨[], no_rl, (wideOf_all ((k + 1 : Nat) : Int) w hF h48 hw).use (by repeat' first | exact trivial | exact rfl | exact Iff.rfl | exact Or.inl rfl | refine And.intro ?_ ?_) rfl rfl ?_⟩
      refine ⟨[], no_rl, hR.use (by repeat' first | exact trivial | exact rfl | exact Iff.rfl | exact Or.inl rfl | refine And.intro ?_ ?_) rfl rfl ?_⟩
      refine And.intro (fun hr => ?_) (fun hr => ?_)
      · refine ⟨[], no_rl, (pack_pure (readV ((k + 1 : Nat) : Int) w) hr (hI (readV ((k + 1 : Nat) : Int) w).regs (by simp [inLs])).2).use (by repeat' first | exact trivial | exact rfl | exact Iff.rfl | exact Or.inl rfl | refine And.intro ?_ ?_) rfl rfl ?_⟩
        refine And.intro (fun hp => ?_) (fun hp => ?_)
        · have hfst : firstF w wide ((k + 1 : Nat) : Int) := ⟨hin, ⟨hr, hp⟩, fun g hg hlt => hno g hg (by omega)⟩
          rw [ofI_is hfst, ofE_is hfst]
          (refine retE ?_; repeat' first | exact trivial | exact rfl | exact Iff.rfl | exact Or.inl rfl | refine And.intro ?_ ?_)
        · refine .inl ⟨inR_i64 (show _ ≤ ((k + 1 : Nat) : Int) + 1 ∧ ((k + 1 : Nat) : Int) + 1 ≤ _ by omega), ⟨⟨k + 1, by omega, next fun hh => hp hh.2.2⟩, show 100 - (k + 1) < 100 - k by omega, ?_⟩⟩
          repeat' first | exact Iff.rfl | exact trivial | exact rfl | refine And.intro ?_ ?_
      · refine .inl ⟨inR_i64 (show _ ≤ ((k + 1 : Nat) : Int) + 1 ∧ ((k + 1 : Nat) : Int) + 1 ≤ _ by omega), ⟨⟨k + 1, by omega, next fun hh => hr hh.2.1⟩, show 100 - (k + 1) < 100 - k by omega, ?_⟩⟩
        repeat' first | exact Iff.rfl | exact trivial | exact rfl | refine And.intro ?_ ?_
    · have h48 : ¬ 48 ≤ ((k + 1 : Nat) : Int) := fun e => hW (heq.1 ⟨e, hk100⟩)
      refine ⟨[], no_rl, (narrowOf_all ((k + 1 : Nat) : Int) w hF h48 hw).use (by repeat' first | exact trivial | exact rfl | exact Iff.rfl | exact Or.inl rfl | refine And.intro ?_ ?_) rfl rfl ?_⟩
      refine And.intro (fun h => absurd h hW) (fun _ => ?_)
      refine ⟨[], no_rl, hR.use (by repeat' first | exact trivial | exact rfl | exact Iff.rfl | exact Or.inl rfl | refine And.intro ?_ ?_) rfl rfl ?_⟩
      refine And.intro (fun hr => ?_) (fun hr => ?_)
      · refine ⟨[], no_rl, (pack_pure (readV ((k + 1 : Nat) : Int) w) hr (hI (readV ((k + 1 : Nat) : Int) w).regs (by simp [inLs])).2).use (by repeat' first | exact trivial | exact rfl | exact Iff.rfl | exact Or.inl rfl | refine And.intro ?_ ?_) rfl rfl ?_⟩
        refine And.intro (fun hp => ?_) (fun hp => ?_)
        · have hfst : firstF w wide ((k + 1 : Nat) : Int) := ⟨hin, ⟨hr, hp⟩, fun g hg hlt => hno g hg (by omega)⟩
          rw [ofI_is hfst, ofE_is hfst]
          (refine retE ?_; repeat' first | exact trivial | exact rfl | exact Iff.rfl | exact Or.inl rfl | refine And.intro ?_ ?_)
        · refine .inl ⟨inR_i64 (show _ ≤ ((k + 1 : Nat) : Int) + 1 ∧ ((k + 1 : Nat) : Int) + 1 ≤ _ by omega), ⟨⟨k + 1, by omega, next fun hh => hp hh.2.2⟩, show 100 - (k + 1) < 100 - k by omega, ?_⟩⟩
          repeat' first | exact Iff.rfl | exact trivial | exact rfl | refine And.intro ?_ ?_
      · refine .inl ⟨inR_i64 (show _ ≤ ((k + 1 : Nat) : Int) + 1 ∧ ((k + 1 : Nat) : Int) + 1 ≤ _ by omega), ⟨⟨k + 1, by omega, next fun hh => hr hh.2.1⟩, show 100 - (k + 1) < 100 - k by omega, ?_⟩⟩
        repeat' first | exact Iff.rfl | exact trivial | exact rfl | refine And.intro ?_ ?_
  · have hk100 : ¬ ((k + 1 : Nat) : Int) ≤ 100 := h
    have hall : ∀ f, formIn wide f → ¬ hitV w f := fun f hf => hno f hf (by unfold formIn at hf; omega)
    rw [ofI_no hall, ofE_no hall]
    (refine retE ?_; repeat' first | exact trivial | exact rfl | exact Iff.rfl | exact Or.inl rfl | refine And.intro ?_ ?_)

end Go.Proofs.YthpkejlmelednaaDoor.Pw

/- Chapter 4 over values: the instruction of bits, as the document says; small functions of the laws; CodeReads, CodeOnce, CodeBegins. -/
namespace Go.Proofs.YthpkejlmelednaaDoor.Pw
open Go Go.RowKit

set_option maxHeartbeats 8000000 in
set_option maxRecDepth 100000 in
theorem rof_wide (w : Int) (wide : Prop) (hw : U32 w) (hW : wide) : PureF gT 30 [.int .u32 w, .bool wide] (.tup [inP (ofI w wide), .bool (ofE w wide = 0)]) := by
  have hw64 : -9223372036854775808 ≤ w ∧ w ≤ 9223372036854775807 := by unfold U32 at hw; omega
  have hin : ∀ f : Int, formIn wide f ↔ 48 ≤ f ∧ f ≤ 100 := fun f => by
    unfold formIn
    constructor
    · rintro (⟨a, b⟩ | ⟨a, b⟩)
      · exact b
      · exact absurd hW a
    · intro h; exact .inl ⟨hW, h⟩
  refine Spec.enter gTok P30 100 Tryd.func30 rfl (by kernel_rfl) ?_
  refine And.intro (fun h => ?_) (fun h => ?_)
  
  · refine SW.loopS gTok P30 (by kernel_rfl) (α := {k : Nat // k ≤ 53 ∧ ∀ g : Int, formIn wide g → g < 48 + k → ¬ hitV w g}) (fun k => [(8, .int .i64 (48 + k.1 : Nat))]) (fun k => 53 - k.1) ⟨0, by omega, fun g hg hlt => by have := (hin g).1 hg; omega⟩ 100 ?_ ?_
    · repeat' first | exact Iff.rfl | exact trivial | exact rfl | refine And.intro ?_ ?_
    rintro ⟨k, hk, hno⟩
    refine And.intro (fun h => ?_) (fun h => ?_)
    · have hk100 : ((48 + k : Nat) : Int) ≤ 100 := h
      have hF : 1 ≤ ((48 + k : Nat) : Int) ∧ ((48 + k : Nat) : Int) ≤ 100 := ⟨by omega, by omega⟩
      have hf : I64 ((48 + k : Nat) : Int) := by unfold I64; omega
      have next : ¬ hitV w ((48 + k : Nat) : Int) → ∀ g : Int, formIn wide g → g < 48 + (k + 1 : Nat) → ¬ hitV w g := fun hn g hg hlt hh => by
        by_cases e : g = ((48 + k : Nat) : Int)
        · subst e; exact hn hh
        · exact hno g hg (by omega) hh
      have hI := read_ok (w := w) hf
      refine .inl ⟨inR_i64 hw64, ?_⟩
      refine ⟨[], no_rl, (read_all ((48 + k : Nat) : Int) w hF hw).use (by repeat' first | exact trivial | exact rfl | exact Iff.rfl | exact Or.inl rfl | refine And.intro ?_ ?_) rfl rfl ?_⟩
      refine ⟨[], no_rl, (refRight_pure (readV ((48 + k : Nat) : Int) w) hI).use (by repeat' first | exact trivial | exact rfl | exact Iff.rfl | exact Or.inl rfl | refine And.intro ?_ ?_) rfl rfl ?_⟩
      refine And.intro (fun hr => ?_) (fun hr => ?_)
      · refine ⟨[], no_rl, (word_pure (readV ((48 + k : Nat) : Int) w) hf (read_wb ((48 + k : Nat) : Int) w)).use (by repeat' first | exact trivial | exact rfl | exact Iff.rfl | exact Or.inl rfl | refine And.intro ?_ ?_) rfl rfl ?_⟩
        refine And.intro (fun hp => ?_) (fun hp => ?_)
        · have hfst : firstF w wide ((48 + k : Nat) : Int) := ⟨(hin _).2 ⟨by omega, hk100⟩, ⟨hr, hp⟩, fun g hg hlt => hno g hg (by omega)⟩
          rw [ofI_is hfst, ofE_is hfst]
          (refine retE ?_; repeat' first | exact trivial | exact rfl | exact Iff.rfl | exact Or.inl rfl | refine And.intro ?_ ?_)
        · refine .inl ⟨inR_i64 (show _ ≤ ((48 + k : Nat) : Int) + 1 ∧ ((48 + k : Nat) : Int) + 1 ≤ _ by omega), ⟨⟨k + 1, by omega, next fun hh => hp hh.2⟩, show 53 - (k + 1) < 53 - k by omega, ?_⟩⟩
          repeat' first | exact Iff.rfl | exact trivial | exact rfl | refine And.intro ?_ ?_
      · refine .inl ⟨inR_i64 (show _ ≤ ((48 + k : Nat) : Int) + 1 ∧ ((48 + k : Nat) : Int) + 1 ≤ _ by omega), ⟨⟨k + 1, by omega, next fun hh => hr hh.1⟩, show 53 - (k + 1) < 53 - k by omega, ?_⟩⟩
        repeat' first | exact Iff.rfl | exact trivial | exact rfl | refine And.intro ?_ ?_
    · have hk100 : ¬ ((48 + k : Nat) : Int) ≤ 100 := h
      have hall : ∀ f, formIn wide f → ¬ hitV w f := fun f hf => hno f hf (by have := (hin f).1 hf; omega)
      rw [ofI_no hall, ofE_no hall]
      refine retE ?_
      (repeat' first | exact trivial | exact rfl | exact (show ¬ (40 : Int) = 0 by decide) | refine And.intro ?_ ?_)
  · exact absurd hW h
set_option maxHeartbeats 8000000 in
set_option maxRecDepth 100000 in
theorem rof_narrow (w : Int) (wide : Prop) (hw : U32 w) (hW : ¬ wide) : PureF gT 30 [.int .u32 w, .bool wide] (.tup [inP (ofI w wide), .bool (ofE w wide = 0)]) := by
  have hw64 : -9223372036854775808 ≤ w ∧ w ≤ 9223372036854775807 := by unfold U32 at hw; omega
  have hin : ∀ f : Int, formIn wide f ↔ 1 ≤ f ∧ f ≤ 47 := fun f => by
    unfold formIn
    constructor
    · rintro (⟨a, b⟩ | ⟨a, b⟩)
      · exact absurd a hW
      · exact b
    · intro h; exact .inr ⟨hW, h⟩
  refine Spec.enter gTok P30 100 Tryd.func30 rfl (by kernel_rfl) ?_
  refine And.intro (fun h => ?_) (fun h => ?_)
  · exact absurd h hW
  · refine SW.loopS gTok P30 (by kernel_rfl) (α := {k : Nat // k ≤ 47 ∧ ∀ g : Int, formIn wide g → g < 1 + k → ¬ hitV w g}) (fun k => [(8, .int .i64 (1 + k.1 : Nat))]) (fun k => 47 - k.1) ⟨0, by omega, fun g hg hlt => by have := (hin g).1 hg; omega⟩ 100 ?_ ?_
    · repeat' first | exact Iff.rfl | exact trivial | exact rfl | refine And.intro ?_ ?_
    rintro ⟨k, hk, hno⟩
    refine And.intro (fun h => ?_) (fun h => ?_)
    · have hk100 : ((1 + k : Nat) : Int) ≤ 47 := h
      have hF : 1 ≤ ((1 + k : Nat) : Int) ∧ ((1 + k : Nat) : Int) ≤ 100 := ⟨by omega, by omega⟩
      have hf : I64 ((1 + k : Nat) : Int) := by unfold I64; omega
      have next : ¬ hitV w ((1 + k : Nat) : Int) → ∀ g : Int, formIn wide g → g < 1 + (k + 1 : Nat) → ¬ hitV w g := fun hn g hg hlt hh => by
        by_cases e : g = ((1 + k : Nat) : Int)
        · subst e; exact hn hh
        · exact hno g hg (by omega) hh
      have hI := read_ok (w := w) hf
      refine .inl ⟨inR_i64 hw64, ?_⟩
      refine ⟨[], no_rl, (read_all ((1 + k : Nat) : Int) w hF hw).use (by repeat' first | exact trivial | exact rfl | exact Iff.rfl | exact Or.inl rfl | refine And.intro ?_ ?_) rfl rfl ?_⟩
      refine ⟨[], no_rl, (refRight_pure (readV ((1 + k : Nat) : Int) w) hI).use (by repeat' first | exact trivial | exact rfl | exact Iff.rfl | exact Or.inl rfl | refine And.intro ?_ ?_) rfl rfl ?_⟩
      refine And.intro (fun hr => ?_) (fun hr => ?_)
      · refine ⟨[], no_rl, (word_pure (readV ((1 + k : Nat) : Int) w) hf (read_wb ((1 + k : Nat) : Int) w)).use (by repeat' first | exact trivial | exact rfl | exact Iff.rfl | exact Or.inl rfl | refine And.intro ?_ ?_) rfl rfl ?_⟩
        refine And.intro (fun hp => ?_) (fun hp => ?_)
        · have hfst : firstF w wide ((1 + k : Nat) : Int) := ⟨(hin _).2 ⟨by omega, hk100⟩, ⟨hr, hp⟩, fun g hg hlt => hno g hg (by omega)⟩
          rw [ofI_is hfst, ofE_is hfst]
          (refine retE ?_; repeat' first | exact trivial | exact rfl | exact Iff.rfl | exact Or.inl rfl | refine And.intro ?_ ?_)
        · refine .inl ⟨inR_i64 (show _ ≤ ((1 + k : Nat) : Int) + 1 ∧ ((1 + k : Nat) : Int) + 1 ≤ _ by omega), ⟨⟨k + 1, by omega, next fun hh => hp hh.2⟩, show 47 - (k + 1) < 47 - k by omega, ?_⟩⟩
          repeat' first | exact Iff.rfl | exact trivial | exact rfl | refine And.intro ?_ ?_
      · refine .inl ⟨inR_i64 (show _ ≤ ((1 + k : Nat) : Int) + 1 ∧ ((1 + k : Nat) : Int) + 1 ≤ _ by omega), ⟨⟨k + 1, by omega, next fun hh => hr hh.1⟩, show 47 - (k + 1) < 47 - k by omega, ?_⟩⟩
        repeat' first | exact Iff.rfl | exact trivial | exact rfl | refine And.intro ?_ ?_
    · have hk100 : ¬ ((1 + k : Nat) : Int) ≤ 47 := h
      have hall : ∀ f, formIn wide f → ¬ hitV w f := fun f hf => hno f hf (by have := (hin f).1 hf; omega)
      rw [ofI_no hall, ofE_no hall]
      refine retE ?_
      (repeat' first | exact trivial | exact rfl | exact (show ¬ (40 : Int) = 0 by decide) | refine And.intro ?_ ?_)
  
theorem rof_pure (w : Int) (wide : Prop) (hw : U32 w) : PureF gT 30 [.int .u32 w, .bool wide] (.tup [inP (ofI w wide), .bool (ofE w wide = 0)]) := by
  by_cases hW : wide
  · exact rof_wide w wide hw hW
  · exact rof_narrow w wide hw hW
theorem of_cases (w : Int) (wide : Prop) : (ofE w wide = 0) ∨ (ofE w wide = 40 ∧ ofI w wide = iZ) := by
  by_cases h : ∃ f, firstF w wide f
  · exact .inl (if_pos h)
  · exact .inr ⟨if_neg h, dif_neg h⟩
set_option maxRecDepth 100000 in
theorem lof_pure (i : IN) : PureF gT 31 [inP i] (inP i) := by
  refine Spec.enter gTok P31 100 Tryd.func31 rfl (by kernel_rfl) ?_
  (refine retE ?_; repeat' first | exact trivial | exact rfl | exact Iff.rfl | exact Or.inl rfl | refine And.intro ?_ ?_)
def beginsV (h : Int) : Prop := 29 ≤ h % 65536 / 2048
theorem begins_pure (h : Int) (hh : U32 h) : PureF gT 26 [.int .u32 h] (.bool (beginsV h)) := by
  have e : bits .and .u32 h 65535 = h % 65536 := and_mask h 16 hh.1 hh.2 (by decide)
  refine Spec.enter gTok P26 100 Tryd.func26 rfl (by kernel_rfl) ?_
  refine ⟨by decide, ?_⟩
  refine retE ?_
  show 29 ≤ bits .and .u32 h 65535 / Ev.pow2 .u32 11 ↔ beginsV h
  rw [e, r11]; exact Iff.rfl
def sizeV (f : Int) : Int := if 48 ≤ f ∧ f ≤ 100 then 4 else if 1 ≤ f ∧ f ≤ 47 then 2 else 0
theorem size_pure (f : Int) : PureF gT 65 [.int .i64 f] (.int .i64 (sizeV f)) := by
  refine Spec.enter gTok P65 100 Tryd.func65 rfl (by kernel_rfl) ?_
  refine ⟨[], no_rl, (form_is f).use (by repeat' first | exact trivial | exact rfl | exact Iff.rfl | exact Or.inl rfl | refine And.intro ?_ ?_) rfl rfl ?_⟩
  refine And.intro (fun h => ?_) (fun h => ?_)
  · exact retE (show (0 : Int) = sizeV f by unfold sizeV; rw [if_neg (by omega), if_neg (by omega)])
  refine ⟨[], no_rl, (form_wide f).use (by repeat' first | exact trivial | exact rfl | exact Iff.rfl | exact Or.inl rfl | refine And.intro ?_ ?_) rfl rfl ?_⟩
  refine And.intro (fun h2 => ?_) (fun h2 => ?_)
  · exact retE (show (4 : Int) = sizeV f by unfold sizeV; rw [if_pos h2])
  · exact retE (show (2 : Int) = sizeV f by unfold sizeV; rw [if_neg h2, if_pos (by omega)])
theorem ibytes_pure (i : IN) : PureF gT 28 [inP i] (.int .i64 (sizeV i.form)) := by
  refine Spec.enter gTok P28 100 Tryd.func28 rfl (by kernel_rfl) ?_
  refine ⟨[], no_rl, (size_pure i.form).use (by repeat' first | exact trivial | exact rfl | exact Iff.rfl | exact Or.inl rfl | refine And.intro ?_ ?_) rfl rfl ?_⟩
  exact retE rfl
theorem right_a1 : rightV ⟨4, 1, 2, 3, 0, 0, 0, 0, 0, 0, 0⟩ := by
  show rightR _ (ruW (shapeV 4))
  rw [show shapeV 4 = 2 by decide, show ruW 2 = {r0U with rd := 1, rn := 1, rm := 1} from rfl]
  refine ⟨by decide, .inl (by decide), .inl (by decide), .inl (by decide), .inr (.inr (.inr (by decide))), .inl (by decide), .inl rfl, .inl (by decide), .inl rfl, .inr ⟨Bool.false_ne_true, rfl, .inl (by decide)⟩, ?_⟩
  refine ⟨by decide, by decide, by decide, by decide, ?_⟩
  show shapeV 4 = 18 ∨ shapeV 4 = 19 ∨ shapeV 4 = 20 → _
  rw [show shapeV 4 = 2 by decide]
  exact fun h => absurd h (by decide)
theorem right_a2 : rightV ⟨100, 0, 0, 0, 0, 0, 0, 0, 0, 0, 0⟩ := by
  show rightR _ (ruW (shapeV 100))
  rw [show shapeV 100 = 34 by decide, show ruW 34 = {r0U with i0 := -16777216, i1 := 16777214, i2 := 2} from rfl]
  refine ⟨by decide, .inr (.inr (.inr (by decide))), .inr (.inr (.inr (by decide))), .inr (.inr (.inr (by decide))), .inr (.inr (.inr (by decide))), .inl (by decide), .inl rfl, .inr (by decide), .inl rfl, .inr ⟨Bool.false_ne_true, rfl, .inl (by decide)⟩, ?_⟩
  refine ⟨by decide, by decide, by decide, by decide, ?_⟩
  show shapeV 100 = 18 ∨ shapeV 100 = 19 ∨ shapeV 100 = 20 → _
  rw [show shapeV 100 = 34 by decide]
  exact fun h => absurd h (by decide)
theorem lit_ok (i : IN) (h : (inLs i).all (fun x => decide (-9223372036854775808 ≤ x ∧ x ≤ 9223372036854775807)) = true) : IOk i := fun x hx => of_decide_eq_true (p := -9223372036854775808 ≤ x ∧ x ≤ 9223372036854775807) (List.all_eq_true.1 h x hx)
theorem word_a1 : wordV ⟨4, 1, 2, 3, 0, 0, 0, 0, 0, 0, 0⟩ = 6353 := by decide +kernel
theorem word_a2 : wordV ⟨100, 0, 0, 0, 0, 0, 0, 0, 0, 0, 0⟩ = 4026578944 := by decide +kernel
theorem anchor04_pure : PureF gT 25 [] .tt := by
  have h1 := word_yes _ right_a1 (lit_ok _ (by decide))
  have h2 := word_yes _ right_a2 (lit_ok _ (by decide))
  rw [word_a1] at h1
  rw [word_a2] at h2
  refine Spec.enter gTok P25 100 Tryd.func25 rfl (by kernel_rfl) ?_
  refine ⟨[], no_rl, h1.use (by repeat' first | exact trivial | exact rfl | exact Iff.rfl | exact Or.inl rfl | refine And.intro ?_ ?_) rfl rfl ?_⟩
  refine ⟨[], no_rl, h2.use (by repeat' first | exact trivial | exact rfl | exact Iff.rfl | exact Or.inl rfl | refine And.intro ?_ ?_) rfl rfl ?_⟩
  repeat' ((conv => whnf); first | (refine (And.intro (fun _ => ?_) (fun _ => ?_) : (_ → _) ∧ (_ → _)) <;> (first | (exfalso; first | contradiction | omega) | skip)) | refine Or.inl (And.intro (by first | exact inR_i64 (by omega) | exact inR_u32 (by omega) | exact inR_u64 (by omega) | exact inR_u8 (by omega)) ?_) | (refine And.intro (show (_ : Int) ≠ 0 by omega) (Or.inl (And.intro (show (0 : Int) ≤ _ by omega) (And.intro (show (0 : Int) < _ by omega) ?_)))) | (refine And.intro (show (_ : Int) ≠ 0 by omega) (Or.inl (And.intro (show (0 : Int) ≤ _ by omega) (And.intro (by first | exact (show (_ : Int) ≤ 9223372036854775807 by omega) | exact (show (_ : Int) ≤ 4294967295 by omega)) (And.intro (show (0 : Int) < _ by omega) ?_))))) | (exfalso; first | contradiction | omega) | ((refine retE ?_; repeat' first | exact trivial | exact rfl | exact Iff.rfl | exact Or.inl rfl | refine And.intro ?_ ?_)) | (intro _))
end Go.Proofs.YthpkejlmelednaaDoor.Pw

/- A struct that comes in by value, opened. -/
namespace Go.Proofs.YthpkejlmelednaaDoor.Pw
open Go Go.RowKit

theorem Op.argS {P : Program} {t : TypeId} {S : PV → Prop} (h : Op P t S) (hS : ∀ y, S y → ∃ xs, y = .agg xs) {H : Type} {ec : TypeId × Value → H} {w : World} {base : Nat} {held : Bool} {vs : Array Value} {d : DataW H} {p : List MemPlace} (ht : DataW.Trod ec P w base (fun _ => true) held t (.agg vs) d p) (hwt : ∀ n ∈ d.weights P t, n ≤ reachBytes) :
    ∃ y, S y ∧ y.Is w (In w) no (.agg vs) := by
  obtain ⟨fuel, ht⟩ := ht
  obtain ⟨y, hy, _, hi, _⟩ := h ec w base held fuel _ _ ht hwt
  refine ⟨y, hy, ?_⟩
  obtain ⟨xs, rfl⟩ := hS y hy
  simp only [PV.Is]
  exact ⟨vs, rfl, hi⟩

end Go.Proofs.YthpkejlmelednaaDoor.Pw

/- What comes in to chapter 4's laws, opened; the tables. -/
namespace Go.Proofs.YthpkejlmelednaaDoor.codeLaid
open Go.ChangeShapes Go.WideShapes Go.ChangeAt Go.RowKit Go.Deep

def laidList : List (String × DataW Unit) := [("remontoire/imm.factors", Rows.laid_remontoire_imm_factors), ("remontoire/inst.shapes", Rows.laid_remontoire_inst_shapes)]
def fuel : Nat := 3000
theorem door_met (os : Os) (args : Array Value) : laidMetH Tryd.prog laidList ((World.doorLaid Tryd.prog fuel os).forCall (fun _ _ => 0) ⟨#[], args, []⟩).memory :=
  laidMetH_of_parts3 (fuel := 8) (laidMet_of_run' 8 (by kernel_rfl) (by kernel_rfl)) (by kernel_rfl) (by kernel_rfl)

end Go.Proofs.YthpkejlmelednaaDoor.codeLaid

namespace Go.Proofs.YthpkejlmelednaaDoor.Pw
open Go Go.RowKit

theorem immCode {W : World} (h : laidMetH Tryd.prog codeLaid.laidList W) : ImmOk gT (In W) W :=
  immOk_laid (laid := codeLaid.laidList) (by kernel_rfl) h fun x hx => by
    have hx' : x ∈ [(2, facP), (0, shP)] := hx
    simp only [List.mem_cons, List.not_mem_nil, or_false] at hx'
    rcases hx' with rfl | rfl
    · exact ⟨"remontoire/imm.factors", _, 156, List.mem_cons_self, by kernel_rfl, by kernel_rfl, by kernel_rfl, nofun⟩
    · exact ⟨"remontoire/inst.shapes", _, 137, List.mem_cons_of_mem _ List.mem_cons_self, by kernel_rfl, by kernel_rfl, by kernel_rfl, nofun⟩

theorem inR_u32c {z : Int} (h : InR .u32 z) : 0 ≤ z ∧ z ≤ 4294967295 := by unfold InR Ev.kmin Ev.kmax at h; simp only [IntKind.signed, IntKind.bits] at h; simpa using h
theorem inR_u8c {z : Int} (h : InR .u8 z) : 0 ≤ z ∧ z ≤ 255 := by unfold InR Ev.kmin Ev.kmax at h; simp only [IntKind.signed, IntKind.bits] at h; simpa using h
theorem inR_i64c {z : Int} (h : InR .i64 z) : I64 z := by unfold InR Ev.kmin Ev.kmax at h; simp only [IntKind.signed, IntKind.bits] at h; unfold I64; simpa using h
theorem opU32c : Op Tryd.prog 25 (SInt .u32) := opInt Tryd.underlying25 (by kernel_rfl)
theorem opI64c : Op Tryd.prog 3 (SInt .i64) := opInt Tryd.underlying3 (by kernel_rfl)
theorem opBoolc : Op Tryd.prog 4 SBool := opBool Tryd.underlying4 (by kernel_rfl)
theorem opIN_ : Op Tryd.prog 24 (SAgg (List.replicate 11 (SInt .i64))) :=
  opAgg (Ss := List.replicate 11 (SInt .i64)) Tryd.underlying24
    ⟨rfl, opInt Tryd.underlying22 (by kernel_rfl), (show _ = _ by kernel_rfl), opI64c, (show _ = _ by kernel_rfl), opI64c, (show _ = _ by kernel_rfl), opI64c, (show _ = _ by kernel_rfl), opI64c, (show _ = _ by kernel_rfl), opI64c, (show _ = _ by kernel_rfl), opI64c, (show _ = _ by kernel_rfl), opI64c, (show _ = _ by kernel_rfl), opI64c, (show _ = _ by kernel_rfl), opI64c, (show _ = _ by kernel_rfl), opI64c, (show _ = _ by kernel_rfl)⟩
theorem in_dec (x : PV) (h : SAgg (List.replicate 11 (SInt .i64)) x) : ∃ i : IN, IOk i ∧ x = inP i := by
  obtain ⟨xs, h, rfl⟩ := h
  obtain ⟨_, _, rfl, ⟨a0, b0, rfl⟩, h_1⟩ := all2_cons (S := SInt .i64) (Ss := List.replicate 10 (SInt .i64)) h
  obtain ⟨_, _, rfl, ⟨a1, b1, rfl⟩, h_2⟩ := all2_cons (S := SInt .i64) (Ss := List.replicate 9 (SInt .i64)) h_1
  obtain ⟨_, _, rfl, ⟨a2, b2, rfl⟩, h_3⟩ := all2_cons (S := SInt .i64) (Ss := List.replicate 8 (SInt .i64)) h_2
  obtain ⟨_, _, rfl, ⟨a3, b3, rfl⟩, h_4⟩ := all2_cons (S := SInt .i64) (Ss := List.replicate 7 (SInt .i64)) h_3
  obtain ⟨_, _, rfl, ⟨a4, b4, rfl⟩, h_5⟩ := all2_cons (S := SInt .i64) (Ss := List.replicate 6 (SInt .i64)) h_4
  obtain ⟨_, _, rfl, ⟨a5, b5, rfl⟩, h_6⟩ := all2_cons (S := SInt .i64) (Ss := List.replicate 5 (SInt .i64)) h_5
  obtain ⟨_, _, rfl, ⟨a6, b6, rfl⟩, h_7⟩ := all2_cons (S := SInt .i64) (Ss := List.replicate 4 (SInt .i64)) h_6
  obtain ⟨_, _, rfl, ⟨a7, b7, rfl⟩, h_8⟩ := all2_cons (S := SInt .i64) (Ss := List.replicate 3 (SInt .i64)) h_7
  obtain ⟨_, _, rfl, ⟨a8, b8, rfl⟩, h_9⟩ := all2_cons (S := SInt .i64) (Ss := List.replicate 2 (SInt .i64)) h_8
  obtain ⟨_, _, rfl, ⟨a9, b9, rfl⟩, h_10⟩ := all2_cons (S := SInt .i64) (Ss := List.replicate 1 (SInt .i64)) h_9
  obtain ⟨_, _, rfl, ⟨a10, b10, rfl⟩, h_11⟩ := all2_cons (S := SInt .i64) (Ss := List.replicate 0 (SInt .i64)) h_10
  obtain rfl := all2_nil h_11
  refine ⟨⟨a0, a1, a2, a3, a4, a5, a6, a7, a8, a9, a10⟩, fun x hx => ?_, rfl⟩
  simp only [inLs, List.mem_cons, List.not_mem_nil, or_false] at hx
  rcases hx with rfl | rfl | rfl | rfl | rfl | rfl | rfl | rfl | rfl | rfl | rfl
  · exact inR_i64c b0
  · exact inR_i64c b1
  · exact inR_i64c b2
  · exact inR_i64c b3
  · exact inR_i64c b4
  · exact inR_i64c b5
  · exact inR_i64c b6
  · exact inR_i64c b7
  · exact inR_i64c b8
  · exact inR_i64c b9
  · exact inR_i64c b10
def SIN (x : PV) : Prop := ∃ i : IN, IOk i ∧ x = inP i
theorem opIN : Op Tryd.prog 24 SIN := opIN_.weak in_dec
theorem opIN_agg (y : PV) (h : SIN y) : ∃ xs, y = .agg xs := by
  obtain ⟨i, _, rfl⟩ := h; exact ⟨_, rfl⟩
theorem opBytesc : Op Tryd.prog 63 (SLs 1 1 (PV.int .u8) (fun z : Int => 0 ≤ z ∧ z ≤ 255)) :=
  opList (opSlice (opInt Tryd.underlying5 (by kernel_rfl)) 1 1 (by kernel_rfl) Tryd.underlying63 (by kernel_rfl) (by decide) (by kernel_rfl)) fun x ⟨z, h, e⟩ => ⟨z, inR_u8c h, e⟩

end Go.Proofs.YthpkejlmelednaaDoor.Pw

/- CodeReads over values, of what comes in. -/
namespace Go.Proofs.YthpkejlmelednaaDoor.Pw
open Go Go.RowKit

end Go.Proofs.YthpkejlmelednaaDoor.Pw

/- Chapter 4 over values: CodeOnce, CodeBegins. -/
namespace Go.Proofs.YthpkejlmelednaaDoor.Pw
open Go Go.RowKit

theorem right_form {i : IN} (h : rightV i) : 1 ≤ i.form ∧ i.form ≤ 100 := h.1
/-- two right instructions of one length have the same bits just if they are the same -/
theorem once {a b : IN} (ha : rightV a) (hb : rightV b) (ga : a.regs ≤ 9223372036854775807) (gb : b.regs ≤ 9223372036854775807) (hs : sizeV a.form = sizeV b.form) : wordV a = wordV b ↔ a = b := by
  constructor
  · intro e
    have fa := ha.1
    have fb := hb.1
    have hw : 48 ≤ a.form ↔ 48 ≤ b.form := by
      unfold sizeV at hs
      by_cases h1 : 48 ≤ a.form <;> by_cases h2 : 48 ≤ b.form
      · exact ⟨fun _ => h2, fun _ => h1⟩
      · rw [if_pos ⟨h1, fa.2⟩, if_neg (by omega), if_pos (by omega)] at hs; omega
      · rw [if_neg (by omega), if_pos (by omega), if_pos ⟨h2, fb.2⟩] at hs; omega
      · exact ⟨fun h => absurd h h1, fun h => absurd h h2⟩
    have hf := once_form ha hb hw e
    rw [← back a ha ga, ← back b hb gb, hf, e]
  · intro e; rw [e]
theorem in_eq {a b : IN} : a = b ↔ (a.form = b.form ∧ a.rd = b.rd ∧ a.rn = b.rn ∧ a.rm = b.rm ∧ a.ra = b.ra ∧ a.imm = b.imm ∧ a.kind = b.kind ∧ a.by_ = b.by_ ∧ a.set = b.set ∧ a.cond = b.cond ∧ a.regs = b.regs ∧ True) := by
  constructor
  · rintro rfl; exact ⟨rfl, rfl, rfl, rfl, rfl, rfl, rfl, rfl, rfl, rfl, rfl, trivial⟩
  · rintro ⟨h0, h1, h2, h3, h4, h5, h6, h7, h8, h9, h10, _⟩; exact in_ext h0 h1 h2 h3 h4 h5 h6 h7 h8 h9 h10
/-! ### the first half -/
def spanF (l : List (Nat × Nat × Nat × Nat)) : Nat := l.foldl (fun m x => max m (x.2.2.1 + x.2.2.2)) 0
theorem spanF_le : ∀ (l : List (Nat × Nat × Nat × Nat)) (m : Nat), m ≤ l.foldl (fun m x => max m (x.2.2.1 + x.2.2.2)) m ∧ ∀ x ∈ l, x.2.2.1 + x.2.2.2 ≤ l.foldl (fun m x => max m (x.2.2.1 + x.2.2.2)) m
  | [], m => ⟨Nat.le_refl _, fun x hx => by cases hx⟩
  | y :: l, m => by
    have h := spanF_le l (max m (y.2.2.1 + y.2.2.2))
    rw [List.foldl_cons]
    refine ⟨by omega, fun x hx => ?_⟩
    rcases List.mem_cons.1 hx with rfl | hx
    · omega
    · exact h.2 x hx
theorem orF_lt (i : IN) (k : Nat) : ∀ (l : List (Nat × Nat × Nat × Nat)) (V : Nat), V < 2 ^ k → (∀ x ∈ l, x.2.2.1 + x.2.2.2 ≤ k) → l.foldl (fun w x => w ||| B (getV i x.1) x.2.1 x.2.2.2 x.2.2.1) V < 2 ^ k
  | [], V, h, _ => h
  | x :: l, V, h, hl => by
    rw [List.foldl_cons]
    refine orF_lt i k l _ (Nat.or_lt_two_pow h ?_) fun y hy => hl y (List.mem_cons_of_mem _ hy)
    have b := bitsV_bd (getV i x.1) x.2.1 x.2.2.2
    have e := pow_cast x.2.2.2
    have h1 : (bitsV (getV i x.1) x.2.1 x.2.2.2).toNat < 2 ^ x.2.2.2 := by omega
    unfold B
    rw [Nat.shiftLeft_eq]
    calc (bitsV (getV i x.1) x.2.1 x.2.2.2).toNat * 2 ^ x.2.2.1 < 2 ^ x.2.2.2 * 2 ^ x.2.2.1 := Nat.mul_lt_mul_of_pos_right h1 (Nat.two_pow_pos _)
      _ = 2 ^ (x.2.2.2 + x.2.2.1) := (Nat.pow_add ..).symm
      _ ≤ 2 ^ k := Nat.pow_le_pow_right (by omega) (by have := hl x (List.mem_cons_self ..); omega)
theorem or_top_same (a b k : Nat) (h : b < 2 ^ k) : a ||| b < (a / 2 ^ k + 1) * 2 ^ k := by
  have e : (a ||| b) / 2 ^ k = a / 2 ^ k := by
    apply Nat.eq_of_testBit_eq
    intro p
    rw [Nat.testBit_div_two_pow, Nat.testBit_div_two_pow, Nat.testBit_or, Nat.testBit_lt_two_pow (x := b) (Nat.lt_of_lt_of_le h (Nat.pow_le_pow_right (by decide) (by omega))), Bool.or_false]
  have hp := Nat.two_pow_pos k
  have h1 := Nat.lt_mul_div_succ (a ||| b) hp
  rw [e, Nat.mul_comm] at h1
  exact h1
theorem narrow_tab : ((List.range 47).all fun k => decide ((fbN (k + 1) / 2 ^ spanF (fdN (k + 1)) + 1) * 2 ^ spanF (fdN (k + 1)) ≤ 59392)) = true := by decide +kernel
theorem wide_tab : ((List.range 53).all fun k => decide (3892314112 ≤ fbN (k + 48))) = true := by decide +kernel
theorem top_narrow (i : IN) (h : rightV i) (hn : ¬ 48 ≤ i.form) : wordV i < 59392 := by
  have f1 := h.1
  have ef : ((i.form.toNat : Nat) : Int) = i.form := by omega
  have t := of_decide_eq_true (List.all_eq_true.1 narrow_tab (i.form.toNat - 1) (List.mem_range.2 (by omega)))
  rw [show i.form.toNat - 1 + 1 = i.form.toNat by omega] at t
  unfold fbN fdN at t
  rw [ef] at t
  have l := orF_lt (turnI i) (spanF (fieldsV (shapeV i.form))) (fieldsV (shapeV i.form)) 0 (Nat.two_pow_pos _) fun x hx => (spanF_le _ 0).2 x hx
  have o := or_top_same (fbV i.form).toNat _ _ l
  have e : wordV i = (((fbV i.form).toNat ||| orF (turnI i) (fieldsV (shapeV i.form)) : Nat) : Int) := word_or i
  rw [e]
  have o2 : ((fbV i.form).toNat ||| orF (turnI i) (fieldsV (shapeV i.form))) < 59392 := Nat.lt_of_lt_of_le o t
  omega
theorem word_bd (i : IN) : U32 (wordV i) := by
  have := or4_lt (show (fbV i.form).toNat < 4294967296 by have := fb_bd i.form; omega) (orV_lt i)
  rw [word_or]; unfold U32; omega
theorem top_wide (i : IN) (h : rightV i) (hn : 48 ≤ i.form) : 3892314112 ≤ wordV i := by
  have f1 := h.1
  have ef : ((i.form.toNat : Nat) : Int) = i.form := by omega
  have t := of_decide_eq_true (List.all_eq_true.1 wide_tab (i.form.toNat - 48) (List.mem_range.2 (by omega)))
  rw [show i.form.toNat - 48 + 48 = i.form.toNat by omega] at t
  unfold fbN at t
  rw [ef] at t
  have l : (fbV i.form).toNat ≤ (fbV i.form).toNat ||| orF (turnI i) (fieldsV (shapeV i.form)) := Nat.left_le_or
  rw [word_or]; omega
end Go.Proofs.YthpkejlmelednaaDoor.Pw

/- Chapter 4 over values: an instruction's bytes; CodeWords. -/
namespace Go.Proofs.YthpkejlmelednaaDoor.Pw
open Go Go.RowKit

def u8P (l : List Int) : List PV := l.map (PV.int .u8)
/-- an instruction's bytes -/
def byL (i : IN) : List Int := (if 48 ≤ i.form then [wordV i / 65536 % 256, wordV i / 16777216 % 256] else []) ++ [wordV i % 256, wordV i / 256 % 256]
theorem r24 : Ev.pow2 .u32 24 = 16777216 := by decide
set_option maxHeartbeats 4000000 in
set_option maxRecDepth 100000 in
theorem bytes_yes (i : IN) (h : rightV i) (hI : IOk i) : PureF gT 32 [inP i] (.tup [.sl 1 (u8P (byL i)), .int .i64 0]) := by
  have e0 := IntKind.wrap_u8' (wordV i)
  have e1 := IntKind.wrap_u8' (wordV i / Ev.pow2 .u32 8)
  have e2 := IntKind.wrap_u8' (wordV i / Ev.pow2 .u32 16)
  have e3 := IntKind.wrap_u8' (wordV i / Ev.pow2 .u32 24)
  have p8 : Ev.pow2 .u32 8 = 256 := by decide
  have p16 : Ev.pow2 .u32 16 = 65536 := by decide
  refine Spec.enter gTok P32 100 Tryd.func32 rfl (by kernel_rfl) ?_
  refine ⟨[], no_rl, (word_yes i h hI).use (by repeat' first | exact trivial | exact rfl | exact Iff.rfl | exact Or.inl rfl | refine And.intro ?_ ?_) rfl rfl ?_⟩
  refine And.intro (fun h => absurd rfl h) (fun _ => ?_)
  refine .inr ?_
  refine ⟨by decide, .inr ?_⟩
  refine ⟨[], no_rl, (form_wide i.form).use (by repeat' first | exact trivial | exact rfl | exact Iff.rfl | exact Or.inl rfl | refine And.intro ?_ ?_) rfl rfl ?_⟩
  refine And.intro (fun hn => ?_) (fun hn => ?_)
  · have hn' : ¬ 48 ≤ i.form := fun e => hn ⟨e, h.1.2⟩
    refine retE ?_
    refine And.intro ?_ (And.intro rfl trivial)
    show [PV.int .u8 (IntKind.u8.wrap (wordV i)), .int .u8 (IntKind.u8.wrap (wordV i / Ev.pow2 .u32 8))] = u8P (byL i)
    rw [e0, e1, p8]
    unfold byL u8P; rw [if_neg hn']; rfl
  · have hn' : 48 ≤ i.form := (Classical.not_not.1 hn).1
    refine ⟨by decide, .inr ?_⟩
    refine ⟨by decide, .inr ?_⟩
    refine retE ?_
    refine And.intro ?_ (And.intro rfl trivial)
    show [PV.int .u8 (IntKind.u8.wrap (wordV i / Ev.pow2 .u32 16)), .int .u8 (IntKind.u8.wrap (wordV i / Ev.pow2 .u32 24)), PV.int .u8 (IntKind.u8.wrap (wordV i)), .int .u8 (IntKind.u8.wrap (wordV i / Ev.pow2 .u32 8))] = u8P (byL i)
    rw [e0, e1, e2, e3, p8, p16, r24]
    unfold byL u8P; rw [if_pos hn']; rfl
theorem bytes_no (i : IN) (h : ¬ rightV i) (hI : IOk i) : PureF gT 32 [inP i] (.tup [.sl 1 [], .int .i64 10]) := by
  refine Spec.enter gTok P32 100 Tryd.func32 rfl (by kernel_rfl) ?_
  refine ⟨[], no_rl, (word_no i h hI).use (by repeat' first | exact trivial | exact rfl | exact Iff.rfl | exact Or.inl rfl | refine And.intro ?_ ?_) rfl rfl ?_⟩
  refine And.intro (fun _ => ?_) (fun h => absurd (show ¬ (10 : Int) = 0 by decide) h)
  (refine retE ?_; repeat' first | exact trivial | exact rfl | exact Iff.rfl | exact Or.inl rfl | refine And.intro ?_ ?_)
theorem byL_len (i : IN) (h : rightV i) : ((byL i).length : Int) = sizeV i.form := by
  have f1 := h.1
  unfold byL sizeV
  by_cases h48 : 48 ≤ i.form
  · rw [if_pos h48, if_pos ⟨h48, f1.2⟩]; rfl
  · rw [if_neg h48, if_neg (by omega), if_pos (by omega)]; rfl
end Go.Proofs.YthpkejlmelednaaDoor.Pw

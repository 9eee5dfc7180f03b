/- What the laws of this claim are proved with, joined (join.py) of 7 texts: no condition. -/
import Derived.Test.YthpkejlmelednaaDoorKa6
import Derived.Test.YthpkejlmelednaaDoorRows
import Derived.Test.YthpkejlmelednaaDoorKa4
import Derived.ProofKit
import Derived.LaidMore
import Derived.OpenShut
import Derived.Stop.Joined
import Derived.Lib.LaidTab
set_option linter.unusedVariables false

/- Chapter 18 over values: the document's instructions of an operation are the program's. -/
namespace Go.Proofs.YthpkejlmelednaaDoor.Pw
open Go Go.RowKit

set_option maxHeartbeats 4000000 in
set_option maxRecDepth 100000 in
theorem rins_1 (o : VO) (hk : o.kind = 1) (hn : 0 ≤ o.n ∧ o.n ≤ 4294967295) (hv : vnum o.kind o.n) : PureF gT 23 [voP o] (.sl 11 (insP (insL o))) := by
  refine Spec.enter gTok P23 100 Tryd.func23 rfl (by kernel_rfl) ?_
  repeat' ((conv => whnf); first | (refine (And.intro (fun _ => ?_) (fun _ => ?_) : (_ → _) ∧ (_ → _)) <;> (first | (exfalso; first | contradiction | omega) | skip)) | refine Or.inl (And.intro (by first | exact inR_i64 (by omega) | exact inR_u32 (by omega) | exact inR_u64 (by omega) | exact inR_u8 (by omega)) ?_) | (refine And.intro (show (_ : Int) ≠ 0 by omega) (Or.inl (And.intro (show (0 : Int) ≤ _ by omega) (And.intro (show (0 : Int) < _ by omega) ?_)))) | (refine And.intro (show (_ : Int) ≠ 0 by omega) (Or.inl (And.intro (show (0 : Int) ≤ _ by omega) (And.intro (by first | exact (show (_ : Int) ≤ 9223372036854775807 by omega) | exact (show (_ : Int) ≤ 4294967295 by omega)) (And.intro (show (0 : Int) < _ by omega) ?_))))) | (refine Exists.intro [] (And.intro no_rl ((rthree_pure _ _ _ _).use (by repeat' first | exact trivial | exact rfl | exact Iff.rfl | exact Or.inl rfl | refine And.intro ?_ ?_) rfl rfl ?_))) | (refine Exists.intro [] (And.intro no_rl ((rimm_pure _ _ _).use (by repeat' first | exact trivial | exact rfl | exact Iff.rfl | exact Or.inl rfl | refine And.intro ?_ ?_) rfl rfl ?_))) | (refine Exists.intro [] (And.intro no_rl ((rnumber_pure _ _ hn).use (by repeat' first | exact trivial | exact rfl | exact Iff.rfl | exact Or.inl rfl | refine And.intro ?_ ?_) rfl rfl ?_))) | (refine And.intro (show (0 : Int) ≤ _ by omega) (And.intro (show _ < (_ : Int) by omega) ?_)) | (refine Or.inl (Exists.intro 1 (And.intro hk ?_))) | (refine retE ?_; (show _ = _); simp only [insL, threeF, memL, pairL, singL, testL, hk, ne_eq, reduceIte, Int.reduceEq, not_false_eq_true, not_true_eq_false, List.nil_append, List.append_nil]; try rfl) | (intro _))
set_option maxHeartbeats 4000000 in
set_option maxRecDepth 100000 in
theorem rins_2 (o : VO) (hk : o.kind = 2) (hn : 0 ≤ o.n ∧ o.n ≤ 4294967295) (hv : vnum o.kind o.n) : PureF gT 23 [voP o] (.sl 11 (insP (insL o))) := by
  refine Spec.enter gTok P23 100 Tryd.func23 rfl (by kernel_rfl) ?_
  repeat' ((conv => whnf); first | (refine (And.intro (fun _ => ?_) (fun _ => ?_) : (_ → _) ∧ (_ → _)) <;> (first | (exfalso; first | contradiction | omega) | skip)) | refine Or.inl (And.intro (by first | exact inR_i64 (by omega) | exact inR_u32 (by omega) | exact inR_u64 (by omega) | exact inR_u8 (by omega)) ?_) | (refine And.intro (show (_ : Int) ≠ 0 by omega) (Or.inl (And.intro (show (0 : Int) ≤ _ by omega) (And.intro (show (0 : Int) < _ by omega) ?_)))) | (refine And.intro (show (_ : Int) ≠ 0 by omega) (Or.inl (And.intro (show (0 : Int) ≤ _ by omega) (And.intro (by first | exact (show (_ : Int) ≤ 9223372036854775807 by omega) | exact (show (_ : Int) ≤ 4294967295 by omega)) (And.intro (show (0 : Int) < _ by omega) ?_))))) | (refine Exists.intro [] (And.intro no_rl ((rthree_pure _ _ _ _).use (by repeat' first | exact trivial | exact rfl | exact Iff.rfl | exact Or.inl rfl | refine And.intro ?_ ?_) rfl rfl ?_))) | (refine Exists.intro [] (And.intro no_rl ((rimm_pure _ _ _).use (by repeat' first | exact trivial | exact rfl | exact Iff.rfl | exact Or.inl rfl | refine And.intro ?_ ?_) rfl rfl ?_))) | (refine Exists.intro [] (And.intro no_rl ((rmem_2 o hk hn).use (by repeat' first | exact trivial | exact rfl | exact Iff.rfl | exact Or.inl rfl | refine And.intro ?_ ?_) rfl rfl ?_))) | (refine And.intro (show (0 : Int) ≤ _ by omega) (And.intro (show _ < (_ : Int) by omega) ?_)) | (refine Or.inl (Exists.intro 2 (And.intro hk ?_))) | (refine retE ?_; (show _ = _); simp only [insL, threeF, memL, pairL, singL, testL, hk, ne_eq, reduceIte, Int.reduceEq, not_false_eq_true, not_true_eq_false, List.nil_append, List.append_nil]; try rfl) | (intro _))
set_option maxHeartbeats 4000000 in
set_option maxRecDepth 100000 in
theorem rins_3 (o : VO) (hk : o.kind = 3) (hn : 0 ≤ o.n ∧ o.n ≤ 4294967295) (hv : vnum o.kind o.n) : PureF gT 23 [voP o] (.sl 11 (insP (insL o))) := by
  refine Spec.enter gTok P23 100 Tryd.func23 rfl (by kernel_rfl) ?_
  repeat' ((conv => whnf); first | (refine (And.intro (fun _ => ?_) (fun _ => ?_) : (_ → _) ∧ (_ → _)) <;> (first | (exfalso; first | contradiction | omega) | skip)) | refine Or.inl (And.intro (by first | exact inR_i64 (by omega) | exact inR_u32 (by omega) | exact inR_u64 (by omega) | exact inR_u8 (by omega)) ?_) | (refine And.intro (show (_ : Int) ≠ 0 by omega) (Or.inl (And.intro (show (0 : Int) ≤ _ by omega) (And.intro (show (0 : Int) < _ by omega) ?_)))) | (refine And.intro (show (_ : Int) ≠ 0 by omega) (Or.inl (And.intro (show (0 : Int) ≤ _ by omega) (And.intro (by first | exact (show (_ : Int) ≤ 9223372036854775807 by omega) | exact (show (_ : Int) ≤ 4294967295 by omega)) (And.intro (show (0 : Int) < _ by omega) ?_))))) | (refine Exists.intro [] (And.intro no_rl ((rthree_pure _ _ _ _).use (by repeat' first | exact trivial | exact rfl | exact Iff.rfl | exact Or.inl rfl | refine And.intro ?_ ?_) rfl rfl ?_))) | (refine Exists.intro [] (And.intro no_rl ((rimm_pure _ _ _).use (by repeat' first | exact trivial | exact rfl | exact Iff.rfl | exact Or.inl rfl | refine And.intro ?_ ?_) rfl rfl ?_))) | (refine Exists.intro [] (And.intro no_rl ((rmem_3 o hk hn).use (by repeat' first | exact trivial | exact rfl | exact Iff.rfl | exact Or.inl rfl | refine And.intro ?_ ?_) rfl rfl ?_))) | (refine And.intro (show (0 : Int) ≤ _ by omega) (And.intro (show _ < (_ : Int) by omega) ?_)) | (refine Or.inl (Exists.intro 3 (And.intro hk ?_))) | (refine retE ?_; (show _ = _); simp only [insL, threeF, memL, pairL, singL, testL, hk, ne_eq, reduceIte, Int.reduceEq, not_false_eq_true, not_true_eq_false, List.nil_append, List.append_nil]; try rfl) | (intro _))
set_option maxHeartbeats 4000000 in
set_option maxRecDepth 100000 in
theorem rins_4 (o : VO) (hk : o.kind = 4) (hn : 0 ≤ o.n ∧ o.n ≤ 4294967295) (hv : vnum o.kind o.n) : PureF gT 23 [voP o] (.sl 11 (insP (insL o))) := by
  refine Spec.enter gTok P23 100 Tryd.func23 rfl (by kernel_rfl) ?_
  repeat' ((conv => whnf); first | (refine (And.intro (fun _ => ?_) (fun _ => ?_) : (_ → _) ∧ (_ → _)) <;> (first | (exfalso; first | contradiction | omega) | skip)) | refine Or.inl (And.intro (by first | exact inR_i64 (by omega) | exact inR_u32 (by omega) | exact inR_u64 (by omega) | exact inR_u8 (by omega)) ?_) | (refine And.intro (show (_ : Int) ≠ 0 by omega) (Or.inl (And.intro (show (0 : Int) ≤ _ by omega) (And.intro (show (0 : Int) < _ by omega) ?_)))) | (refine And.intro (show (_ : Int) ≠ 0 by omega) (Or.inl (And.intro (show (0 : Int) ≤ _ by omega) (And.intro (by first | exact (show (_ : Int) ≤ 9223372036854775807 by omega) | exact (show (_ : Int) ≤ 4294967295 by omega)) (And.intro (show (0 : Int) < _ by omega) ?_))))) | (refine Exists.intro [] (And.intro no_rl ((rthree_pure _ _ _ _).use (by repeat' first | exact trivial | exact rfl | exact Iff.rfl | exact Or.inl rfl | refine And.intro ?_ ?_) rfl rfl ?_))) | (refine Exists.intro [] (And.intro no_rl ((rimm_pure _ _ _).use (by repeat' first | exact trivial | exact rfl | exact Iff.rfl | exact Or.inl rfl | refine And.intro ?_ ?_) rfl rfl ?_))) | (refine Exists.intro [] (And.intro no_rl ((rmem_4 o hk hn).use (by repeat' first | exact trivial | exact rfl | exact Iff.rfl | exact Or.inl rfl | refine And.intro ?_ ?_) rfl rfl ?_))) | (refine And.intro (show (0 : Int) ≤ _ by omega) (And.intro (show _ < (_ : Int) by omega) ?_)) | (refine Or.inl (Exists.intro 4 (And.intro hk ?_))) | (refine retE ?_; (show _ = _); simp only [insL, threeF, memL, pairL, singL, testL, hk, ne_eq, reduceIte, Int.reduceEq, not_false_eq_true, not_true_eq_false, List.nil_append, List.append_nil]; try rfl) | (intro _))
set_option maxHeartbeats 4000000 in
set_option maxRecDepth 100000 in
theorem rins_5 (o : VO) (hk : o.kind = 5) (hn : 0 ≤ o.n ∧ o.n ≤ 4294967295) (hv : vnum o.kind o.n) : PureF gT 23 [voP o] (.sl 11 (insP (insL o))) := by
  refine Spec.enter gTok P23 100 Tryd.func23 rfl (by kernel_rfl) ?_
  repeat' ((conv => whnf); first | (refine (And.intro (fun _ => ?_) (fun _ => ?_) : (_ → _) ∧ (_ → _)) <;> (first | (exfalso; first | contradiction | omega) | skip)) | refine Or.inl (And.intro (by first | exact inR_i64 (by omega) | exact inR_u32 (by omega) | exact inR_u64 (by omega) | exact inR_u8 (by omega)) ?_) | (refine And.intro (show (_ : Int) ≠ 0 by omega) (Or.inl (And.intro (show (0 : Int) ≤ _ by omega) (And.intro (show (0 : Int) < _ by omega) ?_)))) | (refine And.intro (show (_ : Int) ≠ 0 by omega) (Or.inl (And.intro (show (0 : Int) ≤ _ by omega) (And.intro (by first | exact (show (_ : Int) ≤ 9223372036854775807 by omega) | exact (show (_ : Int) ≤ 4294967295 by omega)) (And.intro (show (0 : Int) < _ by omega) ?_))))) | (refine Exists.intro [] (And.intro no_rl ((rthree_pure _ _ _ _).use (by repeat' first | exact trivial | exact rfl | exact Iff.rfl | exact Or.inl rfl | refine And.intro ?_ ?_) rfl rfl ?_))) | (refine Exists.intro [] (And.intro no_rl ((rimm_pure _ _ _).use (by repeat' first | exact trivial | exact rfl | exact Iff.rfl | exact Or.inl rfl | refine And.intro ?_ ?_) rfl rfl ?_))) | (refine Exists.intro [] (And.intro no_rl ((rmem_5 o hk hn).use (by repeat' first | exact trivial | exact rfl | exact Iff.rfl | exact Or.inl rfl | refine And.intro ?_ ?_) rfl rfl ?_))) | (refine And.intro (show (0 : Int) ≤ _ by omega) (And.intro (show _ < (_ : Int) by omega) ?_)) | (refine Or.inl (Exists.intro 5 (And.intro hk ?_))) | (refine retE ?_; (show _ = _); simp only [insL, threeF, memL, pairL, singL, testL, hk, ne_eq, reduceIte, Int.reduceEq, not_false_eq_true, not_true_eq_false, List.nil_append, List.append_nil]; try rfl) | (intro _))
set_option maxHeartbeats 4000000 in
set_option maxRecDepth 100000 in
theorem rins_6 (o : VO) (hk : o.kind = 6) (hn : 0 ≤ o.n ∧ o.n ≤ 4294967295) (hv : vnum o.kind o.n) : PureF gT 23 [voP o] (.sl 11 (insP (insL o))) := by
  refine Spec.enter gTok P23 100 Tryd.func23 rfl (by kernel_rfl) ?_
  repeat' ((conv => whnf); first | (refine (And.intro (fun _ => ?_) (fun _ => ?_) : (_ → _) ∧ (_ → _)) <;> (first | (exfalso; first | contradiction | omega) | skip)) | refine Or.inl (And.intro (by first | exact inR_i64 (by omega) | exact inR_u32 (by omega) | exact inR_u64 (by omega) | exact inR_u8 (by omega)) ?_) | (refine And.intro (show (_ : Int) ≠ 0 by omega) (Or.inl (And.intro (show (0 : Int) ≤ _ by omega) (And.intro (show (0 : Int) < _ by omega) ?_)))) | (refine And.intro (show (_ : Int) ≠ 0 by omega) (Or.inl (And.intro (show (0 : Int) ≤ _ by omega) (And.intro (by first | exact (show (_ : Int) ≤ 9223372036854775807 by omega) | exact (show (_ : Int) ≤ 4294967295 by omega)) (And.intro (show (0 : Int) < _ by omega) ?_))))) | (refine Exists.intro [] (And.intro no_rl ((rthree_pure _ _ _ _).use (by repeat' first | exact trivial | exact rfl | exact Iff.rfl | exact Or.inl rfl | refine And.intro ?_ ?_) rfl rfl ?_))) | (refine Exists.intro [] (And.intro no_rl ((rimm_pure _ _ _).use (by repeat' first | exact trivial | exact rfl | exact Iff.rfl | exact Or.inl rfl | refine And.intro ?_ ?_) rfl rfl ?_))) | (refine Exists.intro [] (And.intro no_rl ((rmem_6 o hk hn).use (by repeat' first | exact trivial | exact rfl | exact Iff.rfl | exact Or.inl rfl | refine And.intro ?_ ?_) rfl rfl ?_))) | (refine And.intro (show (0 : Int) ≤ _ by omega) (And.intro (show _ < (_ : Int) by omega) ?_)) | (refine Or.inl (Exists.intro 6 (And.intro hk ?_))) | (refine retE ?_; (show _ = _); simp only [insL, threeF, memL, pairL, singL, testL, hk, ne_eq, reduceIte, Int.reduceEq, not_false_eq_true, not_true_eq_false, List.nil_append, List.append_nil]; try rfl) | (intro _))
set_option maxHeartbeats 4000000 in
set_option maxRecDepth 100000 in
theorem rins_7 (o : VO) (hk : o.kind = 7) (hn : 0 ≤ o.n ∧ o.n ≤ 4294967295) (hv : vnum o.kind o.n) : PureF gT 23 [voP o] (.sl 11 (insP (insL o))) := by
  refine Spec.enter gTok P23 100 Tryd.func23 rfl (by kernel_rfl) ?_
  repeat' ((conv => whnf); first | (refine (And.intro (fun _ => ?_) (fun _ => ?_) : (_ → _) ∧ (_ → _)) <;> (first | (exfalso; first | contradiction | omega) | skip)) | refine Or.inl (And.intro (by first | exact inR_i64 (by omega) | exact inR_u32 (by omega) | exact inR_u64 (by omega) | exact inR_u8 (by omega)) ?_) | (refine And.intro (show (_ : Int) ≠ 0 by omega) (Or.inl (And.intro (show (0 : Int) ≤ _ by omega) (And.intro (show (0 : Int) < _ by omega) ?_)))) | (refine And.intro (show (_ : Int) ≠ 0 by omega) (Or.inl (And.intro (show (0 : Int) ≤ _ by omega) (And.intro (by first | exact (show (_ : Int) ≤ 9223372036854775807 by omega) | exact (show (_ : Int) ≤ 4294967295 by omega)) (And.intro (show (0 : Int) < _ by omega) ?_))))) | (refine Exists.intro [] (And.intro no_rl ((rthree_pure _ _ _ _).use (by repeat' first | exact trivial | exact rfl | exact Iff.rfl | exact Or.inl rfl | refine And.intro ?_ ?_) rfl rfl ?_))) | (refine Exists.intro [] (And.intro no_rl ((rimm_pure _ _ _).use (by repeat' first | exact trivial | exact rfl | exact Iff.rfl | exact Or.inl rfl | refine And.intro ?_ ?_) rfl rfl ?_))) | (refine And.intro (show (0 : Int) ≤ _ by omega) (And.intro (show _ < (_ : Int) by omega) ?_)) | (refine Or.inl (Exists.intro 7 (And.intro hk ?_))) | (refine retE ?_; (show _ = _); simp only [insL, threeF, memL, pairL, singL, testL, hk, ne_eq, reduceIte, Int.reduceEq, not_false_eq_true, not_true_eq_false, List.nil_append, List.append_nil]; try rfl) | (intro _))
set_option maxHeartbeats 4000000 in
set_option maxRecDepth 100000 in
theorem rins_8 (o : VO) (hk : o.kind = 8) (hn : 0 ≤ o.n ∧ o.n ≤ 4294967295) (hv : vnum o.kind o.n) : PureF gT 23 [voP o] (.sl 11 (insP (insL o))) := by
  refine Spec.enter gTok P23 100 Tryd.func23 rfl (by kernel_rfl) ?_
  repeat' ((conv => whnf); first | (refine (And.intro (fun _ => ?_) (fun _ => ?_) : (_ → _) ∧ (_ → _)) <;> (first | (exfalso; first | contradiction | omega) | skip)) | refine Or.inl (And.intro (by first | exact inR_i64 (by omega) | exact inR_u32 (by omega) | exact inR_u64 (by omega) | exact inR_u8 (by omega)) ?_) | (refine And.intro (show (_ : Int) ≠ 0 by omega) (Or.inl (And.intro (show (0 : Int) ≤ _ by omega) (And.intro (show (0 : Int) < _ by omega) ?_)))) | (refine And.intro (show (_ : Int) ≠ 0 by omega) (Or.inl (And.intro (show (0 : Int) ≤ _ by omega) (And.intro (by first | exact (show (_ : Int) ≤ 9223372036854775807 by omega) | exact (show (_ : Int) ≤ 4294967295 by omega)) (And.intro (show (0 : Int) < _ by omega) ?_))))) | (refine Exists.intro [] (And.intro no_rl ((rthree_pure _ _ _ _).use (by repeat' first | exact trivial | exact rfl | exact Iff.rfl | exact Or.inl rfl | refine And.intro ?_ ?_) rfl rfl ?_))) | (refine Exists.intro [] (And.intro no_rl ((rimm_pure _ _ _).use (by repeat' first | exact trivial | exact rfl | exact Iff.rfl | exact Or.inl rfl | refine And.intro ?_ ?_) rfl rfl ?_))) | (refine And.intro (show (0 : Int) ≤ _ by omega) (And.intro (show _ < (_ : Int) by omega) ?_)) | (refine Or.inl (Exists.intro 8 (And.intro hk ?_))) | (refine retE ?_; (show _ = _); simp only [insL, threeF, memL, pairL, singL, testL, hk, ne_eq, reduceIte, Int.reduceEq, not_false_eq_true, not_true_eq_false, List.nil_append, List.append_nil]; try rfl) | (intro _))
set_option maxHeartbeats 4000000 in
set_option maxRecDepth 100000 in
theorem rins_9 (o : VO) (hk : o.kind = 9) (hn : 0 ≤ o.n ∧ o.n ≤ 4294967295) (hv : vnum o.kind o.n) : PureF gT 23 [voP o] (.sl 11 (insP (insL o))) := by
  refine Spec.enter gTok P23 100 Tryd.func23 rfl (by kernel_rfl) ?_
  repeat' ((conv => whnf); first | (refine (And.intro (fun _ => ?_) (fun _ => ?_) : (_ → _) ∧ (_ → _)) <;> (first | (exfalso; first | contradiction | omega) | skip)) | refine Or.inl (And.intro (by first | exact inR_i64 (by omega) | exact inR_u32 (by omega) | exact inR_u64 (by omega) | exact inR_u8 (by omega)) ?_) | (refine And.intro (show (_ : Int) ≠ 0 by omega) (Or.inl (And.intro (show (0 : Int) ≤ _ by omega) (And.intro (show (0 : Int) < _ by omega) ?_)))) | (refine And.intro (show (_ : Int) ≠ 0 by omega) (Or.inl (And.intro (show (0 : Int) ≤ _ by omega) (And.intro (by first | exact (show (_ : Int) ≤ 9223372036854775807 by omega) | exact (show (_ : Int) ≤ 4294967295 by omega)) (And.intro (show (0 : Int) < _ by omega) ?_))))) | (refine Exists.intro [] (And.intro no_rl ((rthree_pure _ _ _ _).use (by repeat' first | exact trivial | exact rfl | exact Iff.rfl | exact Or.inl rfl | refine And.intro ?_ ?_) rfl rfl ?_))) | (refine Exists.intro [] (And.intro no_rl ((rimm_pure _ _ _).use (by repeat' first | exact trivial | exact rfl | exact Iff.rfl | exact Or.inl rfl | refine And.intro ?_ ?_) rfl rfl ?_))) | (refine And.intro (show (0 : Int) ≤ _ by omega) (And.intro (show _ < (_ : Int) by omega) ?_)) | (refine Or.inl (Exists.intro 9 (And.intro hk ?_))) | (refine retE ?_; (show _ = _); simp only [insL, threeF, memL, pairL, singL, testL, hk, ne_eq, reduceIte, Int.reduceEq, not_false_eq_true, not_true_eq_false, List.nil_append, List.append_nil]; try rfl) | (intro _))
set_option maxHeartbeats 4000000 in
set_option maxRecDepth 100000 in
theorem rins_10 (o : VO) (hk : o.kind = 10) (hn : 0 ≤ o.n ∧ o.n ≤ 4294967295) (hv : vnum o.kind o.n) : PureF gT 23 [voP o] (.sl 11 (insP (insL o))) := by
  refine Spec.enter gTok P23 100 Tryd.func23 rfl (by kernel_rfl) ?_
  repeat' ((conv => whnf); first | (refine (And.intro (fun _ => ?_) (fun _ => ?_) : (_ → _) ∧ (_ → _)) <;> (first | (exfalso; first | contradiction | omega) | skip)) | refine Or.inl (And.intro (by first | exact inR_i64 (by omega) | exact inR_u32 (by omega) | exact inR_u64 (by omega) | exact inR_u8 (by omega)) ?_) | (refine And.intro (show (_ : Int) ≠ 0 by omega) (Or.inl (And.intro (show (0 : Int) ≤ _ by omega) (And.intro (show (0 : Int) < _ by omega) ?_)))) | (refine And.intro (show (_ : Int) ≠ 0 by omega) (Or.inl (And.intro (show (0 : Int) ≤ _ by omega) (And.intro (by first | exact (show (_ : Int) ≤ 9223372036854775807 by omega) | exact (show (_ : Int) ≤ 4294967295 by omega)) (And.intro (show (0 : Int) < _ by omega) ?_))))) | (refine Exists.intro [] (And.intro no_rl ((rthree_pure _ _ _ _).use (by repeat' first | exact trivial | exact rfl | exact Iff.rfl | exact Or.inl rfl | refine And.intro ?_ ?_) rfl rfl ?_))) | (refine Exists.intro [] (And.intro no_rl ((rimm_pure _ _ _).use (by repeat' first | exact trivial | exact rfl | exact Iff.rfl | exact Or.inl rfl | refine And.intro ?_ ?_) rfl rfl ?_))) | (refine And.intro (show (0 : Int) ≤ _ by omega) (And.intro (show _ < (_ : Int) by omega) ?_)) | (refine Or.inl (Exists.intro 10 (And.intro hk ?_))) | (refine retE ?_; (show _ = _); simp only [insL, threeF, memL, pairL, singL, testL, hk, ne_eq, reduceIte, Int.reduceEq, not_false_eq_true, not_true_eq_false, List.nil_append, List.append_nil]; try rfl) | (intro _))
set_option maxHeartbeats 4000000 in
set_option maxRecDepth 100000 in
theorem rins_11 (o : VO) (hk : o.kind = 11) (hn : 0 ≤ o.n ∧ o.n ≤ 4294967295) (hv : vnum o.kind o.n) : PureF gT 23 [voP o] (.sl 11 (insP (insL o))) := by
  refine Spec.enter gTok P23 100 Tryd.func23 rfl (by kernel_rfl) ?_
  repeat' ((conv => whnf); first | (refine (And.intro (fun _ => ?_) (fun _ => ?_) : (_ → _) ∧ (_ → _)) <;> (first | (exfalso; first | contradiction | omega) | skip)) | refine Or.inl (And.intro (by first | exact inR_i64 (by omega) | exact inR_u32 (by omega) | exact inR_u64 (by omega) | exact inR_u8 (by omega)) ?_) | (refine And.intro (show (_ : Int) ≠ 0 by omega) (Or.inl (And.intro (show (0 : Int) ≤ _ by omega) (And.intro (show (0 : Int) < _ by omega) ?_)))) | (refine And.intro (show (_ : Int) ≠ 0 by omega) (Or.inl (And.intro (show (0 : Int) ≤ _ by omega) (And.intro (by first | exact (show (_ : Int) ≤ 9223372036854775807 by omega) | exact (show (_ : Int) ≤ 4294967295 by omega)) (And.intro (show (0 : Int) < _ by omega) ?_))))) | (refine Exists.intro [] (And.intro no_rl ((rthree_pure _ _ _ _).use (by repeat' first | exact trivial | exact rfl | exact Iff.rfl | exact Or.inl rfl | refine And.intro ?_ ?_) rfl rfl ?_))) | (refine Exists.intro [] (And.intro no_rl ((rimm_pure _ _ _).use (by repeat' first | exact trivial | exact rfl | exact Iff.rfl | exact Or.inl rfl | refine And.intro ?_ ?_) rfl rfl ?_))) | (refine And.intro (show (0 : Int) ≤ _ by omega) (And.intro (show _ < (_ : Int) by omega) ?_)) | (refine Or.inl (Exists.intro 11 (And.intro hk ?_))) | (refine retE ?_; (show _ = _); simp only [insL, threeF, memL, pairL, singL, testL, hk, ne_eq, reduceIte, Int.reduceEq, not_false_eq_true, not_true_eq_false, List.nil_append, List.append_nil]; try rfl) | (intro _))
set_option maxHeartbeats 4000000 in
set_option maxRecDepth 100000 in
theorem rins_12 (o : VO) (hk : o.kind = 12) (hn : 0 ≤ o.n ∧ o.n ≤ 4294967295) (hv : vnum o.kind o.n) : PureF gT 23 [voP o] (.sl 11 (insP (insL o))) := by
  refine Spec.enter gTok P23 100 Tryd.func23 rfl (by kernel_rfl) ?_
  repeat' ((conv => whnf); first | (refine (And.intro (fun _ => ?_) (fun _ => ?_) : (_ → _) ∧ (_ → _)) <;> (first | (exfalso; first | contradiction | omega) | skip)) | refine Or.inl (And.intro (by first | exact inR_i64 (by omega) | exact inR_u32 (by omega) | exact inR_u64 (by omega) | exact inR_u8 (by omega)) ?_) | (refine And.intro (show (_ : Int) ≠ 0 by omega) (Or.inl (And.intro (show (0 : Int) ≤ _ by omega) (And.intro (show (0 : Int) < _ by omega) ?_)))) | (refine And.intro (show (_ : Int) ≠ 0 by omega) (Or.inl (And.intro (show (0 : Int) ≤ _ by omega) (And.intro (by first | exact (show (_ : Int) ≤ 9223372036854775807 by omega) | exact (show (_ : Int) ≤ 4294967295 by omega)) (And.intro (show (0 : Int) < _ by omega) ?_))))) | (refine Exists.intro [] (And.intro no_rl ((rthree_pure _ _ _ _).use (by repeat' first | exact trivial | exact rfl | exact Iff.rfl | exact Or.inl rfl | refine And.intro ?_ ?_) rfl rfl ?_))) | (refine Exists.intro [] (And.intro no_rl ((rimm_pure _ _ _).use (by repeat' first | exact trivial | exact rfl | exact Iff.rfl | exact Or.inl rfl | refine And.intro ?_ ?_) rfl rfl ?_))) | (refine And.intro (show (0 : Int) ≤ _ by omega) (And.intro (show _ < (_ : Int) by omega) ?_)) | (refine Or.inl (Exists.intro 12 (And.intro hk ?_))) | (refine retE ?_; (show _ = _); simp only [insL, threeF, memL, pairL, singL, testL, hk, ne_eq, reduceIte, Int.reduceEq, not_false_eq_true, not_true_eq_false, List.nil_append, List.append_nil]; try rfl) | (intro _))
set_option maxHeartbeats 4000000 in
set_option maxRecDepth 100000 in
theorem rins_13 (o : VO) (hk : o.kind = 13) (hn : 0 ≤ o.n ∧ o.n ≤ 4294967295) (hv : vnum o.kind o.n) : PureF gT 23 [voP o] (.sl 11 (insP (insL o))) := by
  refine Spec.enter gTok P23 100 Tryd.func23 rfl (by kernel_rfl) ?_
  repeat' ((conv => whnf); first | (refine (And.intro (fun _ => ?_) (fun _ => ?_) : (_ → _) ∧ (_ → _)) <;> (first | (exfalso; first | contradiction | omega) | skip)) | refine Or.inl (And.intro (by first | exact inR_i64 (by omega) | exact inR_u32 (by omega) | exact inR_u64 (by omega) | exact inR_u8 (by omega)) ?_) | (refine And.intro (show (_ : Int) ≠ 0 by omega) (Or.inl (And.intro (show (0 : Int) ≤ _ by omega) (And.intro (show (0 : Int) < _ by omega) ?_)))) | (refine And.intro (show (_ : Int) ≠ 0 by omega) (Or.inl (And.intro (show (0 : Int) ≤ _ by omega) (And.intro (by first | exact (show (_ : Int) ≤ 9223372036854775807 by omega) | exact (show (_ : Int) ≤ 4294967295 by omega)) (And.intro (show (0 : Int) < _ by omega) ?_))))) | (refine Exists.intro [] (And.intro no_rl ((rthree_pure _ _ _ _).use (by repeat' first | exact trivial | exact rfl | exact Iff.rfl | exact Or.inl rfl | refine And.intro ?_ ?_) rfl rfl ?_))) | (refine Exists.intro [] (And.intro no_rl ((rimm_pure _ _ _).use (by repeat' first | exact trivial | exact rfl | exact Iff.rfl | exact Or.inl rfl | refine And.intro ?_ ?_) rfl rfl ?_))) | (refine And.intro (show (0 : Int) ≤ _ by omega) (And.intro (show _ < (_ : Int) by omega) ?_)) | (refine Or.inl (Exists.intro 13 (And.intro hk ?_))) | (refine retE ?_; (show _ = _); simp only [insL, threeF, memL, pairL, singL, testL, hk, ne_eq, reduceIte, Int.reduceEq, not_false_eq_true, not_true_eq_false, List.nil_append, List.append_nil]; try rfl) | (intro _))
set_option maxHeartbeats 4000000 in
set_option maxRecDepth 100000 in
theorem rins_14 (o : VO) (hk : o.kind = 14) (hn : 0 ≤ o.n ∧ o.n ≤ 4294967295) (hv : vnum o.kind o.n) : PureF gT 23 [voP o] (.sl 11 (insP (insL o))) := by
  refine Spec.enter gTok P23 100 Tryd.func23 rfl (by kernel_rfl) ?_
  repeat' ((conv => whnf); first | (refine (And.intro (fun _ => ?_) (fun _ => ?_) : (_ → _) ∧ (_ → _)) <;> (first | (exfalso; first | contradiction | omega) | skip)) | refine Or.inl (And.intro (by first | exact inR_i64 (by omega) | exact inR_u32 (by omega) | exact inR_u64 (by omega) | exact inR_u8 (by omega)) ?_) | (refine And.intro (show (_ : Int) ≠ 0 by omega) (Or.inl (And.intro (show (0 : Int) ≤ _ by omega) (And.intro (show (0 : Int) < _ by omega) ?_)))) | (refine And.intro (show (_ : Int) ≠ 0 by omega) (Or.inl (And.intro (show (0 : Int) ≤ _ by omega) (And.intro (by first | exact (show (_ : Int) ≤ 9223372036854775807 by omega) | exact (show (_ : Int) ≤ 4294967295 by omega)) (And.intro (show (0 : Int) < _ by omega) ?_))))) | (refine Exists.intro [] (And.intro no_rl ((rthree_pure _ _ _ _).use (by repeat' first | exact trivial | exact rfl | exact Iff.rfl | exact Or.inl rfl | refine And.intro ?_ ?_) rfl rfl ?_))) | (refine Exists.intro [] (And.intro no_rl ((rimm_pure _ _ _).use (by repeat' first | exact trivial | exact rfl | exact Iff.rfl | exact Or.inl rfl | refine And.intro ?_ ?_) rfl rfl ?_))) | (refine And.intro (show (0 : Int) ≤ _ by omega) (And.intro (show _ < (_ : Int) by omega) ?_)) | (refine Or.inl (Exists.intro 14 (And.intro hk ?_))) | (refine retE ?_; (show _ = _); simp only [insL, threeF, memL, pairL, singL, testL, hk, ne_eq, reduceIte, Int.reduceEq, not_false_eq_true, not_true_eq_false, List.nil_append, List.append_nil]; try rfl) | (intro _))
set_option maxHeartbeats 4000000 in
set_option maxRecDepth 100000 in
theorem rins_15 (o : VO) (hk : o.kind = 15) (hn : 0 ≤ o.n ∧ o.n ≤ 4294967295) (hv : vnum o.kind o.n) : PureF gT 23 [voP o] (.sl 11 (insP (insL o))) := by
  refine Spec.enter gTok P23 100 Tryd.func23 rfl (by kernel_rfl) ?_
  repeat' ((conv => whnf); first | (refine (And.intro (fun _ => ?_) (fun _ => ?_) : (_ → _) ∧ (_ → _)) <;> (first | (exfalso; first | contradiction | omega) | skip)) | refine Or.inl (And.intro (by first | exact inR_i64 (by omega) | exact inR_u32 (by omega) | exact inR_u64 (by omega) | exact inR_u8 (by omega)) ?_) | (refine And.intro (show (_ : Int) ≠ 0 by omega) (Or.inl (And.intro (show (0 : Int) ≤ _ by omega) (And.intro (show (0 : Int) < _ by omega) ?_)))) | (refine And.intro (show (_ : Int) ≠ 0 by omega) (Or.inl (And.intro (show (0 : Int) ≤ _ by omega) (And.intro (by first | exact (show (_ : Int) ≤ 9223372036854775807 by omega) | exact (show (_ : Int) ≤ 4294967295 by omega)) (And.intro (show (0 : Int) < _ by omega) ?_))))) | (refine Exists.intro [] (And.intro no_rl ((rthree_pure _ _ _ _).use (by repeat' first | exact trivial | exact rfl | exact Iff.rfl | exact Or.inl rfl | refine And.intro ?_ ?_) rfl rfl ?_))) | (refine Exists.intro [] (And.intro no_rl ((rimm_pure _ _ _).use (by repeat' first | exact trivial | exact rfl | exact Iff.rfl | exact Or.inl rfl | refine And.intro ?_ ?_) rfl rfl ?_))) | (refine And.intro (show (0 : Int) ≤ _ by omega) (And.intro (show _ < (_ : Int) by omega) ?_)) | (refine Or.inl (Exists.intro 15 (And.intro hk ?_))) | (refine retE ?_; (show _ = _); simp only [insL, threeF, memL, pairL, singL, testL, hk, ne_eq, reduceIte, Int.reduceEq, not_false_eq_true, not_true_eq_false, List.nil_append, List.append_nil]; try rfl) | (intro _))
set_option maxHeartbeats 4000000 in
set_option maxRecDepth 100000 in
theorem rins_16 (o : VO) (hk : o.kind = 16) (hn : 0 ≤ o.n ∧ o.n ≤ 4294967295) (hv : vnum o.kind o.n) : PureF gT 23 [voP o] (.sl 11 (insP (insL o))) := by
  refine Spec.enter gTok P23 100 Tryd.func23 rfl (by kernel_rfl) ?_
  repeat' ((conv => whnf); first | (refine (And.intro (fun _ => ?_) (fun _ => ?_) : (_ → _) ∧ (_ → _)) <;> (first | (exfalso; first | contradiction | omega) | skip)) | refine Or.inl (And.intro (by first | exact inR_i64 (by omega) | exact inR_u32 (by omega) | exact inR_u64 (by omega) | exact inR_u8 (by omega)) ?_) | (refine And.intro (show (_ : Int) ≠ 0 by omega) (Or.inl (And.intro (show (0 : Int) ≤ _ by omega) (And.intro (show (0 : Int) < _ by omega) ?_)))) | (refine And.intro (show (_ : Int) ≠ 0 by omega) (Or.inl (And.intro (show (0 : Int) ≤ _ by omega) (And.intro (by first | exact (show (_ : Int) ≤ 9223372036854775807 by omega) | exact (show (_ : Int) ≤ 4294967295 by omega)) (And.intro (show (0 : Int) < _ by omega) ?_))))) | (refine Exists.intro [] (And.intro no_rl ((rthree_pure _ _ _ _).use (by repeat' first | exact trivial | exact rfl | exact Iff.rfl | exact Or.inl rfl | refine And.intro ?_ ?_) rfl rfl ?_))) | (refine Exists.intro [] (And.intro no_rl ((rimm_pure _ _ _).use (by repeat' first | exact trivial | exact rfl | exact Iff.rfl | exact Or.inl rfl | refine And.intro ?_ ?_) rfl rfl ?_))) | (refine Exists.intro [] (And.intro no_rl ((rsing_16 o hk hn).use (by repeat' first | exact trivial | exact rfl | exact Iff.rfl | exact Or.inl rfl | refine And.intro ?_ ?_) rfl rfl ?_))) | (refine And.intro (show (0 : Int) ≤ _ by omega) (And.intro (show _ < (_ : Int) by omega) ?_)) | (refine Or.inl (Exists.intro 16 (And.intro hk ?_))) | (refine retE ?_; (show _ = _); simp only [insL, threeF, memL, pairL, singL, testL, hk, ne_eq, reduceIte, Int.reduceEq, not_false_eq_true, not_true_eq_false, List.nil_append, List.append_nil]; try rfl) | (intro _))
set_option maxHeartbeats 4000000 in
set_option maxRecDepth 100000 in
theorem rins_17 (o : VO) (hk : o.kind = 17) (hn : 0 ≤ o.n ∧ o.n ≤ 4294967295) (hv : vnum o.kind o.n) : PureF gT 23 [voP o] (.sl 11 (insP (insL o))) := by
  refine Spec.enter gTok P23 100 Tryd.func23 rfl (by kernel_rfl) ?_
  repeat' ((conv => whnf); first | (refine (And.intro (fun _ => ?_) (fun _ => ?_) : (_ → _) ∧ (_ → _)) <;> (first | (exfalso; first | contradiction | omega) | skip)) | refine Or.inl (And.intro (by first | exact inR_i64 (by omega) | exact inR_u32 (by omega) | exact inR_u64 (by omega) | exact inR_u8 (by omega)) ?_) | (refine And.intro (show (_ : Int) ≠ 0 by omega) (Or.inl (And.intro (show (0 : Int) ≤ _ by omega) (And.intro (show (0 : Int) < _ by omega) ?_)))) | (refine And.intro (show (_ : Int) ≠ 0 by omega) (Or.inl (And.intro (show (0 : Int) ≤ _ by omega) (And.intro (by first | exact (show (_ : Int) ≤ 9223372036854775807 by omega) | exact (show (_ : Int) ≤ 4294967295 by omega)) (And.intro (show (0 : Int) < _ by omega) ?_))))) | (refine Exists.intro [] (And.intro no_rl ((rthree_pure _ _ _ _).use (by repeat' first | exact trivial | exact rfl | exact Iff.rfl | exact Or.inl rfl | refine And.intro ?_ ?_) rfl rfl ?_))) | (refine Exists.intro [] (And.intro no_rl ((rimm_pure _ _ _).use (by repeat' first | exact trivial | exact rfl | exact Iff.rfl | exact Or.inl rfl | refine And.intro ?_ ?_) rfl rfl ?_))) | (refine Exists.intro [] (And.intro no_rl ((rsing_17 o hk hn).use (by repeat' first | exact trivial | exact rfl | exact Iff.rfl | exact Or.inl rfl | refine And.intro ?_ ?_) rfl rfl ?_))) | (refine And.intro (show (0 : Int) ≤ _ by omega) (And.intro (show _ < (_ : Int) by omega) ?_)) | (refine Or.inl (Exists.intro 17 (And.intro hk ?_))) | (refine retE ?_; (show _ = _); simp only [insL, threeF, memL, pairL, singL, testL, hk, ne_eq, reduceIte, Int.reduceEq, not_false_eq_true, not_true_eq_false, List.nil_append, List.append_nil]; try rfl) | (intro _))
set_option maxHeartbeats 4000000 in
set_option maxRecDepth 100000 in
theorem rins_18 (o : VO) (hk : o.kind = 18) (hn : 0 ≤ o.n ∧ o.n ≤ 4294967295) (hv : vnum o.kind o.n) : PureF gT 23 [voP o] (.sl 11 (insP (insL o))) := by
  refine Spec.enter gTok P23 100 Tryd.func23 rfl (by kernel_rfl) ?_
  repeat' ((conv => whnf); first | (refine (And.intro (fun _ => ?_) (fun _ => ?_) : (_ → _) ∧ (_ → _)) <;> (first | (exfalso; first | contradiction | omega) | skip)) | refine Or.inl (And.intro (by first | exact inR_i64 (by omega) | exact inR_u32 (by omega) | exact inR_u64 (by omega) | exact inR_u8 (by omega)) ?_) | (refine And.intro (show (_ : Int) ≠ 0 by omega) (Or.inl (And.intro (show (0 : Int) ≤ _ by omega) (And.intro (show (0 : Int) < _ by omega) ?_)))) | (refine And.intro (show (_ : Int) ≠ 0 by omega) (Or.inl (And.intro (show (0 : Int) ≤ _ by omega) (And.intro (by first | exact (show (_ : Int) ≤ 9223372036854775807 by omega) | exact (show (_ : Int) ≤ 4294967295 by omega)) (And.intro (show (0 : Int) < _ by omega) ?_))))) | (refine Exists.intro [] (And.intro no_rl ((rthree_pure _ _ _ _).use (by repeat' first | exact trivial | exact rfl | exact Iff.rfl | exact Or.inl rfl | refine And.intro ?_ ?_) rfl rfl ?_))) | (refine Exists.intro [] (And.intro no_rl ((rimm_pure _ _ _).use (by repeat' first | exact trivial | exact rfl | exact Iff.rfl | exact Or.inl rfl | refine And.intro ?_ ?_) rfl rfl ?_))) | (refine Exists.intro [] (And.intro no_rl ((rsing_18 o hk hn).use (by repeat' first | exact trivial | exact rfl | exact Iff.rfl | exact Or.inl rfl | refine And.intro ?_ ?_) rfl rfl ?_))) | (refine And.intro (show (0 : Int) ≤ _ by omega) (And.intro (show _ < (_ : Int) by omega) ?_)) | (refine Or.inl (Exists.intro 18 (And.intro hk ?_))) | (refine retE ?_; (show _ = _); simp only [insL, threeF, memL, pairL, singL, testL, hk, ne_eq, reduceIte, Int.reduceEq, not_false_eq_true, not_true_eq_false, List.nil_append, List.append_nil]; try rfl) | (intro _))
set_option maxHeartbeats 4000000 in
set_option maxRecDepth 100000 in
theorem rins_19 (o : VO) (hk : o.kind = 19) (hn : 0 ≤ o.n ∧ o.n ≤ 4294967295) (hv : vnum o.kind o.n) : PureF gT 23 [voP o] (.sl 11 (insP (insL o))) := by
  refine Spec.enter gTok P23 100 Tryd.func23 rfl (by kernel_rfl) ?_
  repeat' ((conv => whnf); first | (refine (And.intro (fun _ => ?_) (fun _ => ?_) : (_ → _) ∧ (_ → _)) <;> (first | (exfalso; first | contradiction | omega) | skip)) | refine Or.inl (And.intro (by first | exact inR_i64 (by omega) | exact inR_u32 (by omega) | exact inR_u64 (by omega) | exact inR_u8 (by omega)) ?_) | (refine And.intro (show (_ : Int) ≠ 0 by omega) (Or.inl (And.intro (show (0 : Int) ≤ _ by omega) (And.intro (show (0 : Int) < _ by omega) ?_)))) | (refine And.intro (show (_ : Int) ≠ 0 by omega) (Or.inl (And.intro (show (0 : Int) ≤ _ by omega) (And.intro (by first | exact (show (_ : Int) ≤ 9223372036854775807 by omega) | exact (show (_ : Int) ≤ 4294967295 by omega)) (And.intro (show (0 : Int) < _ by omega) ?_))))) | (refine Exists.intro [] (And.intro no_rl ((rthree_pure _ _ _ _).use (by repeat' first | exact trivial | exact rfl | exact Iff.rfl | exact Or.inl rfl | refine And.intro ?_ ?_) rfl rfl ?_))) | (refine Exists.intro [] (And.intro no_rl ((rimm_pure _ _ _).use (by repeat' first | exact trivial | exact rfl | exact Iff.rfl | exact Or.inl rfl | refine And.intro ?_ ?_) rfl rfl ?_))) | (refine Exists.intro [] (And.intro no_rl ((rsing_19 o hk hn).use (by repeat' first | exact trivial | exact rfl | exact Iff.rfl | exact Or.inl rfl | refine And.intro ?_ ?_) rfl rfl ?_))) | (refine And.intro (show (0 : Int) ≤ _ by omega) (And.intro (show _ < (_ : Int) by omega) ?_)) | (refine Or.inl (Exists.intro 19 (And.intro hk ?_))) | (refine retE ?_; (show _ = _); simp only [insL, threeF, memL, pairL, singL, testL, hk, ne_eq, reduceIte, Int.reduceEq, not_false_eq_true, not_true_eq_false, List.nil_append, List.append_nil]; try rfl) | (intro _))
set_option maxHeartbeats 4000000 in
set_option maxRecDepth 100000 in
theorem rins_20 (o : VO) (hk : o.kind = 20) (hn : 0 ≤ o.n ∧ o.n ≤ 4294967295) (hv : vnum o.kind o.n) : PureF gT 23 [voP o] (.sl 11 (insP (insL o))) := by
  refine Spec.enter gTok P23 100 Tryd.func23 rfl (by kernel_rfl) ?_
  repeat' ((conv => whnf); first | (refine (And.intro (fun _ => ?_) (fun _ => ?_) : (_ → _) ∧ (_ → _)) <;> (first | (exfalso; first | contradiction | omega) | skip)) | refine Or.inl (And.intro (by first | exact inR_i64 (by omega) | exact inR_u32 (by omega) | exact inR_u64 (by omega) | exact inR_u8 (by omega)) ?_) | (refine And.intro (show (_ : Int) ≠ 0 by omega) (Or.inl (And.intro (show (0 : Int) ≤ _ by omega) (And.intro (show (0 : Int) < _ by omega) ?_)))) | (refine And.intro (show (_ : Int) ≠ 0 by omega) (Or.inl (And.intro (show (0 : Int) ≤ _ by omega) (And.intro (by first | exact (show (_ : Int) ≤ 9223372036854775807 by omega) | exact (show (_ : Int) ≤ 4294967295 by omega)) (And.intro (show (0 : Int) < _ by omega) ?_))))) | (refine Exists.intro [] (And.intro no_rl ((rthree_pure _ _ _ _).use (by repeat' first | exact trivial | exact rfl | exact Iff.rfl | exact Or.inl rfl | refine And.intro ?_ ?_) rfl rfl ?_))) | (refine Exists.intro [] (And.intro no_rl ((rimm_pure _ _ _).use (by repeat' first | exact trivial | exact rfl | exact Iff.rfl | exact Or.inl rfl | refine And.intro ?_ ?_) rfl rfl ?_))) | (refine Exists.intro [] (And.intro no_rl ((rsing_20 o hk hn).use (by repeat' first | exact trivial | exact rfl | exact Iff.rfl | exact Or.inl rfl | refine And.intro ?_ ?_) rfl rfl ?_))) | (refine And.intro (show (0 : Int) ≤ _ by omega) (And.intro (show _ < (_ : Int) by omega) ?_)) | (refine Or.inl (Exists.intro 20 (And.intro hk ?_))) | (refine retE ?_; (show _ = _); simp only [insL, threeF, memL, pairL, singL, testL, hk, ne_eq, reduceIte, Int.reduceEq, not_false_eq_true, not_true_eq_false, List.nil_append, List.append_nil]; try rfl) | (intro _))
set_option maxHeartbeats 4000000 in
set_option maxRecDepth 100000 in
theorem rins_21 (o : VO) (hk : o.kind = 21) (hn : 0 ≤ o.n ∧ o.n ≤ 4294967295) (hv : vnum o.kind o.n) : PureF gT 23 [voP o] (.sl 11 (insP (insL o))) := by
  refine Spec.enter gTok P23 100 Tryd.func23 rfl (by kernel_rfl) ?_
  repeat' ((conv => whnf); first | (refine (And.intro (fun _ => ?_) (fun _ => ?_) : (_ → _) ∧ (_ → _)) <;> (first | (exfalso; first | contradiction | omega) | skip)) | refine Or.inl (And.intro (by first | exact inR_i64 (by omega) | exact inR_u32 (by omega) | exact inR_u64 (by omega) | exact inR_u8 (by omega)) ?_) | (refine And.intro (show (_ : Int) ≠ 0 by omega) (Or.inl (And.intro (show (0 : Int) ≤ _ by omega) (And.intro (show (0 : Int) < _ by omega) ?_)))) | (refine And.intro (show (_ : Int) ≠ 0 by omega) (Or.inl (And.intro (show (0 : Int) ≤ _ by omega) (And.intro (by first | exact (show (_ : Int) ≤ 9223372036854775807 by omega) | exact (show (_ : Int) ≤ 4294967295 by omega)) (And.intro (show (0 : Int) < _ by omega) ?_))))) | (refine Exists.intro [] (And.intro no_rl ((rthree_pure _ _ _ _).use (by repeat' first | exact trivial | exact rfl | exact Iff.rfl | exact Or.inl rfl | refine And.intro ?_ ?_) rfl rfl ?_))) | (refine Exists.intro [] (And.intro no_rl ((rimm_pure _ _ _).use (by repeat' first | exact trivial | exact rfl | exact Iff.rfl | exact Or.inl rfl | refine And.intro ?_ ?_) rfl rfl ?_))) | (refine And.intro (show (0 : Int) ≤ _ by omega) (And.intro (show _ < (_ : Int) by omega) ?_)) | (refine Or.inl (Exists.intro 21 (And.intro hk ?_))) | (refine Exists.intro [] (And.intro no_rl (Spec.enter gTok P60 100 Tryd.func60 rfl (by kernel_rfl) ?_))) | (refine retE ?_; (show _ = _); simp only [insL, threeF, memL, pairL, singL, testL, hk, ne_eq, reduceIte, Int.reduceEq, not_false_eq_true, not_true_eq_false, List.nil_append, List.append_nil]; try rfl) | (refine Exists.intro _ (And.intro (PLe.refl _) ?_)) | (intro _))
set_option maxHeartbeats 4000000 in
set_option maxRecDepth 100000 in
theorem rins_22 (o : VO) (hk : o.kind = 22) (hn : 0 ≤ o.n ∧ o.n ≤ 4294967295) (hv : vnum o.kind o.n) : PureF gT 23 [voP o] (.sl 11 (insP (insL o))) := by
  refine Spec.enter gTok P23 100 Tryd.func23 rfl (by kernel_rfl) ?_
  repeat' ((conv => whnf); first | (refine (And.intro (fun _ => ?_) (fun _ => ?_) : (_ → _) ∧ (_ → _)) <;> (first | (exfalso; first | contradiction | omega) | skip)) | refine Or.inl (And.intro (by first | exact inR_i64 (by omega) | exact inR_u32 (by omega) | exact inR_u64 (by omega) | exact inR_u8 (by omega)) ?_) | (refine And.intro (show (_ : Int) ≠ 0 by omega) (Or.inl (And.intro (show (0 : Int) ≤ _ by omega) (And.intro (show (0 : Int) < _ by omega) ?_)))) | (refine And.intro (show (_ : Int) ≠ 0 by omega) (Or.inl (And.intro (show (0 : Int) ≤ _ by omega) (And.intro (by first | exact (show (_ : Int) ≤ 9223372036854775807 by omega) | exact (show (_ : Int) ≤ 4294967295 by omega)) (And.intro (show (0 : Int) < _ by omega) ?_))))) | (refine Exists.intro [] (And.intro no_rl ((rthree_pure _ _ _ _).use (by repeat' first | exact trivial | exact rfl | exact Iff.rfl | exact Or.inl rfl | refine And.intro ?_ ?_) rfl rfl ?_))) | (refine Exists.intro [] (And.intro no_rl ((rimm_pure _ _ _).use (by repeat' first | exact trivial | exact rfl | exact Iff.rfl | exact Or.inl rfl | refine And.intro ?_ ?_) rfl rfl ?_))) | (refine And.intro (show (0 : Int) ≤ _ by omega) (And.intro (show _ < (_ : Int) by omega) ?_)) | (refine Or.inl (Exists.intro 22 (And.intro hk ?_))) | (refine Exists.intro [] (And.intro no_rl (Spec.enter gTok P60 100 Tryd.func60 rfl (by kernel_rfl) ?_))) | (refine retE ?_; (show _ = _); simp only [insL, threeF, memL, pairL, singL, testL, hk, ne_eq, reduceIte, Int.reduceEq, not_false_eq_true, not_true_eq_false, List.nil_append, List.append_nil]; try rfl) | (refine Exists.intro _ (And.intro (PLe.refl _) ?_)) | (intro _))
set_option maxHeartbeats 4000000 in
set_option maxRecDepth 100000 in
theorem rins_23 (o : VO) (hk : o.kind = 23) (hn : 0 ≤ o.n ∧ o.n ≤ 4294967295) (hv : vnum o.kind o.n) : PureF gT 23 [voP o] (.sl 11 (insP (insL o))) := by
  refine Spec.enter gTok P23 100 Tryd.func23 rfl (by kernel_rfl) ?_
  repeat' ((conv => whnf); first | (refine (And.intro (fun _ => ?_) (fun _ => ?_) : (_ → _) ∧ (_ → _)) <;> (first | (exfalso; first | contradiction | omega) | skip)) | refine Or.inl (And.intro (by first | exact inR_i64 (by omega) | exact inR_u32 (by omega) | exact inR_u64 (by omega) | exact inR_u8 (by omega)) ?_) | (refine And.intro (show (_ : Int) ≠ 0 by omega) (Or.inl (And.intro (show (0 : Int) ≤ _ by omega) (And.intro (show (0 : Int) < _ by omega) ?_)))) | (refine And.intro (show (_ : Int) ≠ 0 by omega) (Or.inl (And.intro (show (0 : Int) ≤ _ by omega) (And.intro (by first | exact (show (_ : Int) ≤ 9223372036854775807 by omega) | exact (show (_ : Int) ≤ 4294967295 by omega)) (And.intro (show (0 : Int) < _ by omega) ?_))))) | (refine Exists.intro [] (And.intro no_rl ((rthree_pure _ _ _ _).use (by repeat' first | exact trivial | exact rfl | exact Iff.rfl | exact Or.inl rfl | refine And.intro ?_ ?_) rfl rfl ?_))) | (refine Exists.intro [] (And.intro no_rl ((rimm_pure _ _ _).use (by repeat' first | exact trivial | exact rfl | exact Iff.rfl | exact Or.inl rfl | refine And.intro ?_ ?_) rfl rfl ?_))) | (refine Exists.intro [] (And.intro no_rl ((rpair_23 o hk).use (by repeat' first | exact trivial | exact rfl | exact Iff.rfl | exact Or.inl rfl | refine And.intro ?_ ?_) rfl rfl ?_))) | (refine And.intro (show (0 : Int) ≤ _ by omega) (And.intro (show _ < (_ : Int) by omega) ?_)) | (refine Or.inl (Exists.intro 23 (And.intro hk ?_))) | (refine retE ?_; (show _ = _); simp only [insL, threeF, memL, pairL, singL, testL, hk, ne_eq, reduceIte, Int.reduceEq, not_false_eq_true, not_true_eq_false, List.nil_append, List.append_nil]; try rfl) | (intro _))
set_option maxHeartbeats 4000000 in
set_option maxRecDepth 100000 in
theorem rins_24 (o : VO) (hk : o.kind = 24) (hn : 0 ≤ o.n ∧ o.n ≤ 4294967295) (hv : vnum o.kind o.n) : PureF gT 23 [voP o] (.sl 11 (insP (insL o))) := by
  refine Spec.enter gTok P23 100 Tryd.func23 rfl (by kernel_rfl) ?_
  repeat' ((conv => whnf); first | (refine (And.intro (fun _ => ?_) (fun _ => ?_) : (_ → _) ∧ (_ → _)) <;> (first | (exfalso; first | contradiction | omega) | skip)) | refine Or.inl (And.intro (by first | exact inR_i64 (by omega) | exact inR_u32 (by omega) | exact inR_u64 (by omega) | exact inR_u8 (by omega)) ?_) | (refine And.intro (show (_ : Int) ≠ 0 by omega) (Or.inl (And.intro (show (0 : Int) ≤ _ by omega) (And.intro (show (0 : Int) < _ by omega) ?_)))) | (refine And.intro (show (_ : Int) ≠ 0 by omega) (Or.inl (And.intro (show (0 : Int) ≤ _ by omega) (And.intro (by first | exact (show (_ : Int) ≤ 9223372036854775807 by omega) | exact (show (_ : Int) ≤ 4294967295 by omega)) (And.intro (show (0 : Int) < _ by omega) ?_))))) | (refine Exists.intro [] (And.intro no_rl ((rthree_pure _ _ _ _).use (by repeat' first | exact trivial | exact rfl | exact Iff.rfl | exact Or.inl rfl | refine And.intro ?_ ?_) rfl rfl ?_))) | (refine Exists.intro [] (And.intro no_rl ((rimm_pure _ _ _).use (by repeat' first | exact trivial | exact rfl | exact Iff.rfl | exact Or.inl rfl | refine And.intro ?_ ?_) rfl rfl ?_))) | (refine Exists.intro [] (And.intro no_rl ((rpair_24 o hk).use (by repeat' first | exact trivial | exact rfl | exact Iff.rfl | exact Or.inl rfl | refine And.intro ?_ ?_) rfl rfl ?_))) | (refine And.intro (show (0 : Int) ≤ _ by omega) (And.intro (show _ < (_ : Int) by omega) ?_)) | (refine Or.inl (Exists.intro 24 (And.intro hk ?_))) | (refine retE ?_; (show _ = _); simp only [insL, threeF, memL, pairL, singL, testL, hk, ne_eq, reduceIte, Int.reduceEq, not_false_eq_true, not_true_eq_false, List.nil_append, List.append_nil]; try rfl) | (intro _))
set_option maxHeartbeats 4000000 in
set_option maxRecDepth 100000 in
theorem rins_25 (o : VO) (hk : o.kind = 25) (hn : 0 ≤ o.n ∧ o.n ≤ 4294967295) (hv : vnum o.kind o.n) : PureF gT 23 [voP o] (.sl 11 (insP (insL o))) := by
  refine Spec.enter gTok P23 100 Tryd.func23 rfl (by kernel_rfl) ?_
  repeat' ((conv => whnf); first | (refine (And.intro (fun _ => ?_) (fun _ => ?_) : (_ → _) ∧ (_ → _)) <;> (first | (exfalso; first | contradiction | omega) | skip)) | refine Or.inl (And.intro (by first | exact inR_i64 (by omega) | exact inR_u32 (by omega) | exact inR_u64 (by omega) | exact inR_u8 (by omega)) ?_) | (refine And.intro (show (_ : Int) ≠ 0 by omega) (Or.inl (And.intro (show (0 : Int) ≤ _ by omega) (And.intro (show (0 : Int) < _ by omega) ?_)))) | (refine And.intro (show (_ : Int) ≠ 0 by omega) (Or.inl (And.intro (show (0 : Int) ≤ _ by omega) (And.intro (by first | exact (show (_ : Int) ≤ 9223372036854775807 by omega) | exact (show (_ : Int) ≤ 4294967295 by omega)) (And.intro (show (0 : Int) < _ by omega) ?_))))) | (refine Exists.intro [] (And.intro no_rl ((rthree_pure _ _ _ _).use (by repeat' first | exact trivial | exact rfl | exact Iff.rfl | exact Or.inl rfl | refine And.intro ?_ ?_) rfl rfl ?_))) | (refine Exists.intro [] (And.intro no_rl ((rimm_pure _ _ _).use (by repeat' first | exact trivial | exact rfl | exact Iff.rfl | exact Or.inl rfl | refine And.intro ?_ ?_) rfl rfl ?_))) | (refine Exists.intro [] (And.intro no_rl ((rpair_25 o hk).use (by repeat' first | exact trivial | exact rfl | exact Iff.rfl | exact Or.inl rfl | refine And.intro ?_ ?_) rfl rfl ?_))) | (refine And.intro (show (0 : Int) ≤ _ by omega) (And.intro (show _ < (_ : Int) by omega) ?_)) | (refine Or.inl (Exists.intro 25 (And.intro hk ?_))) | (refine retE ?_; (show _ = _); simp only [insL, threeF, memL, pairL, singL, testL, hk, ne_eq, reduceIte, Int.reduceEq, not_false_eq_true, not_true_eq_false, List.nil_append, List.append_nil]; try rfl) | (intro _))
set_option maxHeartbeats 4000000 in
set_option maxRecDepth 100000 in
theorem rins_26 (o : VO) (hk : o.kind = 26) (hn : 0 ≤ o.n ∧ o.n ≤ 4294967295) (hv : vnum o.kind o.n) : PureF gT 23 [voP o] (.sl 11 (insP (insL o))) := by
  refine Spec.enter gTok P23 100 Tryd.func23 rfl (by kernel_rfl) ?_
  repeat' ((conv => whnf); first | (refine (And.intro (fun _ => ?_) (fun _ => ?_) : (_ → _) ∧ (_ → _)) <;> (first | (exfalso; first | contradiction | omega) | skip)) | refine Or.inl (And.intro (by first | exact inR_i64 (by omega) | exact inR_u32 (by omega) | exact inR_u64 (by omega) | exact inR_u8 (by omega)) ?_) | (refine And.intro (show (_ : Int) ≠ 0 by omega) (Or.inl (And.intro (show (0 : Int) ≤ _ by omega) (And.intro (show (0 : Int) < _ by omega) ?_)))) | (refine And.intro (show (_ : Int) ≠ 0 by omega) (Or.inl (And.intro (show (0 : Int) ≤ _ by omega) (And.intro (by first | exact (show (_ : Int) ≤ 9223372036854775807 by omega) | exact (show (_ : Int) ≤ 4294967295 by omega)) (And.intro (show (0 : Int) < _ by omega) ?_))))) | (refine Exists.intro [] (And.intro no_rl ((rthree_pure _ _ _ _).use (by repeat' first | exact trivial | exact rfl | exact Iff.rfl | exact Or.inl rfl | refine And.intro ?_ ?_) rfl rfl ?_))) | (refine Exists.intro [] (And.intro no_rl ((rimm_pure _ _ _).use (by repeat' first | exact trivial | exact rfl | exact Iff.rfl | exact Or.inl rfl | refine And.intro ?_ ?_) rfl rfl ?_))) | (refine And.intro (show (0 : Int) ≤ _ by omega) (And.intro (show _ < (_ : Int) by omega) ?_)) | (refine Or.inl (Exists.intro 26 (And.intro hk ?_))) | (refine retE ?_; (show _ = _); simp only [insL, threeF, memL, pairL, singL, testL, hk, ne_eq, reduceIte, Int.reduceEq, not_false_eq_true, not_true_eq_false, List.nil_append, List.append_nil]; try rfl) | (intro _))
set_option maxHeartbeats 4000000 in
set_option maxRecDepth 100000 in
theorem rins_27 (o : VO) (hk : o.kind = 27) (hn : 0 ≤ o.n ∧ o.n ≤ 4294967295) (hv : vnum o.kind o.n) : PureF gT 23 [voP o] (.sl 11 (insP (insL o))) := by
  refine Spec.enter gTok P23 100 Tryd.func23 rfl (by kernel_rfl) ?_
  repeat' ((conv => whnf); first | (refine (And.intro (fun _ => ?_) (fun _ => ?_) : (_ → _) ∧ (_ → _)) <;> (first | (exfalso; first | contradiction | omega) | skip)) | refine Or.inl (And.intro (by first | exact inR_i64 (by omega) | exact inR_u32 (by omega) | exact inR_u64 (by omega) | exact inR_u8 (by omega)) ?_) | (refine And.intro (show (_ : Int) ≠ 0 by omega) (Or.inl (And.intro (show (0 : Int) ≤ _ by omega) (And.intro (show (0 : Int) < _ by omega) ?_)))) | (refine And.intro (show (_ : Int) ≠ 0 by omega) (Or.inl (And.intro (show (0 : Int) ≤ _ by omega) (And.intro (by first | exact (show (_ : Int) ≤ 9223372036854775807 by omega) | exact (show (_ : Int) ≤ 4294967295 by omega)) (And.intro (show (0 : Int) < _ by omega) ?_))))) | (refine Exists.intro [] (And.intro no_rl ((rthree_pure _ _ _ _).use (by repeat' first | exact trivial | exact rfl | exact Iff.rfl | exact Or.inl rfl | refine And.intro ?_ ?_) rfl rfl ?_))) | (refine Exists.intro [] (And.intro no_rl ((rimm_pure _ _ _).use (by repeat' first | exact trivial | exact rfl | exact Iff.rfl | exact Or.inl rfl | refine And.intro ?_ ?_) rfl rfl ?_))) | (refine Exists.intro [] (And.intro no_rl ((rsing_27 o hk hn).use (by repeat' first | exact trivial | exact rfl | exact Iff.rfl | exact Or.inl rfl | refine And.intro ?_ ?_) rfl rfl ?_))) | (refine And.intro (show (0 : Int) ≤ _ by omega) (And.intro (show _ < (_ : Int) by omega) ?_)) | (refine Or.inl (Exists.intro 27 (And.intro hk ?_))) | (refine retE ?_; (show _ = _); simp only [insL, threeF, memL, pairL, singL, testL, hk, ne_eq, reduceIte, Int.reduceEq, not_false_eq_true, not_true_eq_false, List.nil_append, List.append_nil]; try rfl) | (intro _))
set_option maxHeartbeats 4000000 in
set_option maxRecDepth 100000 in
theorem rins_28 (o : VO) (hk : o.kind = 28) (hn : 0 ≤ o.n ∧ o.n ≤ 4294967295) (hv : vnum o.kind o.n) : PureF gT 23 [voP o] (.sl 11 (insP (insL o))) := by
  refine Spec.enter gTok P23 100 Tryd.func23 rfl (by kernel_rfl) ?_
  repeat' ((conv => whnf); first | (refine (And.intro (fun _ => ?_) (fun _ => ?_) : (_ → _) ∧ (_ → _)) <;> (first | (exfalso; first | contradiction | omega) | skip)) | refine Or.inl (And.intro (by first | exact inR_i64 (by omega) | exact inR_u32 (by omega) | exact inR_u64 (by omega) | exact inR_u8 (by omega)) ?_) | (refine And.intro (show (_ : Int) ≠ 0 by omega) (Or.inl (And.intro (show (0 : Int) ≤ _ by omega) (And.intro (show (0 : Int) < _ by omega) ?_)))) | (refine And.intro (show (_ : Int) ≠ 0 by omega) (Or.inl (And.intro (show (0 : Int) ≤ _ by omega) (And.intro (by first | exact (show (_ : Int) ≤ 9223372036854775807 by omega) | exact (show (_ : Int) ≤ 4294967295 by omega)) (And.intro (show (0 : Int) < _ by omega) ?_))))) | (refine Exists.intro [] (And.intro no_rl ((rthree_pure _ _ _ _).use (by repeat' first | exact trivial | exact rfl | exact Iff.rfl | exact Or.inl rfl | refine And.intro ?_ ?_) rfl rfl ?_))) | (refine Exists.intro [] (And.intro no_rl ((rimm_pure _ _ _).use (by repeat' first | exact trivial | exact rfl | exact Iff.rfl | exact Or.inl rfl | refine And.intro ?_ ?_) rfl rfl ?_))) | (refine And.intro (show (0 : Int) ≤ _ by omega) (And.intro (show _ < (_ : Int) by omega) ?_)) | (refine Or.inl (Exists.intro 28 (And.intro hk ?_))) | (refine retE ?_; (show _ = _); simp only [insL, threeF, memL, pairL, singL, testL, hk, ne_eq, reduceIte, Int.reduceEq, not_false_eq_true, not_true_eq_false, List.nil_append, List.append_nil]; try rfl) | (intro _))
set_option maxHeartbeats 4000000 in
set_option maxRecDepth 100000 in
theorem rins_29 (o : VO) (hk : o.kind = 29) (hn : 0 ≤ o.n ∧ o.n ≤ 4294967295) (hv : vnum o.kind o.n) : PureF gT 23 [voP o] (.sl 11 (insP (insL o))) := by
  refine Spec.enter gTok P23 100 Tryd.func23 rfl (by kernel_rfl) ?_
  repeat' ((conv => whnf); first | (refine (And.intro (fun _ => ?_) (fun _ => ?_) : (_ → _) ∧ (_ → _)) <;> (first | (exfalso; first | contradiction | omega) | skip)) | refine Or.inl (And.intro (by first | exact inR_i64 (by omega) | exact inR_u32 (by omega) | exact inR_u64 (by omega) | exact inR_u8 (by omega)) ?_) | (refine And.intro (show (_ : Int) ≠ 0 by omega) (Or.inl (And.intro (show (0 : Int) ≤ _ by omega) (And.intro (show (0 : Int) < _ by omega) ?_)))) | (refine And.intro (show (_ : Int) ≠ 0 by omega) (Or.inl (And.intro (show (0 : Int) ≤ _ by omega) (And.intro (by first | exact (show (_ : Int) ≤ 9223372036854775807 by omega) | exact (show (_ : Int) ≤ 4294967295 by omega)) (And.intro (show (0 : Int) < _ by omega) ?_))))) | (refine Exists.intro [] (And.intro no_rl ((rthree_pure _ _ _ _).use (by repeat' first | exact trivial | exact rfl | exact Iff.rfl | exact Or.inl rfl | refine And.intro ?_ ?_) rfl rfl ?_))) | (refine Exists.intro [] (And.intro no_rl ((rimm_pure _ _ _).use (by repeat' first | exact trivial | exact rfl | exact Iff.rfl | exact Or.inl rfl | refine And.intro ?_ ?_) rfl rfl ?_))) | (refine And.intro (show (0 : Int) ≤ _ by omega) (And.intro (show _ < (_ : Int) by omega) ?_)) | (refine Or.inl (Exists.intro 29 (And.intro hk ?_))) | (refine retE ?_; (show _ = _); simp only [insL, threeF, memL, pairL, singL, testL, hk, ne_eq, reduceIte, Int.reduceEq, not_false_eq_true, not_true_eq_false, List.nil_append, List.append_nil]; try rfl) | (intro _))
set_option maxHeartbeats 4000000 in
set_option maxRecDepth 100000 in
theorem rins_30 (o : VO) (hk : o.kind = 30) (hn : 0 ≤ o.n ∧ o.n ≤ 4294967295) (hv : vnum o.kind o.n) : PureF gT 23 [voP o] (.sl 11 (insP (insL o))) := by
  refine Spec.enter gTok P23 100 Tryd.func23 rfl (by kernel_rfl) ?_
  repeat' ((conv => whnf); first | (refine (And.intro (fun _ => ?_) (fun _ => ?_) : (_ → _) ∧ (_ → _)) <;> (first | (exfalso; first | contradiction | omega) | skip)) | refine Or.inl (And.intro (by first | exact inR_i64 (by omega) | exact inR_u32 (by omega) | exact inR_u64 (by omega) | exact inR_u8 (by omega)) ?_) | (refine And.intro (show (_ : Int) ≠ 0 by omega) (Or.inl (And.intro (show (0 : Int) ≤ _ by omega) (And.intro (show (0 : Int) < _ by omega) ?_)))) | (refine And.intro (show (_ : Int) ≠ 0 by omega) (Or.inl (And.intro (show (0 : Int) ≤ _ by omega) (And.intro (by first | exact (show (_ : Int) ≤ 9223372036854775807 by omega) | exact (show (_ : Int) ≤ 4294967295 by omega)) (And.intro (show (0 : Int) < _ by omega) ?_))))) | (refine Exists.intro [] (And.intro no_rl ((rthree_pure _ _ _ _).use (by repeat' first | exact trivial | exact rfl | exact Iff.rfl | exact Or.inl rfl | refine And.intro ?_ ?_) rfl rfl ?_))) | (refine Exists.intro [] (And.intro no_rl ((rimm_pure _ _ _).use (by repeat' first | exact trivial | exact rfl | exact Iff.rfl | exact Or.inl rfl | refine And.intro ?_ ?_) rfl rfl ?_))) | (refine Exists.intro [] (And.intro no_rl ((rsing_30 o hk hn hv).use (by repeat' first | exact trivial | exact rfl | exact Iff.rfl | exact Or.inl rfl | refine And.intro ?_ ?_) rfl rfl ?_))) | (refine And.intro (show (0 : Int) ≤ _ by omega) (And.intro (show _ < (_ : Int) by omega) ?_)) | (refine Or.inl (Exists.intro 30 (And.intro hk ?_))) | (refine retE ?_; (show _ = _); simp only [insL, threeF, memL, pairL, singL, testL, hk, ne_eq, reduceIte, Int.reduceEq, not_false_eq_true, not_true_eq_false, List.nil_append, List.append_nil]; try rfl) | (intro _))
set_option maxHeartbeats 4000000 in
set_option maxRecDepth 100000 in
theorem rins_31 (o : VO) (hk : o.kind = 31) (hn : 0 ≤ o.n ∧ o.n ≤ 4294967295) (hv : vnum o.kind o.n) : PureF gT 23 [voP o] (.sl 11 (insP (insL o))) := by
  have hz : o.n = 0 := by unfold vnum at hv; omega
  refine Spec.enter gTok P23 100 Tryd.func23 rfl (by kernel_rfl) ?_
  repeat' ((conv => whnf); first | (refine (And.intro (fun _ => ?_) (fun _ => ?_) : (_ → _) ∧ (_ → _)) <;> (first | (exfalso; first | contradiction | omega) | skip)) | refine Or.inl (And.intro (by first | exact inR_i64 (by omega) | exact inR_u32 (by omega) | exact inR_u64 (by omega) | exact inR_u8 (by omega)) ?_) | (refine And.intro (show (_ : Int) ≠ 0 by omega) (Or.inl (And.intro (show (0 : Int) ≤ _ by omega) (And.intro (show (0 : Int) < _ by omega) ?_)))) | (refine And.intro (show (_ : Int) ≠ 0 by omega) (Or.inl (And.intro (show (0 : Int) ≤ _ by omega) (And.intro (by first | exact (show (_ : Int) ≤ 9223372036854775807 by omega) | exact (show (_ : Int) ≤ 4294967295 by omega)) (And.intro (show (0 : Int) < _ by omega) ?_))))) | (refine Exists.intro [] (And.intro no_rl ((rthree_pure _ _ _ _).use (by repeat' first | exact trivial | exact rfl | exact Iff.rfl | exact Or.inl rfl | refine And.intro ?_ ?_) rfl rfl ?_))) | (refine Exists.intro [] (And.intro no_rl ((rimm_pure _ _ _).use (by repeat' first | exact trivial | exact rfl | exact Iff.rfl | exact Or.inl rfl | refine And.intro ?_ ?_) rfl rfl ?_))) | (refine Exists.intro [] (And.intro no_rl ((rsing_31 o hk hz).use (by repeat' first | exact trivial | exact rfl | exact Iff.rfl | exact Or.inl rfl | refine And.intro ?_ ?_) rfl rfl ?_))) | (refine And.intro (show (0 : Int) ≤ _ by omega) (And.intro (show _ < (_ : Int) by omega) ?_)) | (refine Or.inl (Exists.intro 31 (And.intro hk ?_))) | (refine retE ?_; (show _ = _); simp only [insL, threeF, memL, pairL, singL, testL, hk, ne_eq, reduceIte, Int.reduceEq, not_false_eq_true, not_true_eq_false, List.nil_append, List.append_nil]; try rfl) | (intro _))
theorem rins_pure (o : VO) (hk : 1 ≤ o.kind ∧ o.kind ≤ 31) (hn : 0 ≤ o.n ∧ o.n ≤ 4294967295) (hv : vnum o.kind o.n) : PureF gT 23 [voP o] (.sl 11 (insP (insL o))) := by
  rcases kinds hk with h | h | h | h | h | h | h | h | h | h | h | h | h | h | h | h | h | h | h | h | h | h | h | h | h | h | h | h | h | h | h
  · exact rins_1 o h hn hv
  · exact rins_2 o h hn hv
  · exact rins_3 o h hn hv
  · exact rins_4 o h hn hv
  · exact rins_5 o h hn hv
  · exact rins_6 o h hn hv
  · exact rins_7 o h hn hv
  · exact rins_8 o h hn hv
  · exact rins_9 o h hn hv
  · exact rins_10 o h hn hv
  · exact rins_11 o h hn hv
  · exact rins_12 o h hn hv
  · exact rins_13 o h hn hv
  · exact rins_14 o h hn hv
  · exact rins_15 o h hn hv
  · exact rins_16 o h hn hv
  · exact rins_17 o h hn hv
  · exact rins_18 o h hn hv
  · exact rins_19 o h hn hv
  · exact rins_20 o h hn hv
  · exact rins_21 o h hn hv
  · exact rins_22 o h hn hv
  · exact rins_23 o h hn hv
  · exact rins_24 o h hn hv
  · exact rins_25 o h hn hv
  · exact rins_26 o h hn hv
  · exact rins_27 o h hn hv
  · exact rins_28 o h hn hv
  · exact rins_29 o h hn hv
  · exact rins_30 o h hn hv
  · exact rins_31 o h hn hv
  

end Go.Proofs.YthpkejlmelednaaDoor.Pw

/- Chapter 18 over values: the document's operations that may be; what may be done by instructions. -/
namespace Go.Proofs.YthpkejlmelednaaDoor.Pw
open Go Go.RowKit

theorem vto_bd (k : Int) (h : 1 ≤ k ∧ k ≤ 31) : 0 ≤ vto k ∧ vto k ≤ 2 := by
  rcases kinds h with rfl | rfl | rfl | rfl | rfl | rfl | rfl | rfl | rfl | rfl | rfl | rfl | rfl | rfl | rfl | rfl | rfl | rfl | rfl | rfl | rfl | rfl | rfl | rfl | rfl | rfl | rfl | rfl | rfl | rfl | rfl <;> decide
set_option maxHeartbeats 8000000 in
set_option maxRecDepth 100000 in
theorem oright_pure (o : VO) (hn : 0 ≤ o.n ∧ o.n ≤ 4294967295) : PureF gT 47 [voP o] (.bool (vright o)) := by
  by_cases hk : 1 ≤ o.kind ∧ o.kind ≤ 31
  · have hv := vto_bd o.kind hk
    have hs := rshape_pure o.kind hk
    have e : vright o ↔ ((plc 0 (vto o.kind) o.t0 ∧ plc 1 (vto o.kind) o.t1) ∧ (plc 0 (vfrom o.kind) o.f0 ∧ plc 1 (vfrom o.kind) o.f1 ∧ plc 2 (vfrom o.kind) o.f2 ∧ plc 3 (vfrom o.kind) o.f3) ∧ (vto o.kind < 2 ∨ o.t0 ≠ o.t1) ∧ vnum o.kind o.n) := ⟨fun h => h.2, fun h => ⟨hk, h⟩⟩
    refine Spec.enter gTok P47 100 Tryd.func47 rfl (by kernel_rfl) ?_
    refine ⟨[], no_rl, hs.use (by repeat' first | exact trivial | exact rfl | exact Iff.rfl | exact Or.inl rfl | refine And.intro ?_ ?_) rfl rfl ?_⟩
    obtain ⟨to, hto⟩ : ∃ to, to = vto o.kind := ⟨_, rfl⟩
    obtain ⟨fr, hfr⟩ : ∃ fr, fr = vfrom o.kind := ⟨_, rfl⟩
    rw [← hto, ← hfr] at e ⊢
    rw [← hto] at hv
    clear hfr hto hs hk
    repeat' ((conv => whnf); first | (refine (And.intro (fun _ => ?_) (fun _ => ?_) : (_ → _) ∧ (_ → _)) <;> (first | (exfalso; first | contradiction | omega) | skip)) | refine Or.inl (And.intro (by first | exact inR_i64 (by omega) | exact inR_u32 (by omega) | exact inR_u64 (by omega) | exact inR_u8 (by omega)) ?_) | (refine And.intro (show (_ : Int) ≠ 0 by omega) (Or.inl (And.intro (show (0 : Int) ≤ _ by omega) (And.intro (show (0 : Int) < _ by omega) ?_)))) | (refine And.intro (show (_ : Int) ≠ 0 by omega) (Or.inl (And.intro (show (0 : Int) ≤ _ by omega) (And.intro (by first | exact (show (_ : Int) ≤ 9223372036854775807 by omega) | exact (show (_ : Int) ≤ 4294967295 by omega)) (And.intro (show (0 : Int) < _ by omega) ?_))))) | (refine SW.rounds gTok P47 (by kernel_rfl) (N := 60) 5 ?_) | (refine retE ?_; (show ¬ vright o); rw [e]; (try simp only [Classical.not_not, wr1, wr2, wr3, wr4, wr5, wr6, wr7, wr8, wr9, wr10, wr11] at *); clear e; simp only [plc, vnum] at *; omega) | (refine retE ?_; (show _ ↔ vright o); rw [e]; (try simp only [Classical.not_not, wr1, wr2, wr3, wr4, wr5, wr6, wr7, wr8, wr9, wr10, wr11] at *); clear e; simp only [plc, vnum] at *; omega) | (refine retE ?_; (show vright o); rw [e]; (try simp only [Classical.not_not, wr1, wr2, wr3, wr4, wr5, wr6, wr7, wr8, wr9, wr10, wr11] at *); clear e; simp only [plc, vnum] at *; omega) | (refine Exists.intro [] (And.intro no_rl ((rreg_pure _ _ _).use (by repeat' first | exact trivial | exact rfl | exact Iff.rfl | exact Or.inl rfl | refine And.intro ?_ ?_) rfl rfl ?_))) | (intro _))
  · refine Spec.enter gTok P47 100 Tryd.func47 rfl (by kernel_rfl) ?_
    refine ⟨[], no_rl, (rshape_no o.kind hk).use (by repeat' first | exact trivial | exact rfl | exact Iff.rfl | exact Or.inl rfl | refine And.intro ?_ ?_) rfl rfl ?_⟩
    repeat' ((conv => whnf); first | (refine (And.intro (fun _ => ?_) (fun _ => ?_) : (_ → _) ∧ (_ → _)) <;> (first | (exfalso; first | contradiction | omega) | skip)) | refine Or.inl (And.intro (by first | exact inR_i64 (by omega) | exact inR_u32 (by omega) | exact inR_u64 (by omega) | exact inR_u8 (by omega)) ?_) | (refine And.intro (show (_ : Int) ≠ 0 by omega) (Or.inl (And.intro (show (0 : Int) ≤ _ by omega) (And.intro (show (0 : Int) < _ by omega) ?_)))) | (refine And.intro (show (_ : Int) ≠ 0 by omega) (Or.inl (And.intro (show (0 : Int) ≤ _ by omega) (And.intro (by first | exact (show (_ : Int) ≤ 9223372036854775807 by omega) | exact (show (_ : Int) ≤ 4294967295 by omega)) (And.intro (show (0 : Int) < _ by omega) ?_))))) | (refine retE ?_; exact (show ¬ vright o from fun h => hk h.1)) | (intro _))

end Go.Proofs.YthpkejlmelednaaDoor.Pw

/- Chapter 18 over values: what may be done by instructions; the document's examples. -/
namespace Go.Proofs.YthpkejlmelednaaDoor.Pw
open Go Go.RowKit

def vpair (t f : Int) : Prop := ¬ 7 < t ∧ ¬ 7 < f ∧ ¬ (0 ≤ t ∧ t = f)
theorem mem_nm (l : List Int) (x : Int) : x ∈ nm l ↔ x ∈ l ∧ x ≠ -1 := by simp [nm]
theorem vsmall_iff (o : VO) (hv : vright o) : (vright o ∧ vsmall o) ↔ (vpair o.t0 o.f0 ∧ vpair o.t0 o.f1 ∧ vpair o.t0 o.f2 ∧ vpair o.t0 o.f3) ∧ (vpair o.t1 o.f0 ∧ vpair o.t1 o.f1 ∧ vpair o.t1 o.f2 ∧ vpair o.t1 o.f3) := by
  have hv0 := hv
  obtain ⟨_, ⟨a0, a1⟩, ⟨b0, b1, b2, b3⟩, _⟩ := hv
  have g : ∀ i n r, plc i n r → -1 ≤ r := fun i n r h => by unfold plc at h; omega
  have a0 := g _ _ _ a0; have a1 := g _ _ _ a1; have b0 := g _ _ _ b0; have b1 := g _ _ _ b1; have b2 := g _ _ _ b2; have b3 := g _ _ _ b3
  refine ⟨fun ⟨_, h1, h2⟩ => ?_, fun h => ⟨hv0, ?_, ?_⟩⟩
  · have hf : ∀ x ∈ o.from_, x ≠ -1 → x < 8 := fun x hx hn => h1 x (List.mem_append_left _ ((mem_nm _ _).2 ⟨hx, hn⟩))
    have ht : ∀ x ∈ o.to, x ≠ -1 → x < 8 := fun x hx hn => h1 x (List.mem_append_right _ ((mem_nm _ _).2 ⟨hx, hn⟩))
    have hp : ∀ x ∈ o.to, x ≠ -1 → x ∉ o.from_ := fun x hx hn hf => h2 ⟨x, (mem_nm _ _).2 ⟨hx, hn⟩, (mem_nm _ _).2 ⟨hf, hn⟩⟩
    have f0 := hf o.f0 (by simp [VO.from_]); have f1 := hf o.f1 (by simp [VO.from_]); have f2 := hf o.f2 (by simp [VO.from_]); have f3 := hf o.f3 (by simp [VO.from_])
    have t0 := ht o.t0 (by simp [VO.to]); have t1 := ht o.t1 (by simp [VO.to])
    have p0 := hp o.t0 (by simp [VO.to]); have p1 := hp o.t1 (by simp [VO.to])
    simp only [VO.from_, List.mem_cons, List.not_mem_nil, or_false, not_or] at p0 p1
    unfold vpair
    omega
  · intro x hx
    simp only [List.mem_append, mem_nm, VO.from_, VO.to, List.mem_cons, List.not_mem_nil, or_false] at hx
    unfold vpair at h
    omega
  · rintro ⟨x, hx, hy⟩
    simp only [mem_nm, VO.from_, VO.to, List.mem_cons, List.not_mem_nil, or_false] at hx hy
    unfold vpair at h
    omega
set_option maxHeartbeats 8000000 in
set_option maxRecDepth 100000 in
theorem fits_pure (o : VO) (hn : 0 ≤ o.n ∧ o.n ≤ 4294967295) : PureF gT 21 [voP o] (.bool (vright o ∧ vsmall o)) := by
  refine Spec.enter gTok P21 100 Tryd.func21 rfl (by kernel_rfl) ?_
  refine ⟨[], no_rl, (oright_pure o hn).use (by repeat' first | exact trivial | exact rfl | exact Iff.rfl | exact Or.inl rfl | refine And.intro ?_ ?_) rfl rfl ?_⟩
  refine And.intro (fun h1 => ?_) (fun h1 => ?_)
  · refine retE ?_
    exact (show ¬ (vright o ∧ vsmall o) from fun h => h1 h.1)
  have e := vsmall_iff o (Classical.not_not.1 h1)
  clear h1
  repeat' ((conv => whnf); first | (refine (And.intro (fun _ => ?_) (fun _ => ?_) : (_ → _) ∧ (_ → _)) <;> (first | (exfalso; first | contradiction | omega) | skip)) | refine Or.inl (And.intro (by first | exact inR_i64 (by omega) | exact inR_u32 (by omega) | exact inR_u64 (by omega) | exact inR_u8 (by omega)) ?_) | (refine And.intro (show (_ : Int) ≠ 0 by omega) (Or.inl (And.intro (show (0 : Int) ≤ _ by omega) (And.intro (show (0 : Int) < _ by omega) ?_)))) | (refine And.intro (show (_ : Int) ≠ 0 by omega) (Or.inl (And.intro (show (0 : Int) ≤ _ by omega) (And.intro (by first | exact (show (_ : Int) ≤ 9223372036854775807 by omega) | exact (show (_ : Int) ≤ 4294967295 by omega)) (And.intro (show (0 : Int) < _ by omega) ?_))))) | (refine retE ?_; (show ¬ (vright o ∧ vsmall o)); rw [e]; clear e; unfold vpair; omega) | (refine retE ?_; (show vright o ∧ vsmall o); rw [e]; clear e; unfold vpair; omega) | (refine SW.rounds gTok P21 (by kernel_rfl) (N := 60) 5 ?_) | (intro _))

def oNum (n : Int) : VO := ⟨1, 3, -1, -1, -1, -1, -1, n⟩
theorem oNum_ok (n : Int) : vright (oNum n) ∧ vsmall (oNum n) := by
  have h : vright (oNum n) := by
    refine ⟨show (1 : Int) ≤ 1 ∧ (1 : Int) ≤ 31 by decide, ?_, ?_, .inl (show vto 1 < 2 by decide), .inl rfl⟩
    · show plc 0 (vto 1) 3 ∧ plc 1 (vto 1) (-1)
      rw [show vto 1 = 1 by decide]; unfold plc; omega
    · show plc 0 (vfrom 1) (-1) ∧ plc 1 (vfrom 1) (-1) ∧ plc 2 (vfrom 1) (-1) ∧ plc 3 (vfrom 1) (-1)
      rw [show vfrom 1 = 0 by decide]; unfold plc; omega
  refine (vsmall_iff _ h).2 ?_
  show (vpair 3 (-1) ∧ vpair 3 (-1) ∧ vpair 3 (-1) ∧ vpair 3 (-1)) ∧ (vpair (-1) (-1) ∧ vpair (-1) (-1) ∧ vpair (-1) (-1) ∧ vpair (-1) (-1))
  unfold vpair
  omega
set_option maxHeartbeats 8000000 in
set_option maxRecDepth 100000 in
theorem anchor18_pure : PureF gT 20 [] .tt := by
  have e1 : insR (oNum 256) = .tup [.sl 11 (insP [iM 60 3 3968]), .int .i64 0] := by
    rw [insR, if_pos (oNum_ok _)]
    have h1 : Rm.ofE 256 = 0 := by decide +kernel
    have h2 : Rm.ofN 256 = 3968 := by decide +kernel
    simp only [insL, oNum, threeF, memL, pairL, singL, testL, numL, h1, h2, ne_eq, reduceIte, Int.reduceEq, Int.reduceLE, not_false_eq_true, not_true_eq_false, List.nil_append, List.append_nil]
  have e2 : insR (oNum 305419896) = .tup [.sl 11 (insP [iM 48 3 22136, iM 49 3 4660]), .int .i64 0] := by
    rw [insR, if_pos (oNum_ok _)]
    have h1 : Rm.ofE 305419896 ≠ 0 := by decide +kernel
    have h2 : Rm.ofE (4294967295 - 305419896) ≠ 0 := by decide +kernel
    simp only [insL, oNum, threeF, memL, pairL, singL, testL, numL, h1, h2, ne_eq, reduceIte, Int.reduceEq, Int.reduceLE, Int.reduceDiv, Int.reduceMod, not_false_eq_true, not_true_eq_false, List.nil_append, List.append_nil]
  have i1 := insts_pure (oNum 256) (show (0 : Int) ≤ 256 ∧ (256 : Int) ≤ 4294967295 by decide)
  have i2 := insts_pure (oNum 305419896) (show (0 : Int) ≤ 305419896 ∧ (305419896 : Int) ≤ 4294967295 by decide)
  rw [e1] at i1
  rw [e2] at i2
  refine Spec.enter gTok P20 100 Tryd.func20 rfl (by kernel_rfl) ?_
  repeat' ((conv => whnf); first | (refine (And.intro (fun _ => ?_) (fun _ => ?_) : (_ → _) ∧ (_ → _)) <;> (first | (exfalso; first | contradiction | omega) | skip)) | refine Or.inl (And.intro (by first | exact inR_i64 (by omega) | exact inR_u32 (by omega) | exact inR_u64 (by omega) | exact inR_u8 (by omega)) ?_) | (refine And.intro (show (_ : Int) ≠ 0 by omega) (Or.inl (And.intro (show (0 : Int) ≤ _ by omega) (And.intro (show (0 : Int) < _ by omega) ?_)))) | (refine And.intro (show (_ : Int) ≠ 0 by omega) (Or.inl (And.intro (show (0 : Int) ≤ _ by omega) (And.intro (by first | exact (show (_ : Int) ≤ 9223372036854775807 by omega) | exact (show (_ : Int) ≤ 4294967295 by omega)) (And.intro (show (0 : Int) < _ by omega) ?_))))) | (refine SW.rounds gTok P99 (by kernel_rfl) (N := 60) 5 ?_) | (refine Exists.intro [] (And.intro no_rl (Spec.enter gTok P99 100 Tryd.func99 rfl (by kernel_rfl) ?_))) | (refine Exists.intro [] (And.intro no_rl (Spec.enter gTok P46 100 Tryd.func46 rfl (by kernel_rfl) ?_))) | (refine Exists.intro _ (And.intro (PLe.refl _) ?_)) | (intro _))
  refine ⟨[], no_rl, i1.use (by repeat' first | exact trivial | exact rfl | exact Iff.rfl | exact Or.inl rfl | refine And.intro ?_ ?_) rfl rfl ?_⟩
  repeat' ((conv => whnf); first | (refine (And.intro (fun _ => ?_) (fun _ => ?_) : (_ → _) ∧ (_ → _)) <;> (first | (exfalso; first | contradiction | omega) | skip)) | refine Or.inl (And.intro (by first | exact inR_i64 (by omega) | exact inR_u32 (by omega) | exact inR_u64 (by omega) | exact inR_u8 (by omega)) ?_) | (refine And.intro (show (_ : Int) ≠ 0 by omega) (Or.inl (And.intro (show (0 : Int) ≤ _ by omega) (And.intro (show (0 : Int) < _ by omega) ?_)))) | (refine And.intro (show (_ : Int) ≠ 0 by omega) (Or.inl (And.intro (show (0 : Int) ≤ _ by omega) (And.intro (by first | exact (show (_ : Int) ≤ 9223372036854775807 by omega) | exact (show (_ : Int) ≤ 4294967295 by omega)) (And.intro (show (0 : Int) < _ by omega) ?_))))) | (refine SW.rounds gTok P99 (by kernel_rfl) (N := 60) 5 ?_) | (refine Exists.intro [] (And.intro no_rl (Spec.enter gTok P99 100 Tryd.func99 rfl (by kernel_rfl) ?_))) | (refine Exists.intro [] (And.intro no_rl (Spec.enter gTok P46 100 Tryd.func46 rfl (by kernel_rfl) ?_))) | (refine Exists.intro _ (And.intro (PLe.refl _) ?_)) | (intro _))
  refine ⟨[], no_rl, i2.use (by repeat' first | exact trivial | exact rfl | exact Iff.rfl | exact Or.inl rfl | refine And.intro ?_ ?_) rfl rfl ?_⟩
  refine And.intro (fun _ => ?_) (fun h => absurd rfl h)
  refine And.intro (fun _ => ?_) (fun h => absurd rfl h)
  intro _
  refine And.intro (fun _ => ?_) (fun h => absurd rfl h)
  refine ⟨IN, [iM 60 3 3968], inP, rfl, by decide, by decide, fun x hx => ?_⟩
  obtain rfl : iM 60 3 3968 = x := Option.some.inj hx
  refine And.intro (fun _ => ?_) (fun h => absurd ⟨rfl, rfl, rfl, rfl, rfl, rfl, rfl, rfl, rfl, rfl, rfl, trivial⟩ h)
  intro _
  refine And.intro (fun _ => ?_) (fun h => absurd rfl h)
  refine ⟨IN, [iM 48 3 22136, iM 49 3 4660], inP, rfl, by decide, by decide, fun x hx => ?_⟩
  obtain rfl : iM 48 3 22136 = x := Option.some.inj hx
  refine And.intro (fun _ => ?_) (fun h => absurd rfl h)
  refine ⟨IN, [iM 48 3 22136, iM 49 3 4660], inP, rfl, by decide, by decide, fun x hx => ?_⟩
  obtain rfl : iM 49 3 4660 = x := Option.some.inj hx
  exact retE rfl

end Go.Proofs.YthpkejlmelednaaDoor.Pw

/- Chapter 18 over values: SelExact. -/
namespace Go.Proofs.YthpkejlmelednaaDoor.Pw
open Go Go.RowKit

theorem insL_len (o : VO) : (insL o).length ≤ 100 := by
  unfold insL
  split
  · simp
  · have := insLen o
    simp only [List.length_append]; omega
set_option maxHeartbeats 8000000 in
set_option maxRecDepth 100000 in
theorem SelExact_pure (o : VO) (hn : 0 ≤ o.n ∧ o.n ≤ 4294967295) : PureF gT 5 [voP o] .tt := by
  have hl := insL_len o
  have el : (insP (insL o)).length = (insL o).length := List.length_map ..
  have hi0 : vright o ∧ vsmall o → PureF gT 22 [voP o] (.tup [.sl 11 (insP (insL o)), .int .i64 0]) := fun hf => by have := insts_pure o hn; rwa [insR, if_pos hf] at this
  have hr0 : vright o ∧ vsmall o → PureF gT 23 [voP o] (.sl 11 (insP (insL o))) := fun hf => rins_pure o hf.1.1 hn hf.1.2.2.2.2
  generalize insL o = L at hl el hi0 hr0
  refine Spec.enter gTok P5 100 Tryd.func5 rfl (by kernel_rfl) ?_
  refine ⟨[], no_rl, anchor18_pure.use trivial rfl rfl ?_⟩
  refine ⟨[], no_rl, (fits_pure o hn).use (by repeat' first | exact trivial | exact rfl | exact Iff.rfl | exact Or.inl rfl | refine And.intro ?_ ?_) rfl rfl ?_⟩
  refine And.intro (fun h => ?_) (fun h => ?_)
  · exact retE trivial
  have hf : vright o ∧ vsmall o := Classical.not_not.1 h
  refine ⟨[], no_rl, (hi0 hf).use (by repeat' first | exact trivial | exact rfl | exact Iff.rfl | exact Or.inl rfl | refine And.intro ?_ ?_) rfl rfl ?_⟩
  refine ⟨[], no_rl, (hr0 hf).use (by repeat' first | exact trivial | exact rfl | exact Iff.rfl | exact Or.inl rfl | refine And.intro ?_ ?_) rfl rfl ?_⟩
  refine And.intro (fun h => absurd rfl h) (fun _ => ?_)
  refine fun _ => fun _ => And.intro (fun h => absurd rfl h) (fun _ => ?_)
  intro _
  refine SW.loopS gTok P5 (by kernel_rfl) (fun i : Nat => [(32, .int .i64 i)]) (fun i => L.length - i) 0 60 ?_ fun i => ?_
  · repeat' first | exact Iff.rfl | exact trivial | exact rfl | refine And.intro ?_ ?_
  refine And.intro (fun h => ?_) (fun h => ?_)
  · have h' : (i : Int) < ((insP L).length : Nat) := h
    refine ⟨IN, L, inP, rfl, show (0 : Int) ≤ (i : Int) by omega, show (i : Int) < (L.length : Int) by omega, fun x hx => ?_⟩
    have hx' : L[i]? = some x := hx
    refine ⟨IN, L, inP, rfl, show (0 : Int) ≤ (i : Int) by omega, show (i : Int) < (L.length : Int) by omega, fun y hy => ?_⟩
    have hy' : L[i]? = some y := hy
    obtain rfl : x = y := Option.some.inj (hx'.symm.trans hy')
    refine And.intro (fun h => absurd ⟨rfl, rfl, rfl, rfl, rfl, rfl, rfl, rfl, rfl, rfl, rfl, trivial⟩ h) (fun _ => ?_)
    refine .inl ⟨inR_i64 (show _ ≤ (i : Int) + 1 ∧ (i : Int) + 1 ≤ _ by omega), ⟨i + 1, show L.length - (i + 1) < L.length - i by omega, ?_⟩⟩
    repeat' first | exact Iff.rfl | exact trivial | exact rfl | refine And.intro ?_ ?_
  · exact retE trivial

end Go.Proofs.YthpkejlmelednaaDoor.Pw

/- Operations that come in to chapter 18's laws, opened; the tables. -/
namespace Go.Proofs.YthpkejlmelednaaDoor.selLaid
open Go.ChangeShapes Go.WideShapes Go.ChangeAt Go.RowKit Go.Deep

def laidList : List (String × DataW Unit) := [("remontoire/imm.factors", Rows.laid_remontoire_imm_factors), ("remontoire/vop.rows", Rows.laid_remontoire_vop_rows)]

def fuel : Nat := 3000
theorem door_met (os : Os) (args : Array Value) : laidMetH Tryd.prog laidList ((World.doorLaid Tryd.prog fuel os).forCall (fun _ _ => 0) ⟨#[], args, []⟩).memory :=
  laidMetH_of_parts3 (fuel := 8) (laidMet_of_run' 8 (by kernel_rfl) (by kernel_rfl)) (by kernel_rfl) (by kernel_rfl)

end Go.Proofs.YthpkejlmelednaaDoor.selLaid

namespace Go.Proofs.YthpkejlmelednaaDoor.Pw
open Go Go.RowKit

theorem immSel {W : World} (h : laidMetH Tryd.prog selLaid.laidList W) : ImmOk gT (In W) W :=
  immOk_laid (laid := selLaid.laidList) (by kernel_rfl) h fun x hx => by
    have hx' : x ∈ [(2, facP), (1, vrowsP)] := hx
    simp only [List.mem_cons, List.not_mem_nil, or_false] at hx'
    rcases hx' with rfl | rfl
    · exact ⟨"remontoire/imm.factors", _, 156, List.mem_cons_self, by kernel_rfl, by kernel_rfl, by kernel_rfl, nofun⟩
    · exact ⟨"remontoire/vop.rows", _, 143, List.mem_cons_of_mem _ List.mem_cons_self, by kernel_rfl, by kernel_rfl, by kernel_rfl, nofun⟩

/-- an array that comes in -/
theorem opArr {P : Program} {t e : TypeId} {S : PV → Prop} {n : Nat} (ht : P.underlying t = some (.array n e)) (he : Op P e S) (hc : P.cellsOf t = n * P.cellsOf e) : Op P t (SAgg (List.replicate n S)) := fun {H} ec w base held fuel cs x h hwt => by
  obtain ⟨xs, m, _, rfl, hl, hxl, hx⟩ := DataW.trod_array ht h
  have key : ∀ (k off : Nat), k + off = n → ∃ ys, All2S (List.replicate k S) ys ∧ IsL w (In w) (ys.flatMap PV.cells) no (cs.drop (off * P.cellsOf e)) ∧ ∀ c ∈ cs.drop (off * P.cellsOf e), c.oneCell' = true := by
    intro k
    induction k with
    | zero =>
      intro off hk
      have hge : cs.length ≤ off * P.cellsOf e := by rw [hl, hc, show off = n by omega]; exact Nat.le_refl _
      refine ⟨[], trivial, ?_, ?_⟩
      · rw [List.drop_eq_nil_of_le hge]; simp only [List.flatMap_nil, IsL]
      · rw [List.drop_eq_nil_of_le hge]; intro c hc; cases hc
    | succ k ih =>
      intro off hk
      obtain ⟨ys, h1, h2, h3⟩ := ih (off + 1) (by omega)
      have hi := hx off (by omega)
      have hlt : off < xs.length := by omega
      rw [List.getElem?_eq_getElem hlt] at hi
      obtain ⟨y, hS, _, hy, hyl, hy1⟩ := he ec w base held m _ _ hi fun n hn => hwt n (by
        simp only [DataW.weights, ht]
        exact weights_all (List.mem_map.2 ⟨xs[off], List.getElem_mem hlt, rfl⟩) hn)
      have hd : cs.drop (off * P.cellsOf e) = (cs.drop (off * P.cellsOf e)).take (P.cellsOf e) ++ cs.drop ((off + 1) * P.cellsOf e) := by
        rw [Nat.succ_mul, ← List.drop_drop, List.take_append_drop]
      refine ⟨y :: ys, ⟨hS, h1⟩, ?_, ?_⟩
      · rw [hd, List.flatMap_cons]; exact hy.append h2
      · intro c hcc
        rw [hd, List.mem_append] at hcc
        exact hcc.elim (hy1 c) (h3 c)
  obtain ⟨ys, h1, h2, h3⟩ := key n 0 rfl
  rw [Nat.zero_mul, List.drop_zero] at h2 h3
  exact ⟨.agg (ys.flatMap PV.cells), ⟨ys, h1, rfl⟩, nofun, h2, hl, h3⟩

structure VO.Ok (o : VO) : Prop where
  n : 0 ≤ o.n ∧ o.n ≤ 4294967295
theorem inR_u32s {z : Int} (h : InR .u32 z) : 0 ≤ z ∧ z ≤ 4294967295 := by unfold InR Ev.kmin Ev.kmax at h; simp only [IntKind.signed, IntKind.bits] at h; simpa using h
theorem opVO_ : Op Tryd.prog 40 (SAgg [SInt .i64, SAgg (List.replicate 2 (SInt .i64)), SAgg (List.replicate 4 (SInt .i64)), SInt .u32]) :=
  opAgg (Ss := [SInt .i64, SAgg (List.replicate 2 (SInt .i64)), SAgg (List.replicate 4 (SInt .i64)), SInt .u32]) Tryd.underlying40
    ⟨rfl, opInt Tryd.underlying3 (by kernel_rfl), (show _ = _ by kernel_rfl), opArr Tryd.underlying37 (opInt Tryd.underlying3 (by kernel_rfl)) (by kernel_rfl), (show _ = _ by kernel_rfl), opArr Tryd.underlying38 (opInt Tryd.underlying3 (by kernel_rfl)) (by kernel_rfl), (show _ = _ by kernel_rfl), opInt Tryd.underlying25 (by kernel_rfl), (show _ = _ by kernel_rfl)⟩
theorem vo_dec (x : PV) (h : SAgg [SInt .i64, SAgg (List.replicate 2 (SInt .i64)), SAgg (List.replicate 4 (SInt .i64)), SInt .u32] x) : ∃ o : VO, o.Ok ∧ x = voP o := by
  obtain ⟨xs, h, rfl⟩ := h
  obtain ⟨_, _, rfl, ⟨k, _, rfl⟩, h_1⟩ := all2_cons h
  obtain ⟨_, _, rfl, ⟨ts, ht, rfl⟩, h_2⟩ := all2_cons h_1
  obtain ⟨_, _, rfl, ⟨fs, hf, rfl⟩, h_3⟩ := all2_cons h_2
  obtain ⟨_, _, rfl, ⟨n, hn, rfl⟩, h_4⟩ := all2_cons h_3
  obtain rfl := all2_nil h_4
  obtain ⟨_, _, rfl, ⟨t0, _, rfl⟩, ht_1⟩ := all2_cons ht
  obtain ⟨_, _, rfl, ⟨t1, _, rfl⟩, ht_2⟩ := all2_cons ht_1
  obtain rfl := all2_nil ht_2
  obtain ⟨_, _, rfl, ⟨f0, _, rfl⟩, hf_1⟩ := all2_cons hf
  obtain ⟨_, _, rfl, ⟨f1, _, rfl⟩, hf_2⟩ := all2_cons hf_1
  obtain ⟨_, _, rfl, ⟨f2, _, rfl⟩, hf_3⟩ := all2_cons hf_2
  obtain ⟨_, _, rfl, ⟨f3, _, rfl⟩, hf_4⟩ := all2_cons hf_3
  obtain rfl := all2_nil hf_4
  exact ⟨⟨k, t0, t1, f0, f1, f2, f3, n⟩, ⟨inR_u32s hn⟩, rfl⟩
def SVO (x : PV) : Prop := ∃ o : VO, o.Ok ∧ x = voP o
theorem opVO : Op Tryd.prog 40 SVO := opVO_.weak vo_dec
theorem opVOs : Op Tryd.prog 48 (SLs 8 64 voP VO.Ok) :=
  opList (opSlice opVO_ 8 64 (by kernel_rfl) Tryd.underlying48 (by kernel_rfl) (by decide) (by kernel_rfl)) vo_dec

end Go.Proofs.YthpkejlmelednaaDoor.Pw

/- A struct that comes in by value, opened. -/
namespace Go.Proofs.YthpkejlmelednaaDoor.Pw
open Go Go.RowKit

theorem Op.argS {P : Program} {t : TypeId} {S : PV → Prop} (h : Op P t S) (hS : ∀ y, S y → ∃ xs, y = .agg xs) {H : Type} {ec : TypeId × Value → H} {w : World} {base : Nat} {held : Bool} {vs : Array Value} {d : DataW H} {p : List MemPlace} (ht : DataW.Trod ec P w base (fun _ => true) held t (.agg vs) d p) (hwt : ∀ n ∈ d.weights P t, n ≤ reachBytes) :
    ∃ y, S y ∧ y.Is w (In w) no (.agg vs) := by
  obtain ⟨fuel, ht⟩ := ht
  obtain ⟨y, hy, _, hi, _⟩ := h ec w base held fuel _ _ ht hwt
  refine ⟨y, hy, ?_⟩
  obtain ⟨xs, rfl⟩ := hS y hy
  simp only [PV.Is]
  exact ⟨vs, rfl, hi⟩

end Go.Proofs.YthpkejlmelednaaDoor.Pw

/- SelExact as its frame wants it. -/
namespace Go.Proofs.YthpkejlmelednaaDoor.Pw
open Go Go.RowKit

theorem opVO_agg (y : PV) (h : SVO y) : ∃ xs, y = .agg xs := by
  obtain ⟨o, _, rfl⟩ := h
  exact ⟨_, rfl⟩
theorem SelExact_pure' (x : PV) (s : SVO x) : PureF gT 5 [x] .tt := by
  obtain ⟨o, h, rfl⟩ := s
  exact SelExact_pure o h.n

end Go.Proofs.YthpkejlmelednaaDoor.Pw

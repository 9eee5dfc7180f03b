/- What this claim is proved with: no condition. -/
import Derived.Test.YtnbngokbamifbaaGreatDoorNr23
set_option linter.unusedVariables false
set_option linter.unusedSimpArgs false
namespace Go.Proofs.YtnbngokbamifbaaGreatDoor.Pw
open Go Go.RowKit
set_option maxHeartbeats 16000000 in
set_option maxRecDepth 100000 in
theorem zh (i:IN) (s:Int) (h:ae i.form=s) (hf:1<=i.form/\i.form<=100) (hi:fe i.an) (hs:17<=s/\s<=24):ah gT 180 [bX i,.int .i64 s] (.bool (aC i (cU s))):=by
 have f:=j3 i h hf
 have r1:=iM i.an hi
 have r2:=j1 i.an hi
 rcases (show s=17\/s=18\/s=19\/s=20\/s=21\/s=22\/s=23\/s=24 by omega) with rfl|rfl|rfl|rfl|rfl|rfl|rfl|rfl
 all_goals
  refine Spec.enter ar Xw 100 Tryz.func180 rfl (by kernel_rfl) ?_
  repeat' ((conv=>whnf); first|(refine (And.intro (fun _=>?_) (fun _=>?_):(_->_)/\(_->_))<;>(first|(exfalso; first|contradiction|omega)|skip))|refine Or.inl (And.intro (by first|exact ax (by omega)|exact af (by omega)|exact bV (by omega)|exact cK (by omega)) ?_)|(refine And.intro (show (_:Int)≠0 by omega) (Or.inl (And.intro (show (0:Int)<=_ by omega) (And.intro (show (0:Int) < _ by omega) ?_))))|(refine And.intro (show (_:Int)≠0 by omega) (Or.inl (And.intro (show (0:Int)<=_ by omega) (And.intro (by first|exact (show (_:Int)<=9223372036854775807 by omega)|exact (show (_:Int)<=4294967295 by omega)) (And.intro (show (0:Int) < _ by omega) ?_)))))|(refine Exists.intro [] (And.intro aT ((dK _ _ _).use (by repeat' first|exact trivial|exact rfl|exact Iff.rfl|exact Or.inl rfl|refine And.intro ?_ ?_) rfl rfl ?_)))|(refine Exists.intro [] (And.intro aT ((gN _).use (by repeat' first|exact trivial|exact rfl|exact Iff.rfl|exact Or.inl rfl|refine And.intro ?_ ?_) rfl rfl ?_)))|(refine Exists.intro [] (And.intro aT ((gO i _ ?_).use (by repeat' first|exact trivial|exact rfl|exact Iff.rfl|exact Or.inl rfl|refine And.intro ?_ ?_) rfl rfl ?_)); focus (simp; done))|(refine Exists.intro [] (And.intro aT ((fv _ _).use (by repeat' first|exact trivial|exact rfl|exact Iff.rfl|exact Or.inl rfl|refine And.intro ?_ ?_) rfl rfl ?_)))|(refine Exists.intro [] (And.intro aT ((fw _).use (by repeat' first|exact trivial|exact rfl|exact Iff.rfl|exact Or.inl rfl|refine And.intro ?_ ?_) rfl rfl ?_)))|(refine And.intro (show (_:Int)≠0 by omega) (Or.inr ?_))|(refine ao ?_; (first|show ¬ aC i (cU _)|show _↔aC i (cU _)|show aC i (cU _)); simp only[aC,ij,fu,gr,gK,gL,bM,cU,Lf,jU,h,reduceIte,Int.reduceEq,Bool.false_eq_true,or_true,true_or,or_false,false_or,false_and,and_false,true_and,and_true,not_true_eq_false,not_false_eq_true,ne_eq,Wc,false_implies,true_implies,implies_true]; (try unfold lX at *); (try unfold bM at *); omega)|(intro _))
end Go.Proofs.YtnbngokbamifbaaGreatDoor.Pw

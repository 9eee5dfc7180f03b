/- What this claim is proved with: no condition. -/
import Derived.Test.YtnbngokbamifbaaGreatDoorNr22
import Derived.Test.YtnbngokbamifbaaGreatDoorNr16
set_option maxRecDepth 100000
set_option maxHeartbeats 16000000
set_option linter.unusedVariables false
set_option linter.unusedSimpArgs false
namespace Go.Proofs.YtnbngokbamifbaaGreatDoor.Pw
open Go Go.RowKit
theorem rf:∀ n:Fin 256,bits .andNot .i64 ((n.val:Nat):Int) 16639=0/\bits .andNot .i64 ((n.val:Nat)+16384:Int) 16639=0/\bits .andNot .i64 ((n.val:Nat):Int) 33023=0/\bits .andNot .i64 ((n.val:Nat)+32768:Int) 33023=0:=by decide +kernel
theorem iM (r:Int) (h:fe r):(0 < r/\bits .andNot .i64 r 16639=0)↔(1<=r/\r<=255\/16384<=r/\r<=16639):=by
 refine⟨fun ⟨h0,h1⟩=>?_,fun hr=>⟨by omega,?_⟩⟩
 ·have:=mB 14 (by decide) (by decide) r 16639 (by decide) h0 h.2 h1
  omega
 ·rcases hr with hr|hr
  ·have:=(rf ⟨r.toNat,by omega⟩).1
   rwa [show ((r.toNat:Nat):Int)=r by omega] at this
  ·have:=(rf ⟨(r - 16384).toNat,by omega⟩).2.1
   rwa [show (((r - 16384).toNat:Nat)+16384:Int)=r by omega] at this
theorem j1 (r:Int) (h:fe r):(0 < r/\bits .andNot .i64 r 33023=0)↔(1<=r/\r<=255\/32768<=r/\r<=33023):=by
 refine⟨fun ⟨h0,h1⟩=>?_,fun hr=>⟨by omega,?_⟩⟩
 ·have:=mB 15 (by decide) (by decide) r 33023 (by decide) h0 h.2 h1
  omega
 ·rcases hr with hr|hr
  ·have:=(rf ⟨r.toNat,by omega⟩).2.2.1
   rwa [show ((r.toNat:Nat):Int)=r by omega] at this
  ·have:=(rf ⟨(r - 32768).toNat,by omega⟩).2.2.2
   rwa [show (((r - 32768).toNat:Nat)+32768:Int)=r by omega] at this
theorem UQ:∀ n:Fin 101,n.val=0\/(((n.val:Int)=1\/(n.val:Int)=2\/(n.val:Int)=3↔ae (n.val:Int)=1)/\((n.val:Int)=29->ae (n.val:Int)=6)/\((n.val:Int)=95\/(n.val:Int)=96↔ae (n.val:Int)=31)):=by decide +kernel
theorem j3 (i:IN) {s:Int} (h:ae i.form=s) (hf:1<=i.form/\i.form<=100):(i.form=1\/i.form=2\/i.form=3↔s=1)/\(i.form=29->s=6)/\(i.form=95\/i.form=96↔s=31):=by
 have:=(UQ ⟨i.form.toNat,by omega⟩).resolve_left (by show ¬ i.form.toNat=0; omega)
 rwa [show ((i.form.toNat:Nat):Int)=i.form by omega,h] at this
theorem Wc (n k:Int):n.tmod k=0↔n % k=0:=by rw[← Int.dvd_iff_tmod_eq_zero,Int.dvd_iff_emod_eq_zero]
theorem fw (n:Int):ah gT 206 [.int .i64 n] (.bool (0<=n/\n<=4095/\Rm.eG n=0)):=by
 refine Spec.enter ar P206 100 Tryz.func206 rfl (by kernel_rfl) ?_
 refine⟨fun h=>?_,fun h=>?_⟩
 ·exact ao (show ¬ (0<=n/\_) from fun k=>by have h':n < 0:=h; omega)
 refine⟨fun h2=>?_,fun h2=>?_⟩
 ·exact ao (show ¬ (0<=n/\_) from fun k=>by have h':4095 < n:=h2; omega)
 have h0:¬ n < 0:=h
 have h1:¬ 4095 < n:=h2
 refine (sW n (by omega) (by omega)).u ?_
 refine ao ?_
 show (Rm.jc n.toNat).isSome=true↔(0<=n/\n<=4095/\Rm.eG n=0)
 cases hi:Rm.jc n.toNat
 case none =>
  have:=Rm.sI n (by omega) (by omega) hi
  exact Iff.intro (fun h=>by cases h) (fun h=>by omega)
 case some x=>exact Iff.intro (fun _=>And.intro (by omega) (And.intro (by omega) (Rm.gJ n x (by omega) (by omega) hi))) (fun _=>rfl)
theorem zg (i:IN) (s:Int) (h:ae i.form=s) (hf:1<=i.form/\i.form<=100) (hi:fe i.an) (hs:10<=s/\s<=16):ah gT 204 [bX i,.int .i64 s] (.bool (aC i (cU s))):=by
 have f:=j3 i h hf
 have r1:=iM i.an hi
 have r2:=j1 i.an hi
 rcases (show s=10\/s=11\/s=12\/s=13\/s=14\/s=15\/s=16 by omega) with rfl|rfl|rfl|rfl|rfl|rfl|rfl
 all_goals
  refine Spec.enter ar P204 100 Tryz.func204 rfl (by kernel_rfl) ?_
  repeat' ((conv=>whnf); first|(refine (And.intro (fun _=>?_) (fun _=>?_):(_->_)/\(_->_))<;>(first|(exfalso; first|contradiction|omega)|skip))|refine Or.inl (And.intro (by first|exact ax (by omega)|exact af (by omega)|exact bV (by omega)|exact cK (by omega)) ?_)|(refine And.intro (show (_:Int)≠0 by omega) (Or.inl (And.intro (show (0:Int)<=_ by omega) (And.intro (show (0:Int) < _ by omega) ?_))))|(refine And.intro (show (_:Int)≠0 by omega) (Or.inl (And.intro (show (0:Int)<=_ by omega) (And.intro (by first|exact (show (_:Int)<=9223372036854775807 by omega)|exact (show (_:Int)<=4294967295 by omega)) (And.intro (show (0:Int) < _ by omega) ?_)))))|(refine Exists.intro [] (And.intro aT ((dK _ _ _).use (by repeat' first|exact trivial|exact rfl|exact Iff.rfl|exact Or.inl rfl|refine And.intro ?_ ?_) rfl rfl ?_)))|(refine Exists.intro [] (And.intro aT ((gN _).use (by repeat' first|exact trivial|exact rfl|exact Iff.rfl|exact Or.inl rfl|refine And.intro ?_ ?_) rfl rfl ?_)))|(refine Exists.intro [] (And.intro aT ((gO i _ ?_).use (by repeat' first|exact trivial|exact rfl|exact Iff.rfl|exact Or.inl rfl|refine And.intro ?_ ?_) rfl rfl ?_)); focus (simp; done))|(refine Exists.intro [] (And.intro aT ((fv _ _).use (by repeat' first|exact trivial|exact rfl|exact Iff.rfl|exact Or.inl rfl|refine And.intro ?_ ?_) rfl rfl ?_)))|(refine Exists.intro [] (And.intro aT ((fw _).use (by repeat' first|exact trivial|exact rfl|exact Iff.rfl|exact Or.inl rfl|refine And.intro ?_ ?_) rfl rfl ?_)))|(refine And.intro (show (_:Int)≠0 by omega) (Or.inr ?_))|(refine ao ?_; (first|show ¬ aC i (cU _)|show _↔aC i (cU _)|show aC i (cU _)); simp only[aC,ij,fu,gr,gK,gL,bM,cU,Lf,jU,h,reduceIte,Int.reduceEq,Bool.false_eq_true,or_true,true_or,or_false,false_or,false_and,and_false,true_and,and_true,not_true_eq_false,not_false_eq_true,ne_eq,Wc,false_implies,true_implies,implies_true]; (try unfold lX at *); (try unfold bM at *); omega)|(intro _))
theorem w4 (i:IN) (s:Int) (h:ae i.form=s) (hf:1<=i.form/\i.form<=100) (hi:fe i.an) (hs:1<=s/\s<=9):ah gT 179 [bX i,.int .i64 s] (.bool (aC i (cU s))):=by
 have f:=j3 i h hf
 have r1:=iM i.an hi
 have r2:=j1 i.an hi
 rcases (show s=1\/s=2\/s=3\/s=4\/s=5\/s=6\/s=7\/s=8\/s=9 by omega) with rfl|rfl|rfl|rfl|rfl|rfl|rfl|rfl|rfl
 all_goals
  refine Spec.enter ar Xu 100 Tryz.func179 rfl (by kernel_rfl) ?_
  repeat' ((conv=>whnf); first|(refine (And.intro (fun _=>?_) (fun _=>?_):(_->_)/\(_->_))<;>(first|(exfalso; first|contradiction|omega)|skip))|refine Or.inl (And.intro (by first|exact ax (by omega)|exact af (by omega)|exact bV (by omega)|exact cK (by omega)) ?_)|(refine And.intro (show (_:Int)≠0 by omega) (Or.inl (And.intro (show (0:Int)<=_ by omega) (And.intro (show (0:Int) < _ by omega) ?_))))|(refine And.intro (show (_:Int)≠0 by omega) (Or.inl (And.intro (show (0:Int)<=_ by omega) (And.intro (by first|exact (show (_:Int)<=9223372036854775807 by omega)|exact (show (_:Int)<=4294967295 by omega)) (And.intro (show (0:Int) < _ by omega) ?_)))))|(refine Exists.intro [] (And.intro aT ((dK _ _ _).use (by repeat' first|exact trivial|exact rfl|exact Iff.rfl|exact Or.inl rfl|refine And.intro ?_ ?_) rfl rfl ?_)))|(refine Exists.intro [] (And.intro aT ((gN _).use (by repeat' first|exact trivial|exact rfl|exact Iff.rfl|exact Or.inl rfl|refine And.intro ?_ ?_) rfl rfl ?_)))|(refine Exists.intro [] (And.intro aT ((gO i _ ?_).use (by repeat' first|exact trivial|exact rfl|exact Iff.rfl|exact Or.inl rfl|refine And.intro ?_ ?_) rfl rfl ?_)); focus (simp; done))|(refine Exists.intro [] (And.intro aT ((fv _ _).use (by repeat' first|exact trivial|exact rfl|exact Iff.rfl|exact Or.inl rfl|refine And.intro ?_ ?_) rfl rfl ?_)))|(refine Exists.intro [] (And.intro aT ((fw _).use (by repeat' first|exact trivial|exact rfl|exact Iff.rfl|exact Or.inl rfl|refine And.intro ?_ ?_) rfl rfl ?_)))|(refine And.intro (show (_:Int)≠0 by omega) (Or.inr ?_))|(refine ao ?_; (first|show ¬ aC i (cU _)|show _↔aC i (cU _)|show aC i (cU _)); simp only[aC,ij,fu,gr,gK,gL,bM,cU,Lf,jU,h,reduceIte,Int.reduceEq,Bool.false_eq_true,or_true,true_or,or_false,false_or,false_and,and_false,true_and,and_true,not_true_eq_false,not_false_eq_true,ne_eq,Wc,false_implies,true_implies,implies_true]; (try unfold lX at *); (try unfold bM at *); omega)|(intro _))
theorem ua (i:IN) (s:Int) (h:ae i.form=s) (hf:1<=i.form/\i.form<=100) (hi:fe i.an) (hs:10<=s/\s<=16):ah gT 179 [bX i,.int .i64 s] (.bool (aC i (cU s))):=by
 have f:=j3 i h hf
 have r1:=iM i.an hi
 have r2:=j1 i.an hi
 rcases (show s=10\/s=11\/s=12\/s=13\/s=14\/s=15\/s=16 by omega) with rfl|rfl|rfl|rfl|rfl|rfl|rfl
 all_goals
  refine Spec.enter ar Xu 100 Tryz.func179 rfl (by kernel_rfl) ?_
  repeat' ((conv=>whnf); first|(refine (And.intro (fun _=>?_) (fun _=>?_):(_->_)/\(_->_))<;>(first|(exfalso; first|contradiction|omega)|skip))|refine Or.inl (And.intro (by first|exact ax (by omega)|exact af (by omega)|exact bV (by omega)|exact cK (by omega)) ?_)|(refine And.intro (show (_:Int)≠0 by omega) (Or.inl (And.intro (show (0:Int)<=_ by omega) (And.intro (show (0:Int) < _ by omega) ?_))))|(refine And.intro (show (_:Int)≠0 by omega) (Or.inl (And.intro (show (0:Int)<=_ by omega) (And.intro (by first|exact (show (_:Int)<=9223372036854775807 by omega)|exact (show (_:Int)<=4294967295 by omega)) (And.intro (show (0:Int) < _ by omega) ?_)))))|(refine Exists.intro [] (And.intro aT ((dK _ _ _).use (by repeat' first|exact trivial|exact rfl|exact Iff.rfl|exact Or.inl rfl|refine And.intro ?_ ?_) rfl rfl ?_)))|(refine Exists.intro [] (And.intro aT ((gN _).use (by repeat' first|exact trivial|exact rfl|exact Iff.rfl|exact Or.inl rfl|refine And.intro ?_ ?_) rfl rfl ?_)))|(refine Exists.intro [] (And.intro aT ((gO i _ ?_).use (by repeat' first|exact trivial|exact rfl|exact Iff.rfl|exact Or.inl rfl|refine And.intro ?_ ?_) rfl rfl ?_)); focus (simp; done))|(refine Exists.intro [] (And.intro aT ((fv _ _).use (by repeat' first|exact trivial|exact rfl|exact Iff.rfl|exact Or.inl rfl|refine And.intro ?_ ?_) rfl rfl ?_)))|(refine Exists.intro [] (And.intro aT ((fw _).use (by repeat' first|exact trivial|exact rfl|exact Iff.rfl|exact Or.inl rfl|refine And.intro ?_ ?_) rfl rfl ?_)))|(refine And.intro (show (_:Int)≠0 by omega) (Or.inr ?_))|(refine Exists.intro [] (And.intro aT ((zg i _ h hf hi ?_).use (by repeat' first|exact trivial|exact rfl|exact Iff.rfl|exact Or.inl rfl|refine And.intro ?_ ?_) rfl rfl ?_)); focus (decide; done))|(refine ao ?_; exact Iff.rfl)|(refine ao ?_; (first|show ¬ aC i (cU _)|show _↔aC i (cU _)|show aC i (cU _)); simp only[aC,ij,fu,gr,gK,gL,bM,cU,Lf,jU,h,reduceIte,Int.reduceEq,Bool.false_eq_true,or_true,true_or,or_false,false_or,false_and,and_false,true_and,and_true,not_true_eq_false,not_false_eq_true,ne_eq,Wc,false_implies,true_implies,implies_true]; (try unfold lX at *); (try unfold bM at *); omega)|(intro _))
end Go.Proofs.YtnbngokbamifbaaGreatDoor.Pw

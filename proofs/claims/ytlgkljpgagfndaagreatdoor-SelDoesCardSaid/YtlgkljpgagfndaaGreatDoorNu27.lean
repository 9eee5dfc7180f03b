/- What this claim is proved with: no condition. -/
import Derived.Test.YtlgkljpgagfndaaGreatDoorNu26
import Derived.Test.YtlgkljpgagfndaaGreatDoorRows
import Derived.Test.YtlgkljpgagfndaaGreatDoorNu25
import Derived.Test.YtlgkljpgagfndaaGreatDoorNu9
import Derived.ProofKit
import Derived.LaidMore
import Derived.OpenShut
import Derived.Stop.Joined
import Derived.Lib.LaidTab
set_option maxRecDepth 100000
set_option maxHeartbeats 8000000
set_option linter.unusedVariables false
set_option linter.unusedSimpArgs false
namespace Go.Proofs.YtlgkljpgagfndaaGreatDoor.Pw
open Go Go.RowKit
theorem Ep (r i n:Int):ai gT 52 [.int .i64 r,.int .i64 i,.int .i64 n] (.bool (dd i n r)):=by
 refine Spec.enter al P52 100 Tryz.func52 rfl (by kernel_rfl) ?_
 repeat' ((conv=>whnf); first|(refine (And.intro (fun _=>?_) (fun _=>?_):(_->_)/\(_->_))<;>(first|(exfalso; first|contradiction|omega)|skip))|refine Or.inl (And.intro (by first|exact aq (by omega)|exact ah (by omega)|exact aF (by omega)|exact bb (by omega)) ?_)|(refine And.intro (show (_:Int)≠0 by omega) (Or.inl (And.intro (show (0:Int)<=_ by omega) (And.intro (show (0:Int) < _ by omega) ?_))))|(refine And.intro (show (_:Int)≠0 by omega) (Or.inl (And.intro (show (0:Int)<=_ by omega) (And.intro (by first|exact (show (_:Int)<=9223372036854775807 by omega)|exact (show (_:Int)<=4294967295 by omega)) (And.intro (show (0:Int) < _ by omega) ?_)))))|(refine ax ?_; show ¬ dd _ _ _; unfold dd; omega)|(refine ax ?_; show _↔dd _ _ _; unfold dd; omega)|(intro _))
theorem Jy:ai gT 51 [.int .i64 1] (.tup [.int .i64 (cv 1),.int .i64 (aI 1)]):=by
 refine Spec.enter al mJ 100 Tryz.func51 rfl (by kernel_rfl) ?_
 repeat' ((conv=>whnf); first|(refine (And.intro (fun _=>?_) (fun _=>?_):(_->_)/\(_->_))<;>(first|(exfalso; first|contradiction|omega)|skip))|refine Or.inl (And.intro (by first|exact aq (by omega)|exact ah (by omega)|exact aF (by omega)|exact bb (by omega)) ?_)|(refine And.intro (show (_:Int)≠0 by omega) (Or.inl (And.intro (show (0:Int)<=_ by omega) (And.intro (show (0:Int) < _ by omega) ?_))))|(refine And.intro (show (_:Int)≠0 by omega) (Or.inl (And.intro (show (0:Int)<=_ by omega) (And.intro (by first|exact (show (_:Int)<=9223372036854775807 by omega)|exact (show (_:Int)<=4294967295 by omega)) (And.intro (show (0:Int) < _ by omega) ?_)))))|(refine Or.inl (Exists.intro 1 (And.intro rfl ?_)))|(exact rA)|(refine And.intro (show (0:Int)<=_ by omega) (And.intro (show _ < (_:Int) by omega) ?_))|(intro _))
theorem Jz:ai gT 51 [.int .i64 2] (.tup [.int .i64 (cv 2),.int .i64 (aI 2)]):=by
 refine Spec.enter al mJ 100 Tryz.func51 rfl (by kernel_rfl) ?_
 repeat' ((conv=>whnf); first|(refine (And.intro (fun _=>?_) (fun _=>?_):(_->_)/\(_->_))<;>(first|(exfalso; first|contradiction|omega)|skip))|refine Or.inl (And.intro (by first|exact aq (by omega)|exact ah (by omega)|exact aF (by omega)|exact bb (by omega)) ?_)|(refine And.intro (show (_:Int)≠0 by omega) (Or.inl (And.intro (show (0:Int)<=_ by omega) (And.intro (show (0:Int) < _ by omega) ?_))))|(refine And.intro (show (_:Int)≠0 by omega) (Or.inl (And.intro (show (0:Int)<=_ by omega) (And.intro (by first|exact (show (_:Int)<=9223372036854775807 by omega)|exact (show (_:Int)<=4294967295 by omega)) (And.intro (show (0:Int) < _ by omega) ?_)))))|(refine Or.inl (Exists.intro 2 (And.intro rfl ?_)))|(exact rA)|(refine And.intro (show (0:Int)<=_ by omega) (And.intro (show _ < (_:Int) by omega) ?_))|(intro _))
theorem JA:ai gT 51 [.int .i64 3] (.tup [.int .i64 (cv 3),.int .i64 (aI 3)]):=by
 refine Spec.enter al mJ 100 Tryz.func51 rfl (by kernel_rfl) ?_
 repeat' ((conv=>whnf); first|(refine (And.intro (fun _=>?_) (fun _=>?_):(_->_)/\(_->_))<;>(first|(exfalso; first|contradiction|omega)|skip))|refine Or.inl (And.intro (by first|exact aq (by omega)|exact ah (by omega)|exact aF (by omega)|exact bb (by omega)) ?_)|(refine And.intro (show (_:Int)≠0 by omega) (Or.inl (And.intro (show (0:Int)<=_ by omega) (And.intro (show (0:Int) < _ by omega) ?_))))|(refine And.intro (show (_:Int)≠0 by omega) (Or.inl (And.intro (show (0:Int)<=_ by omega) (And.intro (by first|exact (show (_:Int)<=9223372036854775807 by omega)|exact (show (_:Int)<=4294967295 by omega)) (And.intro (show (0:Int) < _ by omega) ?_)))))|(refine Or.inl (Exists.intro 3 (And.intro rfl ?_)))|(exact rA)|(refine And.intro (show (0:Int)<=_ by omega) (And.intro (show _ < (_:Int) by omega) ?_))|(intro _))
theorem JB:ai gT 51 [.int .i64 4] (.tup [.int .i64 (cv 4),.int .i64 (aI 4)]):=by
 refine Spec.enter al mJ 100 Tryz.func51 rfl (by kernel_rfl) ?_
 repeat' ((conv=>whnf); first|(refine (And.intro (fun _=>?_) (fun _=>?_):(_->_)/\(_->_))<;>(first|(exfalso; first|contradiction|omega)|skip))|refine Or.inl (And.intro (by first|exact aq (by omega)|exact ah (by omega)|exact aF (by omega)|exact bb (by omega)) ?_)|(refine And.intro (show (_:Int)≠0 by omega) (Or.inl (And.intro (show (0:Int)<=_ by omega) (And.intro (show (0:Int) < _ by omega) ?_))))|(refine And.intro (show (_:Int)≠0 by omega) (Or.inl (And.intro (show (0:Int)<=_ by omega) (And.intro (by first|exact (show (_:Int)<=9223372036854775807 by omega)|exact (show (_:Int)<=4294967295 by omega)) (And.intro (show (0:Int) < _ by omega) ?_)))))|(refine Or.inl (Exists.intro 4 (And.intro rfl ?_)))|(exact rA)|(refine And.intro (show (0:Int)<=_ by omega) (And.intro (show _ < (_:Int) by omega) ?_))|(intro _))
theorem JC:ai gT 51 [.int .i64 5] (.tup [.int .i64 (cv 5),.int .i64 (aI 5)]):=by
 refine Spec.enter al mJ 100 Tryz.func51 rfl (by kernel_rfl) ?_
 repeat' ((conv=>whnf); first|(refine (And.intro (fun _=>?_) (fun _=>?_):(_->_)/\(_->_))<;>(first|(exfalso; first|contradiction|omega)|skip))|refine Or.inl (And.intro (by first|exact aq (by omega)|exact ah (by omega)|exact aF (by omega)|exact bb (by omega)) ?_)|(refine And.intro (show (_:Int)≠0 by omega) (Or.inl (And.intro (show (0:Int)<=_ by omega) (And.intro (show (0:Int) < _ by omega) ?_))))|(refine And.intro (show (_:Int)≠0 by omega) (Or.inl (And.intro (show (0:Int)<=_ by omega) (And.intro (by first|exact (show (_:Int)<=9223372036854775807 by omega)|exact (show (_:Int)<=4294967295 by omega)) (And.intro (show (0:Int) < _ by omega) ?_)))))|(refine Or.inl (Exists.intro 5 (And.intro rfl ?_)))|(exact rA)|(refine And.intro (show (0:Int)<=_ by omega) (And.intro (show _ < (_:Int) by omega) ?_))|(intro _))
theorem JD:ai gT 51 [.int .i64 6] (.tup [.int .i64 (cv 6),.int .i64 (aI 6)]):=by
 refine Spec.enter al mJ 100 Tryz.func51 rfl (by kernel_rfl) ?_
 repeat' ((conv=>whnf); first|(refine (And.intro (fun _=>?_) (fun _=>?_):(_->_)/\(_->_))<;>(first|(exfalso; first|contradiction|omega)|skip))|refine Or.inl (And.intro (by first|exact aq (by omega)|exact ah (by omega)|exact aF (by omega)|exact bb (by omega)) ?_)|(refine And.intro (show (_:Int)≠0 by omega) (Or.inl (And.intro (show (0:Int)<=_ by omega) (And.intro (show (0:Int) < _ by omega) ?_))))|(refine And.intro (show (_:Int)≠0 by omega) (Or.inl (And.intro (show (0:Int)<=_ by omega) (And.intro (by first|exact (show (_:Int)<=9223372036854775807 by omega)|exact (show (_:Int)<=4294967295 by omega)) (And.intro (show (0:Int) < _ by omega) ?_)))))|(refine Or.inl (Exists.intro 6 (And.intro rfl ?_)))|(exact rA)|(refine And.intro (show (0:Int)<=_ by omega) (And.intro (show _ < (_:Int) by omega) ?_))|(intro _))
theorem JE:ai gT 51 [.int .i64 7] (.tup [.int .i64 (cv 7),.int .i64 (aI 7)]):=by
 refine Spec.enter al mJ 100 Tryz.func51 rfl (by kernel_rfl) ?_
 repeat' ((conv=>whnf); first|(refine (And.intro (fun _=>?_) (fun _=>?_):(_->_)/\(_->_))<;>(first|(exfalso; first|contradiction|omega)|skip))|refine Or.inl (And.intro (by first|exact aq (by omega)|exact ah (by omega)|exact aF (by omega)|exact bb (by omega)) ?_)|(refine And.intro (show (_:Int)≠0 by omega) (Or.inl (And.intro (show (0:Int)<=_ by omega) (And.intro (show (0:Int) < _ by omega) ?_))))|(refine And.intro (show (_:Int)≠0 by omega) (Or.inl (And.intro (show (0:Int)<=_ by omega) (And.intro (by first|exact (show (_:Int)<=9223372036854775807 by omega)|exact (show (_:Int)<=4294967295 by omega)) (And.intro (show (0:Int) < _ by omega) ?_)))))|(refine Or.inl (Exists.intro 7 (And.intro rfl ?_)))|(exact rA)|(refine And.intro (show (0:Int)<=_ by omega) (And.intro (show _ < (_:Int) by omega) ?_))|(intro _))
theorem JF:ai gT 51 [.int .i64 8] (.tup [.int .i64 (cv 8),.int .i64 (aI 8)]):=by
 refine Spec.enter al mJ 100 Tryz.func51 rfl (by kernel_rfl) ?_
 repeat' ((conv=>whnf); first|(refine (And.intro (fun _=>?_) (fun _=>?_):(_->_)/\(_->_))<;>(first|(exfalso; first|contradiction|omega)|skip))|refine Or.inl (And.intro (by first|exact aq (by omega)|exact ah (by omega)|exact aF (by omega)|exact bb (by omega)) ?_)|(refine And.intro (show (_:Int)≠0 by omega) (Or.inl (And.intro (show (0:Int)<=_ by omega) (And.intro (show (0:Int) < _ by omega) ?_))))|(refine And.intro (show (_:Int)≠0 by omega) (Or.inl (And.intro (show (0:Int)<=_ by omega) (And.intro (by first|exact (show (_:Int)<=9223372036854775807 by omega)|exact (show (_:Int)<=4294967295 by omega)) (And.intro (show (0:Int) < _ by omega) ?_)))))|(refine Or.inl (Exists.intro 8 (And.intro rfl ?_)))|(exact rA)|(refine And.intro (show (0:Int)<=_ by omega) (And.intro (show _ < (_:Int) by omega) ?_))|(intro _))
theorem JG:ai gT 51 [.int .i64 9] (.tup [.int .i64 (cv 9),.int .i64 (aI 9)]):=by
 refine Spec.enter al mJ 100 Tryz.func51 rfl (by kernel_rfl) ?_
 repeat' ((conv=>whnf); first|(refine (And.intro (fun _=>?_) (fun _=>?_):(_->_)/\(_->_))<;>(first|(exfalso; first|contradiction|omega)|skip))|refine Or.inl (And.intro (by first|exact aq (by omega)|exact ah (by omega)|exact aF (by omega)|exact bb (by omega)) ?_)|(refine And.intro (show (_:Int)≠0 by omega) (Or.inl (And.intro (show (0:Int)<=_ by omega) (And.intro (show (0:Int) < _ by omega) ?_))))|(refine And.intro (show (_:Int)≠0 by omega) (Or.inl (And.intro (show (0:Int)<=_ by omega) (And.intro (by first|exact (show (_:Int)<=9223372036854775807 by omega)|exact (show (_:Int)<=4294967295 by omega)) (And.intro (show (0:Int) < _ by omega) ?_)))))|(refine Or.inl (Exists.intro 9 (And.intro rfl ?_)))|(exact rA)|(refine And.intro (show (0:Int)<=_ by omega) (And.intro (show _ < (_:Int) by omega) ?_))|(intro _))
theorem Er:ai gT 51 [.int .i64 10] (.tup [.int .i64 (cv 10),.int .i64 (aI 10)]):=by
 refine Spec.enter al mJ 100 Tryz.func51 rfl (by kernel_rfl) ?_
 repeat' ((conv=>whnf); first|(refine (And.intro (fun _=>?_) (fun _=>?_):(_->_)/\(_->_))<;>(first|(exfalso; first|contradiction|omega)|skip))|refine Or.inl (And.intro (by first|exact aq (by omega)|exact ah (by omega)|exact aF (by omega)|exact bb (by omega)) ?_)|(refine And.intro (show (_:Int)≠0 by omega) (Or.inl (And.intro (show (0:Int)<=_ by omega) (And.intro (show (0:Int) < _ by omega) ?_))))|(refine And.intro (show (_:Int)≠0 by omega) (Or.inl (And.intro (show (0:Int)<=_ by omega) (And.intro (by first|exact (show (_:Int)<=9223372036854775807 by omega)|exact (show (_:Int)<=4294967295 by omega)) (And.intro (show (0:Int) < _ by omega) ?_)))))|(refine Or.inl (Exists.intro 10 (And.intro rfl ?_)))|(exact rA)|(refine And.intro (show (0:Int)<=_ by omega) (And.intro (show _ < (_:Int) by omega) ?_))|(intro _))
theorem Es:ai gT 51 [.int .i64 11] (.tup [.int .i64 (cv 11),.int .i64 (aI 11)]):=by
 refine Spec.enter al mJ 100 Tryz.func51 rfl (by kernel_rfl) ?_
 repeat' ((conv=>whnf); first|(refine (And.intro (fun _=>?_) (fun _=>?_):(_->_)/\(_->_))<;>(first|(exfalso; first|contradiction|omega)|skip))|refine Or.inl (And.intro (by first|exact aq (by omega)|exact ah (by omega)|exact aF (by omega)|exact bb (by omega)) ?_)|(refine And.intro (show (_:Int)≠0 by omega) (Or.inl (And.intro (show (0:Int)<=_ by omega) (And.intro (show (0:Int) < _ by omega) ?_))))|(refine And.intro (show (_:Int)≠0 by omega) (Or.inl (And.intro (show (0:Int)<=_ by omega) (And.intro (by first|exact (show (_:Int)<=9223372036854775807 by omega)|exact (show (_:Int)<=4294967295 by omega)) (And.intro (show (0:Int) < _ by omega) ?_)))))|(refine Or.inl (Exists.intro 11 (And.intro rfl ?_)))|(exact rA)|(refine And.intro (show (0:Int)<=_ by omega) (And.intro (show _ < (_:Int) by omega) ?_))|(intro _))
theorem Et:ai gT 51 [.int .i64 12] (.tup [.int .i64 (cv 12),.int .i64 (aI 12)]):=by
 refine Spec.enter al mJ 100 Tryz.func51 rfl (by kernel_rfl) ?_
 repeat' ((conv=>whnf); first|(refine (And.intro (fun _=>?_) (fun _=>?_):(_->_)/\(_->_))<;>(first|(exfalso; first|contradiction|omega)|skip))|refine Or.inl (And.intro (by first|exact aq (by omega)|exact ah (by omega)|exact aF (by omega)|exact bb (by omega)) ?_)|(refine And.intro (show (_:Int)≠0 by omega) (Or.inl (And.intro (show (0:Int)<=_ by omega) (And.intro (show (0:Int) < _ by omega) ?_))))|(refine And.intro (show (_:Int)≠0 by omega) (Or.inl (And.intro (show (0:Int)<=_ by omega) (And.intro (by first|exact (show (_:Int)<=9223372036854775807 by omega)|exact (show (_:Int)<=4294967295 by omega)) (And.intro (show (0:Int) < _ by omega) ?_)))))|(refine Or.inl (Exists.intro 12 (And.intro rfl ?_)))|(exact rA)|(refine And.intro (show (0:Int)<=_ by omega) (And.intro (show _ < (_:Int) by omega) ?_))|(intro _))
theorem Eu:ai gT 51 [.int .i64 13] (.tup [.int .i64 (cv 13),.int .i64 (aI 13)]):=by
 refine Spec.enter al mJ 100 Tryz.func51 rfl (by kernel_rfl) ?_
 repeat' ((conv=>whnf); first|(refine (And.intro (fun _=>?_) (fun _=>?_):(_->_)/\(_->_))<;>(first|(exfalso; first|contradiction|omega)|skip))|refine Or.inl (And.intro (by first|exact aq (by omega)|exact ah (by omega)|exact aF (by omega)|exact bb (by omega)) ?_)|(refine And.intro (show (_:Int)≠0 by omega) (Or.inl (And.intro (show (0:Int)<=_ by omega) (And.intro (show (0:Int) < _ by omega) ?_))))|(refine And.intro (show (_:Int)≠0 by omega) (Or.inl (And.intro (show (0:Int)<=_ by omega) (And.intro (by first|exact (show (_:Int)<=9223372036854775807 by omega)|exact (show (_:Int)<=4294967295 by omega)) (And.intro (show (0:Int) < _ by omega) ?_)))))|(refine Or.inl (Exists.intro 13 (And.intro rfl ?_)))|(exact rA)|(refine And.intro (show (0:Int)<=_ by omega) (And.intro (show _ < (_:Int) by omega) ?_))|(intro _))
theorem Ew:ai gT 51 [.int .i64 14] (.tup [.int .i64 (cv 14),.int .i64 (aI 14)]):=by
 refine Spec.enter al mJ 100 Tryz.func51 rfl (by kernel_rfl) ?_
 repeat' ((conv=>whnf); first|(refine (And.intro (fun _=>?_) (fun _=>?_):(_->_)/\(_->_))<;>(first|(exfalso; first|contradiction|omega)|skip))|refine Or.inl (And.intro (by first|exact aq (by omega)|exact ah (by omega)|exact aF (by omega)|exact bb (by omega)) ?_)|(refine And.intro (show (_:Int)≠0 by omega) (Or.inl (And.intro (show (0:Int)<=_ by omega) (And.intro (show (0:Int) < _ by omega) ?_))))|(refine And.intro (show (_:Int)≠0 by omega) (Or.inl (And.intro (show (0:Int)<=_ by omega) (And.intro (by first|exact (show (_:Int)<=9223372036854775807 by omega)|exact (show (_:Int)<=4294967295 by omega)) (And.intro (show (0:Int) < _ by omega) ?_)))))|(refine Or.inl (Exists.intro 14 (And.intro rfl ?_)))|(exact rA)|(refine And.intro (show (0:Int)<=_ by omega) (And.intro (show _ < (_:Int) by omega) ?_))|(intro _))
theorem Ex:ai gT 51 [.int .i64 15] (.tup [.int .i64 (cv 15),.int .i64 (aI 15)]):=by
 refine Spec.enter al mJ 100 Tryz.func51 rfl (by kernel_rfl) ?_
 repeat' ((conv=>whnf); first|(refine (And.intro (fun _=>?_) (fun _=>?_):(_->_)/\(_->_))<;>(first|(exfalso; first|contradiction|omega)|skip))|refine Or.inl (And.intro (by first|exact aq (by omega)|exact ah (by omega)|exact aF (by omega)|exact bb (by omega)) ?_)|(refine And.intro (show (_:Int)≠0 by omega) (Or.inl (And.intro (show (0:Int)<=_ by omega) (And.intro (show (0:Int) < _ by omega) ?_))))|(refine And.intro (show (_:Int)≠0 by omega) (Or.inl (And.intro (show (0:Int)<=_ by omega) (And.intro (by first|exact (show (_:Int)<=9223372036854775807 by omega)|exact (show (_:Int)<=4294967295 by omega)) (And.intro (show (0:Int) < _ by omega) ?_)))))|(refine Or.inl (Exists.intro 15 (And.intro rfl ?_)))|(exact rA)|(refine And.intro (show (0:Int)<=_ by omega) (And.intro (show _ < (_:Int) by omega) ?_))|(intro _))
theorem Ey:ai gT 51 [.int .i64 16] (.tup [.int .i64 (cv 16),.int .i64 (aI 16)]):=by
 refine Spec.enter al mJ 100 Tryz.func51 rfl (by kernel_rfl) ?_
 repeat' ((conv=>whnf); first|(refine (And.intro (fun _=>?_) (fun _=>?_):(_->_)/\(_->_))<;>(first|(exfalso; first|contradiction|omega)|skip))|refine Or.inl (And.intro (by first|exact aq (by omega)|exact ah (by omega)|exact aF (by omega)|exact bb (by omega)) ?_)|(refine And.intro (show (_:Int)≠0 by omega) (Or.inl (And.intro (show (0:Int)<=_ by omega) (And.intro (show (0:Int) < _ by omega) ?_))))|(refine And.intro (show (_:Int)≠0 by omega) (Or.inl (And.intro (show (0:Int)<=_ by omega) (And.intro (by first|exact (show (_:Int)<=9223372036854775807 by omega)|exact (show (_:Int)<=4294967295 by omega)) (And.intro (show (0:Int) < _ by omega) ?_)))))|(refine Or.inl (Exists.intro 16 (And.intro rfl ?_)))|(exact rA)|(refine And.intro (show (0:Int)<=_ by omega) (And.intro (show _ < (_:Int) by omega) ?_))|(intro _))
theorem Ez:ai gT 51 [.int .i64 17] (.tup [.int .i64 (cv 17),.int .i64 (aI 17)]):=by
 refine Spec.enter al mJ 100 Tryz.func51 rfl (by kernel_rfl) ?_
 repeat' ((conv=>whnf); first|(refine (And.intro (fun _=>?_) (fun _=>?_):(_->_)/\(_->_))<;>(first|(exfalso; first|contradiction|omega)|skip))|refine Or.inl (And.intro (by first|exact aq (by omega)|exact ah (by omega)|exact aF (by omega)|exact bb (by omega)) ?_)|(refine And.intro (show (_:Int)≠0 by omega) (Or.inl (And.intro (show (0:Int)<=_ by omega) (And.intro (show (0:Int) < _ by omega) ?_))))|(refine And.intro (show (_:Int)≠0 by omega) (Or.inl (And.intro (show (0:Int)<=_ by omega) (And.intro (by first|exact (show (_:Int)<=9223372036854775807 by omega)|exact (show (_:Int)<=4294967295 by omega)) (And.intro (show (0:Int) < _ by omega) ?_)))))|(refine Or.inl (Exists.intro 17 (And.intro rfl ?_)))|(exact rA)|(refine And.intro (show (0:Int)<=_ by omega) (And.intro (show _ < (_:Int) by omega) ?_))|(intro _))
theorem EA:ai gT 51 [.int .i64 18] (.tup [.int .i64 (cv 18),.int .i64 (aI 18)]):=by
 refine Spec.enter al mJ 100 Tryz.func51 rfl (by kernel_rfl) ?_
 repeat' ((conv=>whnf); first|(refine (And.intro (fun _=>?_) (fun _=>?_):(_->_)/\(_->_))<;>(first|(exfalso; first|contradiction|omega)|skip))|refine Or.inl (And.intro (by first|exact aq (by omega)|exact ah (by omega)|exact aF (by omega)|exact bb (by omega)) ?_)|(refine And.intro (show (_:Int)≠0 by omega) (Or.inl (And.intro (show (0:Int)<=_ by omega) (And.intro (show (0:Int) < _ by omega) ?_))))|(refine And.intro (show (_:Int)≠0 by omega) (Or.inl (And.intro (show (0:Int)<=_ by omega) (And.intro (by first|exact (show (_:Int)<=9223372036854775807 by omega)|exact (show (_:Int)<=4294967295 by omega)) (And.intro (show (0:Int) < _ by omega) ?_)))))|(refine Or.inl (Exists.intro 18 (And.intro rfl ?_)))|(exact rA)|(refine And.intro (show (0:Int)<=_ by omega) (And.intro (show _ < (_:Int) by omega) ?_))|(intro _))
theorem EB:ai gT 51 [.int .i64 19] (.tup [.int .i64 (cv 19),.int .i64 (aI 19)]):=by
 refine Spec.enter al mJ 100 Tryz.func51 rfl (by kernel_rfl) ?_
 repeat' ((conv=>whnf); first|(refine (And.intro (fun _=>?_) (fun _=>?_):(_->_)/\(_->_))<;>(first|(exfalso; first|contradiction|omega)|skip))|refine Or.inl (And.intro (by first|exact aq (by omega)|exact ah (by omega)|exact aF (by omega)|exact bb (by omega)) ?_)|(refine And.intro (show (_:Int)≠0 by omega) (Or.inl (And.intro (show (0:Int)<=_ by omega) (And.intro (show (0:Int) < _ by omega) ?_))))|(refine And.intro (show (_:Int)≠0 by omega) (Or.inl (And.intro (show (0:Int)<=_ by omega) (And.intro (by first|exact (show (_:Int)<=9223372036854775807 by omega)|exact (show (_:Int)<=4294967295 by omega)) (And.intro (show (0:Int) < _ by omega) ?_)))))|(refine Or.inl (Exists.intro 19 (And.intro rfl ?_)))|(exact rA)|(refine And.intro (show (0:Int)<=_ by omega) (And.intro (show _ < (_:Int) by omega) ?_))|(intro _))
theorem EC:ai gT 51 [.int .i64 20] (.tup [.int .i64 (cv 20),.int .i64 (aI 20)]):=by
 refine Spec.enter al mJ 100 Tryz.func51 rfl (by kernel_rfl) ?_
 repeat' ((conv=>whnf); first|(refine (And.intro (fun _=>?_) (fun _=>?_):(_->_)/\(_->_))<;>(first|(exfalso; first|contradiction|omega)|skip))|refine Or.inl (And.intro (by first|exact aq (by omega)|exact ah (by omega)|exact aF (by omega)|exact bb (by omega)) ?_)|(refine And.intro (show (_:Int)≠0 by omega) (Or.inl (And.intro (show (0:Int)<=_ by omega) (And.intro (show (0:Int) < _ by omega) ?_))))|(refine And.intro (show (_:Int)≠0 by omega) (Or.inl (And.intro (show (0:Int)<=_ by omega) (And.intro (by first|exact (show (_:Int)<=9223372036854775807 by omega)|exact (show (_:Int)<=4294967295 by omega)) (And.intro (show (0:Int) < _ by omega) ?_)))))|(refine Or.inl (Exists.intro 20 (And.intro rfl ?_)))|(exact rA)|(refine And.intro (show (0:Int)<=_ by omega) (And.intro (show _ < (_:Int) by omega) ?_))|(intro _))
theorem ED:ai gT 51 [.int .i64 21] (.tup [.int .i64 (cv 21),.int .i64 (aI 21)]):=by
 refine Spec.enter al mJ 100 Tryz.func51 rfl (by kernel_rfl) ?_
 repeat' ((conv=>whnf); first|(refine (And.intro (fun _=>?_) (fun _=>?_):(_->_)/\(_->_))<;>(first|(exfalso; first|contradiction|omega)|skip))|refine Or.inl (And.intro (by first|exact aq (by omega)|exact ah (by omega)|exact aF (by omega)|exact bb (by omega)) ?_)|(refine And.intro (show (_:Int)≠0 by omega) (Or.inl (And.intro (show (0:Int)<=_ by omega) (And.intro (show (0:Int) < _ by omega) ?_))))|(refine And.intro (show (_:Int)≠0 by omega) (Or.inl (And.intro (show (0:Int)<=_ by omega) (And.intro (by first|exact (show (_:Int)<=9223372036854775807 by omega)|exact (show (_:Int)<=4294967295 by omega)) (And.intro (show (0:Int) < _ by omega) ?_)))))|(refine Or.inl (Exists.intro 21 (And.intro rfl ?_)))|(exact rA)|(refine And.intro (show (0:Int)<=_ by omega) (And.intro (show _ < (_:Int) by omega) ?_))|(intro _))
theorem EE:ai gT 51 [.int .i64 22] (.tup [.int .i64 (cv 22),.int .i64 (aI 22)]):=by
 refine Spec.enter al mJ 100 Tryz.func51 rfl (by kernel_rfl) ?_
 repeat' ((conv=>whnf); first|(refine (And.intro (fun _=>?_) (fun _=>?_):(_->_)/\(_->_))<;>(first|(exfalso; first|contradiction|omega)|skip))|refine Or.inl (And.intro (by first|exact aq (by omega)|exact ah (by omega)|exact aF (by omega)|exact bb (by omega)) ?_)|(refine And.intro (show (_:Int)≠0 by omega) (Or.inl (And.intro (show (0:Int)<=_ by omega) (And.intro (show (0:Int) < _ by omega) ?_))))|(refine And.intro (show (_:Int)≠0 by omega) (Or.inl (And.intro (show (0:Int)<=_ by omega) (And.intro (by first|exact (show (_:Int)<=9223372036854775807 by omega)|exact (show (_:Int)<=4294967295 by omega)) (And.intro (show (0:Int) < _ by omega) ?_)))))|(refine Or.inl (Exists.intro 22 (And.intro rfl ?_)))|(exact rA)|(refine And.intro (show (0:Int)<=_ by omega) (And.intro (show _ < (_:Int) by omega) ?_))|(intro _))
theorem EF:ai gT 51 [.int .i64 23] (.tup [.int .i64 (cv 23),.int .i64 (aI 23)]):=by
 refine Spec.enter al mJ 100 Tryz.func51 rfl (by kernel_rfl) ?_
 repeat' ((conv=>whnf); first|(refine (And.intro (fun _=>?_) (fun _=>?_):(_->_)/\(_->_))<;>(first|(exfalso; first|contradiction|omega)|skip))|refine Or.inl (And.intro (by first|exact aq (by omega)|exact ah (by omega)|exact aF (by omega)|exact bb (by omega)) ?_)|(refine And.intro (show (_:Int)≠0 by omega) (Or.inl (And.intro (show (0:Int)<=_ by omega) (And.intro (show (0:Int) < _ by omega) ?_))))|(refine And.intro (show (_:Int)≠0 by omega) (Or.inl (And.intro (show (0:Int)<=_ by omega) (And.intro (by first|exact (show (_:Int)<=9223372036854775807 by omega)|exact (show (_:Int)<=4294967295 by omega)) (And.intro (show (0:Int) < _ by omega) ?_)))))|(refine Or.inl (Exists.intro 23 (And.intro rfl ?_)))|(exact rA)|(refine And.intro (show (0:Int)<=_ by omega) (And.intro (show _ < (_:Int) by omega) ?_))|(intro _))
theorem EG:ai gT 51 [.int .i64 24] (.tup [.int .i64 (cv 24),.int .i64 (aI 24)]):=by
 refine Spec.enter al mJ 100 Tryz.func51 rfl (by kernel_rfl) ?_
 repeat' ((conv=>whnf); first|(refine (And.intro (fun _=>?_) (fun _=>?_):(_->_)/\(_->_))<;>(first|(exfalso; first|contradiction|omega)|skip))|refine Or.inl (And.intro (by first|exact aq (by omega)|exact ah (by omega)|exact aF (by omega)|exact bb (by omega)) ?_)|(refine And.intro (show (_:Int)≠0 by omega) (Or.inl (And.intro (show (0:Int)<=_ by omega) (And.intro (show (0:Int) < _ by omega) ?_))))|(refine And.intro (show (_:Int)≠0 by omega) (Or.inl (And.intro (show (0:Int)<=_ by omega) (And.intro (by first|exact (show (_:Int)<=9223372036854775807 by omega)|exact (show (_:Int)<=4294967295 by omega)) (And.intro (show (0:Int) < _ by omega) ?_)))))|(refine Or.inl (Exists.intro 24 (And.intro rfl ?_)))|(exact rA)|(refine And.intro (show (0:Int)<=_ by omega) (And.intro (show _ < (_:Int) by omega) ?_))|(intro _))
theorem EH:ai gT 51 [.int .i64 25] (.tup [.int .i64 (cv 25),.int .i64 (aI 25)]):=by
 refine Spec.enter al mJ 100 Tryz.func51 rfl (by kernel_rfl) ?_
 repeat' ((conv=>whnf); first|(refine (And.intro (fun _=>?_) (fun _=>?_):(_->_)/\(_->_))<;>(first|(exfalso; first|contradiction|omega)|skip))|refine Or.inl (And.intro (by first|exact aq (by omega)|exact ah (by omega)|exact aF (by omega)|exact bb (by omega)) ?_)|(refine And.intro (show (_:Int)≠0 by omega) (Or.inl (And.intro (show (0:Int)<=_ by omega) (And.intro (show (0:Int) < _ by omega) ?_))))|(refine And.intro (show (_:Int)≠0 by omega) (Or.inl (And.intro (show (0:Int)<=_ by omega) (And.intro (by first|exact (show (_:Int)<=9223372036854775807 by omega)|exact (show (_:Int)<=4294967295 by omega)) (And.intro (show (0:Int) < _ by omega) ?_)))))|(refine Or.inl (Exists.intro 25 (And.intro rfl ?_)))|(exact rA)|(refine And.intro (show (0:Int)<=_ by omega) (And.intro (show _ < (_:Int) by omega) ?_))|(intro _))
theorem EI:ai gT 51 [.int .i64 26] (.tup [.int .i64 (cv 26),.int .i64 (aI 26)]):=by
 refine Spec.enter al mJ 100 Tryz.func51 rfl (by kernel_rfl) ?_
 repeat' ((conv=>whnf); first|(refine (And.intro (fun _=>?_) (fun _=>?_):(_->_)/\(_->_))<;>(first|(exfalso; first|contradiction|omega)|skip))|refine Or.inl (And.intro (by first|exact aq (by omega)|exact ah (by omega)|exact aF (by omega)|exact bb (by omega)) ?_)|(refine And.intro (show (_:Int)≠0 by omega) (Or.inl (And.intro (show (0:Int)<=_ by omega) (And.intro (show (0:Int) < _ by omega) ?_))))|(refine And.intro (show (_:Int)≠0 by omega) (Or.inl (And.intro (show (0:Int)<=_ by omega) (And.intro (by first|exact (show (_:Int)<=9223372036854775807 by omega)|exact (show (_:Int)<=4294967295 by omega)) (And.intro (show (0:Int) < _ by omega) ?_)))))|(refine Or.inl (Exists.intro 26 (And.intro rfl ?_)))|(exact rA)|(refine And.intro (show (0:Int)<=_ by omega) (And.intro (show _ < (_:Int) by omega) ?_))|(intro _))
theorem EJ:ai gT 51 [.int .i64 27] (.tup [.int .i64 (cv 27),.int .i64 (aI 27)]):=by
 refine Spec.enter al mJ 100 Tryz.func51 rfl (by kernel_rfl) ?_
 repeat' ((conv=>whnf); first|(refine (And.intro (fun _=>?_) (fun _=>?_):(_->_)/\(_->_))<;>(first|(exfalso; first|contradiction|omega)|skip))|refine Or.inl (And.intro (by first|exact aq (by omega)|exact ah (by omega)|exact aF (by omega)|exact bb (by omega)) ?_)|(refine And.intro (show (_:Int)≠0 by omega) (Or.inl (And.intro (show (0:Int)<=_ by omega) (And.intro (show (0:Int) < _ by omega) ?_))))|(refine And.intro (show (_:Int)≠0 by omega) (Or.inl (And.intro (show (0:Int)<=_ by omega) (And.intro (by first|exact (show (_:Int)<=9223372036854775807 by omega)|exact (show (_:Int)<=4294967295 by omega)) (And.intro (show (0:Int) < _ by omega) ?_)))))|(refine Or.inl (Exists.intro 27 (And.intro rfl ?_)))|(exact rA)|(refine And.intro (show (0:Int)<=_ by omega) (And.intro (show _ < (_:Int) by omega) ?_))|(intro _))
theorem EK:ai gT 51 [.int .i64 28] (.tup [.int .i64 (cv 28),.int .i64 (aI 28)]):=by
 refine Spec.enter al mJ 100 Tryz.func51 rfl (by kernel_rfl) ?_
 repeat' ((conv=>whnf); first|(refine (And.intro (fun _=>?_) (fun _=>?_):(_->_)/\(_->_))<;>(first|(exfalso; first|contradiction|omega)|skip))|refine Or.inl (And.intro (by first|exact aq (by omega)|exact ah (by omega)|exact aF (by omega)|exact bb (by omega)) ?_)|(refine And.intro (show (_:Int)≠0 by omega) (Or.inl (And.intro (show (0:Int)<=_ by omega) (And.intro (show (0:Int) < _ by omega) ?_))))|(refine And.intro (show (_:Int)≠0 by omega) (Or.inl (And.intro (show (0:Int)<=_ by omega) (And.intro (by first|exact (show (_:Int)<=9223372036854775807 by omega)|exact (show (_:Int)<=4294967295 by omega)) (And.intro (show (0:Int) < _ by omega) ?_)))))|(refine Or.inl (Exists.intro 28 (And.intro rfl ?_)))|(exact rA)|(refine And.intro (show (0:Int)<=_ by omega) (And.intro (show _ < (_:Int) by omega) ?_))|(intro _))
theorem EL:ai gT 51 [.int .i64 29] (.tup [.int .i64 (cv 29),.int .i64 (aI 29)]):=by
 refine Spec.enter al mJ 100 Tryz.func51 rfl (by kernel_rfl) ?_
 repeat' ((conv=>whnf); first|(refine (And.intro (fun _=>?_) (fun _=>?_):(_->_)/\(_->_))<;>(first|(exfalso; first|contradiction|omega)|skip))|refine Or.inl (And.intro (by first|exact aq (by omega)|exact ah (by omega)|exact aF (by omega)|exact bb (by omega)) ?_)|(refine And.intro (show (_:Int)≠0 by omega) (Or.inl (And.intro (show (0:Int)<=_ by omega) (And.intro (show (0:Int) < _ by omega) ?_))))|(refine And.intro (show (_:Int)≠0 by omega) (Or.inl (And.intro (show (0:Int)<=_ by omega) (And.intro (by first|exact (show (_:Int)<=9223372036854775807 by omega)|exact (show (_:Int)<=4294967295 by omega)) (And.intro (show (0:Int) < _ by omega) ?_)))))|(refine Or.inl (Exists.intro 29 (And.intro rfl ?_)))|(exact rA)|(refine And.intro (show (0:Int)<=_ by omega) (And.intro (show _ < (_:Int) by omega) ?_))|(intro _))
theorem EM:ai gT 51 [.int .i64 30] (.tup [.int .i64 (cv 30),.int .i64 (aI 30)]):=by
 refine Spec.enter al mJ 100 Tryz.func51 rfl (by kernel_rfl) ?_
 repeat' ((conv=>whnf); first|(refine (And.intro (fun _=>?_) (fun _=>?_):(_->_)/\(_->_))<;>(first|(exfalso; first|contradiction|omega)|skip))|refine Or.inl (And.intro (by first|exact aq (by omega)|exact ah (by omega)|exact aF (by omega)|exact bb (by omega)) ?_)|(refine And.intro (show (_:Int)≠0 by omega) (Or.inl (And.intro (show (0:Int)<=_ by omega) (And.intro (show (0:Int) < _ by omega) ?_))))|(refine And.intro (show (_:Int)≠0 by omega) (Or.inl (And.intro (show (0:Int)<=_ by omega) (And.intro (by first|exact (show (_:Int)<=9223372036854775807 by omega)|exact (show (_:Int)<=4294967295 by omega)) (And.intro (show (0:Int) < _ by omega) ?_)))))|(refine Or.inl (Exists.intro 30 (And.intro rfl ?_)))|(exact rA)|(refine And.intro (show (0:Int)<=_ by omega) (And.intro (show _ < (_:Int) by omega) ?_))|(intro _))
theorem EN:ai gT 51 [.int .i64 31] (.tup [.int .i64 (cv 31),.int .i64 (aI 31)]):=by
 refine Spec.enter al mJ 100 Tryz.func51 rfl (by kernel_rfl) ?_
 repeat' ((conv=>whnf); first|(refine (And.intro (fun _=>?_) (fun _=>?_):(_->_)/\(_->_))<;>(first|(exfalso; first|contradiction|omega)|skip))|refine Or.inl (And.intro (by first|exact aq (by omega)|exact ah (by omega)|exact aF (by omega)|exact bb (by omega)) ?_)|(refine And.intro (show (_:Int)≠0 by omega) (Or.inl (And.intro (show (0:Int)<=_ by omega) (And.intro (show (0:Int) < _ by omega) ?_))))|(refine And.intro (show (_:Int)≠0 by omega) (Or.inl (And.intro (show (0:Int)<=_ by omega) (And.intro (by first|exact (show (_:Int)<=9223372036854775807 by omega)|exact (show (_:Int)<=4294967295 by omega)) (And.intro (show (0:Int) < _ by omega) ?_)))))|(refine Or.inl (Exists.intro 31 (And.intro rfl ?_)))|(exact rA)|(refine And.intro (show (0:Int)<=_ by omega) (And.intro (show _ < (_:Int) by omega) ?_))|(intro _))
theorem EO (k:Int) (h:¬ (1<=k/\k<=31)):ai gT 51 [.int .i64 k] (.tup [.int .i64 (-1),.int .i64 (-1)]):=by
 refine Spec.enter al mJ 100 Tryz.func51 rfl (by kernel_rfl) ?_
 repeat' ((conv=>whnf); first|(refine (And.intro (fun _=>?_) (fun _=>?_):(_->_)/\(_->_))<;>(first|(exfalso; first|contradiction|omega)|skip))|refine Or.inl (And.intro (by first|exact aq (by omega)|exact ah (by omega)|exact aF (by omega)|exact bb (by omega)) ?_)|(refine And.intro (show (_:Int)≠0 by omega) (Or.inl (And.intro (show (0:Int)<=_ by omega) (And.intro (show (0:Int) < _ by omega) ?_))))|(refine And.intro (show (_:Int)≠0 by omega) (Or.inl (And.intro (show (0:Int)<=_ by omega) (And.intro (by first|exact (show (_:Int)<=9223372036854775807 by omega)|exact (show (_:Int)<=4294967295 by omega)) (And.intro (show (0:Int) < _ by omega) ?_)))))|(exact rA)|(intro _))
theorem y6 (k:Int) (h:1<=k/\k<=31):ai gT 51 [.int .i64 k] (.tup [.int .i64 (cv k),.int .i64 (aI k)]):=by
 rcases kinds h with rfl|rfl|rfl|rfl|rfl|rfl|rfl|rfl|rfl|rfl|rfl|rfl|rfl|rfl|rfl|rfl|rfl|rfl|rfl|rfl|rfl|rfl|rfl|rfl|rfl|rfl|rfl|rfl|rfl|rfl|rfl
 ·exact Jy
 ·exact Jz
 ·exact JA
 ·exact JB
 ·exact JC
 ·exact JD
 ·exact JE
 ·exact JF
 ·exact JG
 ·exact Er
 ·exact Es
 ·exact Et
 ·exact Eu
 ·exact Ew
 ·exact Ex
 ·exact Ey
 ·exact Ez
 ·exact EA
 ·exact EB
 ·exact EC
 ·exact ED
 ·exact EE
 ·exact EF
 ·exact EG
 ·exact EH
 ·exact EI
 ·exact EJ
 ·exact EK
 ·exact EL
 ·exact EM
 ·exact EN
 
theorem VR (k:Int) (h:1<=k/\k<=31):0<=cv k/\cv k<=2:=by
 rcases kinds h with rfl|rfl|rfl|rfl|rfl|rfl|rfl|rfl|rfl|rfl|rfl|rfl|rfl|rfl|rfl|rfl|rfl|rfl|rfl|rfl|rfl|rfl|rfl|rfl|rfl|rfl|rfl|rfl|rfl|rfl|rfl<;>decide
theorem y7 (o:VO) (hn:0<=o.n/\o.n<=4294967295):ai gT 24 [nC o] (.bool (aO o)):=by
 by_cases hk:1<=o.kind/\o.kind<=31
 ·have hv:=VR o.kind hk
  have hs:=y6 o.kind hk
  have e:aO o↔((dd 0 (cv o.kind) o.t0/\dd 1 (cv o.kind) o.t1)/\(dd 0 (aI o.kind) o.f0/\dd 1 (aI o.kind) o.f1/\dd 2 (aI o.kind) o.f2/\dd 3 (aI o.kind) o.f3)/\(cv o.kind < 2\/o.t0≠o.t1)/\cC o.kind o.n):=⟨fun h=>h.2,fun h=>⟨hk,h⟩⟩
  refine Spec.enter al P24 100 Tryz.func24 rfl (by kernel_rfl) ?_
  refine hs.u ?_
  obtain⟨to,hto⟩:∃ to,to=cv o.kind:=⟨_,rfl⟩
  obtain⟨fr,Bv⟩:∃ fr,fr=aI o.kind:=⟨_,rfl⟩
  rw[← hto,← Bv] at e ⊢
  rw[← hto] at hv
  clear Bv hto hs hk
  repeat' ((conv=>whnf); first|(refine (And.intro (fun _=>?_) (fun _=>?_):(_->_)/\(_->_))<;>(first|(exfalso; first|contradiction|omega)|skip))|refine Or.inl (And.intro (by first|exact aq (by omega)|exact ah (by omega)|exact aF (by omega)|exact bb (by omega)) ?_)|(refine And.intro (show (_:Int)≠0 by omega) (Or.inl (And.intro (show (0:Int)<=_ by omega) (And.intro (show (0:Int) < _ by omega) ?_))))|(refine And.intro (show (_:Int)≠0 by omega) (Or.inl (And.intro (show (0:Int)<=_ by omega) (And.intro (by first|exact (show (_:Int)<=9223372036854775807 by omega)|exact (show (_:Int)<=4294967295 by omega)) (And.intro (show (0:Int) < _ by omega) ?_)))))|(refine SW.rounds al P24 (by kernel_rfl) (N:=60) 5 ?_)|(refine ax ?_; (show ¬ aO o); rw[e]; (try simp only[Classical.not_not,C6,Qy,Qz,QA,QB,QC,QD,QE,QF,Aj,Ak] at *); clear e; simp only[dd,cC] at *; omega)|(refine ax ?_; (show _↔aO o); rw[e]; (try simp only[Classical.not_not,C6,Qy,Qz,QA,QB,QC,QD,QE,QF,Aj,Ak] at *); clear e; simp only[dd,cC] at *; omega)|(refine ax ?_; (show aO o); rw[e]; (try simp only[Classical.not_not,C6,Qy,Qz,QA,QB,QC,QD,QE,QF,Aj,Ak] at *); clear e; simp only[dd,cC] at *; omega)|(refine Exists.intro [] (And.intro bf ((Ep _ _ _).use (by repeat' first|exact trivial|exact rfl|exact Iff.rfl|exact Or.inl rfl|refine And.intro ?_ ?_) rfl rfl ?_)))|(intro _))
 ·refine Spec.enter al P24 100 Tryz.func24 rfl (by kernel_rfl) ?_
  refine (EO o.kind hk).u ?_
  repeat' ((conv=>whnf); first|(refine (And.intro (fun _=>?_) (fun _=>?_):(_->_)/\(_->_))<;>(first|(exfalso; first|contradiction|omega)|skip))|refine Or.inl (And.intro (by first|exact aq (by omega)|exact ah (by omega)|exact aF (by omega)|exact bb (by omega)) ?_)|(refine And.intro (show (_:Int)≠0 by omega) (Or.inl (And.intro (show (0:Int)<=_ by omega) (And.intro (show (0:Int) < _ by omega) ?_))))|(refine And.intro (show (_:Int)≠0 by omega) (Or.inl (And.intro (show (0:Int)<=_ by omega) (And.intro (by first|exact (show (_:Int)<=9223372036854775807 by omega)|exact (show (_:Int)<=4294967295 by omega)) (And.intro (show (0:Int) < _ by omega) ?_)))))|(refine ax ?_; exact (show ¬ aO o from fun h=>hk h.1))|(intro _))
def ae (t f:Int):Prop:=¬ 7 < t/\¬ 7 < f/\¬ (0<=t/\t=f)
theorem pM (l:List Int) (x:Int):x∈nm l↔x∈l/\x≠-1:=by simp[nm]
theorem jg (o:VO) (hv:aO o):(aO o/\dQ o)↔(ae o.t0 o.f0/\ae o.t0 o.f1/\ae o.t0 o.f2/\ae o.t0 o.f3)/\(ae o.t1 o.f0/\ae o.t1 o.f1/\ae o.t1 o.f2/\ae o.t1 o.f3):=by
 have XH:=hv
 obtain⟨_,⟨a0,a1⟩,⟨b0,b1,b2,b3⟩,_⟩:=hv
 have g:∀ i n r,dd i n r->-1<=r:=fun i n r h=>by unfold dd at h; omega
 have a0:=g _ _ _ a0; have a1:=g _ _ _ a1; have b0:=g _ _ _ b0; have b1:=g _ _ _ b1; have b2:=g _ _ _ b2; have b3:=g _ _ _ b3
 refine⟨fun ⟨_,h1,h2⟩=>?_,fun h=>⟨XH,?_,?_⟩⟩
 ·have hf:∀ x∈o.from_,x≠-1->x < 8:=fun x hx hn=>h1 x (List.mem_append_left _ ((pM _ _).2 ⟨hx,hn⟩))
  have ht:∀ x∈o.to,x≠-1->x < 8:=fun x hx hn=>h1 x (List.mem_append_right _ ((pM _ _).2 ⟨hx,hn⟩))
  have hp:∀ x∈o.to,x≠-1->x ∉ o.from_:=fun x hx hn hf=>h2 ⟨x,(pM _ _).2 ⟨hx,hn⟩,(pM _ _).2 ⟨hf,hn⟩⟩
  have f0:=hf o.f0 (by simp[VO.from_]); have f1:=hf o.f1 (by simp[VO.from_]); have f2:=hf o.f2 (by simp[VO.from_]); have f3:=hf o.f3 (by simp[VO.from_])
  have t0:=ht o.t0 (by simp[VO.to]); have t1:=ht o.t1 (by simp[VO.to])
  have p0:=hp o.t0 (by simp[VO.to]); have p1:=hp o.t1 (by simp[VO.to])
  simp only[VO.from_,List.mem_cons,List.not_mem_nil,or_false,not_or] at p0 p1
  unfold ae
  omega
 ·intro x hx
  simp only[List.mem_append,pM,VO.from_,VO.to,List.mem_cons,List.not_mem_nil,or_false] at hx
  unfold ae at h
  omega
 ·rintro⟨x,hx,hy⟩
  simp only[pM,VO.from_,VO.to,List.mem_cons,List.not_mem_nil,or_false] at hx hy
  unfold ae at h
  omega
theorem uX (o:VO) (hn:0<=o.n/\o.n<=4294967295):ai gT 7 [nC o] (.bool (aO o/\dQ o)):=by
 refine Spec.enter al P7 100 Tryz.func7 rfl (by kernel_rfl) ?_
 refine (y7 o hn).u ?_
 refine⟨fun h1=>?_,fun h1=>?_⟩
 ·refine ax ?_
  exact (show ¬ (aO o/\dQ o) from fun h=>h1 h.1)
 have e:=jg o (Classical.not_not.1 h1)
 clear h1
 repeat' ((conv=>whnf); first|(refine (And.intro (fun _=>?_) (fun _=>?_):(_->_)/\(_->_))<;>(first|(exfalso; first|contradiction|omega)|skip))|refine Or.inl (And.intro (by first|exact aq (by omega)|exact ah (by omega)|exact aF (by omega)|exact bb (by omega)) ?_)|(refine And.intro (show (_:Int)≠0 by omega) (Or.inl (And.intro (show (0:Int)<=_ by omega) (And.intro (show (0:Int) < _ by omega) ?_))))|(refine And.intro (show (_:Int)≠0 by omega) (Or.inl (And.intro (show (0:Int)<=_ by omega) (And.intro (by first|exact (show (_:Int)<=9223372036854775807 by omega)|exact (show (_:Int)<=4294967295 by omega)) (And.intro (show (0:Int) < _ by omega) ?_)))))|(refine ax ?_; (show ¬ (aO o/\dQ o)); rw[e]; clear e; unfold ae; omega)|(refine ax ?_; (show aO o/\dQ o); rw[e]; clear e; unfold ae; omega)|(refine SW.rounds al P7 (by kernel_rfl) (N:=60) 5 ?_)|(intro _))
def wO (n:Int):VO:=⟨1,3,-1,-1,-1,-1,-1,n⟩
theorem Cz (n:Int):aO (wO n)/\dQ (wO n):=by
 have h:aO (wO n):=by
  refine⟨show (1:Int)<=1/\(1:Int)<=31 by decide,?_,?_,.inl (show cv 1 < 2 by decide),.inl rfl⟩
  ·show dd 0 (cv 1) 3/\dd 1 (cv 1) (-1)
   rw[show cv 1=1 by decide]; unfold dd; omega
  ·show dd 0 (aI 1) (-1)/\dd 1 (aI 1) (-1)/\dd 2 (aI 1) (-1)/\dd 3 (aI 1) (-1)
   rw[show aI 1=0 by decide]; unfold dd; omega
 refine (jg _ h).2 ?_
 show (ae 3 (-1)/\ae 3 (-1)/\ae 3 (-1)/\ae 3 (-1))/\(ae (-1) (-1)/\ae (-1) (-1)/\ae (-1) (-1)/\ae (-1) (-1))
 unfold ae
 omega
theorem tZ:ai gT 6 [] .tt:=by
 have e1:wN (wO 256) = .tup [.sl 11 (bO [iM 60 3 3968]),.int .i64 0]:=by
  rw[wN,if_pos (Cz _)]
  have h1:Rm.k_ 256=0:=by decide +kernel
  have h2:Rm.nz 256=3968:=by decide +kernel
  simp only[ar,wO,aA,bp,aK,aL,aM,jN,h1,h2,ne_eq,reduceIte,Int.reduceEq,Int.reduceLE,not_false_eq_true,not_true_eq_false,List.nil_append,List.append_nil]
 have e2:wN (wO 305419896) = .tup [.sl 11 (bO [iM 48 3 22136,iM 49 3 4660]),.int .i64 0]:=by
  rw[wN,if_pos (Cz _)]
  have h1:Rm.k_ 305419896≠0:=by decide +kernel
  have h2:Rm.k_ (4294967295 - 305419896)≠0:=by decide +kernel
  simp only[ar,wO,aA,bp,aK,aL,aM,jN,h1,h2,ne_eq,reduceIte,Int.reduceEq,Int.reduceLE,Int.reduceDiv,Int.reduceMod,not_false_eq_true,not_true_eq_false,List.nil_append,List.append_nil]
 have i1:=nu (wO 256) (show (0:Int)<=256/\(256:Int)<=4294967295 by decide)
 have i2:=nu (wO 305419896) (show (0:Int)<=305419896/\(305419896:Int)<=4294967295 by decide)
 rw[e1] at i1
 rw[e2] at i2
 refine Spec.enter al P6 100 Tryz.func6 rfl (by kernel_rfl) ?_
 repeat' ((conv=>whnf); first|(refine (And.intro (fun _=>?_) (fun _=>?_):(_->_)/\(_->_))<;>(first|(exfalso; first|contradiction|omega)|skip))|refine Or.inl (And.intro (by first|exact aq (by omega)|exact ah (by omega)|exact aF (by omega)|exact bb (by omega)) ?_)|(refine And.intro (show (_:Int)≠0 by omega) (Or.inl (And.intro (show (0:Int)<=_ by omega) (And.intro (show (0:Int) < _ by omega) ?_))))|(refine And.intro (show (_:Int)≠0 by omega) (Or.inl (And.intro (show (0:Int)<=_ by omega) (And.intro (by first|exact (show (_:Int)<=9223372036854775807 by omega)|exact (show (_:Int)<=4294967295 by omega)) (And.intro (show (0:Int) < _ by omega) ?_)))))|(refine SW.rounds al P50 (by kernel_rfl) (N:=60) 5 ?_)|(refine Exists.intro [] (And.intro bf (Spec.enter al P50 100 Tryz.func50 rfl (by kernel_rfl) ?_)))|(refine Exists.intro [] (And.intro bf (Spec.enter al P23 100 Tryz.func23 rfl (by kernel_rfl) ?_)))|(refine Exists.intro _ (And.intro (zx.refl _) ?_))|(intro _))
 refine i1.u ?_
 repeat' ((conv=>whnf); first|(refine (And.intro (fun _=>?_) (fun _=>?_):(_->_)/\(_->_))<;>(first|(exfalso; first|contradiction|omega)|skip))|refine Or.inl (And.intro (by first|exact aq (by omega)|exact ah (by omega)|exact aF (by omega)|exact bb (by omega)) ?_)|(refine And.intro (show (_:Int)≠0 by omega) (Or.inl (And.intro (show (0:Int)<=_ by omega) (And.intro (show (0:Int) < _ by omega) ?_))))|(refine And.intro (show (_:Int)≠0 by omega) (Or.inl (And.intro (show (0:Int)<=_ by omega) (And.intro (by first|exact (show (_:Int)<=9223372036854775807 by omega)|exact (show (_:Int)<=4294967295 by omega)) (And.intro (show (0:Int) < _ by omega) ?_)))))|(refine SW.rounds al P50 (by kernel_rfl) (N:=60) 5 ?_)|(refine Exists.intro [] (And.intro bf (Spec.enter al P50 100 Tryz.func50 rfl (by kernel_rfl) ?_)))|(refine Exists.intro [] (And.intro bf (Spec.enter al P23 100 Tryz.func23 rfl (by kernel_rfl) ?_)))|(refine Exists.intro _ (And.intro (zx.refl _) ?_))|(intro _))
 refine i2.u ?_
 refine⟨fun _=>?_,fun h=>absurd rfl h⟩
 refine⟨fun _=>?_,fun h=>absurd rfl h⟩
 intro _
 refine⟨fun _=>?_,fun h=>absurd rfl h⟩
 refine⟨IN,[iM 60 3 3968],c9,rfl,by decide,by decide,fun x hx=>?_⟩
 obtain rfl:iM 60 3 3968=x:=Option.some.inj hx
 refine⟨fun _=>?_,fun h=>absurd ⟨rfl,rfl,rfl,rfl,rfl,rfl,rfl,rfl,rfl,rfl,rfl,trivial⟩ h⟩
 intro _
 refine⟨fun _=>?_,fun h=>absurd rfl h⟩
 refine⟨IN,[iM 48 3 22136,iM 49 3 4660],c9,rfl,by decide,by decide,fun x hx=>?_⟩
 obtain rfl:iM 48 3 22136=x:=Option.some.inj hx
 refine⟨fun _=>?_,fun h=>absurd rfl h⟩
 refine⟨IN,[iM 48 3 22136,iM 49 3 4660],c9,rfl,by decide,by decide,fun x hx=>?_⟩
 obtain rfl:iM 49 3 4660=x:=Option.some.inj hx
 exact ax rfl
end Go.Proofs.YtlgkljpgagfndaaGreatDoor.Pw
namespace Go.Proofs.YtlgkljpgagfndaaGreatDoor.jF
open Go.ChangeShapes Go.WideShapes Go.ChangeAt Go.RowKit Go.Deep
def kb:List (String × DataW Unit):=[("remontoire/imm.factors",Rows.laid_remontoire_imm_factors),("remontoire/inst.shapes",Rows.laid_remontoire_inst_shapes),("remontoire/vop.rows",Rows.laid_remontoire_vop_rows)]
def fuel:Nat:=3000
theorem JH (os:Os) (args:Array Value):laidMetH Tryz.prog kb ((World.doorLaid Tryz.prog fuel os).forCall (fun _ _=>0) ⟨#[],args,[]⟩).memory :=
 laidMetH_of_parts3 (fuel:=8) (laidMet_of_run' 8 (by kernel_rfl) (by kernel_rfl)) (by kernel_rfl) (by kernel_rfl)
end Go.Proofs.YtlgkljpgagfndaaGreatDoor.jF
namespace Go.Proofs.YtlgkljpgagfndaaGreatDoor.Pw
open Go Go.RowKit
theorem VS {W:World} (h:laidMetH Tryz.prog jF.kb W):de gT (In W) W :=
 z3 (laid:=jF.kb) (by kernel_rfl) h fun x hx=>by
  have uv:x∈[(1,Ql),(2,shP),(0,GJ)]:=hx
  simp only[List.mem_cons,List.not_mem_nil,or_false] at uv
  rcases uv with rfl|rfl|rfl
  ·exact⟨"remontoire/imm.factors",_,98,List.mem_cons_self,by kernel_rfl,by kernel_rfl,by kernel_rfl,nofun⟩
  ·exact⟨"remontoire/inst.shapes",_,202,List.mem_cons_of_mem _ List.mem_cons_self,by kernel_rfl,by kernel_rfl,by kernel_rfl,nofun⟩
  ·exact⟨"remontoire/vop.rows",_,154,List.mem_cons_of_mem _ (List.mem_cons_of_mem _ List.mem_cons_self),by kernel_rfl,by kernel_rfl,by kernel_rfl,nofun⟩
theorem JI {P:Program} {t e:TypeId} {S:PV->Prop} {n:Nat} (ht:P.underlying t=some (.array n e)) (he:Op P e S) (hc:P.cellsOf t=n*P.cellsOf e):Op P t (om (List.replicate n S)):=fun {H} ec w base held fuel cs x h rY=>by
 obtain⟨xs,m,_,rfl,hl,rr,hx⟩:=DataW.trod_array ht h
 have key:∀ (k off:Nat),k+off=n->∃ ys,rX (List.replicate k S) ys/\bG w (In w) (ys.flatMap PV.cells) no (cs.drop (off*P.cellsOf e))/\∀ c∈cs.drop (off*P.cellsOf e),c.oneCell'=true:=by
  intro k
  induction k with
  | zero =>
   intro off hk
   have Bz:cs.length<=off*P.cellsOf e:=by rw[hl,hc,show off=n by omega]; exact Nat.le_refl _
   refine⟨[],trivial,?_,?_⟩
   ·rw[List.drop_eq_nil_of_le Bz]; simp only[List.flatMap_nil,bG]
   ·rw[List.drop_eq_nil_of_le Bz]; intro c hc; cases hc
  | succ k ih =>
   intro off hk
   obtain⟨ys,h1,h2,h3⟩:=ih (off+1) (by omega)
   have hi:=hx off (by omega)
   have cE:off < xs.length:=by omega
   rw[List.getElem?_eq_getElem cE] at hi
   obtain⟨y,hS,_,hy,Kq,lC⟩:=he ec w base held m _ _ hi fun n hn=>rY n (by
    simp only[DataW.weights,ht]
    exact jy (List.mem_map.2 ⟨xs[off],List.getElem_mem cE,rfl⟩) hn)
   have hd:cs.drop (off*P.cellsOf e)=(cs.drop (off*P.cellsOf e)).take (P.cellsOf e)++cs.drop ((off+1)*P.cellsOf e):=by
    rw[Nat.succ_mul,← List.drop_drop,List.take_append_drop]
   refine⟨y::ys,⟨hS,h1⟩,?_,?_⟩
   ·rw[hd,List.flatMap_cons]; exact hy.append h2
   ·intro c hcc
    rw[hd,List.mem_append] at hcc
    exact hcc.elim (lC c) (h3 c)
 obtain⟨ys,h1,h2,h3⟩:=key n 0 rfl
 rw[Nat.zero_mul,List.drop_zero] at h2 h3
 exact⟨.agg (ys.flatMap PV.cells),⟨ys,h1,rfl⟩,nofun,h2,hl,h3⟩
structure VO.Ok (o:VO):Prop where
 n:0<=o.n/\o.n<=4294967295
theorem JJ {z:Int} (h:w_ .u32 z):0<=z/\z<=4294967295:=by unfold w_ Ev.lq Ev.kX at h; simp only[IntKind.signed,IntKind.bits] at h; simpa using h
theorem opVO_:Op Tryz.prog 26 (om [SInt .i64,om (List.replicate 2 (SInt .i64)),om (List.replicate 4 (SInt .i64)),SInt .u32]) :=
 O3 (Ss:=[SInt .i64,om (List.replicate 2 (SInt .i64)),om (List.replicate 4 (SInt .i64)),SInt .u32]) Tryz.underlying26
  ⟨rfl,xX Tryz.underlying3 (by kernel_rfl),(show _=_ by kernel_rfl),JI Tryz.underlying22 (xX Tryz.underlying3 (by kernel_rfl)) (by kernel_rfl),(show _=_ by kernel_rfl),JI Tryz.underlying23 (xX Tryz.underlying3 (by kernel_rfl)) (by kernel_rfl),(show _=_ by kernel_rfl),xX Tryz.underlying24 (by kernel_rfl),(show _=_ by kernel_rfl)⟩
theorem VT (x:PV) (h:om [SInt .i64,om (List.replicate 2 (SInt .i64)),om (List.replicate 4 (SInt .i64)),SInt .u32] x):∃ o:VO,o.Ok/\x=nC o:=by
 obtain⟨xs,h,rfl⟩:=h
 obtain⟨_,_,rfl,⟨k,_,rfl⟩,h_1⟩:=cY h
 obtain⟨_,_,rfl,⟨ts,ht,rfl⟩,h_2⟩:=cY h_1
 obtain⟨_,_,rfl,⟨fs,hf,rfl⟩,h_3⟩:=cY h_2
 obtain⟨_,_,rfl,⟨n,hn,rfl⟩,h_4⟩:=cY h_3
 obtain rfl:=oo h_4
 obtain⟨_,_,rfl,⟨t0,_,rfl⟩,ht_1⟩:=cY ht
 obtain⟨_,_,rfl,⟨t1,_,rfl⟩,ht_2⟩:=cY ht_1
 obtain rfl:=oo ht_2
 obtain⟨_,_,rfl,⟨f0,_,rfl⟩,hf_1⟩:=cY hf
 obtain⟨_,_,rfl,⟨f1,_,rfl⟩,hf_2⟩:=cY hf_1
 obtain⟨_,_,rfl,⟨f2,_,rfl⟩,hf_3⟩:=cY hf_2
 obtain⟨_,_,rfl,⟨f3,_,rfl⟩,hf_4⟩:=cY hf_3
 obtain rfl:=oo hf_4
 exact⟨⟨k,t0,t1,f0,f1,f2,f3,n⟩,⟨JJ hn⟩,rfl⟩
def SVO (x:PV):Prop:=∃ o:VO,o.Ok/\x=nC o
theorem opVO:Op Tryz.prog 26 SVO:=opVO_.GM VT
theorem EP (o:VO) (h:o.Ok) (hf:aO o/\dQ o):ai gT 8 [nC o] (.tup [.sl 11 (bO (ar o)),.int .i64 0]):=by
 have:=nu o h.n
 rwa [wN,if_pos hf] at this
def lX (k:Int):Int:=if k=30 then 2 else if k=31 then 0 else -1
def qf (k:Int):Int:=if k=30 then 1 else if k=31 then 2 else 0
theorem ER (o:VO):ai gT 19 [nC o] (.tup [.int .i64 (lX o.kind),.int .i64 (qf o.kind)]):=by
 refine Spec.enter al P19 100 Tryz.func19 rfl (by kernel_rfl) ?_
 repeat' ((conv=>whnf); first|(refine (And.intro (fun _=>?_) (fun _=>?_):(_->_)/\(_->_))<;>(first|(exfalso; first|contradiction|omega)|skip))|refine Or.inl (And.intro (by first|exact aq (by omega)|exact ah (by omega)|exact aF (by omega)|exact bb (by omega)) ?_)|(refine And.intro (show (_:Int)≠0 by omega) (Or.inl (And.intro (show (0:Int)<=_ by omega) (And.intro (show (0:Int) < _ by omega) ?_))))|(refine And.intro (show (_:Int)≠0 by omega) (Or.inl (And.intro (show (0:Int)<=_ by omega) (And.intro (by first|exact (show (_:Int)<=9223372036854775807 by omega)|exact (show (_:Int)<=4294967295 by omega)) (And.intro (show (0:Int) < _ by omega) ?_)))))|((simp only[lX,qf, *,if_true,if_false,reduceIte,Int.reduceEq]); exact rA)|(intro _))
theorem qS (x:Int):(0<=Rm.ofM x↔Rm.k_ x=0)/\(0<=Rm.ofM x->Rm.ofM x=Rm.nz x):=by
 unfold Rm.ofM Rm.k_ Rm.nz
 cases Rm.dec x.toNat with
 | none=>simp
 | some n=>simp
theorem JK (n:Int) (h:n % 4=0) (h0:256<=n) (h1:n<=1024):Rm.ofM n=Rm.nz n:=by
 have key:∀ k:Fin 193,0<=Rm.ofM (256+4*(k.1:Int)):=by decide +kernel
 have:=key ⟨((n - 256) / 4).toNat,by omega⟩
 rw[show 256+4*((((n - 256) / 4).toNat:Nat):Int)=n by omega] at this
 exact (qS n).2 this
end Go.Proofs.YtlgkljpgagfndaaGreatDoor.Pw

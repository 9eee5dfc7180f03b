/- What this claim is proved with: no condition. -/
import Derived.Test.YtlgkljpgagfndaaGreatDoorNv26
import Derived.Test.YtlgkljpgagfndaaGreatDoorRows
import Derived.Test.YtlgkljpgagfndaaGreatDoorNv25
import Derived.Test.YtlgkljpgagfndaaGreatDoorNv9
import Derived.ProofKit
import Derived.LaidMore
import Derived.OpenShut
import Derived.Stop.Joined
import Derived.Lib.LaidTab
set_option maxRecDepth 100000
set_option maxHeartbeats 8000000
set_option linter.unusedVariables false
set_option linter.unusedSimpArgs false
namespace Go.Proofs.YtlgkljpgagfndaaGreatDoor.Pw
open Go Go.RowKit
theorem Cu (r i n:Int):ai gT 52 [.int .i64 r,.int .i64 i,.int .i64 n] (.bool (da i n r)):=by
 refine Spec.enter al P52 100 Tryz.func52 rfl (by kernel_rfl) ?_
 repeat' ((conv=>whnf); first|(refine (And.intro (fun _=>?_) (fun _=>?_):(_->_)/\(_->_))<;>(first|(exfalso; first|contradiction|omega)|skip))|refine Or.inl (And.intro (by first|exact ao (by omega)|exact ah (by omega)|exact aF (by omega)|exact ba (by omega)) ?_)|(refine And.intro (show (_:Int)≠0 by omega) (Or.inl (And.intro (show (0:Int)<=_ by omega) (And.intro (show (0:Int) < _ by omega) ?_))))|(refine And.intro (show (_:Int)≠0 by omega) (Or.inl (And.intro (show (0:Int)<=_ by omega) (And.intro (by first|exact (show (_:Int)<=9223372036854775807 by omega)|exact (show (_:Int)<=4294967295 by omega)) (And.intro (show (0:Int) < _ by omega) ?_)))))|(refine aw ?_; show ¬ da _ _ _; unfold da; omega)|(refine aw ?_; show _↔da _ _ _; unfold da; omega)|(intro _))
theorem F_:ai gT 51 [.int .i64 1] (.tup [.int .i64 (cz 1),.int .i64 (aH 1)]):=by
 refine Spec.enter al mc 100 Tryz.func51 rfl (by kernel_rfl) ?_
 repeat' ((conv=>whnf); first|(refine (And.intro (fun _=>?_) (fun _=>?_):(_->_)/\(_->_))<;>(first|(exfalso; first|contradiction|omega)|skip))|refine Or.inl (And.intro (by first|exact ao (by omega)|exact ah (by omega)|exact aF (by omega)|exact ba (by omega)) ?_)|(refine And.intro (show (_:Int)≠0 by omega) (Or.inl (And.intro (show (0:Int)<=_ by omega) (And.intro (show (0:Int) < _ by omega) ?_))))|(refine And.intro (show (_:Int)≠0 by omega) (Or.inl (And.intro (show (0:Int)<=_ by omega) (And.intro (by first|exact (show (_:Int)<=9223372036854775807 by omega)|exact (show (_:Int)<=4294967295 by omega)) (And.intro (show (0:Int) < _ by omega) ?_)))))|(refine Or.inl (Exists.intro 1 (And.intro rfl ?_)))|(exact rA)|(refine And.intro (show (0:Int)<=_ by omega) (And.intro (show _ < (_:Int) by omega) ?_))|(intro _))
theorem Ga:ai gT 51 [.int .i64 2] (.tup [.int .i64 (cz 2),.int .i64 (aH 2)]):=by
 refine Spec.enter al mc 100 Tryz.func51 rfl (by kernel_rfl) ?_
 repeat' ((conv=>whnf); first|(refine (And.intro (fun _=>?_) (fun _=>?_):(_->_)/\(_->_))<;>(first|(exfalso; first|contradiction|omega)|skip))|refine Or.inl (And.intro (by first|exact ao (by omega)|exact ah (by omega)|exact aF (by omega)|exact ba (by omega)) ?_)|(refine And.intro (show (_:Int)≠0 by omega) (Or.inl (And.intro (show (0:Int)<=_ by omega) (And.intro (show (0:Int) < _ by omega) ?_))))|(refine And.intro (show (_:Int)≠0 by omega) (Or.inl (And.intro (show (0:Int)<=_ by omega) (And.intro (by first|exact (show (_:Int)<=9223372036854775807 by omega)|exact (show (_:Int)<=4294967295 by omega)) (And.intro (show (0:Int) < _ by omega) ?_)))))|(refine Or.inl (Exists.intro 2 (And.intro rfl ?_)))|(exact rA)|(refine And.intro (show (0:Int)<=_ by omega) (And.intro (show _ < (_:Int) by omega) ?_))|(intro _))
theorem Gb:ai gT 51 [.int .i64 3] (.tup [.int .i64 (cz 3),.int .i64 (aH 3)]):=by
 refine Spec.enter al mc 100 Tryz.func51 rfl (by kernel_rfl) ?_
 repeat' ((conv=>whnf); first|(refine (And.intro (fun _=>?_) (fun _=>?_):(_->_)/\(_->_))<;>(first|(exfalso; first|contradiction|omega)|skip))|refine Or.inl (And.intro (by first|exact ao (by omega)|exact ah (by omega)|exact aF (by omega)|exact ba (by omega)) ?_)|(refine And.intro (show (_:Int)≠0 by omega) (Or.inl (And.intro (show (0:Int)<=_ by omega) (And.intro (show (0:Int) < _ by omega) ?_))))|(refine And.intro (show (_:Int)≠0 by omega) (Or.inl (And.intro (show (0:Int)<=_ by omega) (And.intro (by first|exact (show (_:Int)<=9223372036854775807 by omega)|exact (show (_:Int)<=4294967295 by omega)) (And.intro (show (0:Int) < _ by omega) ?_)))))|(refine Or.inl (Exists.intro 3 (And.intro rfl ?_)))|(exact rA)|(refine And.intro (show (0:Int)<=_ by omega) (And.intro (show _ < (_:Int) by omega) ?_))|(intro _))
theorem Gc:ai gT 51 [.int .i64 4] (.tup [.int .i64 (cz 4),.int .i64 (aH 4)]):=by
 refine Spec.enter al mc 100 Tryz.func51 rfl (by kernel_rfl) ?_
 repeat' ((conv=>whnf); first|(refine (And.intro (fun _=>?_) (fun _=>?_):(_->_)/\(_->_))<;>(first|(exfalso; first|contradiction|omega)|skip))|refine Or.inl (And.intro (by first|exact ao (by omega)|exact ah (by omega)|exact aF (by omega)|exact ba (by omega)) ?_)|(refine And.intro (show (_:Int)≠0 by omega) (Or.inl (And.intro (show (0:Int)<=_ by omega) (And.intro (show (0:Int) < _ by omega) ?_))))|(refine And.intro (show (_:Int)≠0 by omega) (Or.inl (And.intro (show (0:Int)<=_ by omega) (And.intro (by first|exact (show (_:Int)<=9223372036854775807 by omega)|exact (show (_:Int)<=4294967295 by omega)) (And.intro (show (0:Int) < _ by omega) ?_)))))|(refine Or.inl (Exists.intro 4 (And.intro rfl ?_)))|(exact rA)|(refine And.intro (show (0:Int)<=_ by omega) (And.intro (show _ < (_:Int) by omega) ?_))|(intro _))
theorem Gd:ai gT 51 [.int .i64 5] (.tup [.int .i64 (cz 5),.int .i64 (aH 5)]):=by
 refine Spec.enter al mc 100 Tryz.func51 rfl (by kernel_rfl) ?_
 repeat' ((conv=>whnf); first|(refine (And.intro (fun _=>?_) (fun _=>?_):(_->_)/\(_->_))<;>(first|(exfalso; first|contradiction|omega)|skip))|refine Or.inl (And.intro (by first|exact ao (by omega)|exact ah (by omega)|exact aF (by omega)|exact ba (by omega)) ?_)|(refine And.intro (show (_:Int)≠0 by omega) (Or.inl (And.intro (show (0:Int)<=_ by omega) (And.intro (show (0:Int) < _ by omega) ?_))))|(refine And.intro (show (_:Int)≠0 by omega) (Or.inl (And.intro (show (0:Int)<=_ by omega) (And.intro (by first|exact (show (_:Int)<=9223372036854775807 by omega)|exact (show (_:Int)<=4294967295 by omega)) (And.intro (show (0:Int) < _ by omega) ?_)))))|(refine Or.inl (Exists.intro 5 (And.intro rfl ?_)))|(exact rA)|(refine And.intro (show (0:Int)<=_ by omega) (And.intro (show _ < (_:Int) by omega) ?_))|(intro _))
theorem Ge:ai gT 51 [.int .i64 6] (.tup [.int .i64 (cz 6),.int .i64 (aH 6)]):=by
 refine Spec.enter al mc 100 Tryz.func51 rfl (by kernel_rfl) ?_
 repeat' ((conv=>whnf); first|(refine (And.intro (fun _=>?_) (fun _=>?_):(_->_)/\(_->_))<;>(first|(exfalso; first|contradiction|omega)|skip))|refine Or.inl (And.intro (by first|exact ao (by omega)|exact ah (by omega)|exact aF (by omega)|exact ba (by omega)) ?_)|(refine And.intro (show (_:Int)≠0 by omega) (Or.inl (And.intro (show (0:Int)<=_ by omega) (And.intro (show (0:Int) < _ by omega) ?_))))|(refine And.intro (show (_:Int)≠0 by omega) (Or.inl (And.intro (show (0:Int)<=_ by omega) (And.intro (by first|exact (show (_:Int)<=9223372036854775807 by omega)|exact (show (_:Int)<=4294967295 by omega)) (And.intro (show (0:Int) < _ by omega) ?_)))))|(refine Or.inl (Exists.intro 6 (And.intro rfl ?_)))|(exact rA)|(refine And.intro (show (0:Int)<=_ by omega) (And.intro (show _ < (_:Int) by omega) ?_))|(intro _))
theorem Gf:ai gT 51 [.int .i64 7] (.tup [.int .i64 (cz 7),.int .i64 (aH 7)]):=by
 refine Spec.enter al mc 100 Tryz.func51 rfl (by kernel_rfl) ?_
 repeat' ((conv=>whnf); first|(refine (And.intro (fun _=>?_) (fun _=>?_):(_->_)/\(_->_))<;>(first|(exfalso; first|contradiction|omega)|skip))|refine Or.inl (And.intro (by first|exact ao (by omega)|exact ah (by omega)|exact aF (by omega)|exact ba (by omega)) ?_)|(refine And.intro (show (_:Int)≠0 by omega) (Or.inl (And.intro (show (0:Int)<=_ by omega) (And.intro (show (0:Int) < _ by omega) ?_))))|(refine And.intro (show (_:Int)≠0 by omega) (Or.inl (And.intro (show (0:Int)<=_ by omega) (And.intro (by first|exact (show (_:Int)<=9223372036854775807 by omega)|exact (show (_:Int)<=4294967295 by omega)) (And.intro (show (0:Int) < _ by omega) ?_)))))|(refine Or.inl (Exists.intro 7 (And.intro rfl ?_)))|(exact rA)|(refine And.intro (show (0:Int)<=_ by omega) (And.intro (show _ < (_:Int) by omega) ?_))|(intro _))
theorem Gg:ai gT 51 [.int .i64 8] (.tup [.int .i64 (cz 8),.int .i64 (aH 8)]):=by
 refine Spec.enter al mc 100 Tryz.func51 rfl (by kernel_rfl) ?_
 repeat' ((conv=>whnf); first|(refine (And.intro (fun _=>?_) (fun _=>?_):(_->_)/\(_->_))<;>(first|(exfalso; first|contradiction|omega)|skip))|refine Or.inl (And.intro (by first|exact ao (by omega)|exact ah (by omega)|exact aF (by omega)|exact ba (by omega)) ?_)|(refine And.intro (show (_:Int)≠0 by omega) (Or.inl (And.intro (show (0:Int)<=_ by omega) (And.intro (show (0:Int) < _ by omega) ?_))))|(refine And.intro (show (_:Int)≠0 by omega) (Or.inl (And.intro (show (0:Int)<=_ by omega) (And.intro (by first|exact (show (_:Int)<=9223372036854775807 by omega)|exact (show (_:Int)<=4294967295 by omega)) (And.intro (show (0:Int) < _ by omega) ?_)))))|(refine Or.inl (Exists.intro 8 (And.intro rfl ?_)))|(exact rA)|(refine And.intro (show (0:Int)<=_ by omega) (And.intro (show _ < (_:Int) by omega) ?_))|(intro _))
theorem Gh:ai gT 51 [.int .i64 9] (.tup [.int .i64 (cz 9),.int .i64 (aH 9)]):=by
 refine Spec.enter al mc 100 Tryz.func51 rfl (by kernel_rfl) ?_
 repeat' ((conv=>whnf); first|(refine (And.intro (fun _=>?_) (fun _=>?_):(_->_)/\(_->_))<;>(first|(exfalso; first|contradiction|omega)|skip))|refine Or.inl (And.intro (by first|exact ao (by omega)|exact ah (by omega)|exact aF (by omega)|exact ba (by omega)) ?_)|(refine And.intro (show (_:Int)≠0 by omega) (Or.inl (And.intro (show (0:Int)<=_ by omega) (And.intro (show (0:Int) < _ by omega) ?_))))|(refine And.intro (show (_:Int)≠0 by omega) (Or.inl (And.intro (show (0:Int)<=_ by omega) (And.intro (by first|exact (show (_:Int)<=9223372036854775807 by omega)|exact (show (_:Int)<=4294967295 by omega)) (And.intro (show (0:Int) < _ by omega) ?_)))))|(refine Or.inl (Exists.intro 9 (And.intro rfl ?_)))|(exact rA)|(refine And.intro (show (0:Int)<=_ by omega) (And.intro (show _ < (_:Int) by omega) ?_))|(intro _))
theorem Cv:ai gT 51 [.int .i64 10] (.tup [.int .i64 (cz 10),.int .i64 (aH 10)]):=by
 refine Spec.enter al mc 100 Tryz.func51 rfl (by kernel_rfl) ?_
 repeat' ((conv=>whnf); first|(refine (And.intro (fun _=>?_) (fun _=>?_):(_->_)/\(_->_))<;>(first|(exfalso; first|contradiction|omega)|skip))|refine Or.inl (And.intro (by first|exact ao (by omega)|exact ah (by omega)|exact aF (by omega)|exact ba (by omega)) ?_)|(refine And.intro (show (_:Int)≠0 by omega) (Or.inl (And.intro (show (0:Int)<=_ by omega) (And.intro (show (0:Int) < _ by omega) ?_))))|(refine And.intro (show (_:Int)≠0 by omega) (Or.inl (And.intro (show (0:Int)<=_ by omega) (And.intro (by first|exact (show (_:Int)<=9223372036854775807 by omega)|exact (show (_:Int)<=4294967295 by omega)) (And.intro (show (0:Int) < _ by omega) ?_)))))|(refine Or.inl (Exists.intro 10 (And.intro rfl ?_)))|(exact rA)|(refine And.intro (show (0:Int)<=_ by omega) (And.intro (show _ < (_:Int) by omega) ?_))|(intro _))
theorem Cw:ai gT 51 [.int .i64 11] (.tup [.int .i64 (cz 11),.int .i64 (aH 11)]):=by
 refine Spec.enter al mc 100 Tryz.func51 rfl (by kernel_rfl) ?_
 repeat' ((conv=>whnf); first|(refine (And.intro (fun _=>?_) (fun _=>?_):(_->_)/\(_->_))<;>(first|(exfalso; first|contradiction|omega)|skip))|refine Or.inl (And.intro (by first|exact ao (by omega)|exact ah (by omega)|exact aF (by omega)|exact ba (by omega)) ?_)|(refine And.intro (show (_:Int)≠0 by omega) (Or.inl (And.intro (show (0:Int)<=_ by omega) (And.intro (show (0:Int) < _ by omega) ?_))))|(refine And.intro (show (_:Int)≠0 by omega) (Or.inl (And.intro (show (0:Int)<=_ by omega) (And.intro (by first|exact (show (_:Int)<=9223372036854775807 by omega)|exact (show (_:Int)<=4294967295 by omega)) (And.intro (show (0:Int) < _ by omega) ?_)))))|(refine Or.inl (Exists.intro 11 (And.intro rfl ?_)))|(exact rA)|(refine And.intro (show (0:Int)<=_ by omega) (And.intro (show _ < (_:Int) by omega) ?_))|(intro _))
theorem Cy:ai gT 51 [.int .i64 12] (.tup [.int .i64 (cz 12),.int .i64 (aH 12)]):=by
 refine Spec.enter al mc 100 Tryz.func51 rfl (by kernel_rfl) ?_
 repeat' ((conv=>whnf); first|(refine (And.intro (fun _=>?_) (fun _=>?_):(_->_)/\(_->_))<;>(first|(exfalso; first|contradiction|omega)|skip))|refine Or.inl (And.intro (by first|exact ao (by omega)|exact ah (by omega)|exact aF (by omega)|exact ba (by omega)) ?_)|(refine And.intro (show (_:Int)≠0 by omega) (Or.inl (And.intro (show (0:Int)<=_ by omega) (And.intro (show (0:Int) < _ by omega) ?_))))|(refine And.intro (show (_:Int)≠0 by omega) (Or.inl (And.intro (show (0:Int)<=_ by omega) (And.intro (by first|exact (show (_:Int)<=9223372036854775807 by omega)|exact (show (_:Int)<=4294967295 by omega)) (And.intro (show (0:Int) < _ by omega) ?_)))))|(refine Or.inl (Exists.intro 12 (And.intro rfl ?_)))|(exact rA)|(refine And.intro (show (0:Int)<=_ by omega) (And.intro (show _ < (_:Int) by omega) ?_))|(intro _))
theorem Cz:ai gT 51 [.int .i64 13] (.tup [.int .i64 (cz 13),.int .i64 (aH 13)]):=by
 refine Spec.enter al mc 100 Tryz.func51 rfl (by kernel_rfl) ?_
 repeat' ((conv=>whnf); first|(refine (And.intro (fun _=>?_) (fun _=>?_):(_->_)/\(_->_))<;>(first|(exfalso; first|contradiction|omega)|skip))|refine Or.inl (And.intro (by first|exact ao (by omega)|exact ah (by omega)|exact aF (by omega)|exact ba (by omega)) ?_)|(refine And.intro (show (_:Int)≠0 by omega) (Or.inl (And.intro (show (0:Int)<=_ by omega) (And.intro (show (0:Int) < _ by omega) ?_))))|(refine And.intro (show (_:Int)≠0 by omega) (Or.inl (And.intro (show (0:Int)<=_ by omega) (And.intro (by first|exact (show (_:Int)<=9223372036854775807 by omega)|exact (show (_:Int)<=4294967295 by omega)) (And.intro (show (0:Int) < _ by omega) ?_)))))|(refine Or.inl (Exists.intro 13 (And.intro rfl ?_)))|(exact rA)|(refine And.intro (show (0:Int)<=_ by omega) (And.intro (show _ < (_:Int) by omega) ?_))|(intro _))
theorem CA:ai gT 51 [.int .i64 14] (.tup [.int .i64 (cz 14),.int .i64 (aH 14)]):=by
 refine Spec.enter al mc 100 Tryz.func51 rfl (by kernel_rfl) ?_
 repeat' ((conv=>whnf); first|(refine (And.intro (fun _=>?_) (fun _=>?_):(_->_)/\(_->_))<;>(first|(exfalso; first|contradiction|omega)|skip))|refine Or.inl (And.intro (by first|exact ao (by omega)|exact ah (by omega)|exact aF (by omega)|exact ba (by omega)) ?_)|(refine And.intro (show (_:Int)≠0 by omega) (Or.inl (And.intro (show (0:Int)<=_ by omega) (And.intro (show (0:Int) < _ by omega) ?_))))|(refine And.intro (show (_:Int)≠0 by omega) (Or.inl (And.intro (show (0:Int)<=_ by omega) (And.intro (by first|exact (show (_:Int)<=9223372036854775807 by omega)|exact (show (_:Int)<=4294967295 by omega)) (And.intro (show (0:Int) < _ by omega) ?_)))))|(refine Or.inl (Exists.intro 14 (And.intro rfl ?_)))|(exact rA)|(refine And.intro (show (0:Int)<=_ by omega) (And.intro (show _ < (_:Int) by omega) ?_))|(intro _))
theorem CB:ai gT 51 [.int .i64 15] (.tup [.int .i64 (cz 15),.int .i64 (aH 15)]):=by
 refine Spec.enter al mc 100 Tryz.func51 rfl (by kernel_rfl) ?_
 repeat' ((conv=>whnf); first|(refine (And.intro (fun _=>?_) (fun _=>?_):(_->_)/\(_->_))<;>(first|(exfalso; first|contradiction|omega)|skip))|refine Or.inl (And.intro (by first|exact ao (by omega)|exact ah (by omega)|exact aF (by omega)|exact ba (by omega)) ?_)|(refine And.intro (show (_:Int)≠0 by omega) (Or.inl (And.intro (show (0:Int)<=_ by omega) (And.intro (show (0:Int) < _ by omega) ?_))))|(refine And.intro (show (_:Int)≠0 by omega) (Or.inl (And.intro (show (0:Int)<=_ by omega) (And.intro (by first|exact (show (_:Int)<=9223372036854775807 by omega)|exact (show (_:Int)<=4294967295 by omega)) (And.intro (show (0:Int) < _ by omega) ?_)))))|(refine Or.inl (Exists.intro 15 (And.intro rfl ?_)))|(exact rA)|(refine And.intro (show (0:Int)<=_ by omega) (And.intro (show _ < (_:Int) by omega) ?_))|(intro _))
theorem CC:ai gT 51 [.int .i64 16] (.tup [.int .i64 (cz 16),.int .i64 (aH 16)]):=by
 refine Spec.enter al mc 100 Tryz.func51 rfl (by kernel_rfl) ?_
 repeat' ((conv=>whnf); first|(refine (And.intro (fun _=>?_) (fun _=>?_):(_->_)/\(_->_))<;>(first|(exfalso; first|contradiction|omega)|skip))|refine Or.inl (And.intro (by first|exact ao (by omega)|exact ah (by omega)|exact aF (by omega)|exact ba (by omega)) ?_)|(refine And.intro (show (_:Int)≠0 by omega) (Or.inl (And.intro (show (0:Int)<=_ by omega) (And.intro (show (0:Int) < _ by omega) ?_))))|(refine And.intro (show (_:Int)≠0 by omega) (Or.inl (And.intro (show (0:Int)<=_ by omega) (And.intro (by first|exact (show (_:Int)<=9223372036854775807 by omega)|exact (show (_:Int)<=4294967295 by omega)) (And.intro (show (0:Int) < _ by omega) ?_)))))|(refine Or.inl (Exists.intro 16 (And.intro rfl ?_)))|(exact rA)|(refine And.intro (show (0:Int)<=_ by omega) (And.intro (show _ < (_:Int) by omega) ?_))|(intro _))
theorem CD:ai gT 51 [.int .i64 17] (.tup [.int .i64 (cz 17),.int .i64 (aH 17)]):=by
 refine Spec.enter al mc 100 Tryz.func51 rfl (by kernel_rfl) ?_
 repeat' ((conv=>whnf); first|(refine (And.intro (fun _=>?_) (fun _=>?_):(_->_)/\(_->_))<;>(first|(exfalso; first|contradiction|omega)|skip))|refine Or.inl (And.intro (by first|exact ao (by omega)|exact ah (by omega)|exact aF (by omega)|exact ba (by omega)) ?_)|(refine And.intro (show (_:Int)≠0 by omega) (Or.inl (And.intro (show (0:Int)<=_ by omega) (And.intro (show (0:Int) < _ by omega) ?_))))|(refine And.intro (show (_:Int)≠0 by omega) (Or.inl (And.intro (show (0:Int)<=_ by omega) (And.intro (by first|exact (show (_:Int)<=9223372036854775807 by omega)|exact (show (_:Int)<=4294967295 by omega)) (And.intro (show (0:Int) < _ by omega) ?_)))))|(refine Or.inl (Exists.intro 17 (And.intro rfl ?_)))|(exact rA)|(refine And.intro (show (0:Int)<=_ by omega) (And.intro (show _ < (_:Int) by omega) ?_))|(intro _))
theorem CE:ai gT 51 [.int .i64 18] (.tup [.int .i64 (cz 18),.int .i64 (aH 18)]):=by
 refine Spec.enter al mc 100 Tryz.func51 rfl (by kernel_rfl) ?_
 repeat' ((conv=>whnf); first|(refine (And.intro (fun _=>?_) (fun _=>?_):(_->_)/\(_->_))<;>(first|(exfalso; first|contradiction|omega)|skip))|refine Or.inl (And.intro (by first|exact ao (by omega)|exact ah (by omega)|exact aF (by omega)|exact ba (by omega)) ?_)|(refine And.intro (show (_:Int)≠0 by omega) (Or.inl (And.intro (show (0:Int)<=_ by omega) (And.intro (show (0:Int) < _ by omega) ?_))))|(refine And.intro (show (_:Int)≠0 by omega) (Or.inl (And.intro (show (0:Int)<=_ by omega) (And.intro (by first|exact (show (_:Int)<=9223372036854775807 by omega)|exact (show (_:Int)<=4294967295 by omega)) (And.intro (show (0:Int) < _ by omega) ?_)))))|(refine Or.inl (Exists.intro 18 (And.intro rfl ?_)))|(exact rA)|(refine And.intro (show (0:Int)<=_ by omega) (And.intro (show _ < (_:Int) by omega) ?_))|(intro _))
theorem CF:ai gT 51 [.int .i64 19] (.tup [.int .i64 (cz 19),.int .i64 (aH 19)]):=by
 refine Spec.enter al mc 100 Tryz.func51 rfl (by kernel_rfl) ?_
 repeat' ((conv=>whnf); first|(refine (And.intro (fun _=>?_) (fun _=>?_):(_->_)/\(_->_))<;>(first|(exfalso; first|contradiction|omega)|skip))|refine Or.inl (And.intro (by first|exact ao (by omega)|exact ah (by omega)|exact aF (by omega)|exact ba (by omega)) ?_)|(refine And.intro (show (_:Int)≠0 by omega) (Or.inl (And.intro (show (0:Int)<=_ by omega) (And.intro (show (0:Int) < _ by omega) ?_))))|(refine And.intro (show (_:Int)≠0 by omega) (Or.inl (And.intro (show (0:Int)<=_ by omega) (And.intro (by first|exact (show (_:Int)<=9223372036854775807 by omega)|exact (show (_:Int)<=4294967295 by omega)) (And.intro (show (0:Int) < _ by omega) ?_)))))|(refine Or.inl (Exists.intro 19 (And.intro rfl ?_)))|(exact rA)|(refine And.intro (show (0:Int)<=_ by omega) (And.intro (show _ < (_:Int) by omega) ?_))|(intro _))
theorem CG:ai gT 51 [.int .i64 20] (.tup [.int .i64 (cz 20),.int .i64 (aH 20)]):=by
 refine Spec.enter al mc 100 Tryz.func51 rfl (by kernel_rfl) ?_
 repeat' ((conv=>whnf); first|(refine (And.intro (fun _=>?_) (fun _=>?_):(_->_)/\(_->_))<;>(first|(exfalso; first|contradiction|omega)|skip))|refine Or.inl (And.intro (by first|exact ao (by omega)|exact ah (by omega)|exact aF (by omega)|exact ba (by omega)) ?_)|(refine And.intro (show (_:Int)≠0 by omega) (Or.inl (And.intro (show (0:Int)<=_ by omega) (And.intro (show (0:Int) < _ by omega) ?_))))|(refine And.intro (show (_:Int)≠0 by omega) (Or.inl (And.intro (show (0:Int)<=_ by omega) (And.intro (by first|exact (show (_:Int)<=9223372036854775807 by omega)|exact (show (_:Int)<=4294967295 by omega)) (And.intro (show (0:Int) < _ by omega) ?_)))))|(refine Or.inl (Exists.intro 20 (And.intro rfl ?_)))|(exact rA)|(refine And.intro (show (0:Int)<=_ by omega) (And.intro (show _ < (_:Int) by omega) ?_))|(intro _))
theorem CH:ai gT 51 [.int .i64 21] (.tup [.int .i64 (cz 21),.int .i64 (aH 21)]):=by
 refine Spec.enter al mc 100 Tryz.func51 rfl (by kernel_rfl) ?_
 repeat' ((conv=>whnf); first|(refine (And.intro (fun _=>?_) (fun _=>?_):(_->_)/\(_->_))<;>(first|(exfalso; first|contradiction|omega)|skip))|refine Or.inl (And.intro (by first|exact ao (by omega)|exact ah (by omega)|exact aF (by omega)|exact ba (by omega)) ?_)|(refine And.intro (show (_:Int)≠0 by omega) (Or.inl (And.intro (show (0:Int)<=_ by omega) (And.intro (show (0:Int) < _ by omega) ?_))))|(refine And.intro (show (_:Int)≠0 by omega) (Or.inl (And.intro (show (0:Int)<=_ by omega) (And.intro (by first|exact (show (_:Int)<=9223372036854775807 by omega)|exact (show (_:Int)<=4294967295 by omega)) (And.intro (show (0:Int) < _ by omega) ?_)))))|(refine Or.inl (Exists.intro 21 (And.intro rfl ?_)))|(exact rA)|(refine And.intro (show (0:Int)<=_ by omega) (And.intro (show _ < (_:Int) by omega) ?_))|(intro _))
theorem CI:ai gT 51 [.int .i64 22] (.tup [.int .i64 (cz 22),.int .i64 (aH 22)]):=by
 refine Spec.enter al mc 100 Tryz.func51 rfl (by kernel_rfl) ?_
 repeat' ((conv=>whnf); first|(refine (And.intro (fun _=>?_) (fun _=>?_):(_->_)/\(_->_))<;>(first|(exfalso; first|contradiction|omega)|skip))|refine Or.inl (And.intro (by first|exact ao (by omega)|exact ah (by omega)|exact aF (by omega)|exact ba (by omega)) ?_)|(refine And.intro (show (_:Int)≠0 by omega) (Or.inl (And.intro (show (0:Int)<=_ by omega) (And.intro (show (0:Int) < _ by omega) ?_))))|(refine And.intro (show (_:Int)≠0 by omega) (Or.inl (And.intro (show (0:Int)<=_ by omega) (And.intro (by first|exact (show (_:Int)<=9223372036854775807 by omega)|exact (show (_:Int)<=4294967295 by omega)) (And.intro (show (0:Int) < _ by omega) ?_)))))|(refine Or.inl (Exists.intro 22 (And.intro rfl ?_)))|(exact rA)|(refine And.intro (show (0:Int)<=_ by omega) (And.intro (show _ < (_:Int) by omega) ?_))|(intro _))
theorem CJ:ai gT 51 [.int .i64 23] (.tup [.int .i64 (cz 23),.int .i64 (aH 23)]):=by
 refine Spec.enter al mc 100 Tryz.func51 rfl (by kernel_rfl) ?_
 repeat' ((conv=>whnf); first|(refine (And.intro (fun _=>?_) (fun _=>?_):(_->_)/\(_->_))<;>(first|(exfalso; first|contradiction|omega)|skip))|refine Or.inl (And.intro (by first|exact ao (by omega)|exact ah (by omega)|exact aF (by omega)|exact ba (by omega)) ?_)|(refine And.intro (show (_:Int)≠0 by omega) (Or.inl (And.intro (show (0:Int)<=_ by omega) (And.intro (show (0:Int) < _ by omega) ?_))))|(refine And.intro (show (_:Int)≠0 by omega) (Or.inl (And.intro (show (0:Int)<=_ by omega) (And.intro (by first|exact (show (_:Int)<=9223372036854775807 by omega)|exact (show (_:Int)<=4294967295 by omega)) (And.intro (show (0:Int) < _ by omega) ?_)))))|(refine Or.inl (Exists.intro 23 (And.intro rfl ?_)))|(exact rA)|(refine And.intro (show (0:Int)<=_ by omega) (And.intro (show _ < (_:Int) by omega) ?_))|(intro _))
theorem CK:ai gT 51 [.int .i64 24] (.tup [.int .i64 (cz 24),.int .i64 (aH 24)]):=by
 refine Spec.enter al mc 100 Tryz.func51 rfl (by kernel_rfl) ?_
 repeat' ((conv=>whnf); first|(refine (And.intro (fun _=>?_) (fun _=>?_):(_->_)/\(_->_))<;>(first|(exfalso; first|contradiction|omega)|skip))|refine Or.inl (And.intro (by first|exact ao (by omega)|exact ah (by omega)|exact aF (by omega)|exact ba (by omega)) ?_)|(refine And.intro (show (_:Int)≠0 by omega) (Or.inl (And.intro (show (0:Int)<=_ by omega) (And.intro (show (0:Int) < _ by omega) ?_))))|(refine And.intro (show (_:Int)≠0 by omega) (Or.inl (And.intro (show (0:Int)<=_ by omega) (And.intro (by first|exact (show (_:Int)<=9223372036854775807 by omega)|exact (show (_:Int)<=4294967295 by omega)) (And.intro (show (0:Int) < _ by omega) ?_)))))|(refine Or.inl (Exists.intro 24 (And.intro rfl ?_)))|(exact rA)|(refine And.intro (show (0:Int)<=_ by omega) (And.intro (show _ < (_:Int) by omega) ?_))|(intro _))
theorem CL:ai gT 51 [.int .i64 25] (.tup [.int .i64 (cz 25),.int .i64 (aH 25)]):=by
 refine Spec.enter al mc 100 Tryz.func51 rfl (by kernel_rfl) ?_
 repeat' ((conv=>whnf); first|(refine (And.intro (fun _=>?_) (fun _=>?_):(_->_)/\(_->_))<;>(first|(exfalso; first|contradiction|omega)|skip))|refine Or.inl (And.intro (by first|exact ao (by omega)|exact ah (by omega)|exact aF (by omega)|exact ba (by omega)) ?_)|(refine And.intro (show (_:Int)≠0 by omega) (Or.inl (And.intro (show (0:Int)<=_ by omega) (And.intro (show (0:Int) < _ by omega) ?_))))|(refine And.intro (show (_:Int)≠0 by omega) (Or.inl (And.intro (show (0:Int)<=_ by omega) (And.intro (by first|exact (show (_:Int)<=9223372036854775807 by omega)|exact (show (_:Int)<=4294967295 by omega)) (And.intro (show (0:Int) < _ by omega) ?_)))))|(refine Or.inl (Exists.intro 25 (And.intro rfl ?_)))|(exact rA)|(refine And.intro (show (0:Int)<=_ by omega) (And.intro (show _ < (_:Int) by omega) ?_))|(intro _))
theorem CM:ai gT 51 [.int .i64 26] (.tup [.int .i64 (cz 26),.int .i64 (aH 26)]):=by
 refine Spec.enter al mc 100 Tryz.func51 rfl (by kernel_rfl) ?_
 repeat' ((conv=>whnf); first|(refine (And.intro (fun _=>?_) (fun _=>?_):(_->_)/\(_->_))<;>(first|(exfalso; first|contradiction|omega)|skip))|refine Or.inl (And.intro (by first|exact ao (by omega)|exact ah (by omega)|exact aF (by omega)|exact ba (by omega)) ?_)|(refine And.intro (show (_:Int)≠0 by omega) (Or.inl (And.intro (show (0:Int)<=_ by omega) (And.intro (show (0:Int) < _ by omega) ?_))))|(refine And.intro (show (_:Int)≠0 by omega) (Or.inl (And.intro (show (0:Int)<=_ by omega) (And.intro (by first|exact (show (_:Int)<=9223372036854775807 by omega)|exact (show (_:Int)<=4294967295 by omega)) (And.intro (show (0:Int) < _ by omega) ?_)))))|(refine Or.inl (Exists.intro 26 (And.intro rfl ?_)))|(exact rA)|(refine And.intro (show (0:Int)<=_ by omega) (And.intro (show _ < (_:Int) by omega) ?_))|(intro _))
theorem CN:ai gT 51 [.int .i64 27] (.tup [.int .i64 (cz 27),.int .i64 (aH 27)]):=by
 refine Spec.enter al mc 100 Tryz.func51 rfl (by kernel_rfl) ?_
 repeat' ((conv=>whnf); first|(refine (And.intro (fun _=>?_) (fun _=>?_):(_->_)/\(_->_))<;>(first|(exfalso; first|contradiction|omega)|skip))|refine Or.inl (And.intro (by first|exact ao (by omega)|exact ah (by omega)|exact aF (by omega)|exact ba (by omega)) ?_)|(refine And.intro (show (_:Int)≠0 by omega) (Or.inl (And.intro (show (0:Int)<=_ by omega) (And.intro (show (0:Int) < _ by omega) ?_))))|(refine And.intro (show (_:Int)≠0 by omega) (Or.inl (And.intro (show (0:Int)<=_ by omega) (And.intro (by first|exact (show (_:Int)<=9223372036854775807 by omega)|exact (show (_:Int)<=4294967295 by omega)) (And.intro (show (0:Int) < _ by omega) ?_)))))|(refine Or.inl (Exists.intro 27 (And.intro rfl ?_)))|(exact rA)|(refine And.intro (show (0:Int)<=_ by omega) (And.intro (show _ < (_:Int) by omega) ?_))|(intro _))
theorem CO:ai gT 51 [.int .i64 28] (.tup [.int .i64 (cz 28),.int .i64 (aH 28)]):=by
 refine Spec.enter al mc 100 Tryz.func51 rfl (by kernel_rfl) ?_
 repeat' ((conv=>whnf); first|(refine (And.intro (fun _=>?_) (fun _=>?_):(_->_)/\(_->_))<;>(first|(exfalso; first|contradiction|omega)|skip))|refine Or.inl (And.intro (by first|exact ao (by omega)|exact ah (by omega)|exact aF (by omega)|exact ba (by omega)) ?_)|(refine And.intro (show (_:Int)≠0 by omega) (Or.inl (And.intro (show (0:Int)<=_ by omega) (And.intro (show (0:Int) < _ by omega) ?_))))|(refine And.intro (show (_:Int)≠0 by omega) (Or.inl (And.intro (show (0:Int)<=_ by omega) (And.intro (by first|exact (show (_:Int)<=9223372036854775807 by omega)|exact (show (_:Int)<=4294967295 by omega)) (And.intro (show (0:Int) < _ by omega) ?_)))))|(refine Or.inl (Exists.intro 28 (And.intro rfl ?_)))|(exact rA)|(refine And.intro (show (0:Int)<=_ by omega) (And.intro (show _ < (_:Int) by omega) ?_))|(intro _))
theorem CP:ai gT 51 [.int .i64 29] (.tup [.int .i64 (cz 29),.int .i64 (aH 29)]):=by
 refine Spec.enter al mc 100 Tryz.func51 rfl (by kernel_rfl) ?_
 repeat' ((conv=>whnf); first|(refine (And.intro (fun _=>?_) (fun _=>?_):(_->_)/\(_->_))<;>(first|(exfalso; first|contradiction|omega)|skip))|refine Or.inl (And.intro (by first|exact ao (by omega)|exact ah (by omega)|exact aF (by omega)|exact ba (by omega)) ?_)|(refine And.intro (show (_:Int)≠0 by omega) (Or.inl (And.intro (show (0:Int)<=_ by omega) (And.intro (show (0:Int) < _ by omega) ?_))))|(refine And.intro (show (_:Int)≠0 by omega) (Or.inl (And.intro (show (0:Int)<=_ by omega) (And.intro (by first|exact (show (_:Int)<=9223372036854775807 by omega)|exact (show (_:Int)<=4294967295 by omega)) (And.intro (show (0:Int) < _ by omega) ?_)))))|(refine Or.inl (Exists.intro 29 (And.intro rfl ?_)))|(exact rA)|(refine And.intro (show (0:Int)<=_ by omega) (And.intro (show _ < (_:Int) by omega) ?_))|(intro _))
theorem CQ:ai gT 51 [.int .i64 30] (.tup [.int .i64 (cz 30),.int .i64 (aH 30)]):=by
 refine Spec.enter al mc 100 Tryz.func51 rfl (by kernel_rfl) ?_
 repeat' ((conv=>whnf); first|(refine (And.intro (fun _=>?_) (fun _=>?_):(_->_)/\(_->_))<;>(first|(exfalso; first|contradiction|omega)|skip))|refine Or.inl (And.intro (by first|exact ao (by omega)|exact ah (by omega)|exact aF (by omega)|exact ba (by omega)) ?_)|(refine And.intro (show (_:Int)≠0 by omega) (Or.inl (And.intro (show (0:Int)<=_ by omega) (And.intro (show (0:Int) < _ by omega) ?_))))|(refine And.intro (show (_:Int)≠0 by omega) (Or.inl (And.intro (show (0:Int)<=_ by omega) (And.intro (by first|exact (show (_:Int)<=9223372036854775807 by omega)|exact (show (_:Int)<=4294967295 by omega)) (And.intro (show (0:Int) < _ by omega) ?_)))))|(refine Or.inl (Exists.intro 30 (And.intro rfl ?_)))|(exact rA)|(refine And.intro (show (0:Int)<=_ by omega) (And.intro (show _ < (_:Int) by omega) ?_))|(intro _))
theorem CR:ai gT 51 [.int .i64 31] (.tup [.int .i64 (cz 31),.int .i64 (aH 31)]):=by
 refine Spec.enter al mc 100 Tryz.func51 rfl (by kernel_rfl) ?_
 repeat' ((conv=>whnf); first|(refine (And.intro (fun _=>?_) (fun _=>?_):(_->_)/\(_->_))<;>(first|(exfalso; first|contradiction|omega)|skip))|refine Or.inl (And.intro (by first|exact ao (by omega)|exact ah (by omega)|exact aF (by omega)|exact ba (by omega)) ?_)|(refine And.intro (show (_:Int)≠0 by omega) (Or.inl (And.intro (show (0:Int)<=_ by omega) (And.intro (show (0:Int) < _ by omega) ?_))))|(refine And.intro (show (_:Int)≠0 by omega) (Or.inl (And.intro (show (0:Int)<=_ by omega) (And.intro (by first|exact (show (_:Int)<=9223372036854775807 by omega)|exact (show (_:Int)<=4294967295 by omega)) (And.intro (show (0:Int) < _ by omega) ?_)))))|(refine Or.inl (Exists.intro 31 (And.intro rfl ?_)))|(exact rA)|(refine And.intro (show (0:Int)<=_ by omega) (And.intro (show _ < (_:Int) by omega) ?_))|(intro _))
theorem CS (k:Int) (h:¬ (1<=k/\k<=31)):ai gT 51 [.int .i64 k] (.tup [.int .i64 (-1),.int .i64 (-1)]):=by
 refine Spec.enter al mc 100 Tryz.func51 rfl (by kernel_rfl) ?_
 repeat' ((conv=>whnf); first|(refine (And.intro (fun _=>?_) (fun _=>?_):(_->_)/\(_->_))<;>(first|(exfalso; first|contradiction|omega)|skip))|refine Or.inl (And.intro (by first|exact ao (by omega)|exact ah (by omega)|exact aF (by omega)|exact ba (by omega)) ?_)|(refine And.intro (show (_:Int)≠0 by omega) (Or.inl (And.intro (show (0:Int)<=_ by omega) (And.intro (show (0:Int) < _ by omega) ?_))))|(refine And.intro (show (_:Int)≠0 by omega) (Or.inl (And.intro (show (0:Int)<=_ by omega) (And.intro (by first|exact (show (_:Int)<=9223372036854775807 by omega)|exact (show (_:Int)<=4294967295 by omega)) (And.intro (show (0:Int) < _ by omega) ?_)))))|(exact rA)|(intro _))
theorem xw (k:Int) (h:1<=k/\k<=31):ai gT 51 [.int .i64 k] (.tup [.int .i64 (cz k),.int .i64 (aH k)]):=by
 rcases kinds h with rfl|rfl|rfl|rfl|rfl|rfl|rfl|rfl|rfl|rfl|rfl|rfl|rfl|rfl|rfl|rfl|rfl|rfl|rfl|rfl|rfl|rfl|rfl|rfl|rfl|rfl|rfl|rfl|rfl|rfl|rfl
 ·exact F_
 ·exact Ga
 ·exact Gb
 ·exact Gc
 ·exact Gd
 ·exact Ge
 ·exact Gf
 ·exact Gg
 ·exact Gh
 ·exact Cv
 ·exact Cw
 ·exact Cy
 ·exact Cz
 ·exact CA
 ·exact CB
 ·exact CC
 ·exact CD
 ·exact CE
 ·exact CF
 ·exact CG
 ·exact CH
 ·exact CI
 ·exact CJ
 ·exact CK
 ·exact CL
 ·exact CM
 ·exact CN
 ·exact CO
 ·exact CP
 ·exact CQ
 ·exact CR
 
theorem Ps (k:Int) (h:1<=k/\k<=31):0<=cz k/\cz k<=2:=by
 rcases kinds h with rfl|rfl|rfl|rfl|rfl|rfl|rfl|rfl|rfl|rfl|rfl|rfl|rfl|rfl|rfl|rfl|rfl|rfl|rfl|rfl|rfl|rfl|rfl|rfl|rfl|rfl|rfl|rfl|rfl|rfl|rfl<;>decide
theorem xx (o:VO) (hn:0<=o.n/\o.n<=4294967295):ai gT 24 [gS o] (.bool (aM o)):=by
 by_cases hk:1<=o.kind/\o.kind<=31
 ·have hv:=Ps o.kind hk
  have hs:=xw o.kind hk
  have e:aM o↔((da 0 (cz o.kind) o.t0/\da 1 (cz o.kind) o.t1)/\(da 0 (aH o.kind) o.f0/\da 1 (aH o.kind) o.f1/\da 2 (aH o.kind) o.f2/\da 3 (aH o.kind) o.f3)/\(cz o.kind < 2\/o.t0≠o.t1)/\cC o.kind o.n):=⟨fun h=>h.2,fun h=>⟨hk,h⟩⟩
  refine Spec.enter al P24 100 Tryz.func24 rfl (by kernel_rfl) ?_
  refine hs.u ?_
  obtain⟨to,hto⟩:∃ to,to=cz o.kind:=⟨_,rfl⟩
  obtain⟨fr,yq⟩:∃ fr,fr=aH o.kind:=⟨_,rfl⟩
  rw[← hto,← yq] at e ⊢
  rw[← hto] at hv
  clear yq hto hs hk
  repeat' ((conv=>whnf); first|(refine (And.intro (fun _=>?_) (fun _=>?_):(_->_)/\(_->_))<;>(first|(exfalso; first|contradiction|omega)|skip))|refine Or.inl (And.intro (by first|exact ao (by omega)|exact ah (by omega)|exact aF (by omega)|exact ba (by omega)) ?_)|(refine And.intro (show (_:Int)≠0 by omega) (Or.inl (And.intro (show (0:Int)<=_ by omega) (And.intro (show (0:Int) < _ by omega) ?_))))|(refine And.intro (show (_:Int)≠0 by omega) (Or.inl (And.intro (show (0:Int)<=_ by omega) (And.intro (by first|exact (show (_:Int)<=9223372036854775807 by omega)|exact (show (_:Int)<=4294967295 by omega)) (And.intro (show (0:Int) < _ by omega) ?_)))))|(refine SW.rounds al P24 (by kernel_rfl) (N:=60) 5 ?_)|(refine aw ?_; (show ¬ aM o); rw[e]; (try simp only[Classical.not_not,B6,O0,O1,O2,O3,O4,O5,O6,O7,zg,zh] at *); clear e; simp only[da,cC] at *; omega)|(refine aw ?_; (show _↔aM o); rw[e]; (try simp only[Classical.not_not,B6,O0,O1,O2,O3,O4,O5,O6,O7,zg,zh] at *); clear e; simp only[da,cC] at *; omega)|(refine aw ?_; (show aM o); rw[e]; (try simp only[Classical.not_not,B6,O0,O1,O2,O3,O4,O5,O6,O7,zg,zh] at *); clear e; simp only[da,cC] at *; omega)|(refine Exists.intro [] (And.intro bn ((Cu _ _ _).use (by repeat' first|exact trivial|exact rfl|exact Iff.rfl|exact Or.inl rfl|refine And.intro ?_ ?_) rfl rfl ?_)))|(intro _))
 ·refine Spec.enter al P24 100 Tryz.func24 rfl (by kernel_rfl) ?_
  refine (CS o.kind hk).u ?_
  repeat' ((conv=>whnf); first|(refine (And.intro (fun _=>?_) (fun _=>?_):(_->_)/\(_->_))<;>(first|(exfalso; first|contradiction|omega)|skip))|refine Or.inl (And.intro (by first|exact ao (by omega)|exact ah (by omega)|exact aF (by omega)|exact ba (by omega)) ?_)|(refine And.intro (show (_:Int)≠0 by omega) (Or.inl (And.intro (show (0:Int)<=_ by omega) (And.intro (show (0:Int) < _ by omega) ?_))))|(refine And.intro (show (_:Int)≠0 by omega) (Or.inl (And.intro (show (0:Int)<=_ by omega) (And.intro (by first|exact (show (_:Int)<=9223372036854775807 by omega)|exact (show (_:Int)<=4294967295 by omega)) (And.intro (show (0:Int) < _ by omega) ?_)))))|(refine aw ?_; exact (show ¬ aM o from fun h=>hk h.1))|(intro _))
def ae (t f:Int):Prop:=¬ 7 < t/\¬ 7 < f/\¬ (0<=t/\t=f)
theorem oR (l:List Int) (x:Int):x∈nm l↔x∈l/\x≠-1:=by simp[nm]
theorem iG (o:VO) (hv:aM o):(aM o/\dM o)↔(ae o.t0 o.f0/\ae o.t0 o.f1/\ae o.t0 o.f2/\ae o.t0 o.f3)/\(ae o.t1 o.f0/\ae o.t1 o.f1/\ae o.t1 o.f2/\ae o.t1 o.f3):=by
 have hv0:=hv
 obtain⟨_,⟨a0,a1⟩,⟨b0,b1,b2,b3⟩,_⟩:=hv
 have g:∀ i n r,da i n r->-1<=r:=fun i n r h=>by unfold da at h; omega
 have a0:=g _ _ _ a0; have a1:=g _ _ _ a1; have b0:=g _ _ _ b0; have b1:=g _ _ _ b1; have b2:=g _ _ _ b2; have b3:=g _ _ _ b3
 refine⟨fun ⟨_,h1,h2⟩=>?_,fun h=>⟨hv0,?_,?_⟩⟩
 ·have hf:∀ x∈o.from_,x≠-1->x < 8:=fun x hx hn=>h1 x (List.mem_append_left _ ((oR _ _).2 ⟨hx,hn⟩))
  have ht:∀ x∈o.to,x≠-1->x < 8:=fun x hx hn=>h1 x (List.mem_append_right _ ((oR _ _).2 ⟨hx,hn⟩))
  have hp:∀ x∈o.to,x≠-1->x ∉ o.from_:=fun x hx hn hf=>h2 ⟨x,(oR _ _).2 ⟨hx,hn⟩,(oR _ _).2 ⟨hf,hn⟩⟩
  have f0:=hf o.f0 (by simp[VO.from_]); have f1:=hf o.f1 (by simp[VO.from_]); have f2:=hf o.f2 (by simp[VO.from_]); have f3:=hf o.f3 (by simp[VO.from_])
  have t0:=ht o.t0 (by simp[VO.to]); have t1:=ht o.t1 (by simp[VO.to])
  have p0:=hp o.t0 (by simp[VO.to]); have p1:=hp o.t1 (by simp[VO.to])
  simp only[VO.from_,List.mem_cons,List.not_mem_nil,or_false,not_or] at p0 p1
  unfold ae
  omega
 ·intro x hx
  simp only[List.mem_append,oR,VO.from_,VO.to,List.mem_cons,List.not_mem_nil,or_false] at hx
  unfold ae at h
  omega
 ·rintro⟨x,hx,hy⟩
  simp only[oR,VO.from_,VO.to,List.mem_cons,List.not_mem_nil,or_false] at hx hy
  unfold ae at h
  omega
theorem CT (o:VO) (hn:0<=o.n/\o.n<=4294967295):ai gT 7 [gS o] (.bool (aM o/\dM o)):=by
 refine Spec.enter al P7 100 Tryz.func7 rfl (by kernel_rfl) ?_
 refine (xx o hn).u ?_
 refine⟨fun h1=>?_,fun h1=>?_⟩
 ·refine aw ?_
  exact (show ¬ (aM o/\dM o) from fun h=>h1 h.1)
 have e:=iG o (Classical.not_not.1 h1)
 clear h1
 repeat' ((conv=>whnf); first|(refine (And.intro (fun _=>?_) (fun _=>?_):(_->_)/\(_->_))<;>(first|(exfalso; first|contradiction|omega)|skip))|refine Or.inl (And.intro (by first|exact ao (by omega)|exact ah (by omega)|exact aF (by omega)|exact ba (by omega)) ?_)|(refine And.intro (show (_:Int)≠0 by omega) (Or.inl (And.intro (show (0:Int)<=_ by omega) (And.intro (show (0:Int) < _ by omega) ?_))))|(refine And.intro (show (_:Int)≠0 by omega) (Or.inl (And.intro (show (0:Int)<=_ by omega) (And.intro (by first|exact (show (_:Int)<=9223372036854775807 by omega)|exact (show (_:Int)<=4294967295 by omega)) (And.intro (show (0:Int) < _ by omega) ?_)))))|(refine aw ?_; (show ¬ (aM o/\dM o)); rw[e]; clear e; unfold ae; omega)|(refine aw ?_; (show aM o/\dM o); rw[e]; clear e; unfold ae; omega)|(refine SW.rounds al P7 (by kernel_rfl) (N:=60) 5 ?_)|(intro _))
def vg (n:Int):VO:=⟨1,3,-1,-1,-1,-1,-1,n⟩
theorem AR (n:Int):aM (vg n)/\dM (vg n):=by
 have h:aM (vg n):=by
  refine⟨show (1:Int)<=1/\(1:Int)<=31 by decide,?_,?_,.inl (show cz 1 < 2 by decide),.inl rfl⟩
  ·show da 0 (cz 1) 3/\da 1 (cz 1) (-1)
   rw[show cz 1=1 by decide]; unfold da; omega
  ·show da 0 (aH 1) (-1)/\da 1 (aH 1) (-1)/\da 2 (aH 1) (-1)/\da 3 (aH 1) (-1)
   rw[show aH 1=0 by decide]; unfold da; omega
 refine (iG _ h).2 ?_
 show (ae 3 (-1)/\ae 3 (-1)/\ae 3 (-1)/\ae 3 (-1))/\(ae (-1) (-1)/\ae (-1) (-1)/\ae (-1) (-1)/\ae (-1) (-1))
 unfold ae
 omega
theorem sO:ai gT 6 [] .tt:=by
 have e1:vf (vg 256) = .tup [.sl 11 (bx [iM 60 3 3968]),.int .i64 0]:=by
  rw[vf,if_pos (AR _)]
  have h1:Rm.kv 256=0:=by decide +kernel
  have h2:Rm.ot 256=3968:=by decide +kernel
  simp only[av,vg,aC,bo,aJ,aK,aL,jk,h1,h2,ne_eq,reduceIte,Int.reduceEq,Int.reduceLE,not_false_eq_true,not_true_eq_false,List.nil_append,List.append_nil]
 have e2:vf (vg 305419896) = .tup [.sl 11 (bx [iM 48 3 22136,iM 49 3 4660]),.int .i64 0]:=by
  rw[vf,if_pos (AR _)]
  have h1:Rm.kv 305419896≠0:=by decide +kernel
  have h2:Rm.kv (4294967295 - 305419896)≠0:=by decide +kernel
  simp only[av,vg,aC,bo,aJ,aK,aL,jk,h1,h2,ne_eq,reduceIte,Int.reduceEq,Int.reduceLE,Int.reduceDiv,Int.reduceMod,not_false_eq_true,not_true_eq_false,List.nil_append,List.append_nil]
 have i1:=mL (vg 256) (show (0:Int)<=256/\(256:Int)<=4294967295 by decide)
 have i2:=mL (vg 305419896) (show (0:Int)<=305419896/\(305419896:Int)<=4294967295 by decide)
 rw[e1] at i1
 rw[e2] at i2
 refine Spec.enter al P6 100 Tryz.func6 rfl (by kernel_rfl) ?_
 repeat' ((conv=>whnf); first|(refine (And.intro (fun _=>?_) (fun _=>?_):(_->_)/\(_->_))<;>(first|(exfalso; first|contradiction|omega)|skip))|refine Or.inl (And.intro (by first|exact ao (by omega)|exact ah (by omega)|exact aF (by omega)|exact ba (by omega)) ?_)|(refine And.intro (show (_:Int)≠0 by omega) (Or.inl (And.intro (show (0:Int)<=_ by omega) (And.intro (show (0:Int) < _ by omega) ?_))))|(refine And.intro (show (_:Int)≠0 by omega) (Or.inl (And.intro (show (0:Int)<=_ by omega) (And.intro (by first|exact (show (_:Int)<=9223372036854775807 by omega)|exact (show (_:Int)<=4294967295 by omega)) (And.intro (show (0:Int) < _ by omega) ?_)))))|(refine SW.rounds al P50 (by kernel_rfl) (N:=60) 5 ?_)|(refine Exists.intro [] (And.intro bn (Spec.enter al P50 100 Tryz.func50 rfl (by kernel_rfl) ?_)))|(refine Exists.intro [] (And.intro bn (Spec.enter al P23 100 Tryz.func23 rfl (by kernel_rfl) ?_)))|(refine Exists.intro _ (And.intro (Aw.refl _) ?_))|(intro _))
 refine i1.u ?_
 repeat' ((conv=>whnf); first|(refine (And.intro (fun _=>?_) (fun _=>?_):(_->_)/\(_->_))<;>(first|(exfalso; first|contradiction|omega)|skip))|refine Or.inl (And.intro (by first|exact ao (by omega)|exact ah (by omega)|exact aF (by omega)|exact ba (by omega)) ?_)|(refine And.intro (show (_:Int)≠0 by omega) (Or.inl (And.intro (show (0:Int)<=_ by omega) (And.intro (show (0:Int) < _ by omega) ?_))))|(refine And.intro (show (_:Int)≠0 by omega) (Or.inl (And.intro (show (0:Int)<=_ by omega) (And.intro (by first|exact (show (_:Int)<=9223372036854775807 by omega)|exact (show (_:Int)<=4294967295 by omega)) (And.intro (show (0:Int) < _ by omega) ?_)))))|(refine SW.rounds al P50 (by kernel_rfl) (N:=60) 5 ?_)|(refine Exists.intro [] (And.intro bn (Spec.enter al P50 100 Tryz.func50 rfl (by kernel_rfl) ?_)))|(refine Exists.intro [] (And.intro bn (Spec.enter al P23 100 Tryz.func23 rfl (by kernel_rfl) ?_)))|(refine Exists.intro _ (And.intro (Aw.refl _) ?_))|(intro _))
 refine i2.u ?_
 refine⟨fun _=>?_,fun h=>absurd rfl h⟩
 refine⟨fun _=>?_,fun h=>absurd rfl h⟩
 intro _
 refine⟨fun _=>?_,fun h=>absurd rfl h⟩
 refine⟨IN,[iM 60 3 3968],cX,rfl,by decide,by decide,fun x hx=>?_⟩
 obtain rfl:iM 60 3 3968=x:=Option.some.inj hx
 refine⟨fun _=>?_,fun h=>absurd ⟨rfl,rfl,rfl,rfl,rfl,rfl,rfl,rfl,rfl,rfl,rfl,trivial⟩ h⟩
 intro _
 refine⟨fun _=>?_,fun h=>absurd rfl h⟩
 refine⟨IN,[iM 48 3 22136,iM 49 3 4660],cX,rfl,by decide,by decide,fun x hx=>?_⟩
 obtain rfl:iM 48 3 22136=x:=Option.some.inj hx
 refine⟨fun _=>?_,fun h=>absurd rfl h⟩
 refine⟨IN,[iM 48 3 22136,iM 49 3 4660],cX,rfl,by decide,by decide,fun x hx=>?_⟩
 obtain rfl:iM 49 3 4660=x:=Option.some.inj hx
 exact aw rfl
end Go.Proofs.YtlgkljpgagfndaaGreatDoor.Pw
namespace Go.Proofs.YtlgkljpgagfndaaGreatDoor.jd
open Go.ChangeShapes Go.WideShapes Go.ChangeAt Go.RowKit Go.Deep
def jI:List (String × DataW Unit):=[("remontoire/imm.factors",Rows.laid_remontoire_imm_factors),("remontoire/inst.shapes",Rows.laid_remontoire_inst_shapes),("remontoire/vop.rows",Rows.laid_remontoire_vop_rows)]
def fuel:Nat:=3000
theorem Gi (os:Os) (args:Array Value):laidMetH Tryz.prog jI ((World.doorLaid Tryz.prog fuel os).forCall (fun _ _=>0) ⟨#[],args,[]⟩).memory :=
 laidMetH_of_parts3 (fuel:=8) (laidMet_of_run' 8 (by kernel_rfl) (by kernel_rfl)) (by kernel_rfl) (by kernel_rfl)
end Go.Proofs.YtlgkljpgagfndaaGreatDoor.jd
namespace Go.Proofs.YtlgkljpgagfndaaGreatDoor.Pw
open Go Go.RowKit
theorem Pt {W:World} (h:laidMetH Tryz.prog jd.jI W):db gT (In W) W :=
 yZ (laid:=jd.jI) (by kernel_rfl) h fun x hx=>by
  have tz:x∈[(1,OM),(2,shP),(0,Fs)]:=hx
  simp only[List.mem_cons,List.not_mem_nil,or_false] at tz
  rcases tz with rfl|rfl|rfl
  ·exact⟨"remontoire/imm.factors",_,98,List.mem_cons_self,by kernel_rfl,by kernel_rfl,by kernel_rfl,nofun⟩
  ·exact⟨"remontoire/inst.shapes",_,202,List.mem_cons_of_mem _ List.mem_cons_self,by kernel_rfl,by kernel_rfl,by kernel_rfl,nofun⟩
  ·exact⟨"remontoire/vop.rows",_,154,List.mem_cons_of_mem _ (List.mem_cons_of_mem _ List.mem_cons_self),by kernel_rfl,by kernel_rfl,by kernel_rfl,nofun⟩
theorem Gj {P:Program} {t e:TypeId} {S:PV->Prop} {n:Nat} (ht:P.underlying t=some (.array n e)) (he:Op P e S) (hc:P.cellsOf t=n*P.cellsOf e):Op P t (pR (List.replicate n S)):=fun {H} ec w base held fuel cs x h yY=>by
 obtain⟨xs,m,_,rfl,hl,sq,hx⟩:=DataW.trod_array ht h
 have key:∀ (k off:Nat),k+off=n->∃ ys,qX (List.replicate k S) ys/\bH w (In w) (ys.flatMap PV.cells) no (cs.drop (off*P.cellsOf e))/\∀ c∈cs.drop (off*P.cellsOf e),c.oneCell'=true:=by
  intro k
  induction k with
  | zero =>
   intro off hk
   have Nh:cs.length<=off*P.cellsOf e:=by rw[hl,hc,show off=n by omega]; exact Nat.le_refl _
   refine⟨[],trivial,?_,?_⟩
   ·rw[List.drop_eq_nil_of_le Nh]; simp only[List.flatMap_nil,bH]
   ·rw[List.drop_eq_nil_of_le Nh]; intro c hc; cases hc
  | succ k ih =>
   intro off hk
   obtain⟨ys,h1,h2,h3⟩:=ih (off+1) (by omega)
   have hi:=hx off (by omega)
   have cJ:off < xs.length:=by omega
   rw[List.getElem?_eq_getElem cJ] at hi
   obtain⟨y,hS,_,hy,JO,lT⟩:=he ec w base held m _ _ hi fun n hn=>yY n (by
    simp only[DataW.weights,ht]
    exact kR (List.mem_map.2 ⟨xs[off],List.getElem_mem cJ,rfl⟩) hn)
   have hd:cs.drop (off*P.cellsOf e)=(cs.drop (off*P.cellsOf e)).take (P.cellsOf e)++cs.drop ((off+1)*P.cellsOf e):=by
    rw[Nat.succ_mul,← List.drop_drop,List.take_append_drop]
   refine⟨y::ys,⟨hS,h1⟩,?_,?_⟩
   ·rw[hd,List.flatMap_cons]; exact hy.append h2
   ·intro c hcc
    rw[hd,List.mem_append] at hcc
    exact hcc.elim (lT c) (h3 c)
 obtain⟨ys,h1,h2,h3⟩:=key n 0 rfl
 rw[Nat.zero_mul,List.drop_zero] at h2 h3
 exact⟨.agg (ys.flatMap PV.cells),⟨ys,h1,rfl⟩,nofun,h2,hl,h3⟩
structure VO.Ok (o:VO):Prop where
 n:0<=o.n/\o.n<=4294967295
theorem Gk {z:Int} (h:vO .u32 z):0<=z/\z<=4294967295:=by unfold vO Ev.kB Ev.ki at h; simp only[IntKind.signed,IntKind.bits] at h; simpa using h
theorem WR:Op Tryz.prog 26 (pR [SInt .i64,pR (List.replicate 2 (SInt .i64)),pR (List.replicate 4 (SInt .i64)),SInt .u32]) :=
 V9 (Ss:=[SInt .i64,pR (List.replicate 2 (SInt .i64)),pR (List.replicate 4 (SInt .i64)),SInt .u32]) Tryz.underlying26
  ⟨rfl,wL Tryz.underlying3 (by kernel_rfl),(show _=_ by kernel_rfl),Gj Tryz.underlying22 (wL Tryz.underlying3 (by kernel_rfl)) (by kernel_rfl),(show _=_ by kernel_rfl),Gj Tryz.underlying23 (wL Tryz.underlying3 (by kernel_rfl)) (by kernel_rfl),(show _=_ by kernel_rfl),wL Tryz.underlying24 (by kernel_rfl),(show _=_ by kernel_rfl)⟩
theorem Pu (x:PV) (h:pR [SInt .i64,pR (List.replicate 2 (SInt .i64)),pR (List.replicate 4 (SInt .i64)),SInt .u32] x):∃ o:VO,o.Ok/\x=gS o:=by
 obtain⟨xs,h,rfl⟩:=h
 obtain⟨_,_,rfl,⟨k,_,rfl⟩,h_1⟩:=eW h
 obtain⟨_,_,rfl,⟨ts,ht,rfl⟩,h_2⟩:=eW h_1
 obtain⟨_,_,rfl,⟨fs,hf,rfl⟩,h_3⟩:=eW h_2
 obtain⟨_,_,rfl,⟨n,hn,rfl⟩,h_4⟩:=eW h_3
 obtain rfl:=qY h_4
 obtain⟨_,_,rfl,⟨t0,_,rfl⟩,ht_1⟩:=eW ht
 obtain⟨_,_,rfl,⟨t1,_,rfl⟩,ht_2⟩:=eW ht_1
 obtain rfl:=qY ht_2
 obtain⟨_,_,rfl,⟨f0,_,rfl⟩,hf_1⟩:=eW hf
 obtain⟨_,_,rfl,⟨f1,_,rfl⟩,hf_2⟩:=eW hf_1
 obtain⟨_,_,rfl,⟨f2,_,rfl⟩,hf_3⟩:=eW hf_2
 obtain⟨_,_,rfl,⟨f3,_,rfl⟩,hf_4⟩:=eW hf_3
 obtain rfl:=qY hf_4
 exact⟨⟨k,t0,t1,f0,f1,f2,f3,n⟩,⟨Gk hn⟩,rfl⟩
theorem WS:Op Tryz.prog 68 (J5 8 64 gS VO.Ok) :=
 Fv (AB WR 8 64 (by kernel_rfl) Tryz.underlying68 (by kernel_rfl) (by decide) (by kernel_rfl)) Pu
theorem tM (o:VO):(av o).length<=100:=by
 unfold av
 split
 ·simp
 ·have:=F' o
  simp only[List.length_append]; omega
theorem CU (o:VO) (h:o.Ok) (hf:aM o/\dM o):ai gT 8 [gS o] (.tup [.sl 11 (bx (av o)),.int .i64 0]):=by
 have:=mL o h.n
 rwa [vf,if_pos hf] at this
def AS (k:Int):Int:=if k=30 then 2 else if k=31 then 0 else -1
def NI (k:Int):Int:=if k=30 then 1 else if k=31 then 2 else 0
theorem CV (o:VO):ai gT 19 [gS o] (.tup [.int .i64 (AS o.kind),.int .i64 (NI o.kind)]):=by
 refine Spec.enter al P19 100 Tryz.func19 rfl (by kernel_rfl) ?_
 repeat' ((conv=>whnf); first|(refine (And.intro (fun _=>?_) (fun _=>?_):(_->_)/\(_->_))<;>(first|(exfalso; first|contradiction|omega)|skip))|refine Or.inl (And.intro (by first|exact ao (by omega)|exact ah (by omega)|exact aF (by omega)|exact ba (by omega)) ?_)|(refine And.intro (show (_:Int)≠0 by omega) (Or.inl (And.intro (show (0:Int)<=_ by omega) (And.intro (show (0:Int) < _ by omega) ?_))))|(refine And.intro (show (_:Int)≠0 by omega) (Or.inl (And.intro (show (0:Int)<=_ by omega) (And.intro (by first|exact (show (_:Int)<=9223372036854775807 by omega)|exact (show (_:Int)<=4294967295 by omega)) (And.intro (show (0:Int) < _ by omega) ?_)))))|((simp only[AS,NI, *,if_true,if_false,reduceIte,Int.reduceEq]); exact rA)|(intro _))
def okO (o:VO):Prop:=(aM o/\dM o)/\o.kind≠30/\o.kind≠31
theorem Gl {o:VO} (h:okO o):AS o.kind = -1:=by unfold AS; rw[if_neg h.2.1,if_neg h.2.2]
def aS (l:List VO):List IN:=l.flatMap av
theorem zx (l:List VO):(aS l).length<=100*l.length:=by
 induction l with
 | nil=>simp[aS]
 | cons o l ih =>
  have:=tM o
  unfold aS at ih ⊢
  rw[List.flatMap_cons,List.length_append,List.length_cons]; omega
theorem pD {l:List VO} {i:Nat} {o:VO} (h:l[i]?=some o):aS (l.take (i+1))=aS (l.take i)++av o:=by
 unfold aS
 rw[List.take_add_one,h,List.flatMap_append]; simp
theorem Gm (l:List VO) (hl:l.length<=60) (hn:∀ o∈l,o.Ok) (dx:∀ o∈l,okO o):ai gT 22 [.sl 8 (l.map gS)] (.tup [.sl 11 (bx (aS l)),.int .i64 0]):=by
 have el:(l.map gS).length=l.length:=List.length_map ..
 refine Spec.enter al P22 100 Tryz.func22 rfl (by kernel_rfl) ?_
 intro _
 refine SW.Wf al P22 (by kernel_rfl) (fun i:Nat=>[(13,.int .i64 i),(4,.wref 0)]) (fun i=>[Pr (bx (aS (l.take i)))]) (fun i=>l.length - i) 0 60 [none] ?_ fun i=>?_
 ·repeat' first|exact trivial|exact rfl|refine And.intro ?_ ?_
 have ea:(bx (aS (l.take i))).length<=6000:=by
  have:=zx (l.take i)
  rw[bx,List.length_map]
  have h2:(l.take i).length<=l.length:=by rw[List.length_take]; omega
  omega
 refine⟨fun h=>?_,fun h=>?_⟩
 ·have h':(i:Int) < ((l.map gS).length:Nat):=h
  refine⟨VO,l,gS,rfl,show (0:Int)<=(i:Int) by omega,show (i:Int) < (l.length:Int) by omega,fun o ho=>?_⟩
  have ho':l[i]?=some o:=ho
  have hm:=List.mem_of_getElem? ho'
  have tN:=dx o hm
  have hi:=CU o (hn o hm) tN.1
  have et:=pD ho'
  have hle:(bx (av o)).length<=100:=by rw[bx,List.length_map]; exact tM o
  generalize av o=L at hi et hle
  refine hi.u ?_
  refine (CV o).u ?_
  have htc:=Gl tN
  refine⟨fun h=>absurd htc h,fun _=>?_⟩
  refine⟨fun h=>absurd rfl h,fun _=>?_⟩
  refine⟨show (bx (aS (l.take i))).length+(bx L).length<=maxLen by unfold maxLen; omega,show ((bx (aS (l.take i))).length+(bx L).length)*88<=140737488355328 by omega,?_⟩
  refine .inl ⟨ao (show _<=(i:Int)+1/\(i:Int)+1<=_ by omega),⟨i+1,[some 2],show l.length - (i+1) < l.length - i by omega,?_⟩⟩
  repeat' first|exact trivial|exact rfl|refine And.intro ?_ ?_
  exact (show bx (aS (l.take i))++bx L=bx (aS (l.take (i+1))) by rw[et]; simp[bx])
 ·have h':¬ (i:Int) < ((l.map gS).length:Nat):=h
  refine aw ?_
  have e:bx (aS (l.take i))=bx (aS l):=by rw[List.take_of_length_le (by omega)]
  refine And.intro (show V4 (.sl 11 (bx (aS (l.take i)))) (.sl 11 (bx (aS l))) from ?_) (by repeat' first|exact trivial|exact rfl|exact Iff.rfl|exact Or.inl rfl|refine And.intro ?_ ?_)
  rw[e]
  repeat' first|exact trivial|exact rfl|refine And.intro ?_ ?_
theorem qe (x:Int):(0<=Rm.ofM x↔Rm.kv x=0)/\(0<=Rm.ofM x->Rm.ofM x=Rm.ot x):=by
 unfold Rm.ofM Rm.kv Rm.ot
 cases Rm.dec x.toNat with
 | none=>simp
 | some n=>simp
theorem Gn (n:Int) (h:n % 4=0) (h0:256<=n) (h1:n<=1024):Rm.ofM n=Rm.ot n:=by
 have key:∀ k:Fin 193,0<=Rm.ofM (256+4*(k.1:Int)):=by decide +kernel
 have:=key ⟨((n - 256) / 4).toNat,by omega⟩
 rw[show 256+4*((((n - 256) / 4).toNat:Nat):Int)=n by omega] at this
 exact (qe n).2 this
end Go.Proofs.YtlgkljpgagfndaaGreatDoor.Pw

/- What this claim is proved with: no condition. -/
import Derived.Test.YtlgkljpgagfndaaGreatDoorNs25
import Derived.Test.YtlgkljpgagfndaaGreatDoorRows
import Derived.Test.YtlgkljpgagfndaaGreatDoorNs9
import Derived.ProofKit
import Derived.LaidMore
import Derived.OpenShut
import Derived.Stop.Joined
import Derived.Lib.LaidTab
set_option maxRecDepth 100000
set_option maxHeartbeats 8000000
set_option linter.unusedVariables false
set_option linter.unusedSimpArgs false
namespace Go.Proofs.YtlgkljpgagfndaaGreatDoor.Pw
open Go Go.RowKit
theorem Ax (r i n:Int):ai gT 52 [.int .i64 r,.int .i64 i,.int .i64 n] (.bool (dR i n r)):=by
 refine Spec.enter an P52 100 Tryz.func52 rfl (by kernel_rfl) ?_
 repeat' ((conv=>whnf); first|(refine (And.intro (fun _=>?_) (fun _=>?_):(_->_)/\(_->_))<;>(first|(exfalso; first|contradiction|omega)|skip))|refine Or.inl (And.intro (by first|exact av (by omega)|exact af (by omega)|exact aP (by omega)|exact bb (by omega)) ?_)|(refine And.intro (show (_:Int)≠0 by omega) (Or.inl (And.intro (show (0:Int)<=_ by omega) (And.intro (show (0:Int) < _ by omega) ?_))))|(refine And.intro (show (_:Int)≠0 by omega) (Or.inl (And.intro (show (0:Int)<=_ by omega) (And.intro (by first|exact (show (_:Int)<=9223372036854775807 by omega)|exact (show (_:Int)<=4294967295 by omega)) (And.intro (show (0:Int) < _ by omega) ?_)))))|(refine aD ?_; show ¬ dR _ _ _; unfold dR; omega)|(refine aD ?_; show _↔dR _ _ _; unfold dR; omega)|(intro _))
theorem ER:ai gT 51 [.int .i64 1] (.tup [.int .i64 (cF 1),.int .i64 (aM 1)]):=by
 refine Spec.enter an kv 100 Tryz.func51 rfl (by kernel_rfl) ?_
 repeat' ((conv=>whnf); first|(refine (And.intro (fun _=>?_) (fun _=>?_):(_->_)/\(_->_))<;>(first|(exfalso; first|contradiction|omega)|skip))|refine Or.inl (And.intro (by first|exact av (by omega)|exact af (by omega)|exact aP (by omega)|exact bb (by omega)) ?_)|(refine And.intro (show (_:Int)≠0 by omega) (Or.inl (And.intro (show (0:Int)<=_ by omega) (And.intro (show (0:Int) < _ by omega) ?_))))|(refine And.intro (show (_:Int)≠0 by omega) (Or.inl (And.intro (show (0:Int)<=_ by omega) (And.intro (by first|exact (show (_:Int)<=9223372036854775807 by omega)|exact (show (_:Int)<=4294967295 by omega)) (And.intro (show (0:Int) < _ by omega) ?_)))))|(refine Or.inl (Exists.intro 1 (And.intro rfl ?_)))|(exact rA)|(refine And.intro (show (0:Int)<=_ by omega) (And.intro (show _ < (_:Int) by omega) ?_))|(intro _))
theorem ES:ai gT 51 [.int .i64 2] (.tup [.int .i64 (cF 2),.int .i64 (aM 2)]):=by
 refine Spec.enter an kv 100 Tryz.func51 rfl (by kernel_rfl) ?_
 repeat' ((conv=>whnf); first|(refine (And.intro (fun _=>?_) (fun _=>?_):(_->_)/\(_->_))<;>(first|(exfalso; first|contradiction|omega)|skip))|refine Or.inl (And.intro (by first|exact av (by omega)|exact af (by omega)|exact aP (by omega)|exact bb (by omega)) ?_)|(refine And.intro (show (_:Int)≠0 by omega) (Or.inl (And.intro (show (0:Int)<=_ by omega) (And.intro (show (0:Int) < _ by omega) ?_))))|(refine And.intro (show (_:Int)≠0 by omega) (Or.inl (And.intro (show (0:Int)<=_ by omega) (And.intro (by first|exact (show (_:Int)<=9223372036854775807 by omega)|exact (show (_:Int)<=4294967295 by omega)) (And.intro (show (0:Int) < _ by omega) ?_)))))|(refine Or.inl (Exists.intro 2 (And.intro rfl ?_)))|(exact rA)|(refine And.intro (show (0:Int)<=_ by omega) (And.intro (show _ < (_:Int) by omega) ?_))|(intro _))
theorem ET:ai gT 51 [.int .i64 3] (.tup [.int .i64 (cF 3),.int .i64 (aM 3)]):=by
 refine Spec.enter an kv 100 Tryz.func51 rfl (by kernel_rfl) ?_
 repeat' ((conv=>whnf); first|(refine (And.intro (fun _=>?_) (fun _=>?_):(_->_)/\(_->_))<;>(first|(exfalso; first|contradiction|omega)|skip))|refine Or.inl (And.intro (by first|exact av (by omega)|exact af (by omega)|exact aP (by omega)|exact bb (by omega)) ?_)|(refine And.intro (show (_:Int)≠0 by omega) (Or.inl (And.intro (show (0:Int)<=_ by omega) (And.intro (show (0:Int) < _ by omega) ?_))))|(refine And.intro (show (_:Int)≠0 by omega) (Or.inl (And.intro (show (0:Int)<=_ by omega) (And.intro (by first|exact (show (_:Int)<=9223372036854775807 by omega)|exact (show (_:Int)<=4294967295 by omega)) (And.intro (show (0:Int) < _ by omega) ?_)))))|(refine Or.inl (Exists.intro 3 (And.intro rfl ?_)))|(exact rA)|(refine And.intro (show (0:Int)<=_ by omega) (And.intro (show _ < (_:Int) by omega) ?_))|(intro _))
theorem EU:ai gT 51 [.int .i64 4] (.tup [.int .i64 (cF 4),.int .i64 (aM 4)]):=by
 refine Spec.enter an kv 100 Tryz.func51 rfl (by kernel_rfl) ?_
 repeat' ((conv=>whnf); first|(refine (And.intro (fun _=>?_) (fun _=>?_):(_->_)/\(_->_))<;>(first|(exfalso; first|contradiction|omega)|skip))|refine Or.inl (And.intro (by first|exact av (by omega)|exact af (by omega)|exact aP (by omega)|exact bb (by omega)) ?_)|(refine And.intro (show (_:Int)≠0 by omega) (Or.inl (And.intro (show (0:Int)<=_ by omega) (And.intro (show (0:Int) < _ by omega) ?_))))|(refine And.intro (show (_:Int)≠0 by omega) (Or.inl (And.intro (show (0:Int)<=_ by omega) (And.intro (by first|exact (show (_:Int)<=9223372036854775807 by omega)|exact (show (_:Int)<=4294967295 by omega)) (And.intro (show (0:Int) < _ by omega) ?_)))))|(refine Or.inl (Exists.intro 4 (And.intro rfl ?_)))|(exact rA)|(refine And.intro (show (0:Int)<=_ by omega) (And.intro (show _ < (_:Int) by omega) ?_))|(intro _))
theorem EV:ai gT 51 [.int .i64 5] (.tup [.int .i64 (cF 5),.int .i64 (aM 5)]):=by
 refine Spec.enter an kv 100 Tryz.func51 rfl (by kernel_rfl) ?_
 repeat' ((conv=>whnf); first|(refine (And.intro (fun _=>?_) (fun _=>?_):(_->_)/\(_->_))<;>(first|(exfalso; first|contradiction|omega)|skip))|refine Or.inl (And.intro (by first|exact av (by omega)|exact af (by omega)|exact aP (by omega)|exact bb (by omega)) ?_)|(refine And.intro (show (_:Int)≠0 by omega) (Or.inl (And.intro (show (0:Int)<=_ by omega) (And.intro (show (0:Int) < _ by omega) ?_))))|(refine And.intro (show (_:Int)≠0 by omega) (Or.inl (And.intro (show (0:Int)<=_ by omega) (And.intro (by first|exact (show (_:Int)<=9223372036854775807 by omega)|exact (show (_:Int)<=4294967295 by omega)) (And.intro (show (0:Int) < _ by omega) ?_)))))|(refine Or.inl (Exists.intro 5 (And.intro rfl ?_)))|(exact rA)|(refine And.intro (show (0:Int)<=_ by omega) (And.intro (show _ < (_:Int) by omega) ?_))|(intro _))
theorem EW:ai gT 51 [.int .i64 6] (.tup [.int .i64 (cF 6),.int .i64 (aM 6)]):=by
 refine Spec.enter an kv 100 Tryz.func51 rfl (by kernel_rfl) ?_
 repeat' ((conv=>whnf); first|(refine (And.intro (fun _=>?_) (fun _=>?_):(_->_)/\(_->_))<;>(first|(exfalso; first|contradiction|omega)|skip))|refine Or.inl (And.intro (by first|exact av (by omega)|exact af (by omega)|exact aP (by omega)|exact bb (by omega)) ?_)|(refine And.intro (show (_:Int)≠0 by omega) (Or.inl (And.intro (show (0:Int)<=_ by omega) (And.intro (show (0:Int) < _ by omega) ?_))))|(refine And.intro (show (_:Int)≠0 by omega) (Or.inl (And.intro (show (0:Int)<=_ by omega) (And.intro (by first|exact (show (_:Int)<=9223372036854775807 by omega)|exact (show (_:Int)<=4294967295 by omega)) (And.intro (show (0:Int) < _ by omega) ?_)))))|(refine Or.inl (Exists.intro 6 (And.intro rfl ?_)))|(exact rA)|(refine And.intro (show (0:Int)<=_ by omega) (And.intro (show _ < (_:Int) by omega) ?_))|(intro _))
theorem EX:ai gT 51 [.int .i64 7] (.tup [.int .i64 (cF 7),.int .i64 (aM 7)]):=by
 refine Spec.enter an kv 100 Tryz.func51 rfl (by kernel_rfl) ?_
 repeat' ((conv=>whnf); first|(refine (And.intro (fun _=>?_) (fun _=>?_):(_->_)/\(_->_))<;>(first|(exfalso; first|contradiction|omega)|skip))|refine Or.inl (And.intro (by first|exact av (by omega)|exact af (by omega)|exact aP (by omega)|exact bb (by omega)) ?_)|(refine And.intro (show (_:Int)≠0 by omega) (Or.inl (And.intro (show (0:Int)<=_ by omega) (And.intro (show (0:Int) < _ by omega) ?_))))|(refine And.intro (show (_:Int)≠0 by omega) (Or.inl (And.intro (show (0:Int)<=_ by omega) (And.intro (by first|exact (show (_:Int)<=9223372036854775807 by omega)|exact (show (_:Int)<=4294967295 by omega)) (And.intro (show (0:Int) < _ by omega) ?_)))))|(refine Or.inl (Exists.intro 7 (And.intro rfl ?_)))|(exact rA)|(refine And.intro (show (0:Int)<=_ by omega) (And.intro (show _ < (_:Int) by omega) ?_))|(intro _))
theorem EY:ai gT 51 [.int .i64 8] (.tup [.int .i64 (cF 8),.int .i64 (aM 8)]):=by
 refine Spec.enter an kv 100 Tryz.func51 rfl (by kernel_rfl) ?_
 repeat' ((conv=>whnf); first|(refine (And.intro (fun _=>?_) (fun _=>?_):(_->_)/\(_->_))<;>(first|(exfalso; first|contradiction|omega)|skip))|refine Or.inl (And.intro (by first|exact av (by omega)|exact af (by omega)|exact aP (by omega)|exact bb (by omega)) ?_)|(refine And.intro (show (_:Int)≠0 by omega) (Or.inl (And.intro (show (0:Int)<=_ by omega) (And.intro (show (0:Int) < _ by omega) ?_))))|(refine And.intro (show (_:Int)≠0 by omega) (Or.inl (And.intro (show (0:Int)<=_ by omega) (And.intro (by first|exact (show (_:Int)<=9223372036854775807 by omega)|exact (show (_:Int)<=4294967295 by omega)) (And.intro (show (0:Int) < _ by omega) ?_)))))|(refine Or.inl (Exists.intro 8 (And.intro rfl ?_)))|(exact rA)|(refine And.intro (show (0:Int)<=_ by omega) (And.intro (show _ < (_:Int) by omega) ?_))|(intro _))
theorem EZ:ai gT 51 [.int .i64 9] (.tup [.int .i64 (cF 9),.int .i64 (aM 9)]):=by
 refine Spec.enter an kv 100 Tryz.func51 rfl (by kernel_rfl) ?_
 repeat' ((conv=>whnf); first|(refine (And.intro (fun _=>?_) (fun _=>?_):(_->_)/\(_->_))<;>(first|(exfalso; first|contradiction|omega)|skip))|refine Or.inl (And.intro (by first|exact av (by omega)|exact af (by omega)|exact aP (by omega)|exact bb (by omega)) ?_)|(refine And.intro (show (_:Int)≠0 by omega) (Or.inl (And.intro (show (0:Int)<=_ by omega) (And.intro (show (0:Int) < _ by omega) ?_))))|(refine And.intro (show (_:Int)≠0 by omega) (Or.inl (And.intro (show (0:Int)<=_ by omega) (And.intro (by first|exact (show (_:Int)<=9223372036854775807 by omega)|exact (show (_:Int)<=4294967295 by omega)) (And.intro (show (0:Int) < _ by omega) ?_)))))|(refine Or.inl (Exists.intro 9 (And.intro rfl ?_)))|(exact rA)|(refine And.intro (show (0:Int)<=_ by omega) (And.intro (show _ < (_:Int) by omega) ?_))|(intro _))
theorem Ay:ai gT 51 [.int .i64 10] (.tup [.int .i64 (cF 10),.int .i64 (aM 10)]):=by
 refine Spec.enter an kv 100 Tryz.func51 rfl (by kernel_rfl) ?_
 repeat' ((conv=>whnf); first|(refine (And.intro (fun _=>?_) (fun _=>?_):(_->_)/\(_->_))<;>(first|(exfalso; first|contradiction|omega)|skip))|refine Or.inl (And.intro (by first|exact av (by omega)|exact af (by omega)|exact aP (by omega)|exact bb (by omega)) ?_)|(refine And.intro (show (_:Int)≠0 by omega) (Or.inl (And.intro (show (0:Int)<=_ by omega) (And.intro (show (0:Int) < _ by omega) ?_))))|(refine And.intro (show (_:Int)≠0 by omega) (Or.inl (And.intro (show (0:Int)<=_ by omega) (And.intro (by first|exact (show (_:Int)<=9223372036854775807 by omega)|exact (show (_:Int)<=4294967295 by omega)) (And.intro (show (0:Int) < _ by omega) ?_)))))|(refine Or.inl (Exists.intro 10 (And.intro rfl ?_)))|(exact rA)|(refine And.intro (show (0:Int)<=_ by omega) (And.intro (show _ < (_:Int) by omega) ?_))|(intro _))
theorem Az:ai gT 51 [.int .i64 11] (.tup [.int .i64 (cF 11),.int .i64 (aM 11)]):=by
 refine Spec.enter an kv 100 Tryz.func51 rfl (by kernel_rfl) ?_
 repeat' ((conv=>whnf); first|(refine (And.intro (fun _=>?_) (fun _=>?_):(_->_)/\(_->_))<;>(first|(exfalso; first|contradiction|omega)|skip))|refine Or.inl (And.intro (by first|exact av (by omega)|exact af (by omega)|exact aP (by omega)|exact bb (by omega)) ?_)|(refine And.intro (show (_:Int)≠0 by omega) (Or.inl (And.intro (show (0:Int)<=_ by omega) (And.intro (show (0:Int) < _ by omega) ?_))))|(refine And.intro (show (_:Int)≠0 by omega) (Or.inl (And.intro (show (0:Int)<=_ by omega) (And.intro (by first|exact (show (_:Int)<=9223372036854775807 by omega)|exact (show (_:Int)<=4294967295 by omega)) (And.intro (show (0:Int) < _ by omega) ?_)))))|(refine Or.inl (Exists.intro 11 (And.intro rfl ?_)))|(exact rA)|(refine And.intro (show (0:Int)<=_ by omega) (And.intro (show _ < (_:Int) by omega) ?_))|(intro _))
theorem AA:ai gT 51 [.int .i64 12] (.tup [.int .i64 (cF 12),.int .i64 (aM 12)]):=by
 refine Spec.enter an kv 100 Tryz.func51 rfl (by kernel_rfl) ?_
 repeat' ((conv=>whnf); first|(refine (And.intro (fun _=>?_) (fun _=>?_):(_->_)/\(_->_))<;>(first|(exfalso; first|contradiction|omega)|skip))|refine Or.inl (And.intro (by first|exact av (by omega)|exact af (by omega)|exact aP (by omega)|exact bb (by omega)) ?_)|(refine And.intro (show (_:Int)≠0 by omega) (Or.inl (And.intro (show (0:Int)<=_ by omega) (And.intro (show (0:Int) < _ by omega) ?_))))|(refine And.intro (show (_:Int)≠0 by omega) (Or.inl (And.intro (show (0:Int)<=_ by omega) (And.intro (by first|exact (show (_:Int)<=9223372036854775807 by omega)|exact (show (_:Int)<=4294967295 by omega)) (And.intro (show (0:Int) < _ by omega) ?_)))))|(refine Or.inl (Exists.intro 12 (And.intro rfl ?_)))|(exact rA)|(refine And.intro (show (0:Int)<=_ by omega) (And.intro (show _ < (_:Int) by omega) ?_))|(intro _))
theorem AB:ai gT 51 [.int .i64 13] (.tup [.int .i64 (cF 13),.int .i64 (aM 13)]):=by
 refine Spec.enter an kv 100 Tryz.func51 rfl (by kernel_rfl) ?_
 repeat' ((conv=>whnf); first|(refine (And.intro (fun _=>?_) (fun _=>?_):(_->_)/\(_->_))<;>(first|(exfalso; first|contradiction|omega)|skip))|refine Or.inl (And.intro (by first|exact av (by omega)|exact af (by omega)|exact aP (by omega)|exact bb (by omega)) ?_)|(refine And.intro (show (_:Int)≠0 by omega) (Or.inl (And.intro (show (0:Int)<=_ by omega) (And.intro (show (0:Int) < _ by omega) ?_))))|(refine And.intro (show (_:Int)≠0 by omega) (Or.inl (And.intro (show (0:Int)<=_ by omega) (And.intro (by first|exact (show (_:Int)<=9223372036854775807 by omega)|exact (show (_:Int)<=4294967295 by omega)) (And.intro (show (0:Int) < _ by omega) ?_)))))|(refine Or.inl (Exists.intro 13 (And.intro rfl ?_)))|(exact rA)|(refine And.intro (show (0:Int)<=_ by omega) (And.intro (show _ < (_:Int) by omega) ?_))|(intro _))
theorem AD:ai gT 51 [.int .i64 14] (.tup [.int .i64 (cF 14),.int .i64 (aM 14)]):=by
 refine Spec.enter an kv 100 Tryz.func51 rfl (by kernel_rfl) ?_
 repeat' ((conv=>whnf); first|(refine (And.intro (fun _=>?_) (fun _=>?_):(_->_)/\(_->_))<;>(first|(exfalso; first|contradiction|omega)|skip))|refine Or.inl (And.intro (by first|exact av (by omega)|exact af (by omega)|exact aP (by omega)|exact bb (by omega)) ?_)|(refine And.intro (show (_:Int)≠0 by omega) (Or.inl (And.intro (show (0:Int)<=_ by omega) (And.intro (show (0:Int) < _ by omega) ?_))))|(refine And.intro (show (_:Int)≠0 by omega) (Or.inl (And.intro (show (0:Int)<=_ by omega) (And.intro (by first|exact (show (_:Int)<=9223372036854775807 by omega)|exact (show (_:Int)<=4294967295 by omega)) (And.intro (show (0:Int) < _ by omega) ?_)))))|(refine Or.inl (Exists.intro 14 (And.intro rfl ?_)))|(exact rA)|(refine And.intro (show (0:Int)<=_ by omega) (And.intro (show _ < (_:Int) by omega) ?_))|(intro _))
theorem AE:ai gT 51 [.int .i64 15] (.tup [.int .i64 (cF 15),.int .i64 (aM 15)]):=by
 refine Spec.enter an kv 100 Tryz.func51 rfl (by kernel_rfl) ?_
 repeat' ((conv=>whnf); first|(refine (And.intro (fun _=>?_) (fun _=>?_):(_->_)/\(_->_))<;>(first|(exfalso; first|contradiction|omega)|skip))|refine Or.inl (And.intro (by first|exact av (by omega)|exact af (by omega)|exact aP (by omega)|exact bb (by omega)) ?_)|(refine And.intro (show (_:Int)≠0 by omega) (Or.inl (And.intro (show (0:Int)<=_ by omega) (And.intro (show (0:Int) < _ by omega) ?_))))|(refine And.intro (show (_:Int)≠0 by omega) (Or.inl (And.intro (show (0:Int)<=_ by omega) (And.intro (by first|exact (show (_:Int)<=9223372036854775807 by omega)|exact (show (_:Int)<=4294967295 by omega)) (And.intro (show (0:Int) < _ by omega) ?_)))))|(refine Or.inl (Exists.intro 15 (And.intro rfl ?_)))|(exact rA)|(refine And.intro (show (0:Int)<=_ by omega) (And.intro (show _ < (_:Int) by omega) ?_))|(intro _))
theorem AF:ai gT 51 [.int .i64 16] (.tup [.int .i64 (cF 16),.int .i64 (aM 16)]):=by
 refine Spec.enter an kv 100 Tryz.func51 rfl (by kernel_rfl) ?_
 repeat' ((conv=>whnf); first|(refine (And.intro (fun _=>?_) (fun _=>?_):(_->_)/\(_->_))<;>(first|(exfalso; first|contradiction|omega)|skip))|refine Or.inl (And.intro (by first|exact av (by omega)|exact af (by omega)|exact aP (by omega)|exact bb (by omega)) ?_)|(refine And.intro (show (_:Int)≠0 by omega) (Or.inl (And.intro (show (0:Int)<=_ by omega) (And.intro (show (0:Int) < _ by omega) ?_))))|(refine And.intro (show (_:Int)≠0 by omega) (Or.inl (And.intro (show (0:Int)<=_ by omega) (And.intro (by first|exact (show (_:Int)<=9223372036854775807 by omega)|exact (show (_:Int)<=4294967295 by omega)) (And.intro (show (0:Int) < _ by omega) ?_)))))|(refine Or.inl (Exists.intro 16 (And.intro rfl ?_)))|(exact rA)|(refine And.intro (show (0:Int)<=_ by omega) (And.intro (show _ < (_:Int) by omega) ?_))|(intro _))
theorem AG:ai gT 51 [.int .i64 17] (.tup [.int .i64 (cF 17),.int .i64 (aM 17)]):=by
 refine Spec.enter an kv 100 Tryz.func51 rfl (by kernel_rfl) ?_
 repeat' ((conv=>whnf); first|(refine (And.intro (fun _=>?_) (fun _=>?_):(_->_)/\(_->_))<;>(first|(exfalso; first|contradiction|omega)|skip))|refine Or.inl (And.intro (by first|exact av (by omega)|exact af (by omega)|exact aP (by omega)|exact bb (by omega)) ?_)|(refine And.intro (show (_:Int)≠0 by omega) (Or.inl (And.intro (show (0:Int)<=_ by omega) (And.intro (show (0:Int) < _ by omega) ?_))))|(refine And.intro (show (_:Int)≠0 by omega) (Or.inl (And.intro (show (0:Int)<=_ by omega) (And.intro (by first|exact (show (_:Int)<=9223372036854775807 by omega)|exact (show (_:Int)<=4294967295 by omega)) (And.intro (show (0:Int) < _ by omega) ?_)))))|(refine Or.inl (Exists.intro 17 (And.intro rfl ?_)))|(exact rA)|(refine And.intro (show (0:Int)<=_ by omega) (And.intro (show _ < (_:Int) by omega) ?_))|(intro _))
theorem AH:ai gT 51 [.int .i64 18] (.tup [.int .i64 (cF 18),.int .i64 (aM 18)]):=by
 refine Spec.enter an kv 100 Tryz.func51 rfl (by kernel_rfl) ?_
 repeat' ((conv=>whnf); first|(refine (And.intro (fun _=>?_) (fun _=>?_):(_->_)/\(_->_))<;>(first|(exfalso; first|contradiction|omega)|skip))|refine Or.inl (And.intro (by first|exact av (by omega)|exact af (by omega)|exact aP (by omega)|exact bb (by omega)) ?_)|(refine And.intro (show (_:Int)≠0 by omega) (Or.inl (And.intro (show (0:Int)<=_ by omega) (And.intro (show (0:Int) < _ by omega) ?_))))|(refine And.intro (show (_:Int)≠0 by omega) (Or.inl (And.intro (show (0:Int)<=_ by omega) (And.intro (by first|exact (show (_:Int)<=9223372036854775807 by omega)|exact (show (_:Int)<=4294967295 by omega)) (And.intro (show (0:Int) < _ by omega) ?_)))))|(refine Or.inl (Exists.intro 18 (And.intro rfl ?_)))|(exact rA)|(refine And.intro (show (0:Int)<=_ by omega) (And.intro (show _ < (_:Int) by omega) ?_))|(intro _))
theorem AI:ai gT 51 [.int .i64 19] (.tup [.int .i64 (cF 19),.int .i64 (aM 19)]):=by
 refine Spec.enter an kv 100 Tryz.func51 rfl (by kernel_rfl) ?_
 repeat' ((conv=>whnf); first|(refine (And.intro (fun _=>?_) (fun _=>?_):(_->_)/\(_->_))<;>(first|(exfalso; first|contradiction|omega)|skip))|refine Or.inl (And.intro (by first|exact av (by omega)|exact af (by omega)|exact aP (by omega)|exact bb (by omega)) ?_)|(refine And.intro (show (_:Int)≠0 by omega) (Or.inl (And.intro (show (0:Int)<=_ by omega) (And.intro (show (0:Int) < _ by omega) ?_))))|(refine And.intro (show (_:Int)≠0 by omega) (Or.inl (And.intro (show (0:Int)<=_ by omega) (And.intro (by first|exact (show (_:Int)<=9223372036854775807 by omega)|exact (show (_:Int)<=4294967295 by omega)) (And.intro (show (0:Int) < _ by omega) ?_)))))|(refine Or.inl (Exists.intro 19 (And.intro rfl ?_)))|(exact rA)|(refine And.intro (show (0:Int)<=_ by omega) (And.intro (show _ < (_:Int) by omega) ?_))|(intro _))
theorem AJ:ai gT 51 [.int .i64 20] (.tup [.int .i64 (cF 20),.int .i64 (aM 20)]):=by
 refine Spec.enter an kv 100 Tryz.func51 rfl (by kernel_rfl) ?_
 repeat' ((conv=>whnf); first|(refine (And.intro (fun _=>?_) (fun _=>?_):(_->_)/\(_->_))<;>(first|(exfalso; first|contradiction|omega)|skip))|refine Or.inl (And.intro (by first|exact av (by omega)|exact af (by omega)|exact aP (by omega)|exact bb (by omega)) ?_)|(refine And.intro (show (_:Int)≠0 by omega) (Or.inl (And.intro (show (0:Int)<=_ by omega) (And.intro (show (0:Int) < _ by omega) ?_))))|(refine And.intro (show (_:Int)≠0 by omega) (Or.inl (And.intro (show (0:Int)<=_ by omega) (And.intro (by first|exact (show (_:Int)<=9223372036854775807 by omega)|exact (show (_:Int)<=4294967295 by omega)) (And.intro (show (0:Int) < _ by omega) ?_)))))|(refine Or.inl (Exists.intro 20 (And.intro rfl ?_)))|(exact rA)|(refine And.intro (show (0:Int)<=_ by omega) (And.intro (show _ < (_:Int) by omega) ?_))|(intro _))
theorem AK:ai gT 51 [.int .i64 21] (.tup [.int .i64 (cF 21),.int .i64 (aM 21)]):=by
 refine Spec.enter an kv 100 Tryz.func51 rfl (by kernel_rfl) ?_
 repeat' ((conv=>whnf); first|(refine (And.intro (fun _=>?_) (fun _=>?_):(_->_)/\(_->_))<;>(first|(exfalso; first|contradiction|omega)|skip))|refine Or.inl (And.intro (by first|exact av (by omega)|exact af (by omega)|exact aP (by omega)|exact bb (by omega)) ?_)|(refine And.intro (show (_:Int)≠0 by omega) (Or.inl (And.intro (show (0:Int)<=_ by omega) (And.intro (show (0:Int) < _ by omega) ?_))))|(refine And.intro (show (_:Int)≠0 by omega) (Or.inl (And.intro (show (0:Int)<=_ by omega) (And.intro (by first|exact (show (_:Int)<=9223372036854775807 by omega)|exact (show (_:Int)<=4294967295 by omega)) (And.intro (show (0:Int) < _ by omega) ?_)))))|(refine Or.inl (Exists.intro 21 (And.intro rfl ?_)))|(exact rA)|(refine And.intro (show (0:Int)<=_ by omega) (And.intro (show _ < (_:Int) by omega) ?_))|(intro _))
theorem AL:ai gT 51 [.int .i64 22] (.tup [.int .i64 (cF 22),.int .i64 (aM 22)]):=by
 refine Spec.enter an kv 100 Tryz.func51 rfl (by kernel_rfl) ?_
 repeat' ((conv=>whnf); first|(refine (And.intro (fun _=>?_) (fun _=>?_):(_->_)/\(_->_))<;>(first|(exfalso; first|contradiction|omega)|skip))|refine Or.inl (And.intro (by first|exact av (by omega)|exact af (by omega)|exact aP (by omega)|exact bb (by omega)) ?_)|(refine And.intro (show (_:Int)≠0 by omega) (Or.inl (And.intro (show (0:Int)<=_ by omega) (And.intro (show (0:Int) < _ by omega) ?_))))|(refine And.intro (show (_:Int)≠0 by omega) (Or.inl (And.intro (show (0:Int)<=_ by omega) (And.intro (by first|exact (show (_:Int)<=9223372036854775807 by omega)|exact (show (_:Int)<=4294967295 by omega)) (And.intro (show (0:Int) < _ by omega) ?_)))))|(refine Or.inl (Exists.intro 22 (And.intro rfl ?_)))|(exact rA)|(refine And.intro (show (0:Int)<=_ by omega) (And.intro (show _ < (_:Int) by omega) ?_))|(intro _))
theorem AM:ai gT 51 [.int .i64 23] (.tup [.int .i64 (cF 23),.int .i64 (aM 23)]):=by
 refine Spec.enter an kv 100 Tryz.func51 rfl (by kernel_rfl) ?_
 repeat' ((conv=>whnf); first|(refine (And.intro (fun _=>?_) (fun _=>?_):(_->_)/\(_->_))<;>(first|(exfalso; first|contradiction|omega)|skip))|refine Or.inl (And.intro (by first|exact av (by omega)|exact af (by omega)|exact aP (by omega)|exact bb (by omega)) ?_)|(refine And.intro (show (_:Int)≠0 by omega) (Or.inl (And.intro (show (0:Int)<=_ by omega) (And.intro (show (0:Int) < _ by omega) ?_))))|(refine And.intro (show (_:Int)≠0 by omega) (Or.inl (And.intro (show (0:Int)<=_ by omega) (And.intro (by first|exact (show (_:Int)<=9223372036854775807 by omega)|exact (show (_:Int)<=4294967295 by omega)) (And.intro (show (0:Int) < _ by omega) ?_)))))|(refine Or.inl (Exists.intro 23 (And.intro rfl ?_)))|(exact rA)|(refine And.intro (show (0:Int)<=_ by omega) (And.intro (show _ < (_:Int) by omega) ?_))|(intro _))
theorem AN:ai gT 51 [.int .i64 24] (.tup [.int .i64 (cF 24),.int .i64 (aM 24)]):=by
 refine Spec.enter an kv 100 Tryz.func51 rfl (by kernel_rfl) ?_
 repeat' ((conv=>whnf); first|(refine (And.intro (fun _=>?_) (fun _=>?_):(_->_)/\(_->_))<;>(first|(exfalso; first|contradiction|omega)|skip))|refine Or.inl (And.intro (by first|exact av (by omega)|exact af (by omega)|exact aP (by omega)|exact bb (by omega)) ?_)|(refine And.intro (show (_:Int)≠0 by omega) (Or.inl (And.intro (show (0:Int)<=_ by omega) (And.intro (show (0:Int) < _ by omega) ?_))))|(refine And.intro (show (_:Int)≠0 by omega) (Or.inl (And.intro (show (0:Int)<=_ by omega) (And.intro (by first|exact (show (_:Int)<=9223372036854775807 by omega)|exact (show (_:Int)<=4294967295 by omega)) (And.intro (show (0:Int) < _ by omega) ?_)))))|(refine Or.inl (Exists.intro 24 (And.intro rfl ?_)))|(exact rA)|(refine And.intro (show (0:Int)<=_ by omega) (And.intro (show _ < (_:Int) by omega) ?_))|(intro _))
theorem AO:ai gT 51 [.int .i64 25] (.tup [.int .i64 (cF 25),.int .i64 (aM 25)]):=by
 refine Spec.enter an kv 100 Tryz.func51 rfl (by kernel_rfl) ?_
 repeat' ((conv=>whnf); first|(refine (And.intro (fun _=>?_) (fun _=>?_):(_->_)/\(_->_))<;>(first|(exfalso; first|contradiction|omega)|skip))|refine Or.inl (And.intro (by first|exact av (by omega)|exact af (by omega)|exact aP (by omega)|exact bb (by omega)) ?_)|(refine And.intro (show (_:Int)≠0 by omega) (Or.inl (And.intro (show (0:Int)<=_ by omega) (And.intro (show (0:Int) < _ by omega) ?_))))|(refine And.intro (show (_:Int)≠0 by omega) (Or.inl (And.intro (show (0:Int)<=_ by omega) (And.intro (by first|exact (show (_:Int)<=9223372036854775807 by omega)|exact (show (_:Int)<=4294967295 by omega)) (And.intro (show (0:Int) < _ by omega) ?_)))))|(refine Or.inl (Exists.intro 25 (And.intro rfl ?_)))|(exact rA)|(refine And.intro (show (0:Int)<=_ by omega) (And.intro (show _ < (_:Int) by omega) ?_))|(intro _))
theorem AP:ai gT 51 [.int .i64 26] (.tup [.int .i64 (cF 26),.int .i64 (aM 26)]):=by
 refine Spec.enter an kv 100 Tryz.func51 rfl (by kernel_rfl) ?_
 repeat' ((conv=>whnf); first|(refine (And.intro (fun _=>?_) (fun _=>?_):(_->_)/\(_->_))<;>(first|(exfalso; first|contradiction|omega)|skip))|refine Or.inl (And.intro (by first|exact av (by omega)|exact af (by omega)|exact aP (by omega)|exact bb (by omega)) ?_)|(refine And.intro (show (_:Int)≠0 by omega) (Or.inl (And.intro (show (0:Int)<=_ by omega) (And.intro (show (0:Int) < _ by omega) ?_))))|(refine And.intro (show (_:Int)≠0 by omega) (Or.inl (And.intro (show (0:Int)<=_ by omega) (And.intro (by first|exact (show (_:Int)<=9223372036854775807 by omega)|exact (show (_:Int)<=4294967295 by omega)) (And.intro (show (0:Int) < _ by omega) ?_)))))|(refine Or.inl (Exists.intro 26 (And.intro rfl ?_)))|(exact rA)|(refine And.intro (show (0:Int)<=_ by omega) (And.intro (show _ < (_:Int) by omega) ?_))|(intro _))
theorem AQ:ai gT 51 [.int .i64 27] (.tup [.int .i64 (cF 27),.int .i64 (aM 27)]):=by
 refine Spec.enter an kv 100 Tryz.func51 rfl (by kernel_rfl) ?_
 repeat' ((conv=>whnf); first|(refine (And.intro (fun _=>?_) (fun _=>?_):(_->_)/\(_->_))<;>(first|(exfalso; first|contradiction|omega)|skip))|refine Or.inl (And.intro (by first|exact av (by omega)|exact af (by omega)|exact aP (by omega)|exact bb (by omega)) ?_)|(refine And.intro (show (_:Int)≠0 by omega) (Or.inl (And.intro (show (0:Int)<=_ by omega) (And.intro (show (0:Int) < _ by omega) ?_))))|(refine And.intro (show (_:Int)≠0 by omega) (Or.inl (And.intro (show (0:Int)<=_ by omega) (And.intro (by first|exact (show (_:Int)<=9223372036854775807 by omega)|exact (show (_:Int)<=4294967295 by omega)) (And.intro (show (0:Int) < _ by omega) ?_)))))|(refine Or.inl (Exists.intro 27 (And.intro rfl ?_)))|(exact rA)|(refine And.intro (show (0:Int)<=_ by omega) (And.intro (show _ < (_:Int) by omega) ?_))|(intro _))
theorem AR:ai gT 51 [.int .i64 28] (.tup [.int .i64 (cF 28),.int .i64 (aM 28)]):=by
 refine Spec.enter an kv 100 Tryz.func51 rfl (by kernel_rfl) ?_
 repeat' ((conv=>whnf); first|(refine (And.intro (fun _=>?_) (fun _=>?_):(_->_)/\(_->_))<;>(first|(exfalso; first|contradiction|omega)|skip))|refine Or.inl (And.intro (by first|exact av (by omega)|exact af (by omega)|exact aP (by omega)|exact bb (by omega)) ?_)|(refine And.intro (show (_:Int)≠0 by omega) (Or.inl (And.intro (show (0:Int)<=_ by omega) (And.intro (show (0:Int) < _ by omega) ?_))))|(refine And.intro (show (_:Int)≠0 by omega) (Or.inl (And.intro (show (0:Int)<=_ by omega) (And.intro (by first|exact (show (_:Int)<=9223372036854775807 by omega)|exact (show (_:Int)<=4294967295 by omega)) (And.intro (show (0:Int) < _ by omega) ?_)))))|(refine Or.inl (Exists.intro 28 (And.intro rfl ?_)))|(exact rA)|(refine And.intro (show (0:Int)<=_ by omega) (And.intro (show _ < (_:Int) by omega) ?_))|(intro _))
theorem AS:ai gT 51 [.int .i64 29] (.tup [.int .i64 (cF 29),.int .i64 (aM 29)]):=by
 refine Spec.enter an kv 100 Tryz.func51 rfl (by kernel_rfl) ?_
 repeat' ((conv=>whnf); first|(refine (And.intro (fun _=>?_) (fun _=>?_):(_->_)/\(_->_))<;>(first|(exfalso; first|contradiction|omega)|skip))|refine Or.inl (And.intro (by first|exact av (by omega)|exact af (by omega)|exact aP (by omega)|exact bb (by omega)) ?_)|(refine And.intro (show (_:Int)≠0 by omega) (Or.inl (And.intro (show (0:Int)<=_ by omega) (And.intro (show (0:Int) < _ by omega) ?_))))|(refine And.intro (show (_:Int)≠0 by omega) (Or.inl (And.intro (show (0:Int)<=_ by omega) (And.intro (by first|exact (show (_:Int)<=9223372036854775807 by omega)|exact (show (_:Int)<=4294967295 by omega)) (And.intro (show (0:Int) < _ by omega) ?_)))))|(refine Or.inl (Exists.intro 29 (And.intro rfl ?_)))|(exact rA)|(refine And.intro (show (0:Int)<=_ by omega) (And.intro (show _ < (_:Int) by omega) ?_))|(intro _))
theorem AU:ai gT 51 [.int .i64 30] (.tup [.int .i64 (cF 30),.int .i64 (aM 30)]):=by
 refine Spec.enter an kv 100 Tryz.func51 rfl (by kernel_rfl) ?_
 repeat' ((conv=>whnf); first|(refine (And.intro (fun _=>?_) (fun _=>?_):(_->_)/\(_->_))<;>(first|(exfalso; first|contradiction|omega)|skip))|refine Or.inl (And.intro (by first|exact av (by omega)|exact af (by omega)|exact aP (by omega)|exact bb (by omega)) ?_)|(refine And.intro (show (_:Int)≠0 by omega) (Or.inl (And.intro (show (0:Int)<=_ by omega) (And.intro (show (0:Int) < _ by omega) ?_))))|(refine And.intro (show (_:Int)≠0 by omega) (Or.inl (And.intro (show (0:Int)<=_ by omega) (And.intro (by first|exact (show (_:Int)<=9223372036854775807 by omega)|exact (show (_:Int)<=4294967295 by omega)) (And.intro (show (0:Int) < _ by omega) ?_)))))|(refine Or.inl (Exists.intro 30 (And.intro rfl ?_)))|(exact rA)|(refine And.intro (show (0:Int)<=_ by omega) (And.intro (show _ < (_:Int) by omega) ?_))|(intro _))
theorem AW:ai gT 51 [.int .i64 31] (.tup [.int .i64 (cF 31),.int .i64 (aM 31)]):=by
 refine Spec.enter an kv 100 Tryz.func51 rfl (by kernel_rfl) ?_
 repeat' ((conv=>whnf); first|(refine (And.intro (fun _=>?_) (fun _=>?_):(_->_)/\(_->_))<;>(first|(exfalso; first|contradiction|omega)|skip))|refine Or.inl (And.intro (by first|exact av (by omega)|exact af (by omega)|exact aP (by omega)|exact bb (by omega)) ?_)|(refine And.intro (show (_:Int)≠0 by omega) (Or.inl (And.intro (show (0:Int)<=_ by omega) (And.intro (show (0:Int) < _ by omega) ?_))))|(refine And.intro (show (_:Int)≠0 by omega) (Or.inl (And.intro (show (0:Int)<=_ by omega) (And.intro (by first|exact (show (_:Int)<=9223372036854775807 by omega)|exact (show (_:Int)<=4294967295 by omega)) (And.intro (show (0:Int) < _ by omega) ?_)))))|(refine Or.inl (Exists.intro 31 (And.intro rfl ?_)))|(exact rA)|(refine And.intro (show (0:Int)<=_ by omega) (And.intro (show _ < (_:Int) by omega) ?_))|(intro _))
theorem AX (k:Int) (h:¬ (1<=k/\k<=31)):ai gT 51 [.int .i64 k] (.tup [.int .i64 (-1),.int .i64 (-1)]):=by
 refine Spec.enter an kv 100 Tryz.func51 rfl (by kernel_rfl) ?_
 repeat' ((conv=>whnf); first|(refine (And.intro (fun _=>?_) (fun _=>?_):(_->_)/\(_->_))<;>(first|(exfalso; first|contradiction|omega)|skip))|refine Or.inl (And.intro (by first|exact av (by omega)|exact af (by omega)|exact aP (by omega)|exact bb (by omega)) ?_)|(refine And.intro (show (_:Int)≠0 by omega) (Or.inl (And.intro (show (0:Int)<=_ by omega) (And.intro (show (0:Int) < _ by omega) ?_))))|(refine And.intro (show (_:Int)≠0 by omega) (Or.inl (And.intro (show (0:Int)<=_ by omega) (And.intro (by first|exact (show (_:Int)<=9223372036854775807 by omega)|exact (show (_:Int)<=4294967295 by omega)) (And.intro (show (0:Int) < _ by omega) ?_)))))|(exact rA)|(intro _))
theorem vc (k:Int) (h:1<=k/\k<=31):ai gT 51 [.int .i64 k] (.tup [.int .i64 (cF k),.int .i64 (aM k)]):=by
 rcases kinds h with rfl|rfl|rfl|rfl|rfl|rfl|rfl|rfl|rfl|rfl|rfl|rfl|rfl|rfl|rfl|rfl|rfl|rfl|rfl|rfl|rfl|rfl|rfl|rfl|rfl|rfl|rfl|rfl|rfl|rfl|rfl
 ·exact ER
 ·exact ES
 ·exact ET
 ·exact EU
 ·exact EV
 ·exact EW
 ·exact EX
 ·exact EY
 ·exact EZ
 ·exact Ay
 ·exact Az
 ·exact AA
 ·exact AB
 ·exact AD
 ·exact AE
 ·exact AF
 ·exact AG
 ·exact AH
 ·exact AI
 ·exact AJ
 ·exact AK
 ·exact AL
 ·exact AM
 ·exact AN
 ·exact AO
 ·exact AP
 ·exact AQ
 ·exact AR
 ·exact AS
 ·exact AU
 ·exact AW
 
theorem Qs (k:Int) (h:1<=k/\k<=31):0<=cF k/\cF k<=2:=by
 rcases kinds h with rfl|rfl|rfl|rfl|rfl|rfl|rfl|rfl|rfl|rfl|rfl|rfl|rfl|rfl|rfl|rfl|rfl|rfl|rfl|rfl|rfl|rfl|rfl|rfl|rfl|rfl|rfl|rfl|rfl|rfl|rfl<;>decide
theorem vd (o:VO) (hn:0<=o.n/\o.n<=4294967295):ai gT 24 [vn o] (.bool (bg o)):=by
 by_cases hk:1<=o.kind/\o.kind<=31
 ·have hv:=Qs o.kind hk
  have hs:=vc o.kind hk
  have e:bg o↔((dR 0 (cF o.kind) o.t0/\dR 1 (cF o.kind) o.t1)/\(dR 0 (aM o.kind) o.f0/\dR 1 (aM o.kind) o.f1/\dR 2 (aM o.kind) o.f2/\dR 3 (aM o.kind) o.f3)/\(cF o.kind < 2\/o.t0≠o.t1)/\dv o.kind o.n):=⟨fun h=>h.2,fun h=>⟨hk,h⟩⟩
  refine Spec.enter an W1 100 Tryz.func24 rfl (by kernel_rfl) ?_
  refine hs.u ?_
  obtain⟨to,Yr⟩:∃ to,to=cF o.kind:=⟨_,rfl⟩
  obtain⟨fr,xr⟩:∃ fr,fr=aM o.kind:=⟨_,rfl⟩
  rw[← Yr,← xr] at e ⊢
  rw[← Yr] at hv
  clear xr Yr hs hk
  repeat' ((conv=>whnf); first|(refine (And.intro (fun _=>?_) (fun _=>?_):(_->_)/\(_->_))<;>(first|(exfalso; first|contradiction|omega)|skip))|refine Or.inl (And.intro (by first|exact av (by omega)|exact af (by omega)|exact aP (by omega)|exact bb (by omega)) ?_)|(refine And.intro (show (_:Int)≠0 by omega) (Or.inl (And.intro (show (0:Int)<=_ by omega) (And.intro (show (0:Int) < _ by omega) ?_))))|(refine And.intro (show (_:Int)≠0 by omega) (Or.inl (And.intro (show (0:Int)<=_ by omega) (And.intro (by first|exact (show (_:Int)<=9223372036854775807 by omega)|exact (show (_:Int)<=4294967295 by omega)) (And.intro (show (0:Int) < _ by omega) ?_)))))|(refine SW.rounds an W1 (by kernel_rfl) (N:=60) 5 ?_)|(refine aD ?_; (show ¬ bg o); rw[e]; (try simp only[Classical.not_not,yY,KZ,K0,K1,K2,K3,K4,K5,K6,wu,wv] at *); clear e; simp only[dR,dv] at *; omega)|(refine aD ?_; (show _↔bg o); rw[e]; (try simp only[Classical.not_not,yY,KZ,K0,K1,K2,K3,K4,K5,K6,wu,wv] at *); clear e; simp only[dR,dv] at *; omega)|(refine aD ?_; (show bg o); rw[e]; (try simp only[Classical.not_not,yY,KZ,K0,K1,K2,K3,K4,K5,K6,wu,wv] at *); clear e; simp only[dR,dv] at *; omega)|(refine Exists.intro [] (And.intro br ((Ax _ _ _).use (by repeat' first|exact trivial|exact rfl|exact Iff.rfl|exact Or.inl rfl|refine And.intro ?_ ?_) rfl rfl ?_)))|(intro _))
 ·refine Spec.enter an W1 100 Tryz.func24 rfl (by kernel_rfl) ?_
  refine (AX o.kind hk).u ?_
  repeat' ((conv=>whnf); first|(refine (And.intro (fun _=>?_) (fun _=>?_):(_->_)/\(_->_))<;>(first|(exfalso; first|contradiction|omega)|skip))|refine Or.inl (And.intro (by first|exact av (by omega)|exact af (by omega)|exact aP (by omega)|exact bb (by omega)) ?_)|(refine And.intro (show (_:Int)≠0 by omega) (Or.inl (And.intro (show (0:Int)<=_ by omega) (And.intro (show (0:Int) < _ by omega) ?_))))|(refine And.intro (show (_:Int)≠0 by omega) (Or.inl (And.intro (show (0:Int)<=_ by omega) (And.intro (by first|exact (show (_:Int)<=9223372036854775807 by omega)|exact (show (_:Int)<=4294967295 by omega)) (And.intro (show (0:Int) < _ by omega) ?_)))))|(refine aD ?_; exact (show ¬ bg o from fun h=>hk h.1))|(intro _))
def aj (t f:Int):Prop:=¬ 7 < t/\¬ 7 < f/\¬ (0<=t/\t=f)
theorem m8 (l:List Int) (x:Int):x∈nm l↔x∈l/\x≠-1:=by simp[nm]
theorem lj (o:VO) (hv:bg o):(bg o/\fu o)↔(aj o.t0 o.f0/\aj o.t0 o.f1/\aj o.t0 o.f2/\aj o.t0 o.f3)/\(aj o.t1 o.f0/\aj o.t1 o.f1/\aj o.t1 o.f2/\aj o.t1 o.f3):=by
 have Wm:=hv
 obtain⟨_,⟨a0,a1⟩,⟨b0,b1,b2,b3⟩,_⟩:=hv
 have g:∀ i n r,dR i n r->-1<=r:=fun i n r h=>by unfold dR at h; omega
 have a0:=g _ _ _ a0; have a1:=g _ _ _ a1; have b0:=g _ _ _ b0; have b1:=g _ _ _ b1; have b2:=g _ _ _ b2; have b3:=g _ _ _ b3
 refine⟨fun ⟨_,h1,h2⟩=>?_,fun h=>⟨Wm,?_,?_⟩⟩
 ·have hf:∀ x∈o.from_,x≠-1->x < 8:=fun x hx hn=>h1 x (List.mem_append_left _ ((m8 _ _).2 ⟨hx,hn⟩))
  have ht:∀ x∈o.to,x≠-1->x < 8:=fun x hx hn=>h1 x (List.mem_append_right _ ((m8 _ _).2 ⟨hx,hn⟩))
  have hp:∀ x∈o.to,x≠-1->x ∉ o.from_:=fun x hx hn hf=>h2 ⟨x,(m8 _ _).2 ⟨hx,hn⟩,(m8 _ _).2 ⟨hf,hn⟩⟩
  have f0:=hf o.f0 (by simp[VO.from_]); have f1:=hf o.f1 (by simp[VO.from_]); have f2:=hf o.f2 (by simp[VO.from_]); have f3:=hf o.f3 (by simp[VO.from_])
  have t0:=ht o.t0 (by simp[VO.to]); have t1:=ht o.t1 (by simp[VO.to])
  have p0:=hp o.t0 (by simp[VO.to]); have p1:=hp o.t1 (by simp[VO.to])
  simp only[VO.from_,List.mem_cons,List.not_mem_nil,or_false,not_or] at p0 p1
  unfold aj
  omega
 ·intro x hx
  simp only[List.mem_append,m8,VO.from_,VO.to,List.mem_cons,List.not_mem_nil,or_false] at hx
  unfold aj at h
  omega
 ·rintro⟨x,hx,hy⟩
  simp only[m8,VO.from_,VO.to,List.mem_cons,List.not_mem_nil,or_false] at hx hy
  unfold aj at h
  omega
theorem qY (o:VO) (hn:0<=o.n/\o.n<=4294967295):ai gT 7 [vn o] (.bool (bg o/\fu o)):=by
 refine Spec.enter an P7 100 Tryz.func7 rfl (by kernel_rfl) ?_
 refine (vd o hn).u ?_
 refine⟨fun h1=>?_,fun h1=>?_⟩
 ·refine aD ?_
  exact (show ¬ (bg o/\fu o) from fun h=>h1 h.1)
 have e:=lj o (Classical.not_not.1 h1)
 clear h1
 repeat' ((conv=>whnf); first|(refine (And.intro (fun _=>?_) (fun _=>?_):(_->_)/\(_->_))<;>(first|(exfalso; first|contradiction|omega)|skip))|refine Or.inl (And.intro (by first|exact av (by omega)|exact af (by omega)|exact aP (by omega)|exact bb (by omega)) ?_)|(refine And.intro (show (_:Int)≠0 by omega) (Or.inl (And.intro (show (0:Int)<=_ by omega) (And.intro (show (0:Int) < _ by omega) ?_))))|(refine And.intro (show (_:Int)≠0 by omega) (Or.inl (And.intro (show (0:Int)<=_ by omega) (And.intro (by first|exact (show (_:Int)<=9223372036854775807 by omega)|exact (show (_:Int)<=4294967295 by omega)) (And.intro (show (0:Int) < _ by omega) ?_)))))|(refine aD ?_; (show ¬ (bg o/\fu o)); rw[e]; clear e; unfold aj; omega)|(refine aD ?_; (show bg o/\fu o); rw[e]; clear e; unfold aj; omega)|(refine SW.rounds an P7 (by kernel_rfl) (N:=60) 5 ?_)|(intro _))
def sQ (n:Int):VO:=⟨1,3,-1,-1,-1,-1,-1,n⟩
theorem yH (n:Int):bg (sQ n)/\fu (sQ n):=by
 have h:bg (sQ n):=by
  refine⟨show (1:Int)<=1/\(1:Int)<=31 by decide,?_,?_,.inl (show cF 1 < 2 by decide),.inl rfl⟩
  ·show dR 0 (cF 1) 3/\dR 1 (cF 1) (-1)
   rw[show cF 1=1 by decide]; unfold dR; omega
  ·show dR 0 (aM 1) (-1)/\dR 1 (aM 1) (-1)/\dR 2 (aM 1) (-1)/\dR 3 (aM 1) (-1)
   rw[show aM 1=0 by decide]; unfold dR; omega
 refine (lj _ h).2 ?_
 show (aj 3 (-1)/\aj 3 (-1)/\aj 3 (-1)/\aj 3 (-1))/\(aj (-1) (-1)/\aj (-1) (-1)/\aj (-1) (-1)/\aj (-1) (-1))
 unfold aj
 omega
theorem qb:ai gT 6 [] .tt:=by
 have e1:sP (sQ 256) = .tup [.sl 11 (bI [iM 60 3 3968]),.int .i64 0]:=by
  rw[sP,if_pos (yH _)]
  have h1:Rm.kx 256=0:=by decide +kernel
  have h2:Rm.nI 256=3968:=by decide +kernel
  simp only[aC,sQ,aw,aZ,aG,aH,aI,ia,h1,h2,ne_eq,reduceIte,Int.reduceEq,Int.reduceLE,not_false_eq_true,not_true_eq_false,List.nil_append,List.append_nil]
 have e2:sP (sQ 305419896) = .tup [.sl 11 (bI [iM 48 3 22136,iM 49 3 4660]),.int .i64 0]:=by
  rw[sP,if_pos (yH _)]
  have h1:Rm.kx 305419896≠0:=by decide +kernel
  have h2:Rm.kx (4294967295 - 305419896)≠0:=by decide +kernel
  simp only[aC,sQ,aw,aZ,aG,aH,aI,ia,h1,h2,ne_eq,reduceIte,Int.reduceEq,Int.reduceLE,Int.reduceDiv,Int.reduceMod,not_false_eq_true,not_true_eq_false,List.nil_append,List.append_nil]
 have i1:=lh (sQ 256) (show (0:Int)<=256/\(256:Int)<=4294967295 by decide)
 have i2:=lh (sQ 305419896) (show (0:Int)<=305419896/\(305419896:Int)<=4294967295 by decide)
 rw[e1] at i1
 rw[e2] at i2
 refine Spec.enter an P6 100 Tryz.func6 rfl (by kernel_rfl) ?_
 repeat' ((conv=>whnf); first|(refine (And.intro (fun _=>?_) (fun _=>?_):(_->_)/\(_->_))<;>(first|(exfalso; first|contradiction|omega)|skip))|refine Or.inl (And.intro (by first|exact av (by omega)|exact af (by omega)|exact aP (by omega)|exact bb (by omega)) ?_)|(refine And.intro (show (_:Int)≠0 by omega) (Or.inl (And.intro (show (0:Int)<=_ by omega) (And.intro (show (0:Int) < _ by omega) ?_))))|(refine And.intro (show (_:Int)≠0 by omega) (Or.inl (And.intro (show (0:Int)<=_ by omega) (And.intro (by first|exact (show (_:Int)<=9223372036854775807 by omega)|exact (show (_:Int)<=4294967295 by omega)) (And.intro (show (0:Int) < _ by omega) ?_)))))|(refine SW.rounds an Vt (by kernel_rfl) (N:=60) 5 ?_)|(refine Exists.intro [] (And.intro br (Spec.enter an Vt 100 Tryz.func50 rfl (by kernel_rfl) ?_)))|(refine Exists.intro [] (And.intro br (Spec.enter an Zk 100 Tryz.func23 rfl (by kernel_rfl) ?_)))|(refine Exists.intro _ (And.intro (xA.refl _) ?_))|(intro _))
 refine i1.u ?_
 repeat' ((conv=>whnf); first|(refine (And.intro (fun _=>?_) (fun _=>?_):(_->_)/\(_->_))<;>(first|(exfalso; first|contradiction|omega)|skip))|refine Or.inl (And.intro (by first|exact av (by omega)|exact af (by omega)|exact aP (by omega)|exact bb (by omega)) ?_)|(refine And.intro (show (_:Int)≠0 by omega) (Or.inl (And.intro (show (0:Int)<=_ by omega) (And.intro (show (0:Int) < _ by omega) ?_))))|(refine And.intro (show (_:Int)≠0 by omega) (Or.inl (And.intro (show (0:Int)<=_ by omega) (And.intro (by first|exact (show (_:Int)<=9223372036854775807 by omega)|exact (show (_:Int)<=4294967295 by omega)) (And.intro (show (0:Int) < _ by omega) ?_)))))|(refine SW.rounds an Vt (by kernel_rfl) (N:=60) 5 ?_)|(refine Exists.intro [] (And.intro br (Spec.enter an Vt 100 Tryz.func50 rfl (by kernel_rfl) ?_)))|(refine Exists.intro [] (And.intro br (Spec.enter an Zk 100 Tryz.func23 rfl (by kernel_rfl) ?_)))|(refine Exists.intro _ (And.intro (xA.refl _) ?_))|(intro _))
 refine i2.u ?_
 refine⟨fun _=>?_,fun h=>absurd rfl h⟩
 refine⟨fun _=>?_,fun h=>absurd rfl h⟩
 intro _
 refine⟨fun _=>?_,fun h=>absurd rfl h⟩
 refine⟨IN,[iM 60 3 3968],cG,rfl,by decide,by decide,fun x hx=>?_⟩
 obtain rfl:iM 60 3 3968=x:=Option.some.inj hx
 refine⟨fun _=>?_,fun h=>absurd ⟨rfl,rfl,rfl,rfl,rfl,rfl,rfl,rfl,rfl,rfl,rfl,trivial⟩ h⟩
 intro _
 refine⟨fun _=>?_,fun h=>absurd rfl h⟩
 refine⟨IN,[iM 48 3 22136,iM 49 3 4660],cG,rfl,by decide,by decide,fun x hx=>?_⟩
 obtain rfl:iM 48 3 22136=x:=Option.some.inj hx
 refine⟨fun _=>?_,fun h=>absurd rfl h⟩
 refine⟨IN,[iM 48 3 22136,iM 49 3 4660],cG,rfl,by decide,by decide,fun x hx=>?_⟩
 obtain rfl:iM 49 3 4660=x:=Option.some.inj hx
 exact aD rfl
end Go.Proofs.YtlgkljpgagfndaaGreatDoor.Pw
namespace Go.Proofs.YtlgkljpgagfndaaGreatDoor.gZ
open Go.ChangeShapes Go.WideShapes Go.ChangeAt Go.RowKit Go.Deep
def iG:List (String × DataW Unit):=[("remontoire/imm.factors",Rows.laid_remontoire_imm_factors),("remontoire/inst.shapes",Rows.laid_remontoire_inst_shapes),("remontoire/vop.rows",Rows.laid_remontoire_vop_rows)]
def fuel:Nat:=3000
theorem E0 (os:Os) (args:Array Value):laidMetH Tryz.prog iG ((World.doorLaid Tryz.prog fuel os).forCall (fun _ _=>0) ⟨#[],args,[]⟩).memory :=
 laidMetH_of_parts3 (fuel:=8) (laidMet_of_run' 8 (by kernel_rfl) (by kernel_rfl)) (by kernel_rfl) (by kernel_rfl)
end Go.Proofs.YtlgkljpgagfndaaGreatDoor.gZ
namespace Go.Proofs.YtlgkljpgagfndaaGreatDoor.Pw
open Go Go.RowKit
theorem Qt {W:World} (h:laidMetH Tryz.prog gZ.iG W):dj gT (In W) W :=
 vT (laid:=gZ.iG) (by kernel_rfl) h fun x hx=>by
  have qn:x∈[(1,KJ),(2,Zi),(0,Cd)]:=hx
  simp only[List.mem_cons,List.not_mem_nil,or_false] at qn
  rcases qn with rfl|rfl|rfl
  ·exact⟨"remontoire/imm.factors",_,98,List.mem_cons_self,by kernel_rfl,by kernel_rfl,by kernel_rfl,nofun⟩
  ·exact⟨"remontoire/inst.shapes",_,202,List.mem_cons_of_mem _ List.mem_cons_self,by kernel_rfl,by kernel_rfl,by kernel_rfl,nofun⟩
  ·exact⟨"remontoire/vop.rows",_,154,List.mem_cons_of_mem _ (List.mem_cons_of_mem _ List.mem_cons_self),by kernel_rfl,by kernel_rfl,by kernel_rfl,nofun⟩
theorem E1 {P:Program} {t e:TypeId} {S:PV->Prop} {n:Nat} (ht:P.underlying t=some (.array n e)) (he:Op P e S) (hc:P.cellsOf t=n*P.cellsOf e):Op P t (lR (List.replicate n S)):=fun {H} ec w base held fuel cs x h xE=>by
 obtain⟨xs,m,_,rfl,hl,oE,hx⟩:=DataW.trod_array ht h
 have key:∀ (k off:Nat),k+off=n->∃ ys,oW (List.replicate k S) ys/\bB w (In w) (ys.flatMap PV.cells) no (cs.drop (off*P.cellsOf e))/\∀ c∈cs.drop (off*P.cellsOf e),c.oneCell'=true:=by
  intro k
  induction k with
  | zero =>
   intro off hk
   have Jq:cs.length<=off*P.cellsOf e:=by rw[hl,hc,show off=n by omega]; exact Nat.le_refl _
   refine⟨[],trivial,?_,?_⟩
   ·rw[List.drop_eq_nil_of_le Jq]; simp only[List.flatMap_nil,bB]
   ·rw[List.drop_eq_nil_of_le Jq]; intro c hc; cases hc
  | succ k ih =>
   intro off hk
   obtain⟨ys,h1,h2,h3⟩:=ih (off+1) (by omega)
   have hi:=hx off (by omega)
   have cz:off < xs.length:=by omega
   rw[List.getElem?_eq_getElem cz] at hi
   obtain⟨y,hS,_,hy,Fa,vC⟩:=he ec w base held m _ _ hi fun n hn=>xE n (by
    simp only[DataW.weights,ht]
    exact jx (List.mem_map.2 ⟨xs[off],List.getElem_mem cz,rfl⟩) hn)
   have hd:cs.drop (off*P.cellsOf e)=(cs.drop (off*P.cellsOf e)).take (P.cellsOf e)++cs.drop ((off+1)*P.cellsOf e):=by
    rw[Nat.succ_mul,← List.drop_drop,List.take_append_drop]
   refine⟨y::ys,⟨hS,h1⟩,?_,?_⟩
   ·rw[hd,List.flatMap_cons]; exact hy.append h2
   ·intro c VK
    rw[hd,List.mem_append] at VK
    exact VK.elim (vC c) (h3 c)
 obtain⟨ys,h1,h2,h3⟩:=key n 0 rfl
 rw[Nat.zero_mul,List.drop_zero] at h2 h3
 exact⟨.agg (ys.flatMap PV.cells),⟨ys,h1,rfl⟩,nofun,h2,hl,h3⟩
structure VO.Ok (o:VO):Prop where
 n:0<=o.n/\o.n<=4294967295
theorem E2 {z:Int} (h:sR .u32 z):0<=z/\z<=4294967295:=by unfold sR Ev.jl Ev.jc at h; simp only[IntKind.signed,IntKind.bits] at h; simpa using h
theorem UP:Op Tryz.prog 26 (lR [SInt .i64,lR (List.replicate 2 (SInt .i64)),lR (List.replicate 4 (SInt .i64)),SInt .u32]) :=
 JE (Ss:=[SInt .i64,lR (List.replicate 2 (SInt .i64)),lR (List.replicate 4 (SInt .i64)),SInt .u32]) Tryz.underlying26
  ⟨rfl,tI Tryz.underlying3 (by kernel_rfl),(show _=_ by kernel_rfl),E1 Tryz.underlying22 (tI Tryz.underlying3 (by kernel_rfl)) (by kernel_rfl),(show _=_ by kernel_rfl),E1 Tryz.underlying23 (tI Tryz.underlying3 (by kernel_rfl)) (by kernel_rfl),(show _=_ by kernel_rfl),tI Tryz.underlying24 (by kernel_rfl),(show _=_ by kernel_rfl)⟩
theorem Qu (x:PV) (h:lR [SInt .i64,lR (List.replicate 2 (SInt .i64)),lR (List.replicate 4 (SInt .i64)),SInt .u32] x):∃ o:VO,o.Ok/\x=vn o:=by
 obtain⟨xs,h,rfl⟩:=h
 obtain⟨_,_,rfl,⟨k,_,rfl⟩,Ys⟩:=cB h
 obtain⟨_,_,rfl,⟨ts,ht,rfl⟩,Yt⟩:=cB Ys
 obtain⟨_,_,rfl,⟨fs,hf,rfl⟩,Yu⟩:=cB Yt
 obtain⟨_,_,rfl,⟨n,hn,rfl⟩,Yv⟩:=cB Yu
 obtain rfl:=lS Yv
 obtain⟨_,_,rfl,⟨t0,_,rfl⟩,Yw⟩:=cB ht
 obtain⟨_,_,rfl,⟨t1,_,rfl⟩,Yx⟩:=cB Yw
 obtain rfl:=lS Yx
 obtain⟨_,_,rfl,⟨f0,_,rfl⟩,Yy⟩:=cB hf
 obtain⟨_,_,rfl,⟨f1,_,rfl⟩,Yz⟩:=cB Yy
 obtain⟨_,_,rfl,⟨f2,_,rfl⟩,YA⟩:=cB Yz
 obtain⟨_,_,rfl,⟨f3,_,rfl⟩,YB⟩:=cB YA
 obtain rfl:=lS YB
 exact⟨⟨k,t0,t1,f0,f1,f2,f3,n⟩,⟨E2 hn⟩,rfl⟩
def YC (x:PV):Prop:=∃ o:VO,o.Ok/\x=vn o
theorem YD:Op Tryz.prog 26 YC:=UP.F6 Qu
theorem AY (o:VO) (h:o.Ok) (hf:bg o/\fu o):ai gT 8 [vn o] (.tup [.sl 11 (bI (aC o)),.int .i64 0]):=by
 have:=lh o h.n
 rwa [sP,if_pos hf] at this
theorem n_ (x:Int):(0<=Rm.ofM x↔Rm.kx x=0)/\(0<=Rm.ofM x->Rm.ofM x=Rm.nI x):=by
 unfold Rm.ofM Rm.kx Rm.nI
 cases Rm.dec x.toNat with
 | none=>simp
 | some n=>simp
theorem E3 (n:Int) (h:n % 4=0) (h0:256<=n) (h1:n<=1024):Rm.ofM n=Rm.nI n:=by
 have key:∀ k:Fin 193,0<=Rm.ofM (256+4*(k.1:Int)):=by decide +kernel
 have:=key ⟨((n - 256) / 4).toNat,by omega⟩
 rw[show 256+4*((((n - 256) / 4).toNat:Nat):Int)=n by omega] at this
 exact (n_ n).2 this
end Go.Proofs.YtlgkljpgagfndaaGreatDoor.Pw

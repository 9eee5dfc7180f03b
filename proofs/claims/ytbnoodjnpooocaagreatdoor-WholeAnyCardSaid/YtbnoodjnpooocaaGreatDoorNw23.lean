/- What this claim is proved with: no condition. -/
import Derived.Test.YtbnoodjnpooocaaGreatDoorNw22
set_option maxRecDepth 100000
set_option maxHeartbeats 8000000
set_option linter.unusedVariables false
set_option linter.unusedSimpArgs false
namespace Go.Proofs.YtbnoodjnpooocaaGreatDoor.Pw
open Go Go.RowKit
def aY (s:RS) (c:Int):Prop :=
 (c=0/\s.Z=1)\/(c=1/\¬ s.Z=1)\/(c=2/\s.C=1)\/(c=3/\¬ s.C=1)\/(c=4/\s.N=1)\/(c=5/\¬ s.N=1)\/(c=6/\s.V=1)\/(c=7/\¬ s.V=1) \/
 (c=8/\s.C=1/\s.Z=0)\/(c=9/\¬ (s.C=1/\s.Z=0))\/(c=10/\s.N=s.V)\/(c=11/\¬ s.N=s.V)\/(c=12/\s.Z=0/\s.N=s.V)\/(c=13/\¬ (s.Z=0/\s.N=s.V))
instance (s:RS) (c:Int):Decidable (aY s c):=by unfold aY; infer_instance
theorem eY {p q:Prop} (h:p↔q):ma (.bool p) (.bool q):=h
theorem gR {q:Prop} (h:q):ma .tt (.bool q):=h
theorem gd {q:Prop} (h:¬ q):ma .ff (.bool q):=h
theorem eZ {f:FuncId} {a r:PV} {c K:Int} (e:c=K) (h:al gT f [a,.lit .i64 K] r) (ha:ma a a):al gT f [a,.int .i64 c] r:=by
 subst e
 exact Spec.args h ⟨ha,show Be (.int .i64 c) (.lit .i64 c) from rfl,trivial⟩
theorem e8 (s:RS):ma (uw s) (uw s):=pQ (l:=Pa s) rfl
theorem Gv (s:RS) (c:Int) (h:c < 0\/13 < c):al gT 135 [uw s,.int .i64 c] (.bool (aY s c)):=by
 have hn:¬ aY s c:=by unfold aY; omega
 refine Spec.enter aA nj 100 Tryz.func135 rfl (by kernel_rfl) ?_
 refine And.intro (by decide) (.inr ?_)
 repeat' ((try (conv=>whnf)); first
  | (refine aF ?_; exact gd hn)
  | (refine (And.intro (fun _=>?_) (fun _=>?_):(_->_)/\(_->_))<;>(first|(exfalso; first|contradiction|omega)|skip)))
theorem Ph (s:RS):al gT 135 [uw s,.lit .i64 0] (.bool (aY s 0)):=by
 refine Spec.enter aA nj 100 Tryz.func135 rfl (by kernel_rfl) ?_
 repeat' ((try (conv=>whnf)); first
  | (refine aF ?_; first|(refine eY ?_; simp[aY, *]; done)|(refine gR ?_; simp[aY, *]; done)|(refine gd ?_; simp[aY, *]; done))
  | (refine (And.intro (fun _=>?_) (fun _=>?_):(_->_)/\(_->_))<;>(first|(exfalso; contradiction)|skip)))
theorem Pj (s:RS):al gT 135 [uw s,.lit .i64 1] (.bool (aY s 1)):=by
 refine Spec.enter aA nj 100 Tryz.func135 rfl (by kernel_rfl) ?_
 repeat' ((try (conv=>whnf)); first
  | (refine aF ?_; first|(refine eY ?_; simp[aY, *]; done)|(refine gR ?_; simp[aY, *]; done)|(refine gd ?_; simp[aY, *]; done))
  | (refine (And.intro (fun _=>?_) (fun _=>?_):(_->_)/\(_->_))<;>(first|(exfalso; contradiction)|skip)))
theorem Pk (s:RS):al gT 135 [uw s,.lit .i64 2] (.bool (aY s 2)):=by
 refine Spec.enter aA nj 100 Tryz.func135 rfl (by kernel_rfl) ?_
 repeat' ((try (conv=>whnf)); first
  | (refine aF ?_; first|(refine eY ?_; simp[aY, *]; done)|(refine gR ?_; simp[aY, *]; done)|(refine gd ?_; simp[aY, *]; done))
  | (refine (And.intro (fun _=>?_) (fun _=>?_):(_->_)/\(_->_))<;>(first|(exfalso; contradiction)|skip)))
theorem Pm (s:RS):al gT 135 [uw s,.lit .i64 3] (.bool (aY s 3)):=by
 refine Spec.enter aA nj 100 Tryz.func135 rfl (by kernel_rfl) ?_
 repeat' ((try (conv=>whnf)); first
  | (refine aF ?_; first|(refine eY ?_; simp[aY, *]; done)|(refine gR ?_; simp[aY, *]; done)|(refine gd ?_; simp[aY, *]; done))
  | (refine (And.intro (fun _=>?_) (fun _=>?_):(_->_)/\(_->_))<;>(first|(exfalso; contradiction)|skip)))
theorem Pn (s:RS):al gT 135 [uw s,.lit .i64 4] (.bool (aY s 4)):=by
 refine Spec.enter aA nj 100 Tryz.func135 rfl (by kernel_rfl) ?_
 repeat' ((try (conv=>whnf)); first
  | (refine aF ?_; first|(refine eY ?_; simp[aY, *]; done)|(refine gR ?_; simp[aY, *]; done)|(refine gd ?_; simp[aY, *]; done))
  | (refine (And.intro (fun _=>?_) (fun _=>?_):(_->_)/\(_->_))<;>(first|(exfalso; contradiction)|skip)))
theorem Po (s:RS):al gT 135 [uw s,.lit .i64 5] (.bool (aY s 5)):=by
 refine Spec.enter aA nj 100 Tryz.func135 rfl (by kernel_rfl) ?_
 repeat' ((try (conv=>whnf)); first
  | (refine aF ?_; first|(refine eY ?_; simp[aY, *]; done)|(refine gR ?_; simp[aY, *]; done)|(refine gd ?_; simp[aY, *]; done))
  | (refine (And.intro (fun _=>?_) (fun _=>?_):(_->_)/\(_->_))<;>(first|(exfalso; contradiction)|skip)))
theorem Pp (s:RS):al gT 135 [uw s,.lit .i64 6] (.bool (aY s 6)):=by
 refine Spec.enter aA nj 100 Tryz.func135 rfl (by kernel_rfl) ?_
 repeat' ((try (conv=>whnf)); first
  | (refine aF ?_; first|(refine eY ?_; simp[aY, *]; done)|(refine gR ?_; simp[aY, *]; done)|(refine gd ?_; simp[aY, *]; done))
  | (refine (And.intro (fun _=>?_) (fun _=>?_):(_->_)/\(_->_))<;>(first|(exfalso; contradiction)|skip)))
theorem Pq (s:RS):al gT 135 [uw s,.lit .i64 7] (.bool (aY s 7)):=by
 refine Spec.enter aA nj 100 Tryz.func135 rfl (by kernel_rfl) ?_
 repeat' ((try (conv=>whnf)); first
  | (refine aF ?_; first|(refine eY ?_; simp[aY, *]; done)|(refine gR ?_; simp[aY, *]; done)|(refine gd ?_; simp[aY, *]; done))
  | (refine (And.intro (fun _=>?_) (fun _=>?_):(_->_)/\(_->_))<;>(first|(exfalso; contradiction)|skip)))
theorem Pr (s:RS):al gT 135 [uw s,.lit .i64 8] (.bool (aY s 8)):=by
 refine Spec.enter aA nj 100 Tryz.func135 rfl (by kernel_rfl) ?_
 repeat' ((try (conv=>whnf)); first
  | (refine aF ?_; first|(refine eY ?_; simp[aY, *]; done)|(refine gR ?_; simp[aY, *]; done)|(refine gd ?_; simp[aY, *]; done))
  | (refine (And.intro (fun _=>?_) (fun _=>?_):(_->_)/\(_->_))<;>(first|(exfalso; contradiction)|skip)))
theorem Ps (s:RS):al gT 135 [uw s,.lit .i64 9] (.bool (aY s 9)):=by
 refine Spec.enter aA nj 100 Tryz.func135 rfl (by kernel_rfl) ?_
 repeat' ((try (conv=>whnf)); first
  | (refine aF ?_; first|(refine eY ?_; simp[aY, *]; done)|(refine gR ?_; simp[aY, *]; done)|(refine gd ?_; simp[aY, *]; done))
  | (refine (And.intro (fun _=>?_) (fun _=>?_):(_->_)/\(_->_))<;>(first|(exfalso; contradiction)|skip)))
theorem Lh (s:RS):al gT 135 [uw s,.lit .i64 10] (.bool (aY s 10)):=by
 refine Spec.enter aA nj 100 Tryz.func135 rfl (by kernel_rfl) ?_
 repeat' ((try (conv=>whnf)); first
  | (refine aF ?_; first|(refine eY ?_; simp[aY, *]; done)|(refine gR ?_; simp[aY, *]; done)|(refine gd ?_; simp[aY, *]; done))
  | (refine (And.intro (fun _=>?_) (fun _=>?_):(_->_)/\(_->_))<;>(first|(exfalso; contradiction)|skip)))
theorem Li (s:RS):al gT 135 [uw s,.lit .i64 11] (.bool (aY s 11)):=by
 refine Spec.enter aA nj 100 Tryz.func135 rfl (by kernel_rfl) ?_
 repeat' ((try (conv=>whnf)); first
  | (refine aF ?_; first|(refine eY ?_; simp[aY, *]; done)|(refine gR ?_; simp[aY, *]; done)|(refine gd ?_; simp[aY, *]; done))
  | (refine (And.intro (fun _=>?_) (fun _=>?_):(_->_)/\(_->_))<;>(first|(exfalso; contradiction)|skip)))
theorem Lj (s:RS):al gT 135 [uw s,.lit .i64 12] (.bool (aY s 12)):=by
 refine Spec.enter aA nj 100 Tryz.func135 rfl (by kernel_rfl) ?_
 repeat' ((try (conv=>whnf)); first
  | (refine aF ?_; first|(refine eY ?_; simp[aY, *]; done)|(refine gR ?_; simp[aY, *]; done)|(refine gd ?_; simp[aY, *]; done))
  | (refine (And.intro (fun _=>?_) (fun _=>?_):(_->_)/\(_->_))<;>(first|(exfalso; contradiction)|skip)))
theorem Lk (s:RS):al gT 135 [uw s,.lit .i64 13] (.bool (aY s 13)):=by
 refine Spec.enter aA nj 100 Tryz.func135 rfl (by kernel_rfl) ?_
 repeat' ((try (conv=>whnf)); first
  | (refine aF ?_; first|(refine eY ?_; simp[aY, *]; done)|(refine gR ?_; simp[aY, *]; done)|(refine gd ?_; simp[aY, *]; done))
  | (refine (And.intro (fun _=>?_) (fun _=>?_):(_->_)/\(_->_))<;>(first|(exfalso; contradiction)|skip)))
theorem uA (s:RS) (c:Int):al gT 135 [uw s,.int .i64 c] (.bool (aY s c)):=by
 by_cases h:c < 0\/13 < c
 ·exact Gv s c h
 ·have hc:c=0\/c=1\/c=2\/c=3\/c=4\/c=5\/c=6\/c=7\/c=8\/c=9\/c=10\/c=11\/c=12\/c=13:=by omega
  rcases hc with rfl|rfl|rfl|rfl|rfl|rfl|rfl|rfl|rfl|rfl|rfl|rfl|rfl|rfl
  
  ·exact eZ rfl (Ph s) (e8 s)
  ·exact eZ rfl (Pj s) (e8 s)
  ·exact eZ rfl (Pk s) (e8 s)
  ·exact eZ rfl (Pm s) (e8 s)
  ·exact eZ rfl (Pn s) (e8 s)
  ·exact eZ rfl (Po s) (e8 s)
  ·exact eZ rfl (Pp s) (e8 s)
  ·exact eZ rfl (Pq s) (e8 s)
  ·exact eZ rfl (Pr s) (e8 s)
  ·exact eZ rfl (Ps s) (e8 s)
  ·exact eZ rfl (Lh s) (e8 s)
  ·exact eZ rfl (Li s) (e8 s)
  ·exact eZ rfl (Lj s) (e8 s)
  ·exact eZ rfl (Lk s) (e8 s)
def im (r v:Int):Int:=if r=13 then bits .andNot .u32 v 3 else v
theorem uB (r v:Int):al gT 134 [.int .i64 r,.int .u32 v] (.int .u32 (im r v)):=by
 refine Spec.enter aA aaD 100 Tryz.func134 rfl (by kernel_rfl) ?_
 refine⟨fun h=>?_,fun h=>?_⟩
 ·exact aF (show bits .andNot .u32 v 3=im r v by unfold im; rw[if_pos h])
 ·exact aF (show v=im r v by unfold im; rw[if_neg h])
def kG (x:XS) (v:Int):XS:=if bits .or .u32 v 1=4294967295 then { x with kind:=1,code:=0 } else dn x 15 (bits .andNot .u32 v 1)
theorem Ew (m:MS) (x:XS) (v:Int):Spec gT 123 [.ptr 3 0,.int .u32 v] (iN m x) [] fun y S'=>y = .tup []/\S'=iN m (kG x v):=by
 refine Spec.lJ (Spec.enter aA aau 100 Tryz.func123 rfl (by kernel_rfl) ?_)
 refine⟨fun h=>?_,fun h=>?_⟩
 ·have e:kG x v = { x with kind:=1,code:=0 }:=by unfold kG; rw[if_pos h]
  rw[e]
  exact rS
 ·have e:kG x v=dn x 15 (bits .andNot .u32 v 1):=by unfold kG; rw[if_neg h]
  rw[e]
  refine (aT m x 15 (bits .andNot .u32 v 1) (by decide) (by decide)).e ?_
  exact rS
def wA (x:XS) (lo hi:Int):XS:=dn (dn x x.i.rd lo) x.i.ra hi
theorem Ex (m:MS) (x:XS) (lo hi:Int) (hx:nn x):Spec gT 131 [.ptr 3 0,.int .u32 lo,.int .u32 hi] (iN m x) [] fun y S'=>y = .tup []/\S'=iN m (wA x lo hi):=by
 refine Spec.lJ (Spec.enter aA aaC 100 Tryz.func131 rfl (by kernel_rfl) ?_)
 refine (aT m x x.i.rd lo hx.rd.1 hx.rd.2).e ?_
 refine (aT m (dn x x.i.rd lo) x.i.ra hi hx.ra.1 hx.ra.2).e ?_
 exact rS
def bN (f:Int):Int :=
 if f=28 then 1 else if f=30 then 2 else if f=48 then 3 else if f=49 then 4 else if f=82 then 5 else if f=83 then 6 else if f=39 then 7 else if f=40 then 8 else if f=41 then 9 else if f=44 then 10 else 0
def da (x:XS):XS :=
 if bN x.i.form=1 then dn x x.i.rd (im x.i.rd (IntKind.u32.wrap (aw x x.i.rd+aw x x.i.rm))) else if bN x.i.form=2 then dn x x.i.rd (im x.i.rd (aw x x.i.rm)) else if bN x.i.form=3 then dn x x.i.rd (IntKind.u32.wrap x.i.au) else if bN x.i.form=4 then dn x x.i.rd (bits .or .u32 (bits .and .u32 (aw x x.i.rd) 65535) (IntKind.u32.wrap (IntKind.u32.wrap x.i.au*Ev.aQ .u32 16))) else if bN x.i.form=5 then dn x x.i.rd (IntKind.u32.wrap (aw x x.i.rn+IntKind.u32.wrap x.i.au)) else if bN x.i.form=6 then dn x x.i.rd (IntKind.u32.wrap (aw x x.i.rn - IntKind.u32.wrap x.i.au)) else if bN x.i.form=7 then dn x x.i.rd (IntKind.u32.wrap (aw x 13+IntKind.u32.wrap x.i.au)) else if bN x.i.form=8 then dn x 13 (IntKind.u32.wrap (aw x 13+IntKind.u32.wrap x.i.au)) else if bN x.i.form=9 then dn x 13 (IntKind.u32.wrap (aw x 13 - IntKind.u32.wrap x.i.au)) else if bN x.i.form=10 then x else x
theorem Ll {x:XS} (h:bN x.i.form=1):da x=dn x x.i.rd (im x.i.rd (IntKind.u32.wrap (aw x x.i.rd+aw x x.i.rm))):=by unfold da; rw[if_pos h]
theorem Lm {x:XS} (h:bN x.i.form=2):da x=dn x x.i.rd (im x.i.rd (aw x x.i.rm)):=by unfold da; rw[if_neg (by omega),if_pos h]
theorem Ln {x:XS} (h:bN x.i.form=3):da x=dn x x.i.rd (IntKind.u32.wrap x.i.au):=by unfold da; rw[if_neg (by omega),if_neg (by omega),if_pos h]
theorem Lo {x:XS} (h:bN x.i.form=4):da x=dn x x.i.rd (bits .or .u32 (bits .and .u32 (aw x x.i.rd) 65535) (IntKind.u32.wrap (IntKind.u32.wrap x.i.au*Ev.aQ .u32 16))):=by unfold da; rw[if_neg (by omega),if_neg (by omega),if_neg (by omega),if_pos h]
theorem Lp {x:XS} (h:bN x.i.form=5):da x=dn x x.i.rd (IntKind.u32.wrap (aw x x.i.rn+IntKind.u32.wrap x.i.au)):=by unfold da; rw[if_neg (by omega),if_neg (by omega),if_neg (by omega),if_neg (by omega),if_pos h]
theorem Lq {x:XS} (h:bN x.i.form=6):da x=dn x x.i.rd (IntKind.u32.wrap (aw x x.i.rn - IntKind.u32.wrap x.i.au)):=by unfold da; rw[if_neg (by omega),if_neg (by omega),if_neg (by omega),if_neg (by omega),if_neg (by omega),if_pos h]
theorem Lr {x:XS} (h:bN x.i.form=7):da x=dn x x.i.rd (IntKind.u32.wrap (aw x 13+IntKind.u32.wrap x.i.au)):=by unfold da; rw[if_neg (by omega),if_neg (by omega),if_neg (by omega),if_neg (by omega),if_neg (by omega),if_neg (by omega),if_pos h]
theorem Ls {x:XS} (h:bN x.i.form=8):da x=dn x 13 (IntKind.u32.wrap (aw x 13+IntKind.u32.wrap x.i.au)):=by unfold da; rw[if_neg (by omega),if_neg (by omega),if_neg (by omega),if_neg (by omega),if_neg (by omega),if_neg (by omega),if_neg (by omega),if_pos h]
theorem Lt {x:XS} (h:bN x.i.form=9):da x=dn x 13 (IntKind.u32.wrap (aw x 13 - IntKind.u32.wrap x.i.au)):=by unfold da; rw[if_neg (by omega),if_neg (by omega),if_neg (by omega),if_neg (by omega),if_neg (by omega),if_neg (by omega),if_neg (by omega),if_neg (by omega),if_pos h]
theorem Gw {x:XS} (h:bN x.i.form=10):da x=x:=by unfold da; rw[if_neg (by omega),if_neg (by omega),if_neg (by omega),if_neg (by omega),if_neg (by omega),if_neg (by omega),if_neg (by omega),if_neg (by omega),if_neg (by omega),if_pos h]
theorem AS {x:XS} (h:bN x.i.form=0):da x=x:=by unfold da; rw[if_neg (by omega),if_neg (by omega),if_neg (by omega),if_neg (by omega),if_neg (by omega),if_neg (by omega),if_neg (by omega),if_neg (by omega),if_neg (by omega),if_neg (by omega)]
theorem Lu (m:MS) (x:XS) (hx:nn x):Spec gT 75 [.ptr 3 0] (iN m x) [] fun y S'=>y = .bool (bN x.i.form≠0)/\S'=iN m (da x):=by
 refine Spec.lJ (Spec.enter aA P75 100 Tryz.func75 rfl (by kernel_rfl) ?_)
 refine .inr ?_
 refine⟨fun h28=>?_,fun h28=>?_⟩
 ·have hc:bN x.i.form=1:=by rw[show x.i.form=28 from h28]; rfl
  rw[Ll hc]
  refine (bG m x x.i.rd hx.rd.1 hx.rd.2).e ?_
  refine (bG m x x.i.rm hx.rm.1 hx.rm.2).e ?_
  refine .inr ?_
  refine (uB x.i.rd (IntKind.u32.wrap (aw x x.i.rd+aw x x.i.rm))).u ?_
  refine (aT m x x.i.rd (im x.i.rd (IntKind.u32.wrap (aw x x.i.rd+aw x x.i.rm))) hx.rd.1 hx.rd.2).e ?_
  exact bq (show bN x.i.form≠0 by omega) (ak rfl)
 refine⟨fun h30=>?_,fun h30=>?_⟩
 ·have hc:bN x.i.form=2:=by rw[show x.i.form=30 from h30]; rfl
  rw[Lm hc]
  refine (bG m x x.i.rm hx.rm.1 hx.rm.2).e ?_
  refine (uB x.i.rd (aw x x.i.rm)).u ?_
  refine (aT m x x.i.rd (im x.i.rd (aw x x.i.rm)) hx.rd.1 hx.rd.2).e ?_
  exact bq (show bN x.i.form≠0 by omega) (ak rfl)
 refine⟨fun Bi=>?_,fun Bi=>?_⟩
 ·have hc:bN x.i.form=3:=by rw[show x.i.form=48 from Bi]; rfl
  rw[Ln hc]
  refine (aT m x x.i.rd (IntKind.u32.wrap x.i.au) hx.rd.1 hx.rd.2).e ?_
  exact bq (show bN x.i.form≠0 by omega) (ak rfl)
 refine⟨fun h49=>?_,fun h49=>?_⟩
 ·have hc:bN x.i.form=4:=by rw[show x.i.form=49 from h49]; rfl
  rw[Lo hc]
  refine⟨by decide,.inr ?_⟩
  refine (bG m x x.i.rd hx.rd.1 hx.rd.2).e ?_
  refine (aT m x x.i.rd (bits .or .u32 (bits .and .u32 (aw x x.i.rd) 65535) (IntKind.u32.wrap (IntKind.u32.wrap x.i.au*Ev.aQ .u32 16))) hx.rd.1 hx.rd.2).e ?_
  exact bq (show bN x.i.form≠0 by omega) (ak rfl)
 refine⟨fun h82=>?_,fun h82=>?_⟩
 ·have hc:bN x.i.form=5:=by rw[show x.i.form=82 from h82]; rfl
  rw[Lp hc]
  refine (bG m x x.i.rn hx.rn.1 hx.rn.2).e ?_
  refine .inr ?_
  refine (aT m x x.i.rd (IntKind.u32.wrap (aw x x.i.rn+IntKind.u32.wrap x.i.au)) hx.rd.1 hx.rd.2).e ?_
  exact bq (show bN x.i.form≠0 by omega) (ak rfl)
 refine⟨fun h83=>?_,fun h83=>?_⟩
 ·have hc:bN x.i.form=6:=by rw[show x.i.form=83 from h83]; rfl
  rw[Lq hc]
  refine (bG m x x.i.rn hx.rn.1 hx.rn.2).e ?_
  refine .inr ?_
  refine (aT m x x.i.rd (IntKind.u32.wrap (aw x x.i.rn - IntKind.u32.wrap x.i.au)) hx.rd.1 hx.rd.2).e ?_
  exact bq (show bN x.i.form≠0 by omega) (ak rfl)
 refine⟨fun h39=>?_,fun h39=>?_⟩
 ·have hc:bN x.i.form=7:=by rw[show x.i.form=39 from h39]; rfl
  rw[Lr hc]
  refine (bG m x 13 (by decide) (by decide)).e ?_
  refine .inr ?_
  refine (aT m x x.i.rd (IntKind.u32.wrap (aw x 13+IntKind.u32.wrap x.i.au)) hx.rd.1 hx.rd.2).e ?_
  exact bq (show bN x.i.form≠0 by omega) (ak rfl)
 refine⟨fun h40=>?_,fun h40=>?_⟩
 ·have hc:bN x.i.form=8:=by rw[show x.i.form=40 from h40]; rfl
  rw[Ls hc]
  refine (bG m x 13 (by decide) (by decide)).e ?_
  refine .inr ?_
  refine (aT m x 13 (IntKind.u32.wrap (aw x 13+IntKind.u32.wrap x.i.au)) (by decide) (by decide)).e ?_
  exact bq (show bN x.i.form≠0 by omega) (ak rfl)
 refine⟨fun h41=>?_,fun h41=>?_⟩
 ·have hc:bN x.i.form=9:=by rw[show x.i.form=41 from h41]; rfl
  rw[Lt hc]
  refine (bG m x 13 (by decide) (by decide)).e ?_
  refine .inr ?_
  refine (aT m x 13 (IntKind.u32.wrap (aw x 13 - IntKind.u32.wrap x.i.au)) (by decide) (by decide)).e ?_
  exact bq (show bN x.i.form≠0 by omega) (ak rfl)
 refine⟨fun h44=>?_,fun h44=>?_⟩
 ·have hc:bN x.i.form=10:=by rw[show x.i.form=44 from h44]; rfl
  rw[Gw hc]
  exact bq (show bN x.i.form≠0 by omega) (ak rfl)
 ·have hc:bN x.i.form=0:=by unfold bN; rw[if_neg (by omega),if_neg (by omega),if_neg (by omega),if_neg (by omega),if_neg (by omega),if_neg (by omega),if_neg (by omega),if_neg (by omega),if_neg (by omega),if_neg (by omega)]
  rw[AS hc]
  exact bq (show ¬ bN x.i.form≠0 from fun h=>h hc) (ak rfl)
theorem Lv (x:XS):bQ (aw x x.i.rn*aw x x.i.rm % 4294967296):=by unfold bQ; omega
theorem Rd {x:XS} (h:nn x):bQ (aw x x.i.rn*aw x x.i.rm / 4294967296):=by
 have a:=bM h x.i.rn
 have b:=bM h x.i.rm
 unfold bQ at a b ⊢
 have h1:0<=aw x x.i.rn*aw x x.i.rm:=Int.mul_nonneg a.1 b.1
 have h2:aw x x.i.rn*aw x x.i.rm<=4294967295*4294967295:=Int.mul_le_mul a.2 b.2 b.1 (by decide)
 omega
def bK (f:Int):Int :=
 if f=25 then 1 else if f=92 then 2 else if f=93 then 3 else if f=94 then 4 else if f=95 then 5 else if f=96 then 6 else if f=97 then 7 else if f=98 then 8 else 0
def fB (x:XS):XS :=
 if bK x.i.form=1 then dn (vd x (IntKind.u32.wrap (aw x x.i.rd*aw x x.i.rm))) x.i.rd (IntKind.u32.wrap (aw x x.i.rd*aw x x.i.rm)) else if bK x.i.form=2 then dn x x.i.rd (aw x x.i.rn*aw x x.i.rm % 4294967296) else if bK x.i.form=3 then dn x x.i.rd (IntKind.u32.wrap ((aw x x.i.rn*aw x x.i.rm % 4294967296)+aw x x.i.ra)) else if bK x.i.form=4 then dn x x.i.rd (IntKind.u32.wrap (aw x x.i.ra - (aw x x.i.rn*aw x x.i.rm % 4294967296))) else if bK x.i.form=5 then wA x (aw x x.i.rn*aw x x.i.rm % 4294967296) (aw x x.i.rn*aw x x.i.rm / 4294967296) else if bK x.i.form=6 then wA x (Rm.ik (aw x x.i.rn*aw x x.i.rm % 4294967296) (aw x x.i.rd) 0) (Rm.ik (aw x x.i.rn*aw x x.i.rm / 4294967296) (aw x x.i.ra) (Rm.nk (aw x x.i.rn*aw x x.i.rm % 4294967296) (aw x x.i.rd) 0)) else if bK x.i.form=7 then dn { x with a:=aw x x.i.rn,b:=aw x x.i.rm } x.i.rd (IntKind.u32.wrap (aw x x.i.rn / max (aw x x.i.rm) 1*min (aw x x.i.rm) 1)) else if bK x.i.form=8 then dn x x.i.rd (IntKind.u32.wrap (32 - (Lib.bitLen (aw x x.i.rm).toNat:Int))) else x
theorem Pt {x:XS} (h:bK x.i.form=1):fB x=dn (vd x (IntKind.u32.wrap (aw x x.i.rd*aw x x.i.rm))) x.i.rd (IntKind.u32.wrap (aw x x.i.rd*aw x x.i.rm)):=by unfold fB; rw[if_pos h]
theorem Pu {x:XS} (h:bK x.i.form=2):fB x=dn x x.i.rd (aw x x.i.rn*aw x x.i.rm % 4294967296):=by unfold fB; rw[if_neg (by omega),if_pos h]
theorem Pv {x:XS} (h:bK x.i.form=3):fB x=dn x x.i.rd (IntKind.u32.wrap ((aw x x.i.rn*aw x x.i.rm % 4294967296)+aw x x.i.ra)):=by unfold fB; rw[if_neg (by omega),if_neg (by omega),if_pos h]
theorem Px {x:XS} (h:bK x.i.form=4):fB x=dn x x.i.rd (IntKind.u32.wrap (aw x x.i.ra - (aw x x.i.rn*aw x x.i.rm % 4294967296))):=by unfold fB; rw[if_neg (by omega),if_neg (by omega),if_neg (by omega),if_pos h]
theorem Py {x:XS} (h:bK x.i.form=5):fB x=wA x (aw x x.i.rn*aw x x.i.rm % 4294967296) (aw x x.i.rn*aw x x.i.rm / 4294967296):=by unfold fB; rw[if_neg (by omega),if_neg (by omega),if_neg (by omega),if_neg (by omega),if_pos h]
theorem Pz {x:XS} (h:bK x.i.form=6):fB x=wA x (Rm.ik (aw x x.i.rn*aw x x.i.rm % 4294967296) (aw x x.i.rd) 0) (Rm.ik (aw x x.i.rn*aw x x.i.rm / 4294967296) (aw x x.i.ra) (Rm.nk (aw x x.i.rn*aw x x.i.rm % 4294967296) (aw x x.i.rd) 0)):=by unfold fB; rw[if_neg (by omega),if_neg (by omega),if_neg (by omega),if_neg (by omega),if_neg (by omega),if_pos h]
theorem PA {x:XS} (h:bK x.i.form=7):fB x=dn { x with a:=aw x x.i.rn,b:=aw x x.i.rm } x.i.rd (IntKind.u32.wrap (aw x x.i.rn / max (aw x x.i.rm) 1*min (aw x x.i.rm) 1)):=by unfold fB; rw[if_neg (by omega),if_neg (by omega),if_neg (by omega),if_neg (by omega),if_neg (by omega),if_neg (by omega),if_pos h]
theorem PB {x:XS} (h:bK x.i.form=8):fB x=dn x x.i.rd (IntKind.u32.wrap (32 - (Lib.bitLen (aw x x.i.rm).toNat:Int))):=by unfold fB; rw[if_neg (by omega),if_neg (by omega),if_neg (by omega),if_neg (by omega),if_neg (by omega),if_neg (by omega),if_neg (by omega),if_pos h]
theorem Ey {x:XS} (h:bK x.i.form=0):fB x=x:=by unfold fB; rw[if_neg (by omega),if_neg (by omega),if_neg (by omega),if_neg (by omega),if_neg (by omega),if_neg (by omega),if_neg (by omega),if_neg (by omega)]
theorem AU (m:MS) (x:XS) (hx:nn x):Spec gT 74 [.ptr 3 0] (iN m x) [] fun y S'=>y = .bool (bK x.i.form≠0)/\S'=iN m (fB x):=by
 refine Spec.lJ (Spec.enter aA P74 100 Tryz.func74 rfl (by kernel_rfl) ?_)
 have NW:=Lv x
 have QY:=Rd hx
 refine (bG m x x.i.rn hx.rn.1 hx.rn.2).e ?_
 refine (bG m x x.i.rm hx.rm.1 hx.rm.2).e ?_
 refine (Gr (aw x x.i.rn) (aw x x.i.rm) (bM hx _) (bM hx _)).u ?_
 refine⟨fun h25=>?_,fun h25=>?_⟩
 ·have hc:bK x.i.form=1:=by rw[show x.i.form=25 from h25]; rfl
  rw[Pt hc]
  refine (bG m x x.i.rd hx.rd.1 hx.rd.2).e ?_
  refine .inr ?_
  refine (Lg m x (IntKind.u32.wrap (aw x x.i.rd*aw x x.i.rm))).e ?_
  refine (aT m (vd x (IntKind.u32.wrap (aw x x.i.rd*aw x x.i.rm))) x.i.rd (IntKind.u32.wrap (aw x x.i.rd*aw x x.i.rm)) hx.rd.1 hx.rd.2).e ?_
  exact bq (show bK x.i.form≠0 by omega) (ak rfl)
 refine⟨fun h92=>?_,fun h92=>?_⟩
 ·have hc:bK x.i.form=2:=by rw[show x.i.form=92 from h92]; rfl
  rw[Pu hc]
  refine (aT m x x.i.rd (aw x x.i.rn*aw x x.i.rm % 4294967296) hx.rd.1 hx.rd.2).e ?_
  exact bq (show bK x.i.form≠0 by omega) (ak rfl)
 refine⟨fun h93=>?_,fun h93=>?_⟩
 ·have hc:bK x.i.form=3:=by rw[show x.i.form=93 from h93]; rfl
  rw[Pv hc]
  refine (bG m x x.i.ra hx.ra.1 hx.ra.2).e ?_
  refine .inr ?_
  refine (aT m x x.i.rd (IntKind.u32.wrap ((aw x x.i.rn*aw x x.i.rm % 4294967296)+aw x x.i.ra)) hx.rd.1 hx.rd.2).e ?_
  exact bq (show bK x.i.form≠0 by omega) (ak rfl)
 refine⟨fun h94=>?_,fun h94=>?_⟩
 ·have hc:bK x.i.form=4:=by rw[show x.i.form=94 from h94]; rfl
  rw[Px hc]
  refine (bG m x x.i.ra hx.ra.1 hx.ra.2).e ?_
  refine .inr ?_
  refine (aT m x x.i.rd (IntKind.u32.wrap (aw x x.i.ra - (aw x x.i.rn*aw x x.i.rm % 4294967296))) hx.rd.1 hx.rd.2).e ?_
  exact bq (show bK x.i.form≠0 by omega) (ak rfl)
 refine⟨fun h95=>?_,fun h95=>?_⟩
 ·have hc:bK x.i.form=5:=by rw[show x.i.form=95 from h95]; rfl
  rw[Py hc]
  refine (Ex m x (aw x x.i.rn*aw x x.i.rm % 4294967296) (aw x x.i.rn*aw x x.i.rm / 4294967296) hx).e ?_
  exact bq (show bK x.i.form≠0 by omega) (ak rfl)
 refine⟨fun h96=>?_,fun h96=>?_⟩
 ·have hc:bK x.i.form=6:=by rw[show x.i.form=96 from h96]; rfl
  rw[Pz hc]
  refine (bG m x x.i.rd hx.rd.1 hx.rd.2).e ?_
  refine (ux (aw x x.i.rn*aw x x.i.rm % 4294967296) (aw x x.i.rd) 0 NW (bM hx _) (by decide)).u ?_
  refine (bG m x x.i.ra hx.ra.1 hx.ra.2).e ?_
  refine (ux (aw x x.i.rn*aw x x.i.rm / 4294967296) (aw x x.i.ra) (Rm.nk (aw x x.i.rn*aw x x.i.rm % 4294967296) (aw x x.i.rd) 0) QY (bM hx _) (Rm.D4 (aw x x.i.rn*aw x x.i.rm % 4294967296) (aw x x.i.rd) 0 (by decide) NW.1 NW.2 (bM hx _).1 (bM hx _).2).1).u ?_
  refine (Ex m x (Rm.ik (aw x x.i.rn*aw x x.i.rm % 4294967296) (aw x x.i.rd) 0) (Rm.ik (aw x x.i.rn*aw x x.i.rm / 4294967296) (aw x x.i.ra) (Rm.nk (aw x x.i.rn*aw x x.i.rm % 4294967296) (aw x x.i.rd) 0)) hx).e ?_
  exact bq (show bK x.i.form≠0 by omega) (ak rfl)
 refine⟨fun h97=>?_,fun h97=>?_⟩
 ·have hc:bK x.i.form=7:=by rw[show x.i.form=97 from h97]; rfl
  rw[PA hc]
  refine⟨show max (aw x x.i.rm) 1≠0 by omega,.inl ⟨(bM hx x.i.rn).1,show aw x x.i.rn<=4294967295 from (bM hx x.i.rn).2,show (0:Int) < max (aw x x.i.rm) 1 by omega,?_⟩⟩
  refine .inr ?_
  refine (aT m { x with a:=aw x x.i.rn,b:=aw x x.i.rm } x.i.rd (IntKind.u32.wrap (aw x x.i.rn / max (aw x x.i.rm) 1*min (aw x x.i.rm) 1)) hx.rd.1 hx.rd.2).e ?_
  exact bq (show bK x.i.form≠0 by omega) (ak rfl)
 refine⟨fun h98=>?_,fun h98=>?_⟩
 ·have hc:bK x.i.form=8:=by rw[show x.i.form=98 from h98]; rfl
  rw[PB hc]
  refine (Pc (aw x x.i.rm) (bM hx _)).u ?_
  refine .inr ?_
  refine (aT m x x.i.rd (IntKind.u32.wrap (32 - (Lib.bitLen (aw x x.i.rm).toNat:Int))) hx.rd.1 hx.rd.2).e ?_
  exact bq (show bK x.i.form≠0 by omega) (ak rfl)
 ·have hc:bK x.i.form=0:=by unfold bK; rw[if_neg (by omega),if_neg (by omega),if_neg (by omega),if_neg (by omega),if_neg (by omega),if_neg (by omega),if_neg (by omega),if_neg (by omega)]
  rw[Ey hc]
  exact bq (show ¬ bK x.i.form≠0 from fun h=>h hc) (ak rfl)
def bW (f:Int):Int :=
 if f=32 then 1 else if f=34\/f=33 then 2 else if f=36\/f=35\/f=85\/f=84 then 3 else if f=38\/f=37 then 4 else if f=87\/f=86 then 5 else 0
def jM (x:XS):Int :=
 if bW x.i.form=1 then (IntKind.u32.wrap (bits .andNot .u32 (aw x 15) 3+(IntKind.u32.wrap x.i.au))) else if bW x.i.form=2 then (IntKind.u32.wrap (aw x x.i.rn+aw x x.i.rm)) else if bW x.i.form=3 then (IntKind.u32.wrap (aw x x.i.rn+(IntKind.u32.wrap x.i.au))) else if bW x.i.form=4 then (IntKind.u32.wrap (aw x 13+(IntKind.u32.wrap x.i.au))) else if bW x.i.form=5 then (IntKind.u32.wrap (aw x x.i.rn+IntKind.u32.wrap (aw x x.i.rm*Ev.aQ .u32 x.i.bE))) else 0
theorem XQ {x:XS} (h:bW x.i.form=1):jM x=(IntKind.u32.wrap (bits .andNot .u32 (aw x 15) 3+(IntKind.u32.wrap x.i.au))):=by unfold jM; rw[if_pos h]
theorem Lw {x:XS} (h:bW x.i.form=2):jM x=(IntKind.u32.wrap (aw x x.i.rn+aw x x.i.rm)):=by unfold jM; rw[if_neg (by omega),if_pos h]
theorem yy {x:XS} (h:bW x.i.form=3):jM x=(IntKind.u32.wrap (aw x x.i.rn+(IntKind.u32.wrap x.i.au))):=by unfold jM; rw[if_neg (by omega),if_neg (by omega),if_pos h]
theorem Lx {x:XS} (h:bW x.i.form=4):jM x=(IntKind.u32.wrap (aw x 13+(IntKind.u32.wrap x.i.au))):=by unfold jM; rw[if_neg (by omega),if_neg (by omega),if_neg (by omega),if_pos h]
theorem Ly {x:XS} (h:bW x.i.form=5):jM x=(IntKind.u32.wrap (aw x x.i.rn+IntKind.u32.wrap (aw x x.i.rm*Ev.aQ .u32 x.i.bE))):=by unfold jM; rw[if_neg (by omega),if_neg (by omega),if_neg (by omega),if_neg (by omega),if_pos h]
theorem XR {x:XS} (h:bW x.i.form=0):jM x=0:=by unfold jM; rw[if_neg (by omega),if_neg (by omega),if_neg (by omega),if_neg (by omega),if_neg (by omega)]
theorem CJ (m:MS) (x:XS) (hx:nn x):Spec gT 67 [.ptr 3 0] (iN m x) [] fun y S'=>y = .tup [.int .u32 (jM x),.bool (bW x.i.form≠0)]/\S'=iN m x:=by
 refine Spec.lJ (Spec.enter aA P67 100 Tryz.func67 rfl (by kernel_rfl) ?_)
 refine .inr ?_
 refine⟨fun Oe=>?_,fun Oe=>?_⟩
 ·have hc:bW x.i.form=1:=by rw[show x.i.form=32 from Oe]; rfl
  rw[XQ hc]
  refine (bG m x 15 (by decide) (by decide)).e ?_
  refine .inr ?_
  exact bq (And.intro rfl (And.intro (show bW x.i.form≠0 by omega) trivial)) (ak rfl)
 refine⟨fun h34=>?_,fun h34=>?_⟩
 ·have hc:bW x.i.form=2:=by rw[show x.i.form=34 from h34]; rfl
  rw[Lw hc]
  refine (bG m x x.i.rn hx.rn.1 hx.rn.2).e ?_
  refine (bG m x x.i.rm hx.rm.1 hx.rm.2).e ?_
  refine .inr ?_
  exact bq (And.intro rfl (And.intro (show bW x.i.form≠0 by omega) trivial)) (ak rfl)
 refine⟨fun h33=>?_,fun h33=>?_⟩
 ·have hc:bW x.i.form=2:=by rw[show x.i.form=33 from h33]; rfl
  rw[Lw hc]
  refine (bG m x x.i.rn hx.rn.1 hx.rn.2).e ?_
  refine (bG m x x.i.rm hx.rm.1 hx.rm.2).e ?_
  refine .inr ?_
  exact bq (And.intro rfl (And.intro (show bW x.i.form≠0 by omega) trivial)) (ak rfl)
 refine⟨fun h36=>?_,fun h36=>?_⟩
 ·have hc:bW x.i.form=3:=by rw[show x.i.form=36 from h36]; rfl
  rw[yy hc]
  refine (bG m x x.i.rn hx.rn.1 hx.rn.2).e ?_
  refine .inr ?_
  exact bq (And.intro rfl (And.intro (show bW x.i.form≠0 by omega) trivial)) (ak rfl)
 refine⟨fun h35=>?_,fun h35=>?_⟩
 ·have hc:bW x.i.form=3:=by rw[show x.i.form=35 from h35]; rfl
  rw[yy hc]
  refine (bG m x x.i.rn hx.rn.1 hx.rn.2).e ?_
  refine .inr ?_
  exact bq (And.intro rfl (And.intro (show bW x.i.form≠0 by omega) trivial)) (ak rfl)
 refine⟨fun h85=>?_,fun h85=>?_⟩
 ·have hc:bW x.i.form=3:=by rw[show x.i.form=85 from h85]; rfl
  rw[yy hc]
  refine (bG m x x.i.rn hx.rn.1 hx.rn.2).e ?_
  refine .inr ?_
  exact bq (And.intro rfl (And.intro (show bW x.i.form≠0 by omega) trivial)) (ak rfl)
 refine⟨fun h84=>?_,fun h84=>?_⟩
 ·have hc:bW x.i.form=3:=by rw[show x.i.form=84 from h84]; rfl
  rw[yy hc]
  refine (bG m x x.i.rn hx.rn.1 hx.rn.2).e ?_
  refine .inr ?_
  exact bq (And.intro rfl (And.intro (show bW x.i.form≠0 by omega) trivial)) (ak rfl)
 refine⟨fun h38=>?_,fun h38=>?_⟩
 ·have hc:bW x.i.form=4:=by rw[show x.i.form=38 from h38]; rfl
  rw[Lx hc]
  refine (bG m x 13 (by decide) (by decide)).e ?_
  refine .inr ?_
  exact bq (And.intro rfl (And.intro (show bW x.i.form≠0 by omega) trivial)) (ak rfl)
 refine⟨fun h37=>?_,fun h37=>?_⟩
 ·have hc:bW x.i.form=4:=by rw[show x.i.form=37 from h37]; rfl
  rw[Lx hc]
  refine (bG m x 13 (by decide) (by decide)).e ?_
  refine .inr ?_
  exact bq (And.intro rfl (And.intro (show bW x.i.form≠0 by omega) trivial)) (ak rfl)
 refine⟨fun h87=>?_,fun h87=>?_⟩
 ·have hc:bW x.i.form=5:=by rw[show x.i.form=87 from h87]; rfl
  rw[Ly hc]
  refine (bG m x x.i.rn hx.rn.1 hx.rn.2).e ?_
  refine (bG m x x.i.rm hx.rm.1 hx.rm.2).e ?_
  refine⟨(hx.idx (by omega)).1,.inr ?_⟩
  refine .inr ?_
  exact bq (And.intro rfl (And.intro (show bW x.i.form≠0 by omega) trivial)) (ak rfl)
 refine⟨fun h86=>?_,fun h86=>?_⟩
 ·have hc:bW x.i.form=5:=by rw[show x.i.form=86 from h86]; rfl
  rw[Ly hc]
  refine (bG m x x.i.rn hx.rn.1 hx.rn.2).e ?_
  refine (bG m x x.i.rm hx.rm.1 hx.rm.2).e ?_
  refine⟨(hx.idx (by omega)).1,.inr ?_⟩
  refine .inr ?_
  exact bq (And.intro rfl (And.intro (show bW x.i.form≠0 by omega) trivial)) (ak rfl)
 ·have hc:bW x.i.form=0:=by unfold bW; rw[if_neg (by omega),if_neg (by omega),if_neg (by omega),if_neg (by omega),if_neg (by omega)]
  rw[XR hc]
  exact bq (And.intro rfl (And.intro (show ¬ bW x.i.form≠0 from fun h=>h hc) trivial)) (ak rfl)
def lz (x:XS):XS:={ x with taken:=aY x.s x.i.cond }
def db (f:Int):Int :=
 if f=46\/f=99 then 1 else if f=47\/f=100 then 2 else if f=31 then 3 else if f=45 then 4 else 0
def gg (x:XS):XS :=
 if db x.i.form=1 then (if aY x.s x.i.cond then dn (lz x) 15 (IntKind.u32.wrap (aw x 15+(IntKind.u32.wrap x.i.au))) else lz x) else if db x.i.form=2 then dn x 15 (IntKind.u32.wrap (aw x 15+(IntKind.u32.wrap x.i.au))) else if db x.i.form=3 then kG x (aw x x.i.rm) else if db x.i.form=4 then { x with kind:=2,code:=x.i.au } else x
theorem AW {x:XS} (h:db x.i.form=1):gg x=(if aY x.s x.i.cond then dn (lz x) 15 (IntKind.u32.wrap (aw x 15+(IntKind.u32.wrap x.i.au))) else lz x):=by unfold gg; rw[if_pos h]
theorem AX {x:XS} (h:db x.i.form=2):gg x=dn x 15 (IntKind.u32.wrap (aw x 15+(IntKind.u32.wrap x.i.au))):=by unfold gg; rw[if_neg (by omega),if_pos h]
theorem Lz {x:XS} (h:db x.i.form=3):gg x=kG x (aw x x.i.rm):=by unfold gg; rw[if_neg (by omega),if_neg (by omega),if_pos h]
theorem LA {x:XS} (h:db x.i.form=4):gg x = { x with kind:=2,code:=x.i.au }:=by unfold gg; rw[if_neg (by omega),if_neg (by omega),if_neg (by omega),if_pos h]
theorem LB {x:XS} (h:db x.i.form=0):gg x=x:=by unfold gg; rw[if_neg (by omega),if_neg (by omega),if_neg (by omega),if_neg (by omega)]
theorem LC (m:MS) (x:XS) (hx:nn x):Spec gT 76 [.ptr 3 0] (iN m x) [] fun y S'=>y = .bool (db x.i.form≠0)/\S'=iN m (gg x):=by
 refine Spec.lJ (Spec.enter aA P76 100 Tryz.func76 rfl (by kernel_rfl) ?_)
 refine⟨fun h46=>?_,fun h46=>?_⟩
 ·have hc:db x.i.form=1:=by rw[show x.i.form=46 from h46]; rfl
  rw[AW hc]
  refine (uA x.s x.i.cond).u ?_
  refine⟨fun hn=>?_,fun hp=>?_⟩
  ·rw[if_neg (show ¬ aY x.s x.i.cond from hn)]
   exact bq (show db x.i.form≠0 by omega) (by first|exact ak rfl|(repeat' first|exact trivial|exact rfl|exact Iff.rfl|exact not_false|refine And.intro ?_ ?_))
  rw[if_pos (Classical.not_not.1 (show ¬ ¬ aY x.s x.i.cond from hp))]
  refine .inr ?_
  refine (bG m (lz x) 15 (by decide) (by decide)).e ?_
  refine .inr ?_
  refine (aT m (lz x) 15 (IntKind.u32.wrap (aw x 15+(IntKind.u32.wrap x.i.au))) (by decide) (by decide)).e ?_
  exact bq (show db x.i.form≠0 by omega) (by first|exact ak rfl|(repeat' first|exact trivial|exact rfl|exact Iff.rfl|exact not_false|refine And.intro ?_ ?_))
 refine⟨fun h99=>?_,fun h99=>?_⟩
 ·have hc:db x.i.form=1:=by rw[show x.i.form=99 from h99]; rfl
  rw[AW hc]
  refine (uA x.s x.i.cond).u ?_
  refine⟨fun hn=>?_,fun hp=>?_⟩
  ·rw[if_neg (show ¬ aY x.s x.i.cond from hn)]
   exact bq (show db x.i.form≠0 by omega) (by first|exact ak rfl|(repeat' first|exact trivial|exact rfl|exact Iff.rfl|exact not_false|refine And.intro ?_ ?_))
  rw[if_pos (Classical.not_not.1 (show ¬ ¬ aY x.s x.i.cond from hp))]
  refine .inr ?_
  refine (bG m (lz x) 15 (by decide) (by decide)).e ?_
  refine .inr ?_
  refine (aT m (lz x) 15 (IntKind.u32.wrap (aw x 15+(IntKind.u32.wrap x.i.au))) (by decide) (by decide)).e ?_
  exact bq (show db x.i.form≠0 by omega) (by first|exact ak rfl|(repeat' first|exact trivial|exact rfl|exact Iff.rfl|exact not_false|refine And.intro ?_ ?_))
 refine⟨fun h47=>?_,fun h47=>?_⟩
 ·have hc:db x.i.form=2:=by rw[show x.i.form=47 from h47]; rfl
  rw[AX hc]
  refine .inr ?_
  refine (bG m x 15 (by decide) (by decide)).e ?_
  refine .inr ?_
  refine (aT m x 15 (IntKind.u32.wrap (aw x 15+(IntKind.u32.wrap x.i.au))) (by decide) (by decide)).e ?_
  exact bq (show db x.i.form≠0 by omega) (by first|exact ak rfl|(repeat' first|exact trivial|exact rfl|exact Iff.rfl|exact not_false|refine And.intro ?_ ?_))
 refine⟨fun LD=>?_,fun LD=>?_⟩
 ·have hc:db x.i.form=2:=by rw[show x.i.form=100 from LD]; rfl
  rw[AX hc]
  refine .inr ?_
  refine (bG m x 15 (by decide) (by decide)).e ?_
  refine .inr ?_
  refine (aT m x 15 (IntKind.u32.wrap (aw x 15+(IntKind.u32.wrap x.i.au))) (by decide) (by decide)).e ?_
  exact bq (show db x.i.form≠0 by omega) (by first|exact ak rfl|(repeat' first|exact trivial|exact rfl|exact Iff.rfl|exact not_false|refine And.intro ?_ ?_))
 refine⟨fun h31=>?_,fun h31=>?_⟩
 ·have hc:db x.i.form=3:=by rw[show x.i.form=31 from h31]; rfl
  rw[Lz hc]
  refine (bG m x x.i.rm hx.rm.1 hx.rm.2).e ?_
  refine (Ew m x (aw x x.i.rm)).e ?_
  exact bq (show db x.i.form≠0 by omega) (by first|exact ak rfl|(repeat' first|exact trivial|exact rfl|exact Iff.rfl|exact not_false|refine And.intro ?_ ?_))
 refine⟨fun h45=>?_,fun h45=>?_⟩
 ·have hc:db x.i.form=4:=by rw[show x.i.form=45 from h45]; rfl
  rw[LA hc]
  exact bq (show db x.i.form≠0 by omega) (by first|exact ak rfl|(repeat' first|exact trivial|exact rfl|exact Iff.rfl|exact not_false|refine And.intro ?_ ?_))
 ·have hc:db x.i.form=0:=by unfold db; rw[if_neg (by omega),if_neg (by omega),if_neg (by omega),if_neg (by omega)]
  rw[LB hc]
  exact bq (show ¬ db x.i.form≠0 from fun h=>h hc) (by first|exact ak rfl|(repeat' first|exact trivial|exact rfl|exact Iff.rfl|exact not_false|refine And.intro ?_ ?_))
def pU (w:Nat->Int) (k:Nat):PV:=.int .u8 (lL (w (k / 4)) (k % 4))
theorem Ez (w:Nat->Int):iV w=(List.range 65536).map (pU w):=rfl
theorem pV (w:Nat->Int):(iV w).length=65536:=by rw[Ez,List.length_map,List.length_range]
theorem AY (w:Nat->Int) (k:Nat):(iV w)[k]?=if k < 65536 then some (pU w k) else none:=by
 rw[Ez,List.getElem?_map]
 split
 ·rename_i h; rw[List.getElem?_range h]; rfl
 ·rename_i h; rw[List.getElem?_eq_none (by rw[List.length_range]; omega)]; rfl
def vf (w:Nat->Int) (j:Nat) (x:Int):Nat->Int:=fun m=>if m=j then x else w m
theorem LF (w:Nat->Int) (j:Nat) (x:Int) (hj:j < 16384) :
  ((((iV w).set (4*j) (.int .u8 (lL x 0))).set (4*j+1) (.int .u8 (lL x 1))).set (4*j+2) (.int .u8 (lL x 2))).set (4*j+3) (.int .u8 (lL x 3))=iV (vf w j x):=by
 refine List.ext_getElem? fun k=>?_
 simp only[List.getElem?_set,List.length_set,pV,AY]
 have e:∀ r:Nat,r < 4->pU (vf w j x) (4*j+r) = .int .u8 (lL x r):=fun r hr=>by
  unfold pU vf
  rw[if_pos (by omega),show (4*j+r) % 4=r by omega]
 by_cases h0:k=4*j
 ·subst h0; simp[show 4*j < 65536 by omega]; exact (e 0 (by omega)).symm
 by_cases h1:k=4*j+1
 ·subst h1; simp[show 4*j+1 < 65536 by omega]; exact (e 1 (by omega)).symm
 by_cases h2:k=4*j+2
 ·subst h2; simp[show 4*j+2 < 65536 by omega]; exact (e 2 (by omega)).symm
 by_cases h3:k=4*j+3
 ·subst h3; simp[show 4*j+3 < 65536 by omega]; exact (e 3 (by omega)).symm
 rw[if_neg (by omega),if_neg (by omega),if_neg (by omega),if_neg (by omega)]
 split
 ·have:pU (vf w j x) k=pU w k:=by unfold pU vf; rw[if_neg (by omega)]
  rw[this]
 ·rfl
theorem yz (x:Int) (k:Nat):0<=lL x k/\lL x k<=255:=by unfold lL; omega
theorem PD (x:Int) (h:bQ x):lL x 0+lL x 1*256+lL x 2*65536+lL x 3*16777216=x:=by
 unfold bQ at h
 show x / 1 % 256+x / 256 % 256*256+x / 65536 % 256*65536+x / 16777216 % 256*16777216=x
 omega
theorem AZ (a b c d:Int) (ha:0<=a/\a<=255) (hb:0<=b/\b<=255) (hc:0<=c/\c<=255) (hd:0<=d/\d<=255) :
  bits .or .u32 (bits .or .u32 (bits .or .u32 (bits .or .u32 0 a) (b*256)) (c*65536)) (d*16777216)=a+b*256+c*65536+d*16777216:=by
 have h0:=(il 0 a 0 (by decide) (by decide) (show 0<=a/\a*1<=_ by omega)).1
 have h1:=(il a b 8 (by decide) (show 0<=a/\a < 256 by omega) (show 0<=b/\b*256<=_ by omega)).1
 have h2:=(il (a+b*256) c 16 (by decide) (show 0<=_/\_ < (65536:Int) by omega) (show 0<=c/\c*65536<=_ by omega)).1
 have h3:=(il (a+b*256+c*65536) d 24 (by decide) (show 0<=_/\_ < (16777216:Int) by omega) (show 0<=d/\d*16777216<=_ by omega)).1
 replace h0:bits .or .u32 0 (a*1)=0+a*1:=h0
 replace h1:bits .or .u32 a (b*256)=a+b*256:=h1
 replace h2:bits .or .u32 (a+b*256) (c*65536)=a+b*256+c*65536:=h2
 replace h3:bits .or .u32 (a+b*256+c*65536) (d*16777216)=a+b*256+c*65536+d*16777216:=h3
 rw[Int.mul_one,Int.zero_add] at h0
 rw[h0,h1,h2,h3]
def gq (at_:Int):Prop:=536870912<=at_/\at_<=536936444
instance (a:Int):Decidable (gq a):=by unfold gq; infer_instance
def mC (fl:List Int) (at_ n:Int):Prop:=134217728<=at_/\at_ - 134217728+n<=fl.length
instance (fl:List Int) (a n:Int):Decidable (mC fl a n):=by unfold mC; infer_instance
def fM (at_:Int):Nat:=(at_ - 134217728).toNat
def vg (at_:Int):Nat:=(at_ - 536870912).toNat / 4
def vh (fl:List Int) (at_:Int):Int:=if at_ % 4≠0 then 60 else if gq at_ then 0 else if mC fl at_ 4 then 0 else 61
def wB (fl:List Int) (w:Nat->Int) (at_:Int):Int:=if at_ % 4≠0 then 0 else if gq at_ then w (vg at_) else if mC fl at_ 4 then hN fl (fM at_)+hN fl (fM at_+2)*65536 else 0
def rV (at_:Int):Int:=if at_ % 4≠0 then 60 else if 134217728<=at_/\at_ < 134283264 then 62 else if gq at_ then 0 else 61
def Bj (w:Nat->Int) (at_ x:Int):Nat->Int:=if rV at_=0 then vf w (vg at_) x else w
def qR (fl:List Int) (at_:Int):Int:=if at_ % 2≠0 then 60 else if mC fl at_ 2 then 0 else 61
def lM (fl:List Int) (at_:Int):Int:=if at_ % 2≠0 then 0 else if mC fl at_ 2 then hN fl (fM at_) else 0
def yR (w:Nat->Int) (fl:List Int):List aj:=[CI w,La fl]
theorem cut4 {l:List Int} {i:Nat} (h:i+4<=l.length):((lR l).drop i).take 4 = [.int .u8 (l.getD i 0),.int .u8 (l.getD (i+1) 0),.int .u8 (l.getD (i+2) 0),.int .u8 (l.getD (i+3) 0)]:=by
 refine List.ext_getElem? fun k=>?_
 have g:∀ j,j < l.length->l[j]?=some (l.getD j 0):=fun j hj=>by rw[List.getD_eq_getElem?_getD,List.getElem?_eq_getElem hj]; rfl
 rw[List.getElem?_take]
 split
 ·rw[List.getElem?_drop,lR,List.getElem?_map,g _ (by omega)]
  match k,‹k < 4› with
  | 0,_=>rfl
  | 1,_=>rfl
  | 2,_=>rfl
  | 3,_=>rfl
 ·rw[List.getElem?_eq_none]; simp; omega
theorem cut2 {l:List Int} {i:Nat} (h:i+2<=l.length):((lR l).drop i).take 2 = [.int .u8 (l.getD i 0),.int .u8 (l.getD (i+1) 0)]:=by
 refine List.ext_getElem? fun k=>?_
 have g:∀ j,j < l.length->l[j]?=some (l.getD j 0):=fun j hj=>by rw[List.getD_eq_getElem?_getD,List.getElem?_eq_getElem hj]; rfl
 rw[List.getElem?_take]
 split
 ·rw[List.getElem?_drop,lR,List.getElem?_map,g _ (by omega)]
  match k,‹k < 2› with
  | 0,_=>rfl
  | 1,_=>rfl
 ·rw[List.getElem?_eq_none]; simp; omega
theorem wC (fl:List Int) (at_:Int) (n:Nat) (hn:n=2\/n=4) (ha:bQ at_) (hl:fl.length<=65536) (h:mC fl at_ n) :
  al gT 112 [.sl 1 (lR fl),.int .u32 134217728,.int .u32 at_,.int .i64 n] (.sl 1 (((lR fl).drop (fM at_)).take n)):=by
 have el:(lR fl).length=fl.length:=List.length_map ..
 obtain⟨h1,h2⟩:=h
 unfold bQ at ha
 refine Spec.enter aA Ju 100 Tryz.func112 rfl (by kernel_rfl) ?_
 refine⟨fun h=>absurd (show at_ < 134217728 from h) (by omega),fun _=>?_⟩
 refine lu ?_ (show _<=at_ - 134217728/\at_ - 134217728<=_ by omega)
 refine li ?_ (show _<=at_ - 134217728/\at_ - 134217728<=_ by omega)
 refine fun hm=>?_
 refine li ?_ (show _<=(((lR fl).length:Nat):Int) - (n:Int)/\(((lR fl).length:Nat):Int) - (n:Int)<=_ by omega)
 refine⟨fun h=>absurd (show (((lR fl).length:Nat):Int) - (n:Int) < at_ - 134217728 from h) (by omega),fun _=>?_⟩
 refine lu ?_ (show _<=at_ - 134217728/\at_ - 134217728<=_ by omega)
 refine li ?_ (show _<=at_ - 134217728/\at_ - 134217728<=_ by omega)
 refine li ?_ (show _<=at_ - 134217728+(n:Int)/\at_ - 134217728+(n:Int)<=_ by omega)
 refine⟨show 0<=at_ - 134217728 by omega,show at_ - 134217728<=at_ - 134217728+(n:Int) by omega,show at_ - 134217728+(n:Int)<=(((lR fl).length:Nat):Int) by omega,?_⟩
 refine aF ?_
 show List.take (at_ - 134217728+(n:Int) - (at_ - 134217728)).toNat (List.drop (at_ - 134217728).toNat (lR fl))=_
 rw[show (at_ - 134217728+(n:Int) - (at_ - 134217728)).toNat=n by omega]; rfl
theorem wD (fl:List Int) (at_:Int) (n:Nat) (hn:n=2\/n=4) (ha:bQ at_) (hl:fl.length<=65536) (h:¬ mC fl at_ n) :
  al gT 112 [.sl 1 (lR fl),.int .u32 134217728,.int .u32 at_,.int .i64 n] .nil:=by
 have el:(lR fl).length=fl.length:=List.length_map ..
 unfold mC at h
 unfold bQ at ha
 refine Spec.enter aA Ju 100 Tryz.func112 rfl (by kernel_rfl) ?_
 refine⟨fun h=>?_,fun h0=>?_⟩
 ·exact aF trivial
 have h0':¬ at_ < 134217728:=h0
 refine lu ?_ (show _<=at_ - 134217728/\at_ - 134217728<=_ by omega)
 refine li ?_ (show _<=at_ - 134217728/\at_ - 134217728<=_ by omega)
 refine fun hm=>?_
 refine li ?_ (show _<=(((lR fl).length:Nat):Int) - (n:Int)/\(((lR fl).length:Nat):Int) - (n:Int)<=_ by omega)
 refine⟨fun h=>?_,fun h1=>absurd (show ¬ (((lR fl).length:Nat):Int) - (n:Int) < at_ - 134217728 from h1) (by omega)⟩
 exact aF trivial
theorem EA (w:Nat->Int) (fl:List Int) (at_:Int) (ha:bQ at_) (hb:K9 fl) (hl:fl.length<=65536):Spec gT 63 [.ptr 1 0,.int .u32 at_] (yR w fl) [] fun y S'=>y = .tup [.int .u32 (lM fl at_),.int .i64 (qR fl at_)]/\S'=yR w fl:=by
 refine Spec.lJ (Spec.enter aA P63 100 Tryz.func63 rfl (by kernel_rfl) ?_)
 refine And.intro (show (2:Int)≠0 by decide) (.inl ⟨ha.1,show (0:Int) < 2 by decide,?_⟩)
 refine⟨fun h=>?_,fun h=>?_⟩
 ·have h':at_ % 2≠0:=h
  have e1:lM fl at_=0:=by unfold lM; rw[if_pos h']
  have e2:qR fl at_=60:=by unfold qR; rw[if_pos h']
  rw[e1,e2]
  exact rS
 have h':¬ at_ % 2≠0:=h
 by_cases hf:mC fl at_ 2
 ·have e1:lM fl at_=hN fl (fM at_):=by unfold lM; rw[if_neg h',if_pos hf]
  have e2:qR fl at_=0:=by unfold qR; rw[if_neg h',if_pos hf]
  rw[e1,e2]
  have hw:=wC fl at_ 2 (.inl rfl) ha hl hf
  have Df:fM at_+2<=fl.length:=by obtain⟨q1,q2⟩:=hf; unfold fM; omega
  rw[cut2 Df] at hw
  have b0:=jY hb (fM at_)
  have b1:=jY hb (fM at_+1)
  unfold hN
  generalize fl.getD (fM at_) 0=p at hw b0 ⊢
  generalize fl.getD (fM at_+1) 0=q at hw b1 ⊢
  refine hw.u ?_
  refine .inl ⟨show 2≠0 by decide,?_⟩
  refine⟨Int,[p,q],PV.int .u8,rfl,show (0:Int)<=0 by decide,show (0:Int) < 2 by decide,fun x hx=>?_⟩
  obtain rfl:p=x:=Option.some.inj hx
  refine⟨Int,[p,q],PV.int .u8,rfl,show (0:Int)<=1 by decide,show (1:Int) < 2 by decide,fun x hx=>?_⟩
  obtain rfl:q=x:=Option.some.inj hx
  refine lu ?_ (show 0<=p/\p<=_ by omega)
  refine lu ?_ (show 0<=q/\q<=_ by omega)
  refine⟨by decide,.inl ⟨ah (show 0<=q*256/\q*256<=_ by omega),?_⟩⟩
  have e:bits .or .u32 p (q*256)=p+q*256:=(il p q 8 (by decide) (show 0<=p/\p < 256 by omega) (show 0<=q/\q*256<=_ by omega)).1
  exact bq (And.intro e (And.intro rfl trivial)) (ak rfl)
 ·have e1:lM fl at_=0:=by unfold lM; rw[if_neg h',if_neg hf]
  have e2:qR fl at_=61:=by unfold qR; rw[if_neg h',if_neg hf]
  rw[e1,e2]
  refine (wD fl at_ 2 (.inl rfl) ha hl hf).u ?_
  exact rS
theorem LG (l o n:Nat):ma (.ref l o n) (.ref l o n):=by
 show (if (Nat.beq l l && Nat.beq o o && Nat.beq n n)=true then True else False)
 rw[if_pos (by simp only[Nat.beq_refl,Bool.and_self])]; trivial
def CK (at_:Int):Nat:=(at_ - 536870912).toNat
theorem PE {at_:Int} (h:gq at_):at_=((CK at_:Nat):Int)+536870912/\CK at_<=65532:=by
 obtain⟨a,b⟩:=h
 unfold CK; omega
theorem j' (w:Nat->Int) (fl:List Int) (at_:Int) (ha:bQ at_) (h:¬ gq at_) (h4:at_ % 4=0):Spec gT 112 [.wref 0,.int .u32 536870912,.int .u32 at_,.int .i64 4] (yR w fl) [] fun y S'=>y = .nil/\S'=yR w fl:=by
 have el:=pV w
 unfold gq at h
 unfold bQ at ha
 refine Spec.lJ (Spec.enter aA Ju 100 Tryz.func112 rfl (by kernel_rfl) ?_)
 refine⟨fun h=>?_,fun h0=>?_⟩
 ·exact rS
 have h0':¬ at_ < 536870912:=h0
 refine lu ?_ (show _<=at_ - 536870912/\at_ - 536870912<=_ by omega)
 refine li ?_ (show _<=at_ - 536870912/\at_ - 536870912<=_ by omega)
 refine fun hm=>?_
 refine li ?_ (show _<=(((iV w).length:Nat):Int) - 4/\(((iV w).length:Nat):Int) - 4<=_ by rw[el]; decide)
 refine⟨fun h=>?_,fun h1=>absurd (show ¬ (((iV w).length:Nat):Int) - 4 < at_ - 536870912 from h1) (by rw[el]; omega)⟩
 exact rS
theorem mD (w:Nat->Int) (fl:List Int) (at_:Int) (ha:bQ at_) (h:gq at_):Spec gT 112 [.wref 0,.int .u32 536870912,.int .u32 at_,.int .i64 4] (yR w fl) [] fun y S'=>y = .ref 0 (CK at_) 4/\S'=yR w fl:=by
 have el:=pV w
 obtain⟨e,hle⟩:=PE h
 unfold bQ at ha
 generalize CK at_=o at e hle ⊢
 subst e
 refine Spec.lJ (Spec.enter aA Ju 100 Tryz.func112 rfl (by kernel_rfl) ?_)
 refine⟨fun h=>absurd (show (o:Int)+536870912 < 536870912 from h) (by omega),fun _=>?_⟩
 refine lu ?_ (show _<=(o:Int)+536870912 - 536870912/\(o:Int)+536870912 - 536870912<=_ by omega)
 refine li ?_ (show _<=(o:Int)+536870912 - 536870912/\(o:Int)+536870912 - 536870912<=_ by omega)
 refine fun hm=>?_
 refine li ?_ (show _<=(((iV w).length:Nat):Int) - 4/\(((iV w).length:Nat):Int) - 4<=_ by rw[el]; decide)
 refine⟨fun h1=>absurd (show (((iV w).length:Nat):Int) - 4 < (o:Int)+536870912 - 536870912 from h1) (by rw[el]; omega),fun _=>?_⟩
 refine lu ?_ (show _<=(o:Int)+536870912 - 536870912/\(o:Int)+536870912 - 536870912<=_ by omega)
 refine li ?_ (show _<=(o:Int)+536870912 - 536870912/\(o:Int)+536870912 - 536870912<=_ by omega)
 refine li ?_ (show _<=(o:Int)+536870912 - 536870912+4/\(o:Int)+536870912 - 536870912+4<=_ by omega)
 refine⟨o,o+4,show (o:Int)+536870912 - 536870912=(o:Int) by omega,show (o:Int)+536870912 - 536870912+4=((o+4:Nat):Int) by omega,by omega,show o+4<=(iV w).length by rw[el]; omega,show o < (iV w).length by rw[el]; omega,?_⟩
 exact bq (show ma (.ref 0 (o*1) (o+4 - o)) (.ref 0 o 4) by rw[Nat.mul_one,Nat.add_sub_cancel_left]; exact LG _ _ _) (ak rfl)
theorem ss (w:Nat->Int) (j r:Nat) (hr:r < 4):pU w (4*j+r) = .int .u8 (lL (w j) r):=by
 unfold pU; rw[show (4*j+r) / 4=j by omega,show (4*j+r) % 4=r by omega]
theorem LH (w:Nat->Int) (fl:List Int) (j:Nat) (hj:j < 16384) (hw:bQ (w j)):Spec gT 113 [.ref 0 (4*j) 4] (yR w fl) [] fun y S'=>y = .int .u32 (w j)/\S'=yR w fl:=by
 have el:(List.range 65536).length=65536:=List.length_range
 have hg:∀ r x:Nat,r < 4->(List.range 65536)[4*j+r]?=some x->x=4*j+r:=fun r x hr hx=>by
  rw[List.getElem?_range (by omega)] at hx; exact (Option.some.inj hx).symm
 have e0:=ss w j 0 (by decide)
 have e1:=ss w j 1 (by decide)
 have e2:=ss w j 2 (by decide)
 have e3:=ss w j 3 (by decide)
 have b0:=yz (w j) 0
 have b1:=yz (w j) 1
 have b2:=yz (w j) 2
 have b3:=yz (w j) 3
 have PF:=PD (w j) hw
 have d0:oo 0=1:=rfl
 have d1:oo 1=256:=rfl
 have d2:oo 2=65536:=rfl
 have d3:oo 3=16777216:=rfl
 refine Spec.lJ (Spec.enter aA Jw 100 Tryz.func113 rfl (by kernel_rfl) ?_)
 refine SW.rounds aA Jw (by kernel_rfl) (N:=60) 5 ?_
 refine⟨Nat,List.range 65536,pU w,rfl,show 4*j+0 < (List.range 65536).length by rw[el]; omega,fun x hx=>?_⟩
 obtain rfl:=hg 0 x (by decide) hx
 rw[e0]
 refine lu ?_ (show 0<=lL (w j) 0/\lL (w j) 0<=_ by omega)
 refine⟨by decide,.inl ⟨ah (show 0<=lL (w j) 0*oo 0/\lL (w j) 0*oo 0<=_ by rw[d0]; omega),?_⟩⟩
 refine⟨Nat,List.range 65536,pU w,rfl,show 4*j+1 < (List.range 65536).length by rw[el]; omega,fun x hx=>?_⟩
 obtain rfl:=hg 1 x (by decide) hx
 rw[e1]
 refine lu ?_ (show 0<=lL (w j) 1/\lL (w j) 1<=_ by omega)
 refine⟨by decide,.inl ⟨ah (show 0<=lL (w j) 1*oo 1/\lL (w j) 1*oo 1<=_ by rw[d1]; omega),?_⟩⟩
 refine⟨Nat,List.range 65536,pU w,rfl,show 4*j+2 < (List.range 65536).length by rw[el]; omega,fun x hx=>?_⟩
 obtain rfl:=hg 2 x (by decide) hx
 rw[e2]
 refine lu ?_ (show 0<=lL (w j) 2/\lL (w j) 2<=_ by omega)
 refine⟨by decide,.inl ⟨ah (show 0<=lL (w j) 2*oo 2/\lL (w j) 2*oo 2<=_ by rw[d2]; omega),?_⟩⟩
 refine⟨Nat,List.range 65536,pU w,rfl,show 4*j+3 < (List.range 65536).length by rw[el]; omega,fun x hx=>?_⟩
 obtain rfl:=hg 3 x (by decide) hx
 rw[e3]
 refine lu ?_ (show 0<=lL (w j) 3/\lL (w j) 3<=_ by omega)
 refine⟨by decide,.inl ⟨ah (show 0<=lL (w j) 3*oo 3/\lL (w j) 3*oo 3<=_ by rw[d3]; omega),?_⟩⟩
 exact bq (show bits .or .u32 (bits .or .u32 (bits .or .u32 (bits .or .u32 0 (lL (w j) 0*1)) (lL (w j) 1*256)) (lL (w j) 2*65536)) (lL (w j) 3*16777216)=w j by rw[Int.mul_one,AZ _ _ _ _ b0 b1 b2 b3,PF]) (ak rfl)
theorem PG (a b c d:Int) (ha:0<=a/\a<=255) (hb:0<=b/\b<=255) (hc:0<=c/\c<=255) (hd:0<=d/\d<=255):al gT 113 [.sl 1 [.int .u8 a,.int .u8 b,.int .u8 c,.int .u8 d]] (.int .u32 (a+b*256+c*65536+d*16777216)):=by
 have d0:oo 0=1:=rfl
 have d1:oo 1=256:=rfl
 have d2:oo 2=65536:=rfl
 have d3:oo 3=16777216:=rfl
 refine Spec.enter aA Jw 100 Tryz.func113 rfl (by kernel_rfl) ?_
 refine fun _=>?_
 refine SW.rounds aA Jw (by kernel_rfl) (N:=60) 5 ?_
 refine⟨fun _=>?_,fun h=>absurd (show (0:Int) < 4 by decide) h⟩
 refine⟨Int,[a,b,c,d],PV.int .u8,rfl,show (0:Int)<=0 by decide,show (0:Int) < 4 by decide,fun x hx=>?_⟩
 obtain rfl:a=x:=Option.some.inj hx
 refine lu ?_ (show 0<=a/\a<=_ by omega)
 refine⟨by decide,.inl ⟨ah (show 0<=a*oo 0/\a*oo 0<=_ by rw[d0]; omega),?_⟩⟩
 refine⟨fun _=>?_,fun h=>absurd (show (1:Int) < 4 by decide) h⟩
 refine⟨Int,[a,b,c,d],PV.int .u8,rfl,show (0:Int)<=1 by decide,show (1:Int) < 4 by decide,fun x hx=>?_⟩
 obtain rfl:b=x:=Option.some.inj hx
 refine lu ?_ (show 0<=b/\b<=_ by omega)
 refine⟨by decide,.inl ⟨ah (show 0<=b*oo 1/\b*oo 1<=_ by rw[d1]; omega),?_⟩⟩
 refine⟨fun _=>?_,fun h=>absurd (show (2:Int) < 4 by decide) h⟩
 refine⟨Int,[a,b,c,d],PV.int .u8,rfl,show (0:Int)<=2 by decide,show (2:Int) < 4 by decide,fun x hx=>?_⟩
 obtain rfl:c=x:=Option.some.inj hx
 refine lu ?_ (show 0<=c/\c<=_ by omega)
 refine⟨by decide,.inl ⟨ah (show 0<=c*oo 2/\c*oo 2<=_ by rw[d2]; omega),?_⟩⟩
 refine⟨fun _=>?_,fun h=>absurd (show (3:Int) < 4 by decide) h⟩
 refine⟨Int,[a,b,c,d],PV.int .u8,rfl,show (0:Int)<=3 by decide,show (3:Int) < 4 by decide,fun x hx=>?_⟩
 obtain rfl:d=x:=Option.some.inj hx
 refine lu ?_ (show 0<=d/\d<=_ by omega)
 refine⟨by decide,.inl ⟨ah (show 0<=d*oo 3/\d*oo 3<=_ by rw[d3]; omega),?_⟩⟩
 refine⟨fun h=>absurd (show (4:Int) < 4 from h) (by decide),fun _=>?_⟩
 refine aF ?_
 show bits .or .u32 (bits .or .u32 (bits .or .u32 (bits .or .u32 0 (a*1)) (b*256)) (c*65536)) (d*16777216)=_
 rw[Int.mul_one,AZ _ _ _ _ ha hb hc hd]
theorem XT {fl:List Int} {a:Int} (h:a % 4≠0):vh fl a=60:=by unfold vh; rw[if_pos h]
theorem PH {fl:List Int} {a:Int} (h:¬ a % 4≠0) (h1:gq a):vh fl a=0:=by unfold vh; rw[if_neg h,if_pos h1]
theorem XU {fl:List Int} {a:Int} (h:¬ a % 4≠0) (h1:¬ gq a) (h2:mC fl a 4):vh fl a=0:=by unfold vh; rw[if_neg h,if_neg h1,if_pos h2]
theorem XV {fl:List Int} {a:Int} (h:¬ a % 4≠0) (h1:¬ gq a) (h2:¬ mC fl a 4):vh fl a=61:=by unfold vh; rw[if_neg h,if_neg h1,if_neg h2]
theorem XW {fl:List Int} {w:Nat->Int} {a:Int} (h:a % 4≠0):wB fl w a=0:=by unfold wB; rw[if_pos h]
theorem PI {fl:List Int} {w:Nat->Int} {a:Int} (h:¬ a % 4≠0) (h1:gq a):wB fl w a=w (vg a):=by unfold wB; rw[if_neg h,if_pos h1]
theorem XX {fl:List Int} {w:Nat->Int} {a:Int} (h:¬ a % 4≠0) (h1:¬ gq a) (h2:mC fl a 4):wB fl w a=hN fl (fM a)+hN fl (fM a+2)*65536:=by unfold wB; rw[if_neg h,if_neg h1,if_pos h2]
theorem XY {fl:List Int} {w:Nat->Int} {a:Int} (h:¬ a % 4≠0) (h1:¬ gq a) (h2:¬ mC fl a 4):wB fl w a=0:=by unfold wB; rw[if_neg h,if_neg h1,if_neg h2]
theorem Re {a:Int} (h:¬ a % 4≠0) (h1:gq a):CK a=4*vg a/\vg a < 16384:=by
 obtain⟨q1,q2⟩:=h1
 unfold CK vg
 have:a % 4=0:=Classical.not_not.1 h
 omega
theorem EB (w:Nat->Int) (fl:List Int) (at_:Int) (ha:bQ at_) (hb:K9 fl) (hl:fl.length<=65536) (hw:∀ k,bQ (w k)):Spec gT 62 [.ptr 1 0,.int .u32 at_] (yR w fl) [] fun y S'=>y = .tup [.int .u32 (wB fl w at_),.int .i64 (vh fl at_)]/\S'=yR w fl:=by
 refine Spec.lJ (Spec.enter aA P62 100 Tryz.func62 rfl (by kernel_rfl) ?_)
 refine And.intro (show (4:Int)≠0 by decide) (.inl ⟨ha.1,show (0:Int) < 4 by decide,?_⟩)
 refine⟨fun h=>?_,fun h=>?_⟩
 ·rw[XT h,XW h]
  exact rS
 have h4:¬ at_ % 4≠0:=h
 by_cases hr:gq at_
 ·obtain⟨e,hj⟩:=Re h4 hr
  have hy:=mD w fl at_ ha hr
  rw[e] at hy
  rw[PH h4 hr,PI h4 hr]
  refine (hy).e ?_
  refine⟨[],bI,(LH w fl (vg at_) hj (hw _)).zO rfl rfl rfl rfl ⟨LG _ _ _,trivial⟩ (And.intro (bd rfl rfl) (And.intro (bd rfl rfl) ?_))⟩
  exact rS
 ·refine (j' w fl at_ ha hr (Classical.not_not.1 h4)).e ?_
  by_cases hf:mC fl at_ 4
  ·rw[XU h4 hr hf,XX h4 hr hf]
   have hy:=wC fl at_ 4 (.inr rfl) ha hl hf
   have Df:fM at_+4<=fl.length:=by obtain⟨q1,q2⟩:=hf; unfold fM; omega
   rw[cut4 Df] at hy
   have b0:=jY hb (fM at_)
   have b1:=jY hb (fM at_+1)
   have b2:=jY hb (fM at_+2)
   have b3:=jY hb (fM at_+3)
   have e:hN fl (fM at_)+hN fl (fM at_+2)*65536=fl.getD (fM at_) 0+fl.getD (fM at_+1) 0*256+fl.getD (fM at_+2) 0*65536+fl.getD (fM at_+3) 0*16777216:=by unfold hN; rw[show fM at_+2+1=fM at_+3 by omega]; omega
   rw[e]
   have hz:=PG _ _ _ _ b0 b1 b2 b3
   refine hy.u ?_
   refine .inl ⟨show 4≠0 by decide,?_⟩
   refine hz.u ?_
   exact rS
  ·rw[XV h4 hr hf,XY h4 hr hf]
   refine (wD fl at_ 4 (.inr rfl) ha hl hf).u ?_
   exact rS
theorem LI {a:Int} (h:a % 4≠0):rV a=60:=by unfold rV; rw[if_pos h]
theorem LJ {a:Int} (h:¬ a % 4≠0) (h1:134217728<=a/\a < 134283264):rV a=62:=by unfold rV; rw[if_neg h,if_pos h1]
theorem LK {a:Int} (h:¬ a % 4≠0) (h2:gq a):rV a=0:=by unfold rV; rw[if_neg h,if_neg (by obtain⟨q1,q2⟩:=h2; omega),if_pos h2]
theorem LL {a:Int} (h:¬ a % 4≠0) (h1:¬ (134217728<=a/\a < 134283264)) (h2:¬ gq a):rV a=61:=by unfold rV; rw[if_neg h,if_neg h1,if_neg h2]
theorem yA {w:Nat->Int} {a x:Int} (h:rV a≠0):Bj w a x=w:=by unfold Bj; rw[if_neg h]
theorem XZ {w:Nat->Int} {a x:Int} (h:rV a=0):Bj w a x=vf w (vg a) x:=by unfold Bj; rw[if_pos h]
theorem sw (x:Int) (k:Nat):IntKind.u8.wrap (x / oo k)=lL x k:=IntKind.wrap_u8' _
theorem kH (w:Nat->Int) (fl:List Int) (at_ x:Int) (ha:bQ at_):Spec gT 111 [.ptr 1 0,.int .u32 at_,.int .u32 x] (yR w fl) [] fun y S'=>y = .int .i64 (rV at_)/\S'=yR (Bj w at_ x) fl:=by
 have el:=pV w
 refine Spec.lJ (Spec.enter aA SG 100 Tryz.func111 rfl (by kernel_rfl) ?_)
 refine And.intro (show (4:Int)≠0 by decide) (.inl ⟨ha.1,show (0:Int) < 4 by decide,?_⟩)
 refine⟨fun h=>?_,fun h=>?_⟩
 ·rw[yA (by rw[LI h]; decide),LI h]
  exact rS
 have h4:¬ at_ % 4≠0:=h
 by_cases hf:134217728<=at_/\at_ < 134283264
 ·rw[yA (by rw[LJ h4 hf]; decide),LJ h4 hf]
  refine⟨fun _=>?_,fun h=>absurd hf.1 h⟩
  refine⟨fun _=>?_,fun h=>absurd hf.2 h⟩
  exact rS
 by_cases hr:gq at_
 ·obtain⟨e,hj⟩:=Re h4 hr
  have hy:=mD w fl at_ ha hr
  rw[e] at hy
  rw[XZ (LK h4 hr),LK h4 hr]
  have kj:=LF w (vg at_) x hj
  generalize vg at_=j at hj hy kj ⊢
  refine⟨fun _=>?_,fun h=>absurd (show 134217728<=at_ by have:=hr.1; omega) h⟩
  refine⟨fun h=>absurd h (show ¬ at_ < 134283264 by have:=hr.1; omega),fun _=>?_⟩
  refine (hy).e ?_
  refine SW.rounds aA SG (by kernel_rfl) (N:=60) 5 ?_
  refine⟨by decide,.inr ?_⟩
  refine⟨show 4*j+0 < (iV w).length by rw[el]; omega,?_⟩
  refine⟨by decide,.inr ?_⟩
  refine⟨show 4*j+1 < ((iV w).set (4*j+0) _).length by rw[List.length_set,el]; omega,?_⟩
  refine⟨by decide,.inr ?_⟩
  refine⟨show 4*j+2 < (((iV w).set (4*j+0) _).set (4*j+1) _).length by rw[List.length_set,List.length_set,el]; omega,?_⟩
  refine⟨by decide,.inr ?_⟩
  refine⟨show 4*j+3 < ((((iV w).set (4*j+0) _).set (4*j+1) _).set (4*j+2) _).length by rw[List.length_set,List.length_set,List.length_set,el]; omega,?_⟩
  refine bq rfl (And.intro ?_ (And.intro (bd rfl rfl) trivial))
  show ((((iV w).set (4*j) (.int .u8 (IntKind.u8.wrap (x / oo 0)))).set (4*j+1) (.int .u8 (IntKind.u8.wrap (x / oo 1)))).set (4*j+2) (.int .u8 (IntKind.u8.wrap (x / oo 2)))).set (4*j+3) (.int .u8 (IntKind.u8.wrap (x / oo 3)))=iV (vf w j x)
  rw[sw,sw,sw,sw]
  exact kj
 ·rw[yA (by rw[LL h4 hf hr]; decide),LL h4 hf hr]
  refine⟨fun h1=>?_,fun h1=>?_⟩
  ·refine⟨fun h2=>absurd ⟨h1,h2⟩ hf,fun _=>?_⟩
   refine (j' w fl at_ ha hr (Classical.not_not.1 h4)).e ?_
   exact rS
  ·refine (j' w fl at_ ha hr (Classical.not_not.1 h4)).e ?_
   exact rS
structure LM (m:MS):Prop where
 w:∀ k,bQ (m.w k)
 fl:K9 m.fl
 len:m.fl.length<=65536
def mE (f:Int):Prop:=f=33\/f=35\/f=84\/f=37\/f=86
instance (f:Int):Decidable (mE f):=by unfold mE; infer_instance
def dW (x:XS) (a n:Int):XS:={ x with data:=a,words:=n }
def mF (m:MS) (x:XS) (a:Int):Nat->Int:=if mE x.i.form then Bj m.w a (aw x x.i.rd) else m.w
def lN (m:MS) (x:XS) (a:Int):XS:=if mE x.i.form then dW x a 1 else if vh m.fl a=0 then dn (dW x a 1) x.i.rd (wB m.fl m.w a) else dW x a 1
def np (m:MS) (x:XS) (a:Int):Int:=if mE x.i.form then rV a else vh m.fl a
def lF (m:MS) (w:Nat->Int):MS:={ m with w:=w }
theorem Gy (m:MS) (x:XS) (a:Int) (hm:LM m) (hx:nn x) (ha:bQ a):Spec gT 68 [.ptr 3 0,.int .u32 a] (iN m x) [] fun y S'=>y = .int .i64 (np m x a)/\S'=iN (lF m (mF m x a)) (lN m x a):=by
 refine Spec.lJ (Spec.enter aA P68 100 Tryz.func68 rfl (by kernel_rfl) ?_)
 refine⟨fun h1=>?_,fun h1=>?_⟩
 ·have hs:mE x.i.form:=by unfold mE; omega
  have e1:mF m x a=Bj m.w a (aw x x.i.rd):=by unfold mF; rw[if_pos hs]
  have e2:lN m x a=dW x a 1:=by unfold lN; rw[if_pos hs]
  have e3:np m x a=rV a:=by unfold np; rw[if_pos hs]
  rw[e1,e2,e3]
  refine⟨[],bI,(jf .p .p m (dW x a 1) x.i.rd hx.rd.1 hx.rd.2).zO rfl rfl rfl rfl (by repeat' first|exact trivial|exact rfl|exact Iff.rfl|refine And.intro ?_ ?_) (And.intro (by first|exact bd rfl rfl|(repeat' first|exact trivial|exact rfl|exact Iff.rfl|exact Or.inl rfl|exact not_false|refine And.intro ?_ ?_)) (And.intro (by first|exact bd rfl rfl|(repeat' first|exact trivial|exact rfl|exact Iff.rfl|exact Or.inl rfl|exact not_false|refine And.intro ?_ ?_)) (And.intro (by first|exact bd rfl rfl|(repeat' first|exact trivial|exact rfl|exact Iff.rfl|exact Or.inl rfl|exact not_false|refine And.intro ?_ ?_)) (And.intro (by first|exact bd rfl rfl|(repeat' first|exact trivial|exact rfl|exact Iff.rfl|exact Or.inl rfl|exact not_false|refine And.intro ?_ ?_)) ?_))))⟩
  refine (kH m.w m.fl a (aw x x.i.rd) ha).e ?_
  exact rS
 refine⟨fun h2=>?_,fun h2=>?_⟩
 ·have hs:mE x.i.form:=by unfold mE; omega
  have e1:mF m x a=Bj m.w a (aw x x.i.rd):=by unfold mF; rw[if_pos hs]
  have e2:lN m x a=dW x a 1:=by unfold lN; rw[if_pos hs]
  have e3:np m x a=rV a:=by unfold np; rw[if_pos hs]
  rw[e1,e2,e3]
  refine⟨[],bI,(jf .p .p m (dW x a 1) x.i.rd hx.rd.1 hx.rd.2).zO rfl rfl rfl rfl (by repeat' first|exact trivial|exact rfl|exact Iff.rfl|refine And.intro ?_ ?_) (And.intro (by first|exact bd rfl rfl|(repeat' first|exact trivial|exact rfl|exact Iff.rfl|exact Or.inl rfl|exact not_false|refine And.intro ?_ ?_)) (And.intro (by first|exact bd rfl rfl|(repeat' first|exact trivial|exact rfl|exact Iff.rfl|exact Or.inl rfl|exact not_false|refine And.intro ?_ ?_)) (And.intro (by first|exact bd rfl rfl|(repeat' first|exact trivial|exact rfl|exact Iff.rfl|exact Or.inl rfl|exact not_false|refine And.intro ?_ ?_)) (And.intro (by first|exact bd rfl rfl|(repeat' first|exact trivial|exact rfl|exact Iff.rfl|exact Or.inl rfl|exact not_false|refine And.intro ?_ ?_)) ?_))))⟩
  refine (kH m.w m.fl a (aw x x.i.rd) ha).e ?_
  exact rS
 refine⟨fun h3=>?_,fun h3=>?_⟩
 ·have hs:mE x.i.form:=by unfold mE; omega
  have e1:mF m x a=Bj m.w a (aw x x.i.rd):=by unfold mF; rw[if_pos hs]
  have e2:lN m x a=dW x a 1:=by unfold lN; rw[if_pos hs]
  have e3:np m x a=rV a:=by unfold np; rw[if_pos hs]
  rw[e1,e2,e3]
  refine⟨[],bI,(jf .p .p m (dW x a 1) x.i.rd hx.rd.1 hx.rd.2).zO rfl rfl rfl rfl (by repeat' first|exact trivial|exact rfl|exact Iff.rfl|refine And.intro ?_ ?_) (And.intro (by first|exact bd rfl rfl|(repeat' first|exact trivial|exact rfl|exact Iff.rfl|exact Or.inl rfl|exact not_false|refine And.intro ?_ ?_)) (And.intro (by first|exact bd rfl rfl|(repeat' first|exact trivial|exact rfl|exact Iff.rfl|exact Or.inl rfl|exact not_false|refine And.intro ?_ ?_)) (And.intro (by first|exact bd rfl rfl|(repeat' first|exact trivial|exact rfl|exact Iff.rfl|exact Or.inl rfl|exact not_false|refine And.intro ?_ ?_)) (And.intro (by first|exact bd rfl rfl|(repeat' first|exact trivial|exact rfl|exact Iff.rfl|exact Or.inl rfl|exact not_false|refine And.intro ?_ ?_)) ?_))))⟩
  refine (kH m.w m.fl a (aw x x.i.rd) ha).e ?_
  exact rS
 refine⟨fun h4=>?_,fun h4=>?_⟩
 ·have hs:mE x.i.form:=by unfold mE; omega
  have e1:mF m x a=Bj m.w a (aw x x.i.rd):=by unfold mF; rw[if_pos hs]
  have e2:lN m x a=dW x a 1:=by unfold lN; rw[if_pos hs]
  have e3:np m x a=rV a:=by unfold np; rw[if_pos hs]
  rw[e1,e2,e3]
  refine⟨[],bI,(jf .p .p m (dW x a 1) x.i.rd hx.rd.1 hx.rd.2).zO rfl rfl rfl rfl (by repeat' first|exact trivial|exact rfl|exact Iff.rfl|refine And.intro ?_ ?_) (And.intro (by first|exact bd rfl rfl|(repeat' first|exact trivial|exact rfl|exact Iff.rfl|exact Or.inl rfl|exact not_false|refine And.intro ?_ ?_)) (And.intro (by first|exact bd rfl rfl|(repeat' first|exact trivial|exact rfl|exact Iff.rfl|exact Or.inl rfl|exact not_false|refine And.intro ?_ ?_)) (And.intro (by first|exact bd rfl rfl|(repeat' first|exact trivial|exact rfl|exact Iff.rfl|exact Or.inl rfl|exact not_false|refine And.intro ?_ ?_)) (And.intro (by first|exact bd rfl rfl|(repeat' first|exact trivial|exact rfl|exact Iff.rfl|exact Or.inl rfl|exact not_false|refine And.intro ?_ ?_)) ?_))))⟩
  refine (kH m.w m.fl a (aw x x.i.rd) ha).e ?_
  exact rS
 refine⟨fun h5=>?_,fun h5=>?_⟩
 ·have hs:mE x.i.form:=by unfold mE; omega
  have e1:mF m x a=Bj m.w a (aw x x.i.rd):=by unfold mF; rw[if_pos hs]
  have e2:lN m x a=dW x a 1:=by unfold lN; rw[if_pos hs]
  have e3:np m x a=rV a:=by unfold np; rw[if_pos hs]
  rw[e1,e2,e3]
  refine⟨[],bI,(jf .p .p m (dW x a 1) x.i.rd hx.rd.1 hx.rd.2).zO rfl rfl rfl rfl (by repeat' first|exact trivial|exact rfl|exact Iff.rfl|refine And.intro ?_ ?_) (And.intro (by first|exact bd rfl rfl|(repeat' first|exact trivial|exact rfl|exact Iff.rfl|exact Or.inl rfl|exact not_false|refine And.intro ?_ ?_)) (And.intro (by first|exact bd rfl rfl|(repeat' first|exact trivial|exact rfl|exact Iff.rfl|exact Or.inl rfl|exact not_false|refine And.intro ?_ ?_)) (And.intro (by first|exact bd rfl rfl|(repeat' first|exact trivial|exact rfl|exact Iff.rfl|exact Or.inl rfl|exact not_false|refine And.intro ?_ ?_)) (And.intro (by first|exact bd rfl rfl|(repeat' first|exact trivial|exact rfl|exact Iff.rfl|exact Or.inl rfl|exact not_false|refine And.intro ?_ ?_)) ?_))))⟩
  refine (kH m.w m.fl a (aw x x.i.rd) ha).e ?_
  exact rS
 ·have hs:¬ mE x.i.form:=by unfold mE; omega
  have e1:mF m x a=m.w:=by unfold mF; rw[if_neg hs]
  have e3:np m x a=vh m.fl a:=by unfold np; rw[if_neg hs]
  have e2:lN m x a=if vh m.fl a=0 then dn (dW x a 1) x.i.rd (wB m.fl m.w a) else dW x a 1:=by unfold lN; rw[if_neg hs]
  rw[e1,e2,e3]
  refine (EB m.w m.fl a ha hm.fl hm.len hm.w).e ?_
  refine⟨fun h=>?_,fun h=>?_⟩
  ·rw[if_pos h]
   refine⟨[],bI,(aT m (dW x a 1) x.i.rd (wB m.fl m.w a) hx.rd.1 hx.rd.2).zO rfl rfl rfl rfl (by repeat' first|exact trivial|exact rfl|exact Iff.rfl|refine And.intro ?_ ?_) (And.intro (by first|exact bd rfl rfl|(repeat' first|exact trivial|exact rfl|exact Iff.rfl|exact Or.inl rfl|exact not_false|refine And.intro ?_ ?_)) (And.intro (by first|exact bd rfl rfl|(repeat' first|exact trivial|exact rfl|exact Iff.rfl|exact Or.inl rfl|exact not_false|refine And.intro ?_ ?_)) (And.intro (by first|exact bd rfl rfl|(repeat' first|exact trivial|exact rfl|exact Iff.rfl|exact Or.inl rfl|exact not_false|refine And.intro ?_ ?_)) (And.intro (by first|exact bd rfl rfl|(repeat' first|exact trivial|exact rfl|exact Iff.rfl|exact Or.inl rfl|exact not_false|refine And.intro ?_ ?_)) ?_))))⟩
   exact rS
  ·rw[if_neg h]
   exact rS
def uC (aq:Int) (r:Nat):Int:=bits .and .i64 (aq / Ev.aQ .i64 (r:Int)) 1
def ch (x:XS) (w:Nat->Int) (a:Int):Nat->(Nat->Int) × Int × Int
 | 0=>(w,a,0)
 | r+1=>if (ch x w a r).2.2≠0 then ch x w a r else if uC x.i.aq r=0 then ch x w a r
  else if rV (ch x w a r).2.1≠0 then ((ch x w a r).1,(ch x w a r).2.1,rV (ch x w a r).2.1)
  else (Bj (ch x w a r).1 (ch x w a r).2.1 (aw x r),IntKind.u32.wrap ((ch x w a r).2.1+4),0)
theorem rB {x:XS} {w:Nat->Int} {a:Int} {r:Nat} (h:(ch x w a r).2.2≠0):∀ n,ch x w a (r+n)=ch x w a r
 | 0=>rfl
 | n+1=>by rw[← Nat.add_assoc,ch,rB h n,if_pos h]
theorem CL {x:XS} {w:Nat->Int} {a:Int} {r:Nat} (h:(ch x w a r).2.2=0) (hb:uC x.i.aq r=0):ch x w a (r+1)=ch x w a r:=by rw[ch,if_neg (by omega),if_pos hb]
theorem Gz {x:XS} {w:Nat->Int} {a:Int} {r:Nat} (h:(ch x w a r).2.2=0) (hb:¬ uC x.i.aq r=0) (he:rV (ch x w a r).2.1≠0):ch x w a (r+1)=((ch x w a r).1,(ch x w a r).2.1,rV (ch x w a r).2.1):=by rw[ch,if_neg (by omega),if_neg hb,if_pos he]
theorem LN {x:XS} {w:Nat->Int} {a:Int} {r:Nat} (h:(ch x w a r).2.2=0) (hb:¬ uC x.i.aq r=0) (he:¬ rV (ch x w a r).2.1≠0):ch x w a (r+1)=(Bj (ch x w a r).1 (ch x w a r).2.1 (aw x r),IntKind.u32.wrap ((ch x w a r).2.1+4),0):=by rw[ch,if_neg (by omega),if_neg hb,if_neg he]
theorem A0 {x:XS} {w:Nat->Int} {a:Int} (ha:bQ a):∀ r,bQ (ch x w a r).2.1
 | 0=>ha
 | r+1=>by
  have ih:=A0 (x:=x) (w:=w) ha r
  rw[ch]
  split
  ·exact ih
  ·split
   ·exact ih
   ·split
    ·exact ih
    ·exact wrap_u32 _
def dq (x:XS):Int:=IntKind.u32.wrap (aw x 13 - IntKind.u32.wrap (4*cu x.i.aq))
def jZ (m:MS) (x:XS):(Nat->Int) × Int × Int:=ch x m.w (dq x) 15
def nG (m:MS) (x:XS):XS:=if (jZ m x).2.2=0 then dn (dW x (dq x) (cu x.i.aq)) 13 (dq x) else dW x (dq x) (cu x.i.aq)
theorem PJ (m:MS) (x:XS) (hx:nn x):Spec gT 69 [.ptr 3 0] (iN m x) [] fun y S'=>y = .int .i64 (jZ m x).2.2/\S'=iN (lF m (jZ m x).1) (nG m x):=by
 have hA:bQ (dq x):=wrap_u32 _
 have hbits:=qG x.i.aq hx.aq.1 hx.aq.2
 have ew:IntKind.u32.wrap x.i.aq=x.i.aq:=by rw[IntKind.wrap_u32']; have:=hx.aq; omega
 refine Spec.lJ (Spec.enter aA P69 100 Tryz.func69 rfl (by kernel_rfl) ?_)
 refine lu ?_ (show 0<=x.i.aq/\x.i.aq<=_ by have:=hx.aq; omega)
 refine (uy x.i.aq hx.aq.1 hx.aq.2).u ?_
 refine li ?_ (show _<=4*cu x.i.aq/\4*cu x.i.aq<=_ by omega)
 refine .inr ?_
 refine (jf .w .p m { x with words:=cu x.i.aq } 13 (by decide) (by decide)).e ?_
 refine .inr ?_
 have e0:ch x m.w (dq x) 0=(m.w,dq x,0):=rfl
 refine SW.Jk aA P69 (by kernel_rfl) (α:={r:Nat // r<=15/\(ch x m.w (dq x) r).2.2=0}) (fun r=>[(0,.ptr 3 0),(3,.int .u32 (ch x m.w (dq x) r.1).2.1),(32,.int .i64 r.1)]) (fun r=>iN (lF m (ch x m.w (dq x) r.1).1) (dW x (dq x) (cu x.i.aq))) (fun r=>15 - r.1) ⟨0,by omega,rfl⟩ 60 [some 0,some 1,some 2,some 3] ?_ ?_
 ·repeat' first|exact trivial|exact rfl|exact Iff.rfl|refine And.intro ?_ ?_
 rintro⟨r,hr,hz⟩
 have hP:=A0 (x:=x) (w:=m.w) hA r
 refine⟨fun h=>?_,fun h=>?_⟩
 ·have h':(r:Int) < 15:=h
  refine⟨show (0:Int)<=(r:Int) by omega,?_⟩
  refine⟨fun hb=>?_,fun hb=>?_⟩
  ·have hs:=CL (x:=x) (w:=m.w) (a:=dq x) hz hb
   refine .inl ⟨bf (show _<=(r:Int)+1/\(r:Int)+1<=_ by omega),⟨⟨r+1,by omega,by rw[hs]; exact hz⟩,[some 0,some 1,some 2,some 3],show 15 - (r+1) < 15 - r by omega,?_⟩⟩
   show fK _ _ _ (aD.bare _ [(0,.ptr 3 0),(3,.int .u32 (ch x m.w (dq x) (r+1)).2.1),(32,.int .i64 (r+1:Nat))] (iN (lF m (ch x m.w (dq x) (r+1)).1) (dW x (dq x) (cu x.i.aq))))
   rw[hs]
   repeat' first|exact trivial|exact rfl|exact Iff.rfl|refine And.intro ?_ ?_
  ·refine (jf .p .p (lF m (ch x m.w (dq x) r).1) (dW x (dq x) (cu x.i.aq)) (r:Int) (by omega) (by omega)).e ?_
   refine (kH (ch x m.w (dq x) r).1 m.fl (ch x m.w (dq x) r).2.1 (aw x r) hP).e ?_
   refine⟨fun he=>?_,fun he=>?_⟩
   ·have hE:=Gz (x:=x) (w:=m.w) (a:=dq x) hz hb he
    have hF:jZ m x=((ch x m.w (dq x) r).1,(ch x m.w (dq x) r).2.1,rV (ch x m.w (dq x) r).2.1):=by
     have hs:=rB (x:=x) (w:=m.w) (a:=dq x) (r:=r+1) (by rw[hE]; exact he) (14 - r)
     unfold jZ
     rw[show 15=r+1+(14 - r) by omega,hs,hE]
    have hX:nG m x=dW x (dq x) (cu x.i.aq):=by unfold nG; rw[hF,if_neg (show ¬ rV _=0 from he)]
    rw[hF,hX]
    exact bq rfl (And.intro (show iV (Bj _ _ _)=iV _ by rw[yA he]; rfl) (And.intro (bd rfl rfl) (ak rfl)))
   ·have hs:=LN (x:=x) (w:=m.w) (a:=dq x) hz hb he
    refine .inr ?_
    refine .inl ⟨bf (show _<=(r:Int)+1/\(r:Int)+1<=_ by omega),⟨⟨r+1,by omega,by rw[hs]⟩,[some 0,some 1,some 2,some 3],show 15 - (r+1) < 15 - r by omega,?_⟩⟩
    show fK _ _ _ (aD.bare _ [(0,.ptr 3 0),(3,.int .u32 (ch x m.w (dq x) (r+1)).2.1),(32,.int .i64 (r+1:Nat))] (iN (lF m (ch x m.w (dq x) (r+1)).1) (dW x (dq x) (cu x.i.aq))))
    rw[hs]
    repeat' first|exact trivial|exact rfl|exact Iff.rfl|refine And.intro ?_ ?_
 ·have h':¬ (r:Int) < 15:=h
  obtain rfl:r=15:=by omega
  have hX:nG m x=dn (dW x (dq x) (cu x.i.aq)) 13 (dq x):=by unfold nG; rw[if_pos (show (jZ m x).2.2=0 from hz)]
  rw[show (jZ m x).2.2=0 from hz,hX]
  refine (aT (lF m (ch x m.w (dq x) 15).1) (dW x (dq x) (cu x.i.aq)) 13 (dq x) (by decide) (by decide)).e ?_
  exact bq rfl (ak rfl)
def cq (m:MS) (x:XS) (a:Int):Nat->XS × Int × Int
 | 0=>(x,a,0)
 | r+1=>if (cq m x a r).2.2≠0 then cq m x a r else if uC x.i.aq r=0 then cq m x a r
  else if vh m.fl (cq m x a r).2.1≠0 then ((cq m x a r).1,(cq m x a r).2.1,vh m.fl (cq m x a r).2.1)
  else if r=15 then (kG (cq m x a r).1 (wB m.fl m.w (cq m x a r).2.1),IntKind.u32.wrap ((cq m x a r).2.1+4),0)
  else (dn (cq m x a r).1 r (wB m.fl m.w (cq m x a r).2.1),IntKind.u32.wrap ((cq m x a r).2.1+4),0)
theorem uD {m:MS} {x:XS} {a:Int} {r:Nat} (h:(cq m x a r).2.2≠0):∀ n,cq m x a (r+n)=cq m x a r
 | 0=>rfl
 | n+1=>by rw[← Nat.add_assoc,cq,uD h n,if_pos h]
theorem GA {m:MS} {x:XS} {a:Int} {r:Nat} (h:(cq m x a r).2.2=0) (hb:uC x.i.aq r=0):cq m x a (r+1)=cq m x a r:=by rw[cq,if_neg (by omega),if_pos hb]
theorem LO {m:MS} {x:XS} {a:Int} {r:Nat} (h:(cq m x a r).2.2=0) (hb:¬ uC x.i.aq r=0) (he:vh m.fl (cq m x a r).2.1≠0):cq m x a (r+1)=((cq m x a r).1,(cq m x a r).2.1,vh m.fl (cq m x a r).2.1):=by rw[cq,if_neg (by omega),if_neg hb,if_pos he]
theorem GB {m:MS} {x:XS} {a:Int} {r:Nat} (h:(cq m x a r).2.2=0) (hb:¬ uC x.i.aq r=0) (he:¬ vh m.fl (cq m x a r).2.1≠0) (hr:r=15):cq m x a (r+1)=(kG (cq m x a r).1 (wB m.fl m.w (cq m x a r).2.1),IntKind.u32.wrap ((cq m x a r).2.1+4),0):=by rw[cq,if_neg (by omega),if_neg hb,if_neg he,if_pos hr]
theorem LP {m:MS} {x:XS} {a:Int} {r:Nat} (h:(cq m x a r).2.2=0) (hb:¬ uC x.i.aq r=0) (he:¬ vh m.fl (cq m x a r).2.1≠0) (hr:¬ r=15):cq m x a (r+1)=(dn (cq m x a r).1 r (wB m.fl m.w (cq m x a r).2.1),IntKind.u32.wrap ((cq m x a r).2.1+4),0):=by rw[cq,if_neg (by omega),if_neg hb,if_neg he,if_neg hr]
theorem PK (x:XS) (v:Int):(kG x v).i=x.i:=by unfold kG; split<;>rfl
theorem yB {m:MS} {x:XS} {a:Int} (ha:bQ a):∀ r,bQ (cq m x a r).2.1/\(cq m x a r).1.i=x.i
 | 0=>⟨ha,rfl⟩
 | r+1=>by
  have ih:=yB (m:=m) (x:=x) ha r
  rw[cq]
  split
  ·exact ih
  ·split
   ·exact ih
   ·split
    ·exact ih
    ·split
     ·exact⟨wrap_u32 _,(PK _ _).trans ih.2⟩
     ·exact⟨wrap_u32 _,ih.2⟩
def qS (m:MS) (x:XS):XS × Int × Int:=cq m (dW x (aw x 13) (cu x.i.aq)) (aw x 13) 16
def vi (m:MS) (x:XS):XS:=if (qS m x).2.2=0 then dn (qS m x).1 13 (qS m x).2.1 else (qS m x).1
theorem PL (m:MS) (x:XS) (hm:LM m) (hx:nn x):Spec gT 70 [.ptr 3 0] (iN m x) [] fun y S'=>y = .int .i64 (qS m x).2.2/\S'=iN m (vi m x):=by
 have hA:bQ (aw x 13):=bM hx _
 refine Spec.lJ (Spec.enter aA P70 100 Tryz.func70 rfl (by kernel_rfl) ?_)
 refine lu ?_ (show 0<=x.i.aq/\x.i.aq<=_ by have:=hx.aq; omega)
 refine (uy x.i.aq hx.aq.1 hx.aq.2).u ?_
 refine (bG m { x with words:=cu x.i.aq } 13 (by decide) (by decide)).e ?_
 generalize hx2:dW x (aw x 13) (cu x.i.aq)=x2
 have hR:qS m x=cq m x2 (aw x 13) 16:=by unfold qS; rw[hx2]
 have hi:x2.i=x.i:=by rw[← hx2]; rfl
 refine SW.Jk aA P70 (by kernel_rfl) (α:={r:Nat // r<=16/\(cq m x2 (aw x 13) r).2.2=0}) (fun r=>[(0,.ptr 3 0),(3,.int .u32 (cq m x2 (aw x 13) r.1).2.1),(26,.int .i64 r.1)]) (fun r=>iN m (cq m x2 (aw x 13) r.1).1) (fun r=>16 - r.1) ⟨0,by omega,rfl⟩ 60 [some 0,some 1,some 2,some 3] ?_ ?_
 ·show fK _ _ _ (aD.bare _ [(0,.ptr 3 0),(3,.int .u32 (aw x 13)),(26,.int .i64 (0:Nat))] (iN m x2))
  rw[← hx2]
  repeat' first|exact trivial|exact rfl|exact Iff.rfl|refine And.intro ?_ ?_
 rintro⟨r,hr,hz⟩
 obtain⟨hP,hI⟩:=yB (m:=m) (x:=x2) hA r
 refine⟨fun h=>?_,fun h=>?_⟩
 ·have h':(r:Int) < 16:=h
  refine⟨show (0:Int)<=(r:Int) by omega,?_⟩
  refine⟨fun hb=>?_,fun hb=>?_⟩
  ·have cO:uC x2.i.aq r=0:=by rw[← hI]; exact hb
   have hs:=GA (m:=m) (x:=x2) (a:=aw x 13) hz cO
   refine .inl ⟨bf (show _<=(r:Int)+1/\(r:Int)+1<=_ by omega),⟨⟨r+1,by omega,by rw[hs]; exact hz⟩,[some 0,some 1,some 2,some 3],show 16 - (r+1) < 16 - r by omega,?_⟩⟩
   show fK _ _ _ (aD.bare _ [(0,.ptr 3 0),(3,.int .u32 (cq m x2 (aw x 13) (r+1)).2.1),(26,.int .i64 (r+1:Nat))] (iN m (cq m x2 (aw x 13) (r+1)).1))
   rw[hs]
   repeat' first|exact trivial|exact rfl|exact Iff.rfl|refine And.intro ?_ ?_
  ·have cO:¬ uC x2.i.aq r=0:=by rw[← hI]; exact hb
   refine (EB m.w m.fl (cq m x2 (aw x 13) r).2.1 hP hm.fl hm.len hm.w).e ?_
   refine⟨fun he=>?_,fun he=>?_⟩
   ·have hE:=LO (m:=m) (x:=x2) (a:=aw x 13) hz cO he
    have hF:qS m x=((cq m x2 (aw x 13) r).1,(cq m x2 (aw x 13) r).2.1,vh m.fl (cq m x2 (aw x 13) r).2.1):=by
     have hs:=uD (m:=m) (x:=x2) (a:=aw x 13) (r:=r+1) (by rw[hE]; exact he) (15 - r)
     rw[hR,show 16=r+1+(15 - r) by omega,hs,hE]
    have hX:vi m x=(cq m x2 (aw x 13) r).1:=by unfold vi; rw[hF,if_neg (show ¬ vh m.fl _=0 from he)]
    rw[hF,hX]
    exact bq rfl (ak rfl)
   ·refine .inr ?_
    refine⟨fun YU=>?_,fun YU=>?_⟩
    ·have hs:=GB (m:=m) (x:=x2) (a:=aw x 13) hz cO he (show r=15 by have:(r:Int)=15:=YU; omega)
     refine (Ew m (cq m x2 (aw x 13) r).1 (wB m.fl m.w (cq m x2 (aw x 13) r).2.1)).e ?_
     refine .inl ⟨bf (show _<=(r:Int)+1/\(r:Int)+1<=_ by omega),⟨⟨r+1,by omega,by rw[hs]⟩,[some 0,some 1,some 2,some 3],show 16 - (r+1) < 16 - r by omega,?_⟩⟩
     show fK _ _ _ (aD.bare _ [(0,.ptr 3 0),(3,.int .u32 (cq m x2 (aw x 13) (r+1)).2.1),(26,.int .i64 (r+1:Nat))] (iN m (cq m x2 (aw x 13) (r+1)).1))
     rw[hs]
     repeat' first|exact trivial|exact rfl|exact Iff.rfl|refine And.intro ?_ ?_
    ·have hs:=LP (m:=m) (x:=x2) (a:=aw x 13) hz cO he (show ¬ r=15 from fun e=>YU (show (r:Int)=15 by omega))
     refine (aT m (cq m x2 (aw x 13) r).1 (r:Int) (wB m.fl m.w (cq m x2 (aw x 13) r).2.1) (by omega) (by omega)).e ?_
     refine .inl ⟨bf (show _<=(r:Int)+1/\(r:Int)+1<=_ by omega),⟨⟨r+1,by omega,by rw[hs]⟩,[some 0,some 1,some 2,some 3],show 16 - (r+1) < 16 - r by omega,?_⟩⟩
     show fK _ _ _ (aD.bare _ [(0,.ptr 3 0),(3,.int .u32 (cq m x2 (aw x 13) (r+1)).2.1),(26,.int .i64 (r+1:Nat))] (iN m (cq m x2 (aw x 13) (r+1)).1))
     rw[hs]
     repeat' first|exact trivial|exact rfl|exact Iff.rfl|refine And.intro ?_ ?_
 ·have h':¬ (r:Int) < 16:=h
  obtain rfl:r=16:=by omega
  have hX:vi m x=dn (cq m x2 (aw x 13) 16).1 13 (cq m x2 (aw x 13) 16).2.1:=by unfold vi; rw[hR,if_pos hz]
  rw[show (qS m x).2.2=0 by rw[hR]; exact hz,hX]
  refine (aT m (cq m x2 (aw x 13) 16).1 13 (cq m x2 (aw x 13) 16).2.1 (by decide) (by decide)).e ?_
  exact bq rfl (ak rfl)
end Go.Proofs.YtbnoodjnpooocaaGreatDoor.Pw

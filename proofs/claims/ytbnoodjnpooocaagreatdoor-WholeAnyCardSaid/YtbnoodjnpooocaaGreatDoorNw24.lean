/- What this claim is proved with: no condition. -/
import Derived.Test.YtbnoodjnpooocaaGreatDoorNw22
import Derived.Test.YtbnoodjnpooocaaGreatDoorNw23
import Derived.Test.YtbnoodjnpooocaaGreatDoorNw10
import Derived.KernelRfl
import Derived.Test.YtbnoodjnpooocaaGreatDoorNwCwMa
import Derived.Test.YtbnoodjnpooocaaGreatDoorNwCwMba
import Derived.Test.YtbnoodjnpooocaaGreatDoorNwCwMbb
import Derived.Test.YtbnoodjnpooocaaGreatDoorNwCwMbc
import Derived.Test.YtbnoodjnpooocaaGreatDoorNwCwMbd
import Derived.Test.YtbnoodjnpooocaaGreatDoorNwCwMbe
import Derived.Test.YtbnoodjnpooocaaGreatDoorNwCwMbf
import Derived.Test.YtbnoodjnpooocaaGreatDoorNwCwMbg
set_option maxRecDepth 100000
set_option maxHeartbeats 16000000
set_option linter.unusedVariables false
set_option linter.unusedSimpArgs false
namespace Go.Proofs.YtbnoodjnpooocaaGreatDoor.Pw
open Go Go.RowKit
def qa (m:MS) (x:XS):Int:=if bW x.i.form≠0 then np m x (jM x) else if x.i.form=42 then (jZ m x).2.2 else if x.i.form=43 then (qS m x).2.2 else 0
def vj (m:MS) (x:XS):Nat->Int:=if bW x.i.form≠0 then mF m x (jM x) else if x.i.form=42 then (jZ m x).1 else m.w
def fN (x:XS):XS:=if aO x.i.form≠0 then fy x else if aP x.i.form≠0 then cK x else if cZ x.i.form≠0 then eJ x else if bK x.i.form≠0 then fB x else if bN x.i.form≠0 then da x else gg x
def jN (m:MS) (x:XS):XS:=if bW x.i.form≠0 then lN m x (jM x) else if x.i.form=42 then nG m x else if x.i.form=43 then vi m x else fN x
theorem PN {x:XS}:bQ (jM x):=by
 unfold jM
 repeat' split
 all_goals first|exact wrap_u32 _|exact⟨by decide,by decide⟩
theorem do_ok (m:MS) (x:XS) (hm:LM m) (hx:nn x):Spec gT 33 [.ptr 3 0] (iN m x) [] fun y S'=>y = .int .i64 (qa m x)/\S'=iN (lF m (vj m x)) (jN m x):=by
 refine Spec.lJ (Spec.enter aA P33 100 Tryz.func33 rfl (by kernel_rfl) ?_)
 refine (CJ m x hx).e ?_
 refine⟨fun ha=>?_,fun ha=>?_⟩
 ·have cJ:bW x.i.form≠0:=ha
  have e1:qa m x=np m x (jM x):=by unfold qa; rw[if_pos cJ]
  have e2:vj m x=mF m x (jM x):=by unfold vj; rw[if_pos cJ]
  have e3:jN m x=lN m x (jM x):=by unfold jN; rw[if_pos cJ]
  rw[e1,e2,e3]
  refine (Gy m x (jM x) hm hx PN).e ?_
  exact rS
 have cJ:¬ bW x.i.form≠0:=ha
 refine⟨fun Hf=>?_,fun Hf=>?_⟩
 ·have e1:qa m x=(jZ m x).2.2:=by unfold qa; rw[if_neg cJ,if_pos Hf]
  have e2:vj m x=(jZ m x).1:=by unfold vj; rw[if_neg cJ,if_pos Hf]
  have e3:jN m x=nG m x:=by unfold jN; rw[if_neg cJ,if_pos Hf]
  rw[e1,e2,e3]
  refine (PJ m x hx).e ?_
  exact rS
 have e2:vj m x=m.w:=by unfold vj; rw[if_neg cJ,if_neg Hf]
 rw[e2]
 refine⟨fun Rf=>?_,fun Rf=>?_⟩
 ·have e1:qa m x=(qS m x).2.2:=by unfold qa; rw[if_neg cJ,if_neg Hf,if_pos Rf]
  have e3:jN m x=vi m x:=by unfold jN; rw[if_neg cJ,if_neg Hf,if_pos Rf]
  rw[e1,e3]
  refine (PL m x hm hx).e ?_
  exact rS
 have e1:qa m x=0:=by unfold qa; rw[if_neg cJ,if_neg Hf,if_neg Rf]
 have e3:jN m x=fN x:=by unfold jN; rw[if_neg cJ,if_neg Hf,if_neg Rf]
 rw[e1,e3]
 have s0:=Pg m x hx
 by_cases c0:aO x.i.form≠0
 ·have e:fN x=fy x:=by unfold fN; rw[if_pos c0]
  rw[e]
  refine (s0).e ?_
  refine⟨fun h=>absurd c0 h,fun _=>?_⟩
  exact rS
 rw[Eu (Classical.not_not.1 c0)] at s0
 have s1:=Gs m x hx
 by_cases c1:aP x.i.form≠0
 ·have e:fN x=cK x:=by unfold fN; rw[if_neg c0,if_pos c1]
  rw[e]
  refine (s0).e ?_
  refine⟨fun _=>?_,fun h=>absurd c0 h⟩
  refine (s1).e ?_
  refine⟨fun h=>absurd c1 h,fun _=>?_⟩
  exact rS
 rw[wy (Classical.not_not.1 c1)] at s1
 have s2:=Gu m x hx
 by_cases c2:cZ x.i.form≠0
 ·have e:fN x=eJ x:=by unfold fN; rw[if_neg c0,if_neg c1,if_pos c2]
  rw[e]
  refine (s0).e ?_
  refine⟨fun _=>?_,fun h=>absurd c0 h⟩
  refine (s1).e ?_
  refine⟨fun _=>?_,fun h=>absurd c1 h⟩
  refine (s2).e ?_
  refine⟨fun h=>absurd c2 h,fun _=>?_⟩
  exact rS
 rw[wz (Classical.not_not.1 c2)] at s2
 have s3:=AU m x hx
 by_cases c3:bK x.i.form≠0
 ·have e:fN x=fB x:=by unfold fN; rw[if_neg c0,if_neg c1,if_neg c2,if_pos c3]
  rw[e]
  refine (s0).e ?_
  refine⟨fun _=>?_,fun h=>absurd c0 h⟩
  refine (s1).e ?_
  refine⟨fun _=>?_,fun h=>absurd c1 h⟩
  refine (s2).e ?_
  refine⟨fun _=>?_,fun h=>absurd c2 h⟩
  refine (s3).e ?_
  refine⟨fun h=>absurd c3 h,fun _=>?_⟩
  exact rS
 rw[Ey (Classical.not_not.1 c3)] at s3
 have s4:=Lu m x hx
 by_cases c4:bN x.i.form≠0
 ·have e:fN x=da x:=by unfold fN; rw[if_neg c0,if_neg c1,if_neg c2,if_neg c3,if_pos c4]
  rw[e]
  refine (s0).e ?_
  refine⟨fun _=>?_,fun h=>absurd c0 h⟩
  refine (s1).e ?_
  refine⟨fun _=>?_,fun h=>absurd c1 h⟩
  refine (s2).e ?_
  refine⟨fun _=>?_,fun h=>absurd c2 h⟩
  refine (s3).e ?_
  refine⟨fun _=>?_,fun h=>absurd c3 h⟩
  refine (s4).e ?_
  refine⟨fun h=>absurd c4 h,fun _=>?_⟩
  exact rS
 rw[AS (Classical.not_not.1 c4)] at s4
 have e:fN x=gg x:=by unfold fN; rw[if_neg c0,if_neg c1,if_neg c2,if_neg c3,if_neg c4]
 rw[e]
 refine (s0).e ?_
 refine⟨fun _=>?_,fun h=>absurd c0 h⟩
 refine (s1).e ?_
 refine⟨fun _=>?_,fun h=>absurd c1 h⟩
 refine (s2).e ?_
 refine⟨fun _=>?_,fun h=>absurd c2 h⟩
 refine (s3).e ?_
 refine⟨fun _=>?_,fun h=>absurd c3 h⟩
 refine (s4).e ?_
 refine⟨fun _=>?_,fun h=>absurd c4 h⟩
 refine (LC m x hx).e ?_
 exact rS
def divC (a b:Int):Int:=if b=0\/(Lib.bitLen a.toNat:Int) - Lib.bitLen b.toNat < 0 then 2 else 3+((Lib.bitLen a.toNat:Int) - Lib.bitLen b.toNat) / 4
theorem uE {x:Int} (h:x<=4294967295):Lib.bitLen x.toNat<=32:=Rm.ry x.toNat (by omega)
theorem GG (a b:Int) (ha:bQ a) (hb:bQ b):al gT 79 [.int .u32 a,.int .u32 b] (.int .i64 (divC a b)):=by
 have h1:=uE ha.2
 have h2:=uE hb.2
 refine Spec.enter aA P79 100 Tryz.func79 rfl (by kernel_rfl) ?_
 refine (wq a ha).u ?_
 refine (wq b hb).u ?_
 refine li ?_
 refine⟨fun h=>?_,fun h=>And.intro (fun h3=>?_) (fun h3=>?_)⟩
 ·refine aF ?_
  exact (show (2:Int)=divC a b by unfold divC; rw[if_pos (.inl h)])
 ·refine aF ?_
  exact (show (2:Int)=divC a b by unfold divC; rw[if_pos (.inr h3)])
 ·refine⟨by decide,.inl ⟨by omega,show (Lib.bitLen a.toNat:Int) - Lib.bitLen b.toNat<=9223372036854775807 by omega,by decide,?_⟩⟩
  refine li ?_
  refine aF ?_
  exact (show (3:Int)+_=divC a b by unfold divC; rw[if_neg (by omega)])
def X3 (aq:Int):Prop:=bits .and .i64 (aq / Ev.aQ .i64 15) 1=1
instance (r:Int):Decidable (X3 r):=by unfold X3; infer_instance
def nH (i:IN):Int:=if i.form=43/\X3 i.aq then 1+cu i.aq+2 else 1+cu i.aq
theorem uF (i:IN) (h0:0<=i.aq) (h1:i.aq<=65535):al gT 78 [dE i] (.int .i64 (nH i)):=by
 have hb:=qG i.aq h0 h1
 refine Spec.enter aA P78 100 Tryz.func78 rfl (by kernel_rfl) ?_
 refine lu ?_ (show 0<=i.aq/\i.aq<=_ by omega)
 refine (uy i.aq h0 h1).u ?_
 refine li ?_ (show _<=1+cu i.aq/\1+cu i.aq<=_ by omega)
 refine⟨fun h=>?_,fun h=>?_⟩
 ·refine⟨by decide,?_⟩
  refine⟨fun ht=>?_,fun ht=>?_⟩
  ·refine li ?_ (show _<=1+cu i.aq+2/\1+cu i.aq+2<=_ by omega)
   exact aF (show 1+cu i.aq+2=nH i by unfold nH; rw[if_pos ⟨h,ht⟩])
  ·exact aF (show 1+cu i.aq=nH i by unfold nH; rw[if_neg (fun q=>ht q.2)])
 ·exact aF (show 1+cu i.aq=nH i by unfold nH; rw[if_neg (fun q=>h q.1)])
def bU (f:Int):Int :=
 if f=46\/f=99 then 1 else if f=47\/f=100\/f=31 then 2 else if f=32\/f=34\/f=36\/f=38\/f=85\/f=87\/f=33\/f=35\/f=37\/f=84\/f=86\/f=93\/f=94 then 3 else if f=42\/f=43 then 4 else if f=97 then 5 else 0
def cT (i:IN) (t:Prop) [Decidable t] (a b:Int):Int:=if bU i.form=1 then (if t then 3 else 1) else if bU i.form=2 then 3 else if bU i.form=3 then 2 else if bU i.form=4 then nH i else if bU i.form=5 then divC a b else 1
theorem PO {i:IN} {t:Prop} [Decidable t] {a b:Int} (h:bU i.form=0):cT i t a b=1:=by unfold cT; rw[if_neg (by omega),if_neg (by omega),if_neg (by omega),if_neg (by omega),if_neg (by omega)]
theorem EC {i:IN} {t:Prop} [Decidable t] {a b:Int} (h:bU i.form=1):cT i t a b=(if t then 3 else 1):=by unfold cT; rw[if_pos h]
theorem yD {i:IN} {t:Prop} [Decidable t] {a b:Int} (h:bU i.form=2):cT i t a b=3:=by unfold cT; rw[if_neg (by omega),if_pos h]
theorem fE {i:IN} {t:Prop} [Decidable t] {a b:Int} (h:bU i.form=3):cT i t a b=2:=by unfold cT; rw[if_neg (by omega),if_neg (by omega),if_pos h]
theorem ED {i:IN} {t:Prop} [Decidable t] {a b:Int} (h:bU i.form=4):cT i t a b=nH i:=by unfold cT; rw[if_neg (by omega),if_neg (by omega),if_neg (by omega),if_pos h]
theorem PQ {i:IN} {t:Prop} [Decidable t] {a b:Int} (h:bU i.form=5):cT i t a b=divC a b:=by unfold cT; rw[if_neg (by omega),if_neg (by omega),if_neg (by omega),if_neg (by omega),if_pos h]
theorem GH (i:IN) (t:Prop) [Decidable t] (a b:Int) (hr:bV i) (hi:D5 i.au) (h0:0<=i.aq) (h1:i.aq<=65535) (ha:bQ a) (hb:bQ b):al gT 34 [dE i,.bool t,.int .u32 a,.int .u32 b] (.tup [.int .i64 (cT i t a b),.int .i64 0]):=by
 refine Spec.enter aA P34 100 Tryz.func34 rfl (by kernel_rfl) ?_
 refine (uc i hi).u ?_
 refine⟨fun h=>absurd hr h,fun _=>?_⟩
 refine⟨fun h46=>?_,fun h46=>?_⟩
 ·have hc:bU i.form=1:=by rw[show i.form=46 from h46]; rfl
  rw[EC hc]
  refine⟨fun h=>?_,fun h=>?_⟩
  ·rw[if_neg (show ¬ t from h)]
   exact aF (And.intro rfl (And.intro rfl trivial))
  ·rw[if_pos (Classical.not_not.1 (show ¬ ¬ t from h))]
   exact aF (And.intro rfl (And.intro rfl trivial))
 refine⟨fun h99=>?_,fun h99=>?_⟩
 ·have hc:bU i.form=1:=by rw[show i.form=99 from h99]; rfl
  rw[EC hc]
  refine⟨fun h=>?_,fun h=>?_⟩
  ·rw[if_neg (show ¬ t from h)]
   exact aF (And.intro rfl (And.intro rfl trivial))
  ·rw[if_pos (Classical.not_not.1 (show ¬ ¬ t from h))]
   exact aF (And.intro rfl (And.intro rfl trivial))
 refine⟨fun h47=>?_,fun h47=>?_⟩
 ·have hc:bU i.form=2:=by rw[show i.form=47 from h47]; rfl
  rw[yD hc]
  exact aF (And.intro rfl (And.intro rfl trivial))
 refine⟨fun LD=>?_,fun LD=>?_⟩
 ·have hc:bU i.form=2:=by rw[show i.form=100 from LD]; rfl
  rw[yD hc]
  exact aF (And.intro rfl (And.intro rfl trivial))
 refine⟨fun h31=>?_,fun h31=>?_⟩
 ·have hc:bU i.form=2:=by rw[show i.form=31 from h31]; rfl
  rw[yD hc]
  exact aF (And.intro rfl (And.intro rfl trivial))
 refine⟨fun Oe=>?_,fun Oe=>?_⟩
 ·have hc:bU i.form=3:=by rw[show i.form=32 from Oe]; rfl
  rw[fE hc]
  exact aF (And.intro rfl (And.intro rfl trivial))
 refine⟨fun h34=>?_,fun h34=>?_⟩
 ·have hc:bU i.form=3:=by rw[show i.form=34 from h34]; rfl
  rw[fE hc]
  exact aF (And.intro rfl (And.intro rfl trivial))
 refine⟨fun h36=>?_,fun h36=>?_⟩
 ·have hc:bU i.form=3:=by rw[show i.form=36 from h36]; rfl
  rw[fE hc]
  exact aF (And.intro rfl (And.intro rfl trivial))
 refine⟨fun h38=>?_,fun h38=>?_⟩
 ·have hc:bU i.form=3:=by rw[show i.form=38 from h38]; rfl
  rw[fE hc]
  exact aF (And.intro rfl (And.intro rfl trivial))
 refine⟨fun h85=>?_,fun h85=>?_⟩
 ·have hc:bU i.form=3:=by rw[show i.form=85 from h85]; rfl
  rw[fE hc]
  exact aF (And.intro rfl (And.intro rfl trivial))
 refine⟨fun h87=>?_,fun h87=>?_⟩
 ·have hc:bU i.form=3:=by rw[show i.form=87 from h87]; rfl
  rw[fE hc]
  exact aF (And.intro rfl (And.intro rfl trivial))
 refine⟨fun h33=>?_,fun h33=>?_⟩
 ·have hc:bU i.form=3:=by rw[show i.form=33 from h33]; rfl
  rw[fE hc]
  exact aF (And.intro rfl (And.intro rfl trivial))
 refine⟨fun h35=>?_,fun h35=>?_⟩
 ·have hc:bU i.form=3:=by rw[show i.form=35 from h35]; rfl
  rw[fE hc]
  exact aF (And.intro rfl (And.intro rfl trivial))
 refine⟨fun h37=>?_,fun h37=>?_⟩
 ·have hc:bU i.form=3:=by rw[show i.form=37 from h37]; rfl
  rw[fE hc]
  exact aF (And.intro rfl (And.intro rfl trivial))
 refine⟨fun h84=>?_,fun h84=>?_⟩
 ·have hc:bU i.form=3:=by rw[show i.form=84 from h84]; rfl
  rw[fE hc]
  exact aF (And.intro rfl (And.intro rfl trivial))
 refine⟨fun h86=>?_,fun h86=>?_⟩
 ·have hc:bU i.form=3:=by rw[show i.form=86 from h86]; rfl
  rw[fE hc]
  exact aF (And.intro rfl (And.intro rfl trivial))
 refine⟨fun h93=>?_,fun h93=>?_⟩
 ·have hc:bU i.form=3:=by rw[show i.form=93 from h93]; rfl
  rw[fE hc]
  exact aF (And.intro rfl (And.intro rfl trivial))
 refine⟨fun h94=>?_,fun h94=>?_⟩
 ·have hc:bU i.form=3:=by rw[show i.form=94 from h94]; rfl
  rw[fE hc]
  exact aF (And.intro rfl (And.intro rfl trivial))
 refine⟨fun Hf=>?_,fun Hf=>?_⟩
 ·have hc:bU i.form=4:=by rw[show i.form=42 from Hf]; rfl
  rw[ED hc]
  refine (uF i h0 h1).u ?_
  exact aF (And.intro rfl (And.intro rfl trivial))
 refine⟨fun Rf=>?_,fun Rf=>?_⟩
 ·have hc:bU i.form=4:=by rw[show i.form=43 from Rf]; rfl
  rw[ED hc]
  refine (uF i h0 h1).u ?_
  exact aF (And.intro rfl (And.intro rfl trivial))
 refine⟨fun h97=>?_,fun h97=>?_⟩
 ·have hc:bU i.form=5:=by rw[show i.form=97 from h97]; rfl
  rw[PQ hc]
  refine (GG a b ha hb).u ?_
  exact aF (And.intro rfl (And.intro rfl trivial))
 ·have hc:bU i.form=0:=by unfold bU; rw[if_neg (by omega),if_neg (by omega),if_neg (by omega),if_neg (by omega),if_neg (by omega)]
  rw[PO hc]
  exact aF (And.intro rfl (And.intro rfl trivial))
def fG (a:Int):Int:=a / 16
def PR (full:Prop) (line:Int):PV:=.agg [.bool full,.int .u32 line]
theorem CM (n:Int):al gT 80 [.int .i64 n] (.bool (n=2\/n=4)):=by
 refine Spec.enter aA P80 100 Tryz.func80 rfl (by kernel_rfl) ?_
 refine⟨fun h=>?_,fun h=>?_⟩
 ·exact aF (show n=2\/n=4 from .inl h)
 ·exact aF (show n=4↔(n=2\/n=4) from ⟨.inr,fun q=>q.elim (fun e=>absurd e h) id⟩)
theorem wF (a:Int) (ha:bQ a):al gT 82 [.int .u32 a] (.int .u32 (fG a)):=by
 refine Spec.enter aA P82 100 Tryz.func82 rfl (by kernel_rfl) ?_
 refine And.intro (show (16:Int)≠0 by decide) (.inl ⟨ha.1,show a<=4294967295 from ha.2,show (0:Int) < 16 by decide,?_⟩)
 exact aF rfl
def i_ (full:Prop) [Decidable full] (line l:Int):Int:=if full/\line=l then 0 else 1
theorem wG (full:Prop) [Decidable full] (line l:Int):al gT 81 [PR full line,.int .u32 l] (.tup [PR True l,.int .i64 (i_ full line l)]):=by
 refine Spec.enter aA P81 100 Tryz.func81 rfl (by kernel_rfl) ?_
 refine⟨fun h=>?_,fun h=>?_⟩
 ·refine⟨fun hl=>?_,fun hl=>?_⟩
  ·have e:i_ full line l=0:=by unfold i_; rw[if_pos ⟨h,hl⟩]
   rw[e]
   exact aF (And.intro (And.intro (iff_true_intro h) (And.intro hl trivial)) (And.intro rfl trivial))
  ·have e:i_ full line l=1:=by unfold i_; rw[if_neg (fun q=>hl q.2)]
   rw[e]
   exact aF (And.intro (And.intro trivial (And.intro rfl trivial)) (And.intro rfl trivial))
 ·have e:i_ full line l=1:=by unfold i_; rw[if_neg (fun q=>h q.1)]
  rw[e]
  exact aF (And.intro (And.intro trivial (And.intro rfl trivial)) (And.intro rfl trivial))
def GI (at_ n:Int):Int:=if n=2 then fG at_ else fG (IntKind.u32.wrap (at_+2))
def yE (full:Prop) [Decidable full] (line at_ n:Int):Int:=if n=2 then i_ full line (fG at_) else i_ full line (fG at_)+i_ True (fG at_) (fG (IntKind.u32.wrap (at_+2)))
theorem pX (full:Prop) [Decidable full] (line l:Int):0<=i_ full line l/\i_ full line l<=1:=by unfold i_; split<;>omega
theorem CN (full:Prop) [Decidable full] (line at_ n:Int) (ha:bQ at_) (hn:n=2\/n=4):al gT 35 [PR full line,.int .u32 at_,.int .i64 n] (.tup [PR True (GI at_ n),.int .i64 (yE full line at_ n)]):=by
 have b1:=pX full line (fG at_)
 have b2:=pX True (fG at_) (fG (IntKind.u32.wrap (at_+2)))
 refine Spec.enter aA P35 100 Tryz.func35 rfl (by kernel_rfl) ?_
 refine (CM n).u ?_
 refine⟨fun h=>absurd hn h,fun _=>?_⟩
 refine (wF at_ ha).u ?_
 refine (wG full line (fG at_)).u ?_
 refine⟨fun h=>?_,fun h=>?_⟩
 ·have e1:GI at_ n=fG at_:=by unfold GI; rw[if_pos h]
  have e2:yE full line at_ n=i_ full line (fG at_):=by unfold yE; rw[if_pos h]
  rw[e1,e2]
  exact rA
 ·have e1:GI at_ n=fG (IntKind.u32.wrap (at_+2)):=by unfold GI; rw[if_neg h]
  have e2:yE full line at_ n=i_ full line (fG at_)+i_ True (fG at_) (fG (IntKind.u32.wrap (at_+2))):=by unfold yE; rw[if_neg h]
  rw[e1,e2]
  refine .inr ?_
  refine (wF (IntKind.u32.wrap (at_+2)) (wrap_u32 _)).u ?_
  refine (wG True (fG at_) (fG (IntKind.u32.wrap (at_+2)))).u ?_
  refine li ?_
  exact rA
theorem PS:∀ s:Fin 35,(eF (s.1:Int)).aq=0\/(eF (s.1:Int)).aq=16639\/(eF (s.1:Int)).aq=33023:=by decide
theorem GJ (f:Int):0<=ab f/\ab f<=34:=by
 unfold ab
 split
 ·have key:∀ n:Fin 101,0<=YN.getD n.1 0/\YN.getD n.1 0<=34:=by decide
  exact key ⟨f.toNat,by omega⟩
 ·decide
theorem j1 {i:IN} (h:bV i) (hi:Rb i):0<=i.aq/\i.aq<=65535:=by
 obtain⟨hf,h1,h2,h3,h4,h5,_⟩:=h
 have hb:=GJ i.form
 have hr:=PS ⟨(ab i.form).toNat,by omega⟩
 rw[show (((⟨(ab i.form).toNat,by omega⟩:Fin 35).1:Nat):Int)=ab i.form by simp only[]; omega] at hr
 have hI:=hi i.aq (by simp[uo])
 rcases h5 with ⟨_,e⟩|⟨hn,h0,ha⟩
 ·omega
 ·rcases hr with e|e|e
  ·exact absurd e hn
  ·rw[e] at ha
   have:=yk 14 (by decide) (by decide) i.aq 16639 (by decide) h0 hI.2 ha
   omega
  ·rw[e] at ha
   have:=yk 15 (by decide) (by decide) i.aq 33023 (by decide) h0 hI.2 ha
   omega
theorem GK {i:IN} (h:bV i) (hs:ab i.form=21\/ab i.form=22\/ab i.form=23):0<=i.kind/\i.kind<=3/\0<=i.bE/\i.bE<=255:=by
 obtain⟨hf,h1,h2,h3,h4,h5,h6,h7,h8,h9,dd⟩:=h
 have hk:(eF (ab i.form)).kind=true:=by rcases hs with e|e|e<;>rw[e]<;>rfl
 rcases h9 with ⟨_,hb⟩|⟨hn,_⟩
 ·unfold b_ at hb; omega
 ·exact absurd hk hn
theorem GL {f:Int} (h:1<=f/\f<=3):ab f=1:=by
 rcases (show f=1\/f=2\/f=3 by omega) with rfl|rfl|rfl<;>decide
theorem GM {i:IN} (h:bV i) (hf:1<=i.form/\i.form<=3):0<=i.au/\i.au<=32:=by
 obtain⟨_,h1,h2,h3,h4,h5,h6,h7,h8,h9,dd⟩:=h
 rw[GL hf] at h7
 have e0:(eF 1).i0=0:=rfl
 have e1:(eF 1).i1=32:=rfl
 rcases h7 with ⟨_,e⟩|⟨_,a,b,_⟩<;>omega
theorem GN {i:IN} (h:bV i) (hf:i.form=86\/i.form=87):0<=i.bE/\i.bE<=3:=by
 obtain⟨_,h1,h2,h3,h4,h5,h6,h7,h8,h9,dd⟩:=h
 have hs:ab i.form=26:=by rcases hf with e|e<;>rw[e]<;>decide
 rw[hs] at h9
 have e0:(eF 26).b0=0:=rfl
 have e1:(eF 26).b1=3:=rfl
 rcases h9 with ⟨hk,_⟩|⟨_,_,⟨_,e⟩|⟨_,a,b,_⟩⟩
 ·exact absurd hk (by decide)
 ·omega
 ·omega
structure yF (s:RS):Prop where
 r:∀ k,bQ (s.R k)
 n:0<=s.N/\s.N<=1
 z:0<=s.Z/\s.Z<=1
 c:0<=s.C/\s.C<=1
 v:0<=s.V/\s.V<=1
def bD (s:RS) (i:IN):XS:=⟨i,{ s with R:=upd s.R 15 (IntKind.u32.wrap (s.R 15+IntKind.u32.wrap (iY i.form))) },s.R 15,False,0,0,0,0,0,0⟩
theorem CO {R:Nat->Int} {i v:Int} (h:∀ k,bQ (R k)) (hv:bQ v):∀ k,bQ (upd R i v k):=fun k=>by
 unfold upd; split
 ·exact hv
 ·exact h k
theorem mW {s:RS} {i:IN} (hs:yF s) (h:bV i) (hi:Rb i):nn (bD s i) where
 rd:=⟨(iU h.2.1).1,by have:=(iU h.2.1).2; show _<=(15:Int); exact Int.le_of_lt this⟩
 rn:=⟨(iU h.2.2.1).1,by have:=(iU h.2.2.1).2; show _<=(15:Int); exact Int.le_of_lt this⟩
 rm:=⟨(iU h.2.2.2.1).1,by have:=(iU h.2.2.2.1).2; show _<=(15:Int); exact Int.le_of_lt this⟩
 ra:=⟨(iU h.2.2.2.2.1).1,by have:=(iU h.2.2.2.2.1).2; show _<=(15:Int); exact Int.le_of_lt this⟩
 au:=hi i.au (by simp[uo])
 bar:=GK h
 low:=GM h
 idx:=GN h
 aq:=j1 h hi
 r:=CO hs.r (wrap_u32 _)
 n:=hs.n
 z:=hs.z
 c:=hs.c
 v:=hs.v
instance (h:Int):Decidable (en h):=by unfold en; infer_instance
def nI (fl:List Int) (a:Int):Int:=lM fl a*65536+lM fl (IntKind.u32.wrap (a+2))
noncomputable def e_ (fl:List Int) (a:Int):Int :=
 if qR fl a≠0 then qR fl a else if ¬ en (lM fl a) then KZ (lM fl a) False else if qR fl (IntKind.u32.wrap (a+2))≠0 then qR fl (IntKind.u32.wrap (a+2)) else KZ (nI fl a) True
noncomputable def dA (fl:List Int) (a:Int):IN :=
 if qR fl a≠0 then iZ else if ¬ en (lM fl a) then Gp (lM fl a) False else if qR fl (IntKind.u32.wrap (a+2))≠0 then iZ else Gp (nI fl a) True
theorem uG {fl:List Int} (hb:K9 fl) (a:Int):0<=lM fl a/\lM fl a<=65535:=by
 unfold lM
 split
 ·decide
 ·split
  ·exact K_ hb _
  ·decide
theorem A2 {fl:List Int} (hb:K9 fl) (a:Int):bits .or .u32 (lM fl a*65536) (lM fl (IntKind.u32.wrap (a+2)))=nI fl a:=by
 have b1:=uG hb a
 have b2:=uG hb (IntKind.u32.wrap (a+2))
 exact (il (lM fl (IntKind.u32.wrap (a+2))) (lM fl a) 16 (by decide) (show 0<=_/\_ < (65536:Int) by omega) (show 0<=lM fl a/\lM fl a*65536<=_ by omega)).2
theorem LV {fl:List Int} (hb:K9 fl) (a:Int):bQ (nI fl a):=by
 have b1:=uG hb a
 have b2:=uG hb (IntKind.u32.wrap (a+2))
 unfold nI bQ; omega
theorem LW (m:MS) (a:Int) (hm:LM m) (ha:bQ a):Spec gT 30 [.ptr 2 0,.int .u32 a] (stM m) [] fun y S'=>y = .tup [dE (dA m.fl a),.int .i64 (e_ m.fl a)]/\S'=stM m:=by
 have bh:=uG hm.fl a
 have uh:bQ (lM m.fl a):=⟨bh.1,by omega⟩
 have kE:e_ m.fl a=if qR m.fl a≠0 then qR m.fl a else if ¬ en (lM m.fl a) then KZ (lM m.fl a) False else if qR m.fl (IntKind.u32.wrap (a+2))≠0 then qR m.fl (IntKind.u32.wrap (a+2)) else KZ (nI m.fl a) True:=rfl
 have kI:dA m.fl a=if qR m.fl a≠0 then iZ else if ¬ en (lM m.fl a) then Gp (lM m.fl a) False else if qR m.fl (IntKind.u32.wrap (a+2))≠0 then iZ else Gp (nI m.fl a) True:=rfl
 refine Spec.lJ (Spec.enter aA P30 100 Tryz.func30 rfl (by kernel_rfl) ?_)
 refine (EA m.w m.fl a ha hm.fl hm.len).e ?_
 refine⟨fun h=>?_,fun h=>?_⟩
 ·have h':qR m.fl a≠0:=h
  rw[if_pos h'] at kE kI
  rw[kE,kI]
  exact rS
 rw[if_neg (show ¬ qR m.fl a≠0 from h)] at kE kI
 refine (AO (lM m.fl a) uh).u ?_
 refine⟨fun h1=>?_,fun h1=>?_⟩
 ·rw[if_pos (show ¬ en (lM m.fl a) from h1)] at kE kI
  rw[kE,kI]
  refine⟨[],bI,(yt (lM m.fl a) False uh).use (And.intro rfl (And.intro not_false trivial)) rfl rfl ?_⟩
  exact rS
 rw[if_neg (show ¬ ¬ en (lM m.fl a) from h1)] at kE kI
 refine .inr ?_
 refine (EA m.w m.fl (IntKind.u32.wrap (a+2)) (wrap_u32 _) hm.fl hm.len).e ?_
 refine⟨fun h=>?_,fun h=>?_⟩
 ·rw[if_pos (show qR m.fl (IntKind.u32.wrap (a+2))≠0 from h)] at kE kI
  rw[kE,kI]
  exact rS
 rw[if_neg (show ¬ qR m.fl (IntKind.u32.wrap (a+2))≠0 from h)] at kE kI
 have hw:=yt (nI m.fl a) True (LV hm.fl a)
 rw[← A2 hm.fl a] at hw
 rw[kE,kI,← A2 hm.fl a]
 refine⟨by decide,.inl ⟨ah (show 0<=lM m.fl a*65536/\lM m.fl a*65536<=_ by omega),?_⟩⟩
 refine hw.u ?_
 exact rS
def oc (m:MS) (e:Int):MS:={ m with kind:=3,code:=e }
def evP (a d w c n:Int):PV:=.agg [.int .u32 a,.int .u32 d,.int .i64 w,.int .i64 c,.int .i64 n]
theorem A3 (m:MS) (e:Int):Spec gT 31 [.ptr 2 0,.int .i64 e] (stM m) [] fun y S'=>y = .tup [evP 0 0 0 0 0,.int .i64 10]/\S'=stM (oc m e):=by
 refine Spec.lJ (Spec.enter aA P31 100 Tryz.func31 rfl (by kernel_rfl) ?_)
 exact rS
structure rW (m:MS):Prop where
 mem:LM m
 s:yF m.s
 wait:0<=m.wait/\m.wait<=7
 fP:0<=m.fP/\m.fP<=1000000000000000
structure jg (x:XS):Prop where
 s:yF x.s
 a:bQ x.a
 b:bQ x.b
 k:x.kind=0\/x.kind=1\/x.kind=2
theorem eK {x:XS} (h:jg x) (r:Int) {v:Int} (hv:bQ v):jg (dn x r v):=⟨⟨CO h.s.r hv,h.s.n,h.s.z,h.s.c,h.s.v⟩,h.a,h.b,h.k⟩
theorem LX {x:XS} (h:jg x) {v:Int} (hv:bQ v):jg (vd x v):=⟨⟨h.s.r,by unfold bQ at hv; show 0<=v / 2147483648/\v / 2147483648<=1; omega,by show 0<=(if v=0 then (1:Int) else 0)/\(if v=0 then (1:Int) else 0)<=1; split<;>omega,h.s.c,h.s.v⟩,h.a,h.b,h.k⟩
theorem PT {x:XS} (h:jg x) {c:Int} (hc:0<=c/\c<=1):jg (uz x c):=⟨⟨h.s.r,h.s.n,h.s.z,hc,h.s.v⟩,h.a,h.b,h.k⟩
theorem LY {x:XS} (h:jg x) {c o:Int} (hc:0<=c/\c<=1) (ho:0<=o/\o<=1):jg (oa x c o):=⟨⟨h.s.r,h.s.n,h.s.z,hc,ho⟩,h.a,h.b,h.k⟩
theorem X4 {x:XS} (h:jg x) (d:Int) {v w c:Int} (hv:bQ v) (hw:bQ w) (hc:0<=c):jg (kF x d v w c):=by
 have hs:bQ (Rm.ik v w c):=Rm.yh _ _ _
 have h1:jg (if eX x then oa (vd x (Rm.ik v w c)) (Rm.nk v w c) (Rm.pG v w c) else x):=by
  split
  ·exact LY (LX h hs) (Rm.D4 _ _ _ hc hv.1 hv.2 hw.1 hw.2) (Rm.N6 _ _ _)
  ·exact h
 unfold kF
 split
 ·exact eK h1 _ hs
 ·exact h1
theorem fV {x:XS} (h:jg x) (d:Int) {v c:Int} (hv:bQ v) (hc:0<=c/\c<=1):jg (dI x d v c):=by
 have h1:jg (if eX x then uz (vd x v) c else x):=by
  split
  ·exact PT (LX h hv) hc
  ·exact h
 unfold dI
 split
 ·exact eK h1 _ hv
 ·exact h1
theorem kJ {a b:Int} (ha:bQ a) (hb:bQ b):bQ (bits .and .u32 a b)/\bQ (bits .or .u32 a b)/\bQ (bits .xor .u32 a b)/\bQ (bits .andNot .u32 a b):=by
 obtain⟨a0,a1⟩:=ha
 obtain⟨b0,b1⟩:=hb
 rw[u32_and a b a0 (by omega) b0 (by omega),u32_or a b a0 (by omega) b0 (by omega),u32_xor a b a0 (by omega) b0 (by omega),u32_andNot a b a0 (by omega) b0 (by omega)]
 have h1:a.toNat &&& b.toNat < 2 ^ 32:=Nat.and_lt_two_pow _ (show b.toNat < 4294967296 by omega)
 have h2:a.toNat ||| b.toNat < 2 ^ 32:=Nat.or_lt_two_pow (show a.toNat < 4294967296 by omega) (show b.toNat < 4294967296 by omega)
 have h3:a.toNat ^^^ b.toNat < 2 ^ 32:=Nat.xor_lt_two_pow (show a.toNat < 4294967296 by omega) (show b.toNat < 4294967296 by omega)
 have h4:a.toNat &&& (4294967295 - b.toNat) < 2 ^ 32:=Nat.and_lt_two_pow _ (show 4294967295 - b.toNat < 4294967296 by omega)
 generalize a.toNat &&& b.toNat=p at h1 ⊢
 generalize a.toNat ||| b.toNat=q at h2 ⊢
 generalize a.toNat ^^^ b.toNat=r at h3 ⊢
 generalize a.toNat &&& (4294967295 - b.toNat)=t at h4 ⊢
 unfold bQ
 omega
theorem A4:bQ 0:=⟨by decide,by decide⟩
theorem PU {x:XS} (h:nn x):0<=dH x/\dH x<=1:=by
 have hc:=h.c
 unfold dH
 split
 ·exact hc
 ·split
  ·unfold Rm.iT
   have:=Rm.ub x.i.au
   split
   ·split<;>omega
   ·omega
  ·split
   ·exact Lf _ _ _ _ (bM h _)
   ·exact hc
theorem PW {x:XS} (h:jg x) (hx:nn x):jg (fy x):=by
 have f:=bJ hx
 have w:=cr hx
 have c:=hx.c
 unfold fy
 repeat' split
 all_goals first|exact h|(refine X4 h _ ?_ ?_ ?_<;>first|exact f|exact w|exact dF f|exact dF w|exact c.1|decide|exact⟨by decide,by decide⟩)
theorem GO {x:XS} (h:jg x) (hx:nn x):jg (cK x):=by
 have f:=bJ hx
 have w:=cr hx
 have c:=PU hx
 have b:=kJ f w
 have n:=dF w
 have o:=(kJ f n).2.1
 unfold cK
 split
 ·exact fV h _ w c
 split
 ·exact fV h _ n c
 split
 ·exact fV h _ b.1 c
 split
 ·exact fV h _ b.2.1 c
 split
 ·exact fV h _ b.2.2.1 c
 split
 ·exact fV h _ b.2.2.2 c
 split
 ·exact fV h _ o c
 split
 ·exact fV h _ b.1 c
 split
 ·exact fV h _ b.2.2.1 c
 ·exact h
theorem LZ {x:XS} (h:jg x) (k:Int) {v:Int} (n:Int) (hv:bQ v):jg (j9 x k v n):=fV h _ (Le _ _ _ hv) (Lf _ _ _ _ hv)
theorem GP {x:XS} (h:jg x) (hx:nn x):jg (eJ x):=by
 unfold eJ
 repeat' split
 all_goals first|exact h|exact LZ h _ _ (bM hx _)
theorem EE {x:XS} (h:jg x) {a b:Int} (ha:bQ a) (hb:bQ b):jg (wA x a b):=eK (eK h _ ha) _ hb
theorem PX {x:XS} (h:jg x) (hx:nn x):jg (fB x):=by
 have hab:jg { x with a:=aw x x.i.rn,b:=aw x x.i.rm }:=⟨h.s,bM hx _,bM hx _,h.k⟩
 unfold fB
 repeat' split
 all_goals first|exact h|exact eK (LX h (wrap_u32 _)) _ (wrap_u32 _)|exact eK h _ (Lv x)|exact eK h _ (wrap_u32 _)|exact EE h (Lv x) (Rd hx)|exact EE h (Rm.yh _ _ _) (Rm.yh _ _ _)|exact eK hab _ (wrap_u32 _)
theorem wH (r:Int) {v:Int} (hv:bQ v):bQ (im r v):=by
 unfold im
 split
 ·exact (kJ hv ⟨by decide,by decide⟩).2.2.2
 ·exact hv
theorem L0 {x:XS} (h:jg x) (hx:nn x):jg (da x):=by
 unfold da
 repeat' split
 all_goals first|exact h|exact eK h _ (wH _ (wrap_u32 _))|exact eK h _ (wH _ (bM hx _))|exact eK h _ (wrap_u32 _)|exact eK h _ (kJ (kJ (bM hx _) ⟨by decide,by decide⟩).1 (wrap_u32 _)).2.1
theorem EF {x:XS} (h:jg x) {v:Int} (hv:bQ v):jg (kG x v):=by
 unfold kG
 split
 ·exact⟨h.s,h.a,h.b,.inr (.inl rfl)⟩
 ·exact eK h _ (kJ hv ⟨by decide,by decide⟩).2.2.2
theorem L1 {x:XS} (h:jg x) (hx:nn x):jg (gg x):=by
 have ht:jg (lz x):=⟨h.s,h.a,h.b,h.k⟩
 unfold gg
 repeat' split
 all_goals first|exact h|exact ht|exact eK ht _ (wrap_u32 _)|exact eK h _ (wrap_u32 _)|exact EF h (bM hx _)|exact⟨h.s,h.a,h.b,.inr (.inr rfl)⟩
theorem L2 {x:XS} (h:jg x) (hx:nn x):jg (fN x):=by
 unfold fN
 repeat' split
 ·exact PW h hx
 ·exact GO h hx
 ·exact GP h hx
 ·exact PX h hx
 ·exact L0 h hx
 ·exact L1 h hx
theorem mX {x:XS} (h:jg x) (a n:Int):jg (dW x a n):=⟨h.s,h.a,h.b,h.k⟩
theorem CP {m:MS} (hm:LM m) (a:Int):bQ (wB m.fl m.w a):=by
 unfold wB
 split
 ·exact⟨by decide,by decide⟩
 ·split
  ·exact hm.w _
  ·split
   ·have b1:=K_ hm.fl (fM a)
    have b2:=K_ hm.fl (fM a+2)
    unfold bQ; omega
   ·exact⟨by decide,by decide⟩
theorem X5 {m:MS} {x:XS} (hm:LM m) (h:jg x) (a:Int):jg (lN m x a):=by
 unfold lN
 repeat' split
 ·exact mX h _ _
 ·exact eK (mX h _ _) _ (CP hm _)
 ·exact mX h _ _
theorem PY {m:MS} {x:XS} (h:jg x):jg (nG m x):=by
 unfold nG
 split
 ·exact eK (mX h _ _) _ (wrap_u32 _)
 ·exact mX h _ _
theorem L3 {m:MS} (hm:LM m) {x:XS} (h:jg x) (a:Int):∀ r,jg (cq m x a r).1
 | 0=>h
 | r+1=>by
  have ih:=L3 hm h a r
  rw[cq]
  split
  ·exact ih
  ·split
   ·exact ih
   ·split
    ·exact ih
    ·split
     ·exact EF ih (CP hm _)
     ·exact eK ih _ (CP hm _)
theorem X6 {m:MS} (hm:LM m) {x:XS} (h:jg x) (hx:nn x):jg (vi m x):=by
 have h1:=L3 hm (mX h (aw x 13) (cu x.i.aq)) (aw x 13) 16
 have h2:=(yB (m:=m) (x:=dW x (aw x 13) (cu x.i.aq)) (bM hx 13) 16).1
 unfold vi
 split
 ·exact eK h1 _ h2
 ·exact h1
theorem EG {m:MS} (hm:LM m) {x:XS} (h:jg x) (hx:nn x):jg (jN m x):=by
 unfold jN
 repeat' split
 ·exact X5 hm h _
 ·exact PY h
 ·exact X6 hm h hx
 ·exact L2 h hx
theorem pY {s:RS} (hs:yF s) (i:IN):jg (bD s i):=⟨⟨CO hs.r (wrap_u32 _),hs.n,hs.z,hs.c,hs.v⟩,A4,A4,.inl rfl⟩
theorem pZ {w:Int} {wide:Prop} (h:KZ w wide=0):bV (Gp w wide)/\Rb (Gp w wide)/\fx wide (Gp w wide).form:=by
 unfold KZ at h
 split at h
 ·rename_i hf
  obtain⟨f,hf⟩:=hf
  have e:=qH hf
  rw[e]
  have hI:D5 f:=by have:=hf.1; unfold fx at this; unfold D5; omega
  refine⟨hf.2.1.1,En hI,?_⟩
  have:(aX f w).form=f:=rfl
  rw[this]; exact hf.1
 ·cases h
theorem mY {fl:List Int} {a:Int} (h:e_ fl a=0):bV (dA fl a)/\Rb (dA fl a):=by
 unfold e_ at h
 unfold dA
 split at h
 ·rename_i h1; exact absurd h h1
 ·rename_i h1
  rw[if_neg h1]
  split at h
  ·rename_i h2
   rw[if_pos h2]
   exact⟨(pZ h).1,(pZ h).2.1⟩
  ·rename_i h2
   rw[if_neg h2]
   split at h
   ·rename_i h3; exact absurd h h3
   ·rename_i h3
    rw[if_neg h3]
    exact⟨(pZ h).1,(pZ h).2.1⟩
theorem PZ {i:IN} (h:bV i):iY i.form=2\/iY i.form=4:=by
 have:=h.1
 unfold iY
 split
 ·exact .inr rfl
 ·split
  ·exact .inl rfl
  ·omega
theorem yG (i:IN) (t:Prop) [Decidable t] {a b:Int} (ha:bQ a) (hb:bQ b) (h0:0<=i.aq) (h1:i.aq<=65535):1<=cT i t a b/\cT i t a b<=20:=by
 have e1:=uE ha.2
 have e2:=qG i.aq h0 h1
 unfold cT
 repeat' split
 all_goals first|omega|(unfold nH; split<;>omega)|(unfold divC; split<;>omega)
theorem yH (full:Prop) [Decidable full] (line a n:Int):0<=yE full line a n/\yE full line a n<=2:=by
 have b1:=pX full line (fG a)
 have b2:=pX True (fG a) (fG (IntKind.u32.wrap (a+2)))
 unfold yE
 split<;>omega
theorem CQ {n w:Int} (hn:0<=n/\n<=2) (hw:0<=w/\w<=7):0<=n*w/\n*w<=14:=by
 rcases (show n=0\/n=1\/n=2 by omega) with rfl|rfl|rfl<;>omega
open Classical in
noncomputable def dK (m:MS):Int:=cT (dA m.fl (m.s.R 15)) (jN m (bD m.s (dA m.fl (m.s.R 15)))).taken (jN m (bD m.s (dA m.fl (m.s.R 15)))).a (jN m (bD m.s (dA m.fl (m.s.R 15)))).b
open Classical in
noncomputable def du (m:MS):Int:=yE m.full m.line (m.s.R 15) (iY (dA m.fl (m.s.R 15)).form)
noncomputable def A5 (m:MS):XS:=jN m (bD m.s (dA m.fl (m.s.R 15)))
noncomputable def p5 (m:MS):MS:=⟨vj m (bD m.s (dA m.fl (m.s.R 15))),m.fl,m.wait,(A5 m).s,True,GI (m.s.R 15) (iY (dA m.fl (m.s.R 15)).form),m.fP+(dK m+du m*m.wait),(A5 m).kind,(A5 m).code⟩
noncomputable def oe (m:MS):Int:=qa m (bD m.s (dA m.fl (m.s.R 15)))
noncomputable def iq (m:MS):Int:=if m.kind≠0 then 71 else if e_ m.fl (m.s.R 15)≠0 then 10 else if oe m≠0 then 10 else 0
noncomputable def cM (m:MS):MS:=if m.kind≠0 then m else if e_ m.fl (m.s.R 15)≠0 then oc m (e_ m.fl (m.s.R 15)) else if oe m≠0 then oc (lF m (vj m (bD m.s (dA m.fl (m.s.R 15))))) (oe m) else p5 m
noncomputable def evA (m:MS):Int:=if iq m≠0 then 0 else m.s.R 15
noncomputable def evD (m:MS):Int:=if iq m≠0 then 0 else (A5 m).data
noncomputable def evW (m:MS):Int:=if iq m≠0 then 0 else (A5 m).words
noncomputable def EH (m:MS):Int:=if iq m≠0 then 0 else dK m
noncomputable def Bk (m:MS):Int:=if iq m≠0 then 0 else du m
noncomputable def X7 (m:MS):PV:=evP (evA m) (evD m) (evW m) (EH m) (Bk m)
theorem P1 (m:MS):X7 m=if iq m≠0 then evP 0 0 0 0 0 else evP (m.s.R 15) (A5 m).data (A5 m).words (dK m) (du m):=by
 unfold X7 evA evD evW EH Bk
 split<;>rfl
open Classical in
theorem gS (m:MS) (hm:rW m):Spec gT 16 [.ptr 2 0] (stM m) [] fun y S'=>y = .tup [X7 m,.int .i64 (iq m)]/\S'=stM (cM m):=by
 have kE:iq m=if m.kind≠0 then 71 else if e_ m.fl (m.s.R 15)≠0 then 10 else if oe m≠0 then 10 else 0:=rfl
 have kM:cM m=if m.kind≠0 then m else if e_ m.fl (m.s.R 15)≠0 then oc m (e_ m.fl (m.s.R 15)) else if oe m≠0 then oc (lF m (vj m (bD m.s (dA m.fl (m.s.R 15))))) (oe m) else p5 m:=rfl
 have kV:=P1 m
 refine Spec.lJ (Spec.enter aA P16 100 Tryz.func16 rfl (by kernel_rfl) ?_)
 refine⟨fun h=>?_,fun h=>?_⟩
 ·have h':m.kind≠0:=h
  rw[if_pos h'] at kE kM
  rw[kE,if_pos (by decide)] at kV
  rw[kV,kE,kM]
  exact rS
 rw[if_neg (show ¬ m.kind≠0 from h)] at kE kM
 refine (LW m (m.s.R 15) hm.mem (hm.s.r 15)).e ?_
 refine⟨fun h=>?_,fun h=>?_⟩
 ·have h':e_ m.fl (m.s.R 15)≠0:=h
  rw[if_pos h'] at kE kM
  rw[kE,if_pos (by decide)] at kV
  rw[kV,kE,kM]
  refine (A3 m (e_ m.fl (m.s.R 15))).e ?_
  exact rS
 have hf:e_ m.fl (m.s.R 15)=0:=Classical.not_not.1 h
 rw[if_neg (show ¬ e_ m.fl (m.s.R 15)≠0 from h)] at kE kM
 obtain⟨hr,L4⟩:=mY hf
 have hx:=mW hm.s hr L4
 have hy:=EG hm.mem (pY hm.s (dA m.fl (m.s.R 15))) hx
 have eL:=PZ hr
 have MN:=j1 hr L4
 have hdo:=do_ok m (bD m.s (dA m.fl (m.s.R 15))) hm.mem hx
 refine (mA (dA m.fl (m.s.R 15))).u ?_
 refine .inr ?_
 refine .inr ?_
 refine⟨[],bI,(hdo).useP [0,1,2,5] rfl rfl rfl (by repeat' first|exact trivial|exact rfl|exact Iff.rfl|refine And.intro ?_ ?_) (And.intro (by first|(show gN _ _; exact bd rfl rfl)|(repeat' first|exact trivial|exact rfl|exact Iff.rfl|exact Or.inl rfl|exact not_false|refine And.intro ?_ ?_)) (And.intro (by first|(show gN _ _; exact bd rfl rfl)|(repeat' first|exact trivial|exact rfl|exact Iff.rfl|exact Or.inl rfl|exact not_false|refine And.intro ?_ ?_)) (And.intro (by first|(show gN _ _; exact bd rfl rfl)|(repeat' first|exact trivial|exact rfl|exact Iff.rfl|exact Or.inl rfl|exact not_false|refine And.intro ?_ ?_)) (And.intro (by first|(show gN _ _; exact bd rfl rfl)|(repeat' first|exact trivial|exact rfl|exact Iff.rfl|exact Or.inl rfl|exact not_false|refine And.intro ?_ ?_)) ?_))))⟩
 refine⟨fun h=>?_,fun h=>?_⟩
 ·have h':oe m≠0:=h
  rw[if_pos h'] at kE kM
  rw[kE,if_pos (by decide)] at kV
  rw[kV,kE,kM]
  refine (A3 (lF m (vj m (bD m.s (dA m.fl (m.s.R 15))))) (oe m)).e ?_
  exact rS
 rw[if_neg (show ¬ oe m≠0 from h)] at kE kM
 rw[kE,if_neg (by decide)] at kV
 rw[kV,kE,kM]
 have hba:=GH (dA m.fl (m.s.R 15)) (jN m (bD m.s (dA m.fl (m.s.R 15)))).taken (jN m (bD m.s (dA m.fl (m.s.R 15)))).a (jN m (bD m.s (dA m.fl (m.s.R 15)))).b hr (L4 _ (by simp[uo])) MN.1 MN.2 hy.a hy.b
 have X8:=CN m.full m.line (m.s.R 15) (iY (dA m.fl (m.s.R 15)).form) (hm.s.r 15) eL
 refine hba.u ?_
 refine (mA (dA m.fl (m.s.R 15))).u ?_
 refine X8.u ?_
 have hmi:=yH m.full m.line (m.s.R 15) (iY (dA m.fl (m.s.R 15)).form)
 have hbb:=yG (dA m.fl (m.s.R 15)) (jN m (bD m.s (dA m.fl (m.s.R 15)))).taken hy.a hy.b MN.1 MN.2
 have NI:=CQ hmi hm.wait
 have hcy:=hm.fP
 refine And.intro ?_ ?_
 ·refine And.intro ?_ ?_
  ·refine li ?_ (show _<=du m*m.wait/\du m*m.wait<=_ by unfold du; omega)
   refine li ?_ (show _<=dK m+du m*m.wait/\dK m+du m*m.wait<=_ by unfold du dK; omega)
   refine li ?_ (show _<=m.fP+(dK m+du m*m.wait)/\m.fP+(dK m+du m*m.wait)<=_ by unfold du dK; omega)
   exact rS
  ·refine And.intro ?_ ?_
   ·refine (mA (dA m.fl (m.s.R 15))).u ?_
    refine X8.u ?_
    exact rfl
   ·first|exact trivial|((conv=>whnf); exact trivial)
 ·refine And.intro ?_ ?_
  ·refine X8.u ?_
   exact rfl
  ·first|exact trivial|((conv=>whnf); exact trivial)
def yI (s:RS):RS:={ s with N:=min s.N 1,Z:=min s.Z 1,C:=min s.C 1,V:=min s.V 1 }
def yJ (m:MS) (s:RS):MS:={ m with s:=yI s }
def haltP (k c:Int):PV:=.agg [.int .i64 k,.int .i64 c]
theorem L5 (m:MS) (s:RS):Spec gT 7 [.ptr 2 0,uw s] (stM m) [] fun y S'=>y = .tup []/\S'=stM (yJ m s):=by
 refine Spec.lJ (Spec.enter aA P7 100 Tryz.func7 rfl (by kernel_rfl) ?_)
 exact rS
theorem L6 (m:MS):Spec gT 29 [.ptr 2 0] (stM m) [] fun y S'=>y=uw m.s/\S'=stM m:=by
 refine Spec.lJ (Spec.enter aA P29 100 Tryz.func29 rfl (by kernel_rfl) ?_)
 exact rS
theorem sA (m:MS):Spec gT 10 [.ptr 2 0] (stM m) [] fun y S'=>y=haltP m.kind m.code/\S'=stM m:=by
 refine Spec.lJ (Spec.enter aA P10 100 Tryz.func10 rfl (by kernel_rfl) ?_)
 exact rS
theorem mZ (m:MS):Spec gT 11 [.ptr 2 0] (stM m) [] fun y S'=>y = .int .i64 m.fP/\S'=stM m:=by
 refine Spec.lJ (Spec.enter aA P11 100 Tryz.func11 rfl (by kernel_rfl) ?_)
 exact rS
def rs0:RS:=⟨fun _=>0,0,0,0,0⟩
def qo (fl:List Int) (wait:Int):MS:=⟨fun _=>0,fl,wait,rs0,False,0,0,0,0⟩
theorem wI:List.replicate 65536 (PV.int .u8 0)=iV fun _=>0:=by
 refine List.ext_getElem? fun k=>?_
 rw[AY,List.getElem?_replicate]
 split
 ·unfold pU lL; rw[Int.zero_ediv]; rfl
 ·rfl
theorem uH (fl:List Int) (hl:fl.length<=65536):al gT 15 [.sl 1 (lR fl)] (.sl 1 (lR fl)):=by
 have el:(lR fl).length=fl.length:=List.length_map ..
 have hm:0+(lR fl).length<=maxLen:=by rw[el]; unfold maxLen; omega
 have hb:(0+(lR fl).length)*1<=140737488355328:=by rw[el]; omega
 refine Spec.enter aA P15 100 Tryz.func15 rfl (by kernel_rfl) ?_
 by_cases h:fl = []
 ·subst h
  refine .inr (And.intro ?_ ?_)
  ·exact aF (show (lR []) = [] from rfl)
  ·refine⟨hm,hb,?_⟩
   exact aF rfl
 ·refine .inl ⟨by rw[el]; exact fun e=>h (List.eq_nil_of_length_eq_zero e),?_⟩
  refine⟨hm,hb,?_⟩
  exact aF rfl
theorem GQ (p b q:List Int) (k:Nat) (h:k < b.length):(p++b++q).getD (p.length+k) 0=b.getD k 0:=by
 rw[List.getD_eq_getElem?_getD,List.getD_eq_getElem?_getD,List.append_assoc,List.getElem?_append_right (by omega),Nat.add_sub_cancel_left,List.getElem?_append_left h]
theorem P2 (p q:List Int) (i:IN) (h:bV i) (hg:i.aq<=9223372036854775807):atI (p++K8 i++q) p.length=i/\atE (p++K8 i++q) p.length=0:=by
 have fst:=Em i h hg
 have bk:=back i h hg
 have wb:=O_ i
 have tw:=K7 i h
 have tn:=CH i h
 have f1:=h.1
 unfold bQ at wb
 have g:=GQ p (K8 i) q
 have el0:(p++K8 i++q).length=p.length+(K8 i).length+q.length:=by rw[List.length_append,List.length_append]
 generalize gE:K8 i=b at g el0 ⊢
 by_cases Bi:48<=i.form
 ·have eb:b = [bx i / 65536 % 256,bx i / 16777216 % 256,bx i % 256,bx i / 256 % 256]:=by rw[← gE]; unfold K8; rw[if_pos Bi]; rfl
  subst eb
  have el:(p++[bx i / 65536 % 256,bx i / 16777216 % 256,bx i % 256,bx i / 256 % 256]++q).length=p.length+4+q.length:=el0
  generalize p++[bx i / 65536 % 256,bx i / 16777216 % 256,bx i % 256,bx i / 256 % 256]++q=l at g el ⊢
  have g0:=g 0 (by simp)
  have g1:=g 1 (by simp)
  have g2:=g 2 (by simp)
  have g3:=g 3 (by simp)
  have k0:hN l p.length=bx i / 65536:=by
   unfold hN
   rw[Nat.add_zero] at g0
   rw[g0,g1]
   show bx i / 65536 % 256+bx i / 16777216 % 256*256=_
   omega
  have k2:hN l (p.length+2)=bx i % 65536:=by
   unfold hN
   rw[g2,g3]
   show bx i % 256+bx i / 256 % 256*256=_
   omega
  have kW:hW l p.length=bx i:=by unfold hW; rw[k0,k2]; omega
  have hb:¬ ¬ en (hN l p.length):=by
   have:=tw Bi
   rw[k0]; unfold en; omega
  have e:(48<=i.form)=True:=eq_true Bi
  rw[e] at fst
  unfold atI atE
  rw[if_neg (by omega),if_neg hb,if_neg (by omega),if_neg (by omega),if_neg hb,if_neg (by omega),kW,qH fst,uu fst,bk]
  exact⟨rfl,rfl⟩
 ·have eb:b = [bx i % 256,bx i / 256 % 256]:=by rw[← gE]; unfold K8; rw[if_neg Bi]; rfl
  subst eb
  have el:(p++[bx i % 256,bx i / 256 % 256]++q).length=p.length+2+q.length:=el0
  generalize p++[bx i % 256,bx i / 256 % 256]++q=l at g el ⊢
  have tn':=tn Bi
  have g0:=g 0 (by simp)
  have g1:=g 1 (by simp)
  have k0:hN l p.length=bx i:=by
   unfold hN
   rw[Nat.add_zero] at g0
   rw[g0,g1]
   show bx i % 256+bx i / 256 % 256*256=_
   omega
  have hb:¬ en (hN l p.length):=by rw[k0]; unfold en; omega
  have e:(48<=i.form)=False:=eq_false Bi
  rw[e] at fst
  unfold atI atE
  rw[if_neg (by omega),if_pos hb,if_neg (by omega),if_pos hb,k0,qH fst,uu fst,bk]
  exact⟨rfl,rfl⟩
theorem X9 {fl:List Int} {n:Nat} (hn:n % 2=0) (hl:fl.length<=65536) (h:atE fl n=0):e_ fl (134217728+(n:Int))=0/\dA fl (134217728+(n:Int))=atI fl n:=by
 have e0:fM (134217728+(n:Int))=n:=by unfold fM; omega
 have h2:¬ (134217728+(n:Int)) % 2≠0:=by omega
 unfold atE at h
 split at h
 ·cases h
 ·rename_i h1
  have f1:mC fl (134217728+(n:Int)) 2:=⟨by omega,by omega⟩
  have k1:qR fl (134217728+(n:Int))=0:=by unfold qR; rw[if_neg h2,if_pos f1]
  have k2:lM fl (134217728+(n:Int))=hN fl n:=by unfold lM; rw[if_neg h2,if_pos f1,e0]
  unfold e_ dA atI
  rw[k1,k2,if_neg (show ¬ (0:Int)≠0 by decide),if_neg (show ¬ (0:Int)≠0 by decide),if_neg h1]
  split at h
  ·rename_i hb
   rw[if_pos hb,if_pos hb,if_pos hb]
   exact⟨h,rfl⟩
  ·rename_i hb
   rw[if_neg hb,if_neg hb,if_neg hb]
   split at h
   ·cases h
   ·rename_i h4
    have ew:IntKind.u32.wrap (134217728+(n:Int)+2)=134217728+((n+2:Nat):Int):=by rw[IntKind.wrap_u32']; omega
    have e1:fM (134217728+((n+2:Nat):Int))=n+2:=by unfold fM; omega
    have h3:¬ (134217728+((n+2:Nat):Int)) % 2≠0:=by omega
    have f2:mC fl (134217728+((n+2:Nat):Int)) 2:=⟨by omega,by omega⟩
    have k3:qR fl (134217728+((n+2:Nat):Int))=0:=by unfold qR; rw[if_neg h3,if_pos f2]
    have k4:lM fl (134217728+((n+2:Nat):Int))=hN fl (n+2):=by unfold lM; rw[if_neg h3,if_pos f2,e1]
    have kh:nI fl (134217728+(n:Int))=hW fl n:=by unfold nI; rw[k2,ew,k4]; rfl
    rw[ew,k3,if_neg (show ¬ (0:Int)≠0 by decide),if_neg (show ¬ (0:Int)≠0 by decide),if_neg h4,kh]
    exact⟨h,rfl⟩
theorem iB (p q:List Int) (i:IN) (h:bV i) (hi:Rb i) (hp:p.length % 2=0) (hl:(p++K8 i++q).length<=65536):e_ (p++K8 i++q) (134217728+(p.length:Int))=0/\dA (p++K8 i++q) (134217728+(p.length:Int))=i:=by
 have hI:=hi i.aq (by simp[uo])
 obtain⟨h1,h2⟩:=P2 p q i h hI.2
 obtain⟨h3,h4⟩:=X9 hp hl h2
 exact⟨h3,h4.trans h1⟩
theorem P' {w:Nat->Int} (h:∀ k,bQ (w k)) (j:Nat) {x:Int} (hx:bQ x):∀ k,bQ (vf w j x k):=fun k=>by
 unfold vf; split
 ·exact hx
 ·exact h k
theorem L7 {w:Nat->Int} (h:∀ k,bQ (w k)) (a:Int) {x:Int} (hx:bQ x):∀ k,bQ (Bj w a x k):=by
 unfold Bj; split
 ·exact P' h _ hx
 ·exact h
theorem EI {x:XS} (hx:nn x) {w:Nat->Int} (h:∀ k,bQ (w k)) (a:Int):∀ r k,bQ ((ch x w a r).1 k)
 | 0,k=>h k
 | r+1,k=>by
  have ih:=EI hx h a r
  rw[ch]
  split
  ·exact ih k
  ·split
   ·exact ih k
   ·split
    ·exact ih k
    ·exact L7 ih _ (bM hx _) k
theorem X' {m:MS} (hm:LM m) {x:XS} (hx:nn x):∀ k,bQ (vj m x k):=by
 unfold vj
 split
 ·unfold mF
  split
  ·exact L7 hm.w _ (bM hx _)
  ·exact hm.w
 ·split
  ·exact EI hx hm.w _ 15
  ·exact hm.w
open Classical in
theorem EJ {m:MS} (hm:rW m) (hc:m.fP<=999999999999900):rW (cM m)/\m.fP<=(cM m).fP/\(cM m).fP<=m.fP+34/\(iq m=0->m.fP < (cM m).fP)/\(cM m).wait=m.wait/\(cM m).fl=m.fl:=by
 unfold cM
 split
 ·rename_i hk
  exact⟨hm,Int.le_refl _,by omega,fun h=>absurd h (by unfold iq; rw[if_pos hk]; decide),rfl,rfl⟩
 rename_i hk
 split
 ·rename_i hf
  exact⟨⟨⟨hm.mem.w,hm.mem.fl,hm.mem.len⟩,hm.s,hm.wait,hm.fP⟩,Int.le_refl _,by show m.fP<=_; omega,fun h=>absurd h (by unfold iq; rw[if_neg hk,if_pos hf]; decide),rfl,rfl⟩
 rename_i hf
 obtain⟨hr,L4⟩:=mY (Classical.not_not.1 hf)
 have hx:=mW hm.s hr L4
 have hy:=EG hm.mem (pY hm.s (dA m.fl (m.s.R 15))) hx
 have hw:=X' hm.mem hx
 split
 ·rename_i hd
  exact⟨⟨⟨hw,hm.mem.fl,hm.mem.len⟩,hm.s,hm.wait,hm.fP⟩,Int.le_refl _,by show m.fP<=_; omega,fun h=>absurd h (by unfold iq; rw[if_neg hk,if_neg hf,if_pos hd]; decide),rfl,rfl⟩
 ·have MN:=j1 hr L4
  have hb:1<=dK m/\dK m<=20:=by unfold dK; exact yG _ _ hy.a hy.b MN.1 MN.2
  have hmi:0<=du m/\du m<=2:=by unfold du; exact yH _ _ _ _
  have NI:=CQ hmi hm.wait
  have hcy:=hm.fP
  have e:(p5 m).fP=m.fP+(dK m+du m*m.wait):=rfl
  exact⟨⟨⟨hw,hm.mem.fl,hm.mem.len⟩,hy.s,hm.wait,by show 0<=(p5 m).fP/\(p5 m).fP<=_; rw[e]; omega⟩,by rw[e]; omega,by rw[e]; omega,fun _=>by rw[e]; omega,rfl,rfl⟩
theorem X_:yF rs0:=⟨fun _=>A4,⟨Int.le_refl _,Int.zero_le_ofNat 1⟩,⟨Int.le_refl _,Int.zero_le_ofNat 1⟩,⟨Int.le_refl _,Int.zero_le_ofNat 1⟩,⟨Int.le_refl _,Int.zero_le_ofNat 1⟩⟩
theorem GR {s:RS} (h:∀ k,bQ (s.R k)) (hn:0<=s.N) (hz:0<=s.Z) (hc:0<=s.C) (hv:0<=s.V):yF (yI s):=⟨h,by show 0<=min s.N 1/\min s.N 1<=1; omega,by show 0<=min s.Z 1/\min s.Z 1<=1; omega,by show 0<=min s.C 1/\min s.C 1<=1; omega,by show 0<=min s.V 1/\min s.V 1<=1; omega⟩
theorem L8 {fl:List Int} {wait:Int} (hb:K9 fl) (hl:fl.length<=65536) (hw:0<=wait/\wait<=7):rW (qo fl wait):=⟨⟨fun _=>A4,hb,hl⟩,X_,hw,by show 0<=(0:Int)/\(0:Int)<=_; decide⟩
theorem EK {m:MS} (hm:rW m) {s:RS} (h:yF (yI s)):rW (yJ m s):=⟨⟨hm.mem.w,hm.mem.fl,hm.mem.len⟩,h,hm.wait,hm.fP⟩
abbrev uI (t:TypeId) (cs:List PV):aj:=⟨.loc,t,1,.w,true,cs⟩
abbrev stD (o:Nat) (m:MS):List aj:=[CI m.w,uI 63 [.sl 1 (lR m.fl),.wref o],uI 67 (.ptr (o+1) 0::(Lc m).cs.tail)]
open Classical in
theorem Ya {m:MS} {i:IN} (hk:m.kind=0) (hf:e_ m.fl (m.s.R 15)=0) (hi:dA m.fl (m.s.R 15)=i) (hd:qa m (bD m.s i)=0) :
  iq m=0/\(cM m).w=vj m (bD m.s i)/\(cM m).s=(jN m (bD m.s i)).s/\(cM m).kind=(jN m (bD m.s i)).kind/\(cM m).fP=m.fP+(cT i (jN m (bD m.s i)).taken (jN m (bD m.s i)).a (jN m (bD m.s i)).b+du m*m.wait):=by
 have ji:¬ m.kind≠0:=fun h=>h hk
 have hf':¬ e_ m.fl (m.s.R 15)≠0:=fun h=>h hf
 have Y6:¬ oe m≠0:=by unfold oe; rw[hi]; exact fun h=>h hd
 have e:cM m=p5 m:=by unfold cM; rw[if_neg ji,if_neg hf',if_neg Y6]
 refine⟨by unfold iq; rw[if_neg ji,if_neg hf',if_neg Y6],?_⟩
 rw[e]
 unfold p5 A5 dK
 rw[hi]
 exact⟨rfl,rfl,rfl,rfl⟩
def kO:List Int:=[240,181,130,176,0,144,0,152,1,33,66,24,1,146,1,152,2,176,240,189,1,190,2,190]
def GS:IN:=⟨42,0,0,0,0,0,0,0,0,0,16624⟩
def Hg:IN:=⟨41,0,0,0,0,8,0,0,0,0,0⟩
def Hh:IN:=⟨37,0,0,0,0,0,0,0,0,0,0⟩
def Hi:IN:=⟨38,0,0,0,0,0,0,0,0,0,0⟩
def Hj:IN:=⟨8,1,0,0,0,1,0,0,0,0,0⟩
def Hk:IN:=⟨4,2,0,1,0,0,0,0,0,0,0⟩
def Hl:IN:=⟨37,2,0,0,0,4,0,0,0,0,0⟩
def Hm:IN:=⟨38,0,0,0,0,4,0,0,0,0,0⟩
def Hn:IN:=⟨40,0,0,0,0,8,0,0,0,0,0⟩
def Ho:IN:=⟨43,0,0,0,0,0,0,0,0,0,33008⟩
def aI:Nat->IN
 | 0=>GS
 | 1=>Hg
 | 2=>Hh
 | 3=>Hi
 | 4=>Hj
 | 5=>Hk
 | 6=>Hl
 | 7=>Hm
 | 8=>Hn
 | 9=>Ho
 | _=>GS
def aM (w:Nat->Int) (s:RS):MS:=⟨w,kO,0,s,False,0,0,0,0⟩
def aR:Nat->Int
 | 0=>41
 | 13=>536936448
 | 14=>4294967295
 | 15=>134217728
 | _=>0
def Yb:RS:=⟨aR,0,0,0,0⟩
def aN:Nat->(Nat->Int) × RS
 | 0=>(fun _=>0,Yb)
 | k+1=>(vj (aM (aN k).1 (aN k).2) (bD (aN k).2 (aI k)),(jN (aM (aN k).1 (aN k).2) (bD (aN k).2 (aI k))).s)
structure Bl (k:Nat) (m:MS):Prop where
 ok:rW m
 w:m.w=(aN k).1
 fl:m.fl=kO
 wait:m.wait=0
 s:m.s=(aN k).2
 kind:m.kind=0
 fP:m.fP<=10*(k:Int)
theorem EL {m m':MS} (hw:m.w=m'.w) (hf:m.fl=m'.fl) (x:XS) (a:Int):∀ r,cq m x a r=cq m' x a r
 | 0=>rfl
 | r+1=>by rw[cq,cq,EL hw hf x a r,hw,hf]
theorem do_eq {m m':MS} (hw:m.w=m'.w) (hf:m.fl=m'.fl) (x:XS):qa m x=qa m' x/\vj m x=vj m' x/\jN m x=jN m' x:=by
 have hp:qS m x=qS m' x:=EL hw hf _ _ _
 have hu:jZ m x=jZ m' x:=by unfold jZ; rw[hw]
 refine⟨?_,?_,?_⟩
 ·unfold qa np; rw[hp,hu,hf]
 ·unfold vj mF; rw[hu,hw]
 ·unfold jN lN nG vi; rw[hp,hu,hf,hw]
theorem do_aM {m:MS} {k:Nat} (h:Bl k m) (x:XS):qa m x=qa (aM (aN k).1 (aN k).2) x/\vj m x=vj (aM (aN k).1 (aN k).2) x/\jN m x=jN (aM (aN k).1 (aN k).2) x:=do_eq (m':=aM (aN k).1 (aN k).2) h.w h.fl x
open Classical in
theorem L9 {m:MS} {k:Nat} {i:IN} (h:Bl k m) (hi:aI k=i) (hk:k<=9) (hf:e_ kO ((aN k).2.R 15)=0/\dA kO ((aN k).2.R 15)=i) (hd:qa (aM (aN k).1 (aN k).2) (bD (aN k).2 i)=0) (hb:∀ (t:Prop) [Decidable t] a b,cT i t a b<=10) :
  iq m=0/\rW (cM m)/\(cM m).w=(aN (k+1)).1/\(cM m).fl=kO/\(cM m).wait=0/\(cM m).s=(aN (k+1)).2/\(cM m).kind=(jN (aM (aN k).1 (aN k).2) (bD (aN k).2 i)).kind/\(cM m).fP<=10*((k+1:Nat):Int):=by
 subst hi
 obtain⟨d1,d2,d3⟩:=do_aM h (bD (aN k).2 (aI k))
 have hs:=h.s
 have hc:=h.fP
 obtain⟨e,e1,e2,e3,e4⟩:=Ya (m:=m) (i:=aI k) h.kind (by rw[h.fl,hs]; exact hf.1) (by rw[h.fl,hs]; exact hf.2) (by rw[hs,d1]; exact hd)
 rw[hs,d3] at e2 e3 e4
 rw[hs,d2] at e1
 obtain⟨hM,_,_,_,hw,YL⟩:=EJ h.ok (by omega)
 refine⟨e,hM,e1,YL.trans h.fl,hw.trans h.wait,e2,e3,?_⟩
 rw[e4,h.wait,Int.mul_zero,Int.add_zero]
 have:=hb (jN (aM (aN k).1 (aN k).2) (bD (aN k).2 (aI k))).taken (jN (aM (aN k).1 (aN k).2) (bD (aN k).2 (aI k))).a (jN (aM (aN k).1 (aN k).2) (bD (aN k).2 (aI k))).b
 omega
theorem ez {i:IN} (h:(uo i).all (fun x=>decide (-9223372036854775808<=x/\x<=9223372036854775807))=true):Rb i:=fun x hx=>by
 rw[List.all_eq_true] at h
 have h1:=h x hx
 simp only[decide_eq_true_eq] at h1
 exact h1
theorem wJ:bV GS:=by
 refine⟨by decide +kernel,?_,?_,?_,?_,?_,by decide +kernel,?_,by decide +kernel,?_,?_⟩
 all_goals first|(unfold gQ; decide +kernel)|(unfold dV; decide +kernel)|(unfold dz; decide +kernel)|(unfold fu b_ dz; decide +kernel)|(unfold fv; decide +kernel)
theorem aFl0:e_ kO ((aN 0).2.R 15)=0/\dA kO ((aN 0).2.R 15)=GS:=by
 have h:=iB [] [130,176,0,144,0,152,1,33,66,24,1,146,1,152,2,176,240,189,1,190,2,190] GS wJ (ez (by decide)) (by decide) (by decide)
 exact h
theorem aD0:qa (aM (aN 0).1 (aN 0).2) (bD (aN 0).2 GS)=0/\(jN (aM (aN 0).1 (aN 0).2) (bD (aN 0).2 GS)).kind=0:=⟨by kernel_rfl,by kernel_rfl⟩
theorem aB0 (t:Prop) [Decidable t] (a b:Int):cT GS t a b<=10:=by
 have e:cT GS t a b=6:=by kernel_rfl
 omega
theorem wK:bV Hg:=by
 refine⟨by decide +kernel,?_,?_,?_,?_,?_,by decide +kernel,?_,by decide +kernel,?_,?_⟩
 all_goals first|(unfold gQ; decide +kernel)|(unfold dV; decide +kernel)|(unfold dz; decide +kernel)|(unfold fu b_ dz; decide +kernel)|(unfold fv; decide +kernel)
theorem aFl1:e_ kO ((aN 1).2.R 15)=0/\dA kO ((aN 1).2.R 15)=Hg:=by
 have h:=iB [240,181] [0,144,0,152,1,33,66,24,1,146,1,152,2,176,240,189,1,190,2,190] Hg wK (ez (by decide)) (by decide) (by decide)
 exact h
theorem aD1:qa (aM (aN 1).1 (aN 1).2) (bD (aN 1).2 Hg)=0/\(jN (aM (aN 1).1 (aN 1).2) (bD (aN 1).2 Hg)).kind=0:=⟨by kernel_rfl,by kernel_rfl⟩
theorem aB1 (t:Prop) [Decidable t] (a b:Int):cT Hg t a b<=10:=by
 have e:cT Hg t a b=1:=by kernel_rfl
 omega
theorem wL:bV Hh:=by
 refine⟨by decide +kernel,?_,?_,?_,?_,?_,by decide +kernel,?_,by decide +kernel,?_,?_⟩
 all_goals first|(unfold gQ; decide +kernel)|(unfold dV; decide +kernel)|(unfold dz; decide +kernel)|(unfold fu b_ dz; decide +kernel)|(unfold fv; decide +kernel)
theorem aFl2:e_ kO ((aN 2).2.R 15)=0/\dA kO ((aN 2).2.R 15)=Hh:=by
 have h:=iB [240,181,130,176] [0,152,1,33,66,24,1,146,1,152,2,176,240,189,1,190,2,190] Hh wL (ez (by decide)) (by decide) (by decide)
 exact h
theorem aD2:qa (aM (aN 2).1 (aN 2).2) (bD (aN 2).2 Hh)=0/\(jN (aM (aN 2).1 (aN 2).2) (bD (aN 2).2 Hh)).kind=0:=⟨by kernel_rfl,by kernel_rfl⟩
theorem aB2 (t:Prop) [Decidable t] (a b:Int):cT Hh t a b<=10:=by
 have e:cT Hh t a b=2:=by kernel_rfl
 omega
theorem wM:bV Hi:=by
 refine⟨by decide +kernel,?_,?_,?_,?_,?_,by decide +kernel,?_,by decide +kernel,?_,?_⟩
 all_goals first|(unfold gQ; decide +kernel)|(unfold dV; decide +kernel)|(unfold dz; decide +kernel)|(unfold fu b_ dz; decide +kernel)|(unfold fv; decide +kernel)
theorem aFl3:e_ kO ((aN 3).2.R 15)=0/\dA kO ((aN 3).2.R 15)=Hi:=by
 have h:=iB [240,181,130,176,0,144] [1,33,66,24,1,146,1,152,2,176,240,189,1,190,2,190] Hi wM (ez (by decide)) (by decide) (by decide)
 exact h
theorem aD3:qa (aM (aN 3).1 (aN 3).2) (bD (aN 3).2 Hi)=0/\(jN (aM (aN 3).1 (aN 3).2) (bD (aN 3).2 Hi)).kind=0:=⟨by kernel_rfl,by kernel_rfl⟩
theorem aB3 (t:Prop) [Decidable t] (a b:Int):cT Hi t a b<=10:=by
 have e:cT Hi t a b=2:=by kernel_rfl
 omega
theorem wN:bV Hj:=by
 refine⟨by decide +kernel,?_,?_,?_,?_,?_,by decide +kernel,?_,by decide +kernel,?_,?_⟩
 all_goals first|(unfold gQ; decide +kernel)|(unfold dV; decide +kernel)|(unfold dz; decide +kernel)|(unfold fu b_ dz; decide +kernel)|(unfold fv; decide +kernel)
theorem aFl4:e_ kO ((aN 4).2.R 15)=0/\dA kO ((aN 4).2.R 15)=Hj:=by
 have h:=iB [240,181,130,176,0,144,0,152] [66,24,1,146,1,152,2,176,240,189,1,190,2,190] Hj wN (ez (by decide)) (by decide) (by decide)
 exact h
theorem aD4:qa (aM (aN 4).1 (aN 4).2) (bD (aN 4).2 Hj)=0/\(jN (aM (aN 4).1 (aN 4).2) (bD (aN 4).2 Hj)).kind=0:=⟨by kernel_rfl,by kernel_rfl⟩
theorem aB4 (t:Prop) [Decidable t] (a b:Int):cT Hj t a b<=10:=by
 have e:cT Hj t a b=1:=by kernel_rfl
 omega
theorem wO:bV Hk:=by
 refine⟨by decide +kernel,?_,?_,?_,?_,?_,by decide +kernel,?_,by decide +kernel,?_,?_⟩
 all_goals first|(unfold gQ; decide +kernel)|(unfold dV; decide +kernel)|(unfold dz; decide +kernel)|(unfold fu b_ dz; decide +kernel)|(unfold fv; decide +kernel)
theorem aFl5:e_ kO ((aN 5).2.R 15)=0/\dA kO ((aN 5).2.R 15)=Hk:=by
 have h:=iB [240,181,130,176,0,144,0,152,1,33] [1,146,1,152,2,176,240,189,1,190,2,190] Hk wO (ez (by decide)) (by decide) (by decide)
 exact h
theorem aD5:qa (aM (aN 5).1 (aN 5).2) (bD (aN 5).2 Hk)=0/\(jN (aM (aN 5).1 (aN 5).2) (bD (aN 5).2 Hk)).kind=0:=⟨by kernel_rfl,by kernel_rfl⟩
theorem aB5 (t:Prop) [Decidable t] (a b:Int):cT Hk t a b<=10:=by
 have e:cT Hk t a b=1:=by kernel_rfl
 omega
theorem wP:bV Hl:=by
 refine⟨by decide +kernel,?_,?_,?_,?_,?_,by decide +kernel,?_,by decide +kernel,?_,?_⟩
 all_goals first|(unfold gQ; decide +kernel)|(unfold dV; decide +kernel)|(unfold dz; decide +kernel)|(unfold fu b_ dz; decide +kernel)|(unfold fv; decide +kernel)
theorem aFl6:e_ kO ((aN 6).2.R 15)=0/\dA kO ((aN 6).2.R 15)=Hl:=by
 have h:=iB [240,181,130,176,0,144,0,152,1,33,66,24] [1,152,2,176,240,189,1,190,2,190] Hl wP (ez (by decide)) (by decide) (by decide)
 exact h
theorem aD6:qa (aM (aN 6).1 (aN 6).2) (bD (aN 6).2 Hl)=0/\(jN (aM (aN 6).1 (aN 6).2) (bD (aN 6).2 Hl)).kind=0:=⟨by kernel_rfl,by kernel_rfl⟩
theorem aB6 (t:Prop) [Decidable t] (a b:Int):cT Hl t a b<=10:=by
 have e:cT Hl t a b=2:=by kernel_rfl
 omega
theorem wQ:bV Hm:=by
 refine⟨by decide +kernel,?_,?_,?_,?_,?_,by decide +kernel,?_,by decide +kernel,?_,?_⟩
 all_goals first|(unfold gQ; decide +kernel)|(unfold dV; decide +kernel)|(unfold dz; decide +kernel)|(unfold fu b_ dz; decide +kernel)|(unfold fv; decide +kernel)
theorem aFl7:e_ kO ((aN 7).2.R 15)=0/\dA kO ((aN 7).2.R 15)=Hm:=by
 have h:=iB [240,181,130,176,0,144,0,152,1,33,66,24,1,146] [2,176,240,189,1,190,2,190] Hm wQ (ez (by decide)) (by decide) (by decide)
 exact h
theorem aD7:qa (aM (aN 7).1 (aN 7).2) (bD (aN 7).2 Hm)=0/\(jN (aM (aN 7).1 (aN 7).2) (bD (aN 7).2 Hm)).kind=0:=⟨by kernel_rfl,by kernel_rfl⟩
theorem aB7 (t:Prop) [Decidable t] (a b:Int):cT Hm t a b<=10:=by
 have e:cT Hm t a b=2:=by kernel_rfl
 omega
theorem wR:bV Hn:=by
 refine⟨by decide +kernel,?_,?_,?_,?_,?_,by decide +kernel,?_,by decide +kernel,?_,?_⟩
 all_goals first|(unfold gQ; decide +kernel)|(unfold dV; decide +kernel)|(unfold dz; decide +kernel)|(unfold fu b_ dz; decide +kernel)|(unfold fv; decide +kernel)
theorem aFl8:e_ kO ((aN 8).2.R 15)=0/\dA kO ((aN 8).2.R 15)=Hn:=by
 have h:=iB [240,181,130,176,0,144,0,152,1,33,66,24,1,146,1,152] [240,189,1,190,2,190] Hn wR (ez (by decide)) (by decide) (by decide)
 exact h
theorem aD8:qa (aM (aN 8).1 (aN 8).2) (bD (aN 8).2 Hn)=0/\(jN (aM (aN 8).1 (aN 8).2) (bD (aN 8).2 Hn)).kind=0:=⟨by kernel_rfl,by kernel_rfl⟩
theorem aB8 (t:Prop) [Decidable t] (a b:Int):cT Hn t a b<=10:=by
 have e:cT Hn t a b=1:=by kernel_rfl
 omega
theorem wS:bV Ho:=by
 refine⟨by decide +kernel,?_,?_,?_,?_,?_,by decide +kernel,?_,by decide +kernel,?_,?_⟩
 all_goals first|(unfold gQ; decide +kernel)|(unfold dV; decide +kernel)|(unfold dz; decide +kernel)|(unfold fu b_ dz; decide +kernel)|(unfold fv; decide +kernel)
theorem aFl9:e_ kO ((aN 9).2.R 15)=0/\dA kO ((aN 9).2.R 15)=Ho:=by
 have h:=iB [240,181,130,176,0,144,0,152,1,33,66,24,1,146,1,152,2,176] [1,190,2,190] Ho wS (ez (by decide)) (by decide) (by decide)
 exact h
theorem aD9:qa (aM (aN 9).1 (aN 9).2) (bD (aN 9).2 Ho)=0/\(jN (aM (aN 9).1 (aN 9).2) (bD (aN 9).2 Ho)).kind=1:=⟨by kernel_rfl,by kernel_rfl⟩
theorem aB9 (t:Prop) [Decidable t] (a b:Int):cT Ho t a b<=10:=by
 have e:cT Ho t a b=8:=by kernel_rfl
 omega
theorem aE:(aN 10).2.R 0=42:=by kernel_rfl
open Go
theorem al.arg {G:Gx} {f:FuncId} {args args':List PV} {r:PV} (h:al G f args' r) (hle:∀ w I β vals,bg w I args β vals->bg w I args' β vals):al G f args r :=
 Spec.intro (Spec.run h).1 fun I β w vals hH hM hA=>(Spec.run h).2 I β w vals hH hM (hle w I β vals hA)
def fH (i:IN):PV:=.agg [kI i.form,kI i.rd,kI i.rn,kI i.rm,kI i.ra,kI i.au,kI i.kind,kI i.bE,kI i.set,kI i.cond,kI i.aq]
theorem j_ (i:IN) (hr:bV i) (hi:Rb i) (hn:¬ 48<=i.form) (hw:bQ (bx i)):al gT 65 [.lit .u32 (bx i),.ff] (.tup [fH i,kI 0]):=by
 have hg:i.aq<=9223372036854775807:=(hi i.aq (by simp[uo])).2
 have h1:=Em i hr hg
 have h2:=yt (bx i) (48<=i.form) hw
 rw[qH h1,uu h1,back i hr hg] at h2
 refine al.IZ (h2.arg fun w I β vals h=>?_) (fp (x:=.tup [dE i,.int .i64 0]) (y:=.tup [fH i,kI 0]) (by repeat' first|exact trivial|exact rfl|exact Iff.rfl|refine And.intro ?_ ?_))
 ·match vals,h with
  | [a,b],h =>
   simp only[bg,PV.Is,and_true] at h ⊢
   obtain⟨rfl,rfl⟩:=h
   refine⟨rfl,?_⟩
   rw[bT hn]
theorem ka {z:Int} (h:(decide (0<=z) && decide (z<=4294967295))=true):bQ z:=by
 simp only[Bool.and_eq_true,decide_eq_true_eq] at h
 exact h
def wT:List Int:=[46576,45186,36864,38912,8449,6210,37377,38913,45058,48624]
def CR:List (List PV × PV):=[([kU 46576,.ff],.tup [fH GS,kI 0]),([kU 45186,.ff],.tup [fH Hg,kI 0]),([kU 36864,.ff],.tup [fH Hh,kI 0]),([kU 38912,.ff],.tup [fH Hi,kI 0]),([kU 8449,.ff],.tup [fH Hj,kI 0]),([kU 6210,.ff],.tup [fH Hk,kI 0]),([kU 37377,.ff],.tup [fH Hl,kI 0]),([kU 38913,.ff],.tup [fH Hm,kI 0]),([kU 45058,.ff],.tup [fH Hn,kI 0]),([kU 48624,.ff],.tup [fH Ho,kI 0])]
theorem aOf0:al gT 65 [kU (wT.getD 0 0),.ff] (.tup [fH GS,kI 0]):=by
 have h:=j_ GS wJ (ez (by decide)) (by decide) (ka (by kernel_rfl))
 have e:bx GS=wT.getD 0 0:=by kernel_rfl
 rw[e] at h
 exact h
theorem aOf1:al gT 65 [kU (wT.getD 1 0),.ff] (.tup [fH Hg,kI 0]):=by
 have h:=j_ Hg wK (ez (by decide)) (by decide) (ka (by kernel_rfl))
 have e:bx Hg=wT.getD 1 0:=by kernel_rfl
 rw[e] at h
 exact h
theorem aOf2:al gT 65 [kU (wT.getD 2 0),.ff] (.tup [fH Hh,kI 0]):=by
 have h:=j_ Hh wL (ez (by decide)) (by decide) (ka (by kernel_rfl))
 have e:bx Hh=wT.getD 2 0:=by kernel_rfl
 rw[e] at h
 exact h
theorem aOf3:al gT 65 [kU (wT.getD 3 0),.ff] (.tup [fH Hi,kI 0]):=by
 have h:=j_ Hi wM (ez (by decide)) (by decide) (ka (by kernel_rfl))
 have e:bx Hi=wT.getD 3 0:=by kernel_rfl
 rw[e] at h
 exact h
theorem aOf4:al gT 65 [kU (wT.getD 4 0),.ff] (.tup [fH Hj,kI 0]):=by
 have h:=j_ Hj wN (ez (by decide)) (by decide) (ka (by kernel_rfl))
 have e:bx Hj=wT.getD 4 0:=by kernel_rfl
 rw[e] at h
 exact h
theorem aOf5:al gT 65 [kU (wT.getD 5 0),.ff] (.tup [fH Hk,kI 0]):=by
 have h:=j_ Hk wO (ez (by decide)) (by decide) (ka (by kernel_rfl))
 have e:bx Hk=wT.getD 5 0:=by kernel_rfl
 rw[e] at h
 exact h
theorem aOf6:al gT 65 [kU (wT.getD 6 0),.ff] (.tup [fH Hl,kI 0]):=by
 have h:=j_ Hl wP (ez (by decide)) (by decide) (ka (by kernel_rfl))
 have e:bx Hl=wT.getD 6 0:=by kernel_rfl
 rw[e] at h
 exact h
theorem aOf7:al gT 65 [kU (wT.getD 7 0),.ff] (.tup [fH Hm,kI 0]):=by
 have h:=j_ Hm wQ (ez (by decide)) (by decide) (ka (by kernel_rfl))
 have e:bx Hm=wT.getD 7 0:=by kernel_rfl
 rw[e] at h
 exact h
theorem aOf8:al gT 65 [kU (wT.getD 8 0),.ff] (.tup [fH Hn,kI 0]):=by
 have h:=j_ Hn wR (ez (by decide)) (by decide) (ka (by kernel_rfl))
 have e:bx Hn=wT.getD 8 0:=by kernel_rfl
 rw[e] at h
 exact h
theorem aOf9:al gT 65 [kU (wT.getD 9 0),.ff] (.tup [fH Ho,kI 0]):=by
 have h:=j_ Ho wS (ez (by decide)) (by decide) (ka (by kernel_rfl))
 have e:bx Ho=wT.getD 9 0:=by kernel_rfl
 rw[e] at h
 exact h
theorem GU:∀ p∈CR,al gT 65 p.1 p.2/\dp p.1 = []/\p.2.df = []:=fun p hp=>by
 unfold CR at hp
 simp only[List.mem_cons,List.not_mem_nil,or_false] at hp
 rcases hp with rfl|rfl|rfl|rfl|rfl|rfl|rfl|rfl|rfl|rfl
 ·exact⟨aOf0,rfl,rfl⟩
 ·exact⟨aOf1,rfl,rfl⟩
 ·exact⟨aOf2,rfl,rfl⟩
 ·exact⟨aOf3,rfl,rfl⟩
 ·exact⟨aOf4,rfl,rfl⟩
 ·exact⟨aOf5,rfl,rfl⟩
 ·exact⟨aOf6,rfl,rfl⟩
 ·exact⟨aOf7,rfl,rfl⟩
 ·exact⟨aOf8,rfl,rfl⟩
 ·exact⟨aOf9,rfl,rfl⟩
noncomputable def Rg:List (Nat × List (List PV × PV)):=[(17,[([pW],.tup [yC,kI 0,kI 0])]),
 (18,[([pW],LQ)]),
 (43,[([yC,kI 0],.tup [MM,kI 0])]),
 (96,[([MM],.tup [YV,kI 0])]),
 (97,[([MM,YV],.tup [YW,kI 0])]),
 (98,[([MM,YV,YW],.tup [cmL,kI 0])]),
 (99,[([MM,YW,cmL,kI 1],.tup [cmY,kI 0])]),
 (65,CR)]
noncomputable def CD:ib:={ CC with rL:=CC.rL++Rg }
theorem cdOk:COk CD where
 g:=aA
 fns:=nW.fns
 grow:=nW.grow
 rL:=fun f l h p hp=>by
  rcases List.mem_append.1 h with h|h
  ·exact nW.rL f l h p hp
  ·refine .inl ?_
   unfold Rg at h
   simp only[List.mem_cons,List.not_mem_nil,or_false,Prod.mk.injEq] at h
   rcases h with ⟨rfl,rfl⟩|⟨rfl,rfl⟩|⟨rfl,rfl⟩|⟨rfl,rfl⟩|⟨rfl,rfl⟩|⟨rfl,rfl⟩|⟨rfl,rfl⟩|⟨rfl,rfl⟩
   ·obtain rfl:=List.mem_singleton.1 hp
    exact⟨GC,by kernel_rfl,by kernel_rfl⟩
   ·obtain rfl:=List.mem_singleton.1 hp
    exact⟨LR,by kernel_rfl,by kernel_rfl⟩
   ·obtain rfl:=List.mem_singleton.1 hp
    exact⟨LS,by kernel_rfl,by kernel_rfl⟩
   ·obtain rfl:=List.mem_singleton.1 hp
    exact⟨GD,by kernel_rfl,by kernel_rfl⟩
   ·obtain rfl:=List.mem_singleton.1 hp
    exact⟨PM,by kernel_rfl,by kernel_rfl⟩
   ·obtain rfl:=List.mem_singleton.1 hp
    exact⟨GF,by kernel_rfl,by kernel_rfl⟩
   ·obtain rfl:=List.mem_singleton.1 hp
    exact⟨LU,by kernel_rfl,by kernel_rfl⟩
   ·exact GU p hp
end Go.Proofs.YtbnoodjnpooocaaGreatDoor.Pw

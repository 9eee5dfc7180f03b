/- What this claim is proved with: no condition. -/
import Derived.Test.YtlgkljpgagfndaaGreatDoorNs21
import Derived.Test.YtlgkljpgagfndaaGreatDoorNs22
import Derived.Test.YtlgkljpgagfndaaGreatDoorNs20
import Derived.Test.YtlgkljpgagfndaaGreatDoorNs11
set_option maxRecDepth 100000
set_option maxHeartbeats 16000000
set_option linter.unusedVariables false
set_option linter.unusedSimpArgs false
namespace Go.Proofs.YtlgkljpgagfndaaGreatDoor.Pw
open Go Go.RowKit
def vm (m:MS) (x:XS):Int:=if bR x.i.form≠0 then k_ m x (gM x) else if x.i.form=42 then (jP m x).2.2 else if x.i.form=43 then (pv m x).2.2 else 0
def yw (m:MS) (x:XS):Nat->Int:=if bR x.i.form≠0 then kr m x (gM x) else if x.i.form=42 then (jP m x).1 else m.w
def eA (x:XS):XS:=if aR x.i.form≠0 then dP x else if aT x.i.form≠0 then ch x else if cA x.i.form≠0 then dp x else if bF x.i.form≠0 then dQ x else if bJ x.i.form≠0 then cu x else eZ x
def jQ (m:MS) (x:XS):XS:=if bR x.i.form≠0 then iY m x (gM x) else if x.i.form=42 then mm m x else if x.i.form=43 then sH m x else eA x
theorem Ib {x:XS}:bO (gM x):=by
 unfold gM
 repeat' split
 all_goals first|exact wrap_u32 _|exact⟨by decide,by decide⟩
theorem Uo (m:MS) (x:XS) (hm:Ei m) (hx:kq x):Spec gT 46 [.ptr 3 0] (fS m x) [] fun y S'=>y = .int .i64 (vm m x)/\S'=fS (jO m (yw m x)) (jQ m x):=by
 refine Spec.iJ (Spec.enter an P46 100 Tryz.func46 rfl (by kernel_rfl) ?_)
 refine (wW m x hx).e ?_
 refine⟨fun ha=>?_,fun ha=>?_⟩
 ·have dH:bR x.i.form≠0:=ha
  have e1:vm m x=k_ m x (gM x):=by unfold vm; rw[if_pos dH]
  have e2:yw m x=kr m x (gM x):=by unfold yw; rw[if_pos dH]
  have e3:jQ m x=iY m x (gM x):=by unfold jQ; rw[if_pos dH]
  rw[e1,e2,e3]
  refine (z8 m x (gM x) hm hx Ib).e ?_
  exact rS
 have dH:¬ bR x.i.form≠0:=ha
 refine⟨fun Bc=>?_,fun Bc=>?_⟩
 ·have e1:vm m x=(jP m x).2.2:=by unfold vm; rw[if_neg dH,if_pos Bc]
  have e2:yw m x=(jP m x).1:=by unfold yw; rw[if_neg dH,if_pos Bc]
  have e3:jQ m x=mm m x:=by unfold jQ; rw[if_neg dH,if_pos Bc]
  rw[e1,e2,e3]
  refine (H' m x hx).e ?_
  exact rS
 have e2:yw m x=m.w:=by unfold yw; rw[if_neg dH,if_neg Bc]
 rw[e2]
 refine⟨fun JX=>?_,fun JX=>?_⟩
 ·have e1:vm m x=(pv m x).2.2:=by unfold vm; rw[if_neg dH,if_neg Bc,if_pos JX]
  have e3:jQ m x=sH m x:=by unfold jQ; rw[if_neg dH,if_neg Bc,if_pos JX]
  rw[e1,e3]
  refine (Ia m x hm hx).e ?_
  exact rS
 have e1:vm m x=0:=by unfold vm; rw[if_neg dH,if_neg Bc,if_neg JX]
 have e3:jQ m x=eA x:=by unfold jQ; rw[if_neg dH,if_neg Bc,if_neg JX]
 rw[e1,e3]
 have s0:=HA m x hx
 by_cases c0:aR x.i.form≠0
 ·have e:eA x=dP x:=by unfold eA; rw[if_pos c0]
  rw[e]
  refine (s0).e ?_
  refine⟨fun h=>absurd c0 h,fun _=>?_⟩
  exact rS
 rw[yo (Classical.not_not.1 c0)] at s0
 have s1:=z3 m x hx
 by_cases c1:aT x.i.form≠0
 ·have e:eA x=ch x:=by unfold eA; rw[if_neg c0,if_pos c1]
  rw[e]
  refine (s0).e ?_
  refine⟨fun _=>?_,fun h=>absurd c0 h⟩
  refine (s1).e ?_
  refine⟨fun h=>absurd c1 h,fun _=>?_⟩
  exact rS
 rw[qI (Classical.not_not.1 c1)] at s1
 have s2:=z5 m x hx
 by_cases c2:cA x.i.form≠0
 ·have e:eA x=dp x:=by unfold eA; rw[if_neg c0,if_neg c1,if_pos c2]
  rw[e]
  refine (s0).e ?_
  refine⟨fun _=>?_,fun h=>absurd c0 h⟩
  refine (s1).e ?_
  refine⟨fun _=>?_,fun h=>absurd c1 h⟩
  refine (s2).e ?_
  refine⟨fun h=>absurd c2 h,fun _=>?_⟩
  exact rS
 rw[qJ (Classical.not_not.1 c2)] at s2
 have s3:=uI m x hx
 by_cases c3:bF x.i.form≠0
 ·have e:eA x=dQ x:=by unfold eA; rw[if_neg c0,if_neg c1,if_neg c2,if_pos c3]
  rw[e]
  refine (s0).e ?_
  refine⟨fun _=>?_,fun h=>absurd c0 h⟩
  refine (s1).e ?_
  refine⟨fun _=>?_,fun h=>absurd c1 h⟩
  refine (s2).e ?_
  refine⟨fun _=>?_,fun h=>absurd c2 h⟩
  refine (s3).e ?_
  refine⟨fun h=>absurd c3 h,fun _=>?_⟩
  exact rS
 rw[yr (Classical.not_not.1 c3)] at s3
 have s4:=D4 m x hx
 by_cases c4:bJ x.i.form≠0
 ·have e:eA x=cu x:=by unfold eA; rw[if_neg c0,if_neg c1,if_neg c2,if_neg c3,if_pos c4]
  rw[e]
  refine (s0).e ?_
  refine⟨fun _=>?_,fun h=>absurd c0 h⟩
  refine (s1).e ?_
  refine⟨fun _=>?_,fun h=>absurd c1 h⟩
  refine (s2).e ?_
  refine⟨fun _=>?_,fun h=>absurd c2 h⟩
  refine (s3).e ?_
  refine⟨fun _=>?_,fun h=>absurd c3 h⟩
  refine (s4).e ?_
  refine⟨fun h=>absurd c4 h,fun _=>?_⟩
  exact rS
 rw[uH (Classical.not_not.1 c4)] at s4
 have e:eA x=eZ x:=by unfold eA; rw[if_neg c0,if_neg c1,if_neg c2,if_neg c3,if_neg c4]
 rw[e]
 refine (s0).e ?_
 refine⟨fun _=>?_,fun h=>absurd c0 h⟩
 refine (s1).e ?_
 refine⟨fun _=>?_,fun h=>absurd c1 h⟩
 refine (s2).e ?_
 refine⟨fun _=>?_,fun h=>absurd c2 h⟩
 refine (s3).e ?_
 refine⟨fun _=>?_,fun h=>absurd c3 h⟩
 refine (s4).e ?_
 refine⟨fun _=>?_,fun h=>absurd c4 h⟩
 refine (D_ m x hx).e ?_
 exact rS
def divC (a b:Int):Int:=if b=0\/(Lib.bitLen a.toNat:Int) - Lib.bitLen b.toNat < 0 then 2 else 3+((Lib.bitLen a.toNat:Int) - Lib.bitLen b.toNat) / 4
theorem px {x:Int} (h:x<=4294967295):Lib.bitLen x.toNat<=32:=Rm.fO x.toNat (by omega)
theorem Ab (a b:Int) (ha:bO a) (hb:bO b):ai gT 88 [.int .u32 a,.int .u32 b] (.int .i64 (divC a b)):=by
 have h1:=px ha.2
 have h2:=px hb.2
 refine Spec.enter an P88 100 Tryz.func88 rfl (by kernel_rfl) ?_
 refine (qE a ha).u ?_
 refine (qE b hb).u ?_
 refine li ?_
 refine⟨fun h=>?_,fun h=>And.intro (fun h3=>?_) (fun h3=>?_)⟩
 ·refine aD ?_
  exact (show (2:Int)=divC a b by unfold divC; rw[if_pos (.inl h)])
 ·refine aD ?_
  exact (show (2:Int)=divC a b by unfold divC; rw[if_pos (.inr h3)])
 ·refine⟨by decide,.inl ⟨by omega,show (Lib.bitLen a.toNat:Int) - Lib.bitLen b.toNat<=9223372036854775807 by omega,by decide,?_⟩⟩
  refine li ?_
  refine aD ?_
  exact (show (3:Int)+_=divC a b by unfold divC; rw[if_neg (by omega)])
def P2 (ao:Int):Prop:=bits .and .i64 (ao / Ev.aO .i64 15) 1=1
instance (r:Int):Decidable (P2 r):=by unfold P2; infer_instance
def kB (i:IN):Int:=if i.form=43/\P2 i.ao then 1+b_ i.ao+2 else 1+b_ i.ao
theorem py (i:IN) (h0:0<=i.ao) (h1:i.ao<=65535):ai gT 87 [cG i] (.int .i64 (kB i)):=by
 have hb:=mP i.ao h0 h1
 refine Spec.enter an P87 100 Tryz.func87 rfl (by kernel_rfl) ?_
 refine lu ?_ (show 0<=i.ao/\i.ao<=_ by omega)
 refine (pk i.ao h0 h1).u ?_
 refine li ?_ (show _<=1+b_ i.ao/\1+b_ i.ao<=_ by omega)
 refine⟨fun h=>?_,fun h=>?_⟩
 ·refine⟨by decide,?_⟩
  refine⟨fun ht=>?_,fun ht=>?_⟩
  ·refine li ?_ (show _<=1+b_ i.ao+2/\1+b_ i.ao+2<=_ by omega)
   exact aD (show 1+b_ i.ao+2=kB i by unfold kB; rw[if_pos ⟨h,ht⟩])
  ·exact aD (show 1+b_ i.ao=kB i by unfold kB; rw[if_neg (fun q=>ht q.2)])
 ·exact aD (show 1+b_ i.ao=kB i by unfold kB; rw[if_neg (fun q=>h q.1)])
def bm (f:Int):Int :=
 if f=46\/f=99 then 1 else if f=47\/f=100\/f=31 then 2 else if f=32\/f=34\/f=36\/f=38\/f=85\/f=87\/f=33\/f=35\/f=37\/f=84\/f=86\/f=93\/f=94 then 3 else if f=42\/f=43 then 4 else if f=97 then 5 else 0
def dL (i:IN) (t:Prop) [Decidable t] (a b:Int):Int:=if bm i.form=1 then (if t then 3 else 1) else if bm i.form=2 then 3 else if bm i.form=3 then 2 else if bm i.form=4 then kB i else if bm i.form=5 then divC a b else 1
theorem Ic {i:IN} {t:Prop} [Decidable t] {a b:Int} (h:bm i.form=0):dL i t a b=1:=by unfold dL; rw[if_neg (by omega),if_neg (by omega),if_neg (by omega),if_neg (by omega),if_neg (by omega)]
theorem yx {i:IN} {t:Prop} [Decidable t] {a b:Int} (h:bm i.form=1):dL i t a b=(if t then 3 else 1):=by unfold dL; rw[if_pos h]
theorem sI {i:IN} {t:Prop} [Decidable t] {a b:Int} (h:bm i.form=2):dL i t a b=3:=by unfold dL; rw[if_neg (by omega),if_pos h]
theorem eD {i:IN} {t:Prop} [Decidable t] {a b:Int} (h:bm i.form=3):dL i t a b=2:=by unfold dL; rw[if_neg (by omega),if_neg (by omega),if_pos h]
theorem yy {i:IN} {t:Prop} [Decidable t] {a b:Int} (h:bm i.form=4):dL i t a b=kB i:=by unfold dL; rw[if_neg (by omega),if_neg (by omega),if_neg (by omega),if_pos h]
theorem Ie {i:IN} {t:Prop} [Decidable t] {a b:Int} (h:bm i.form=5):dL i t a b=divC a b:=by unfold dL; rw[if_neg (by omega),if_neg (by omega),if_neg (by omega),if_neg (by omega),if_pos h]
theorem Ac (i:IN) (t:Prop) [Decidable t] (a b:Int) (hr:aq i) (hi:wx i.az) (h0:0<=i.ao) (h1:i.ao<=65535) (ha:bO a) (hb:bO b):ai gT 47 [cG i,.bool t,.int .u32 a,.int .u32 b] (.tup [.int .i64 (dL i t a b),.int .i64 0]):=by
 refine Spec.enter an P47 100 Tryz.func47 rfl (by kernel_rfl) ?_
 refine (kX i hi).u ?_
 refine⟨fun h=>absurd hr h,fun _=>?_⟩
 refine⟨fun Uk=>?_,fun Uk=>?_⟩
 ·have hc:bm i.form=1:=by rw[show i.form=46 from Uk]; rfl
  rw[yx hc]
  refine⟨fun h=>?_,fun h=>?_⟩
  ·rw[if_neg (show ¬ t from h)]
   exact aD (And.intro rfl (And.intro rfl trivial))
  ·rw[if_pos (Classical.not_not.1 (show ¬ ¬ t from h))]
   exact aD (And.intro rfl (And.intro rfl trivial))
 refine⟨fun Ul=>?_,fun Ul=>?_⟩
 ·have hc:bm i.form=1:=by rw[show i.form=99 from Ul]; rfl
  rw[yx hc]
  refine⟨fun h=>?_,fun h=>?_⟩
  ·rw[if_neg (show ¬ t from h)]
   exact aD (And.intro rfl (And.intro rfl trivial))
  ·rw[if_pos (Classical.not_not.1 (show ¬ ¬ t from h))]
   exact aD (And.intro rfl (And.intro rfl trivial))
 refine⟨fun Um=>?_,fun Um=>?_⟩
 ·have hc:bm i.form=2:=by rw[show i.form=47 from Um]; rfl
  rw[sI hc]
  exact aD (And.intro rfl (And.intro rfl trivial))
 refine⟨fun Ea=>?_,fun Ea=>?_⟩
 ·have hc:bm i.form=2:=by rw[show i.form=100 from Ea]; rfl
  rw[sI hc]
  exact aD (And.intro rfl (And.intro rfl trivial))
 refine⟨fun Un=>?_,fun Un=>?_⟩
 ·have hc:bm i.form=2:=by rw[show i.form=31 from Un]; rfl
  rw[sI hc]
  exact aD (And.intro rfl (And.intro rfl trivial))
 refine⟨fun Gv=>?_,fun Gv=>?_⟩
 ·have hc:bm i.form=3:=by rw[show i.form=32 from Gv]; rfl
  rw[eD hc]
  exact aD (And.intro rfl (And.intro rfl trivial))
 refine⟨fun Ua=>?_,fun Ua=>?_⟩
 ·have hc:bm i.form=3:=by rw[show i.form=34 from Ua]; rfl
  rw[eD hc]
  exact aD (And.intro rfl (And.intro rfl trivial))
 refine⟨fun Uc=>?_,fun Uc=>?_⟩
 ·have hc:bm i.form=3:=by rw[show i.form=36 from Uc]; rfl
  rw[eD hc]
  exact aD (And.intro rfl (And.intro rfl trivial))
 refine⟨fun Ug=>?_,fun Ug=>?_⟩
 ·have hc:bm i.form=3:=by rw[show i.form=38 from Ug]; rfl
  rw[eD hc]
  exact aD (And.intro rfl (And.intro rfl trivial))
 refine⟨fun Ue=>?_,fun Ue=>?_⟩
 ·have hc:bm i.form=3:=by rw[show i.form=85 from Ue]; rfl
  rw[eD hc]
  exact aD (And.intro rfl (And.intro rfl trivial))
 refine⟨fun Ui=>?_,fun Ui=>?_⟩
 ·have hc:bm i.form=3:=by rw[show i.form=87 from Ui]; rfl
  rw[eD hc]
  exact aD (And.intro rfl (And.intro rfl trivial))
 refine⟨fun Ub=>?_,fun Ub=>?_⟩
 ·have hc:bm i.form=3:=by rw[show i.form=33 from Ub]; rfl
  rw[eD hc]
  exact aD (And.intro rfl (And.intro rfl trivial))
 refine⟨fun Ud=>?_,fun Ud=>?_⟩
 ·have hc:bm i.form=3:=by rw[show i.form=35 from Ud]; rfl
  rw[eD hc]
  exact aD (And.intro rfl (And.intro rfl trivial))
 refine⟨fun Uh=>?_,fun Uh=>?_⟩
 ·have hc:bm i.form=3:=by rw[show i.form=37 from Uh]; rfl
  rw[eD hc]
  exact aD (And.intro rfl (And.intro rfl trivial))
 refine⟨fun Uf=>?_,fun Uf=>?_⟩
 ·have hc:bm i.form=3:=by rw[show i.form=84 from Uf]; rfl
  rw[eD hc]
  exact aD (And.intro rfl (And.intro rfl trivial))
 refine⟨fun Uj=>?_,fun Uj=>?_⟩
 ·have hc:bm i.form=3:=by rw[show i.form=86 from Uj]; rfl
  rw[eD hc]
  exact aD (And.intro rfl (And.intro rfl trivial))
 refine⟨fun T9=>?_,fun T9=>?_⟩
 ·have hc:bm i.form=3:=by rw[show i.form=93 from T9]; rfl
  rw[eD hc]
  exact aD (And.intro rfl (And.intro rfl trivial))
 refine⟨fun T'=>?_,fun T'=>?_⟩
 ·have hc:bm i.form=3:=by rw[show i.form=94 from T']; rfl
  rw[eD hc]
  exact aD (And.intro rfl (And.intro rfl trivial))
 refine⟨fun Bc=>?_,fun Bc=>?_⟩
 ·have hc:bm i.form=4:=by rw[show i.form=42 from Bc]; rfl
  rw[yy hc]
  refine (py i h0 h1).u ?_
  exact aD (And.intro rfl (And.intro rfl trivial))
 refine⟨fun JX=>?_,fun JX=>?_⟩
 ·have hc:bm i.form=4:=by rw[show i.form=43 from JX]; rfl
  rw[yy hc]
  refine (py i h0 h1).u ?_
  exact aD (And.intro rfl (And.intro rfl trivial))
 refine⟨fun T_=>?_,fun T_=>?_⟩
 ·have hc:bm i.form=5:=by rw[show i.form=97 from T_]; rfl
  rw[Ie hc]
  refine (Ab a b ha hb).u ?_
  exact aD (And.intro rfl (And.intro rfl trivial))
 ·have hc:bm i.form=0:=by unfold bm; rw[if_neg (by omega),if_neg (by omega),if_neg (by omega),if_neg (by omega),if_neg (by omega)]
  rw[Ic hc]
  exact aD (And.intro rfl (And.intro rfl trivial))
def eG (a:Int):Int:=a / 16
def Ig (full:Prop) (line:Int):PV:=.agg [.bool full,.int .u32 line]
theorem wZ (n:Int):ai gT 89 [.int .i64 n] (.bool (n=2\/n=4)):=by
 refine Spec.enter an P89 100 Tryz.func89 rfl (by kernel_rfl) ?_
 refine⟨fun h=>?_,fun h=>?_⟩
 ·exact aD (show n=2\/n=4 from .inl h)
 ·exact aD (show n=4↔(n=2\/n=4) from ⟨.inr,fun q=>q.elim (fun e=>absurd e h) id⟩)
theorem qN (a:Int) (ha:bO a):ai gT 91 [.int .u32 a] (.int .u32 (eG a)):=by
 refine Spec.enter an P91 100 Tryz.func91 rfl (by kernel_rfl) ?_
 refine And.intro (show (16:Int)≠0 by decide) (.inl ⟨ha.1,show a<=4294967295 from ha.2,show (0:Int) < 16 by decide,?_⟩)
 exact aD rfl
def fQ (full:Prop) [Decidable full] (line l:Int):Int:=if full/\line=l then 0 else 1
theorem qO (full:Prop) [Decidable full] (line l:Int):ai gT 90 [Ig full line,.int .u32 l] (.tup [Ig True l,.int .i64 (fQ full line l)]):=by
 refine Spec.enter an P90 100 Tryz.func90 rfl (by kernel_rfl) ?_
 refine⟨fun h=>?_,fun h=>?_⟩
 ·refine⟨fun hl=>?_,fun hl=>?_⟩
  ·have e:fQ full line l=0:=by unfold fQ; rw[if_pos ⟨h,hl⟩]
   rw[e]
   exact aD (And.intro (And.intro (iff_true_intro h) (And.intro hl trivial)) (And.intro rfl trivial))
  ·have e:fQ full line l=1:=by unfold fQ; rw[if_neg (fun q=>hl q.2)]
   rw[e]
   exact aD (And.intro (And.intro trivial (And.intro rfl trivial)) (And.intro rfl trivial))
 ·have e:fQ full line l=1:=by unfold fQ; rw[if_neg (fun q=>h q.1)]
  rw[e]
  exact aD (And.intro (And.intro trivial (And.intro rfl trivial)) (And.intro rfl trivial))
def sJ (at_ n:Int):Int:=if n=2 then eG at_ else eG (IntKind.u32.wrap (at_+2))
def la (full:Prop) [Decidable full] (line at_ n:Int):Int:=if n=2 then fQ full line (eG at_) else fQ full line (eG at_)+fQ True (eG at_) (eG (IntKind.u32.wrap (at_+2)))
theorem mn (full:Prop) [Decidable full] (line l:Int):0<=fQ full line l/\fQ full line l<=1:=by unfold fQ; split<;>omega
theorem w4 (full:Prop) [Decidable full] (line at_ n:Int) (ha:bO at_) (hn:n=2\/n=4):ai gT 48 [Ig full line,.int .u32 at_,.int .i64 n] (.tup [Ig True (sJ at_ n),.int .i64 (la full line at_ n)]):=by
 have b1:=mn full line (eG at_)
 have b2:=mn True (eG at_) (eG (IntKind.u32.wrap (at_+2)))
 refine Spec.enter an P48 100 Tryz.func48 rfl (by kernel_rfl) ?_
 refine (wZ n).u ?_
 refine⟨fun h=>absurd hn h,fun _=>?_⟩
 refine (qN at_ ha).u ?_
 refine (qO full line (eG at_)).u ?_
 refine⟨fun h=>?_,fun h=>?_⟩
 ·have e1:sJ at_ n=eG at_:=by unfold sJ; rw[if_pos h]
  have e2:la full line at_ n=fQ full line (eG at_):=by unfold la; rw[if_pos h]
  rw[e1,e2]
  exact rA
 ·have e1:sJ at_ n=eG (IntKind.u32.wrap (at_+2)):=by unfold sJ; rw[if_neg h]
  have e2:la full line at_ n=fQ full line (eG at_)+fQ True (eG at_) (eG (IntKind.u32.wrap (at_+2))):=by unfold la; rw[if_neg h]
  rw[e1,e2]
  refine .inr ?_
  refine (qN (IntKind.u32.wrap (at_+2)) (wrap_u32 _)).u ?_
  refine (qO True (eG at_) (eG (IntKind.u32.wrap (at_+2)))).u ?_
  refine li ?_
  exact rA
theorem Ih:∀ s:Fin 35,(bX (s.1:Int)).ao=0\/(bX (s.1:Int)).ao=16639\/(bX (s.1:Int)).ao=33023:=by decide
theorem Ad (f:Int):0<=aa f/\aa f<=34:=by
 unfold aa
 split
 ·have key:∀ n:Fin 101,0<=QM.getD n.1 0/\QM.getD n.1 0<=34:=by decide
  exact key ⟨f.toNat,by omega⟩
 ·decide
theorem jR {i:IN} (h:aq i) (hi:uA i):0<=i.ao/\i.ao<=65535:=by
 obtain⟨hf,h1,h2,h3,h4,h5,_⟩:=h
 have hb:=Ad i.form
 have hr:=Ih ⟨(aa i.form).toNat,by omega⟩
 rw[show (((⟨(aa i.form).toNat,by omega⟩:Fin 35).1:Nat):Int)=aa i.form by simp only[]; omega] at hr
 have hI:=hi i.ao (by simp[nM])
 rcases h5 with ⟨_,e⟩|⟨hn,h0,ha⟩
 ·omega
 ·rcases hr with e|e|e
  ·exact absurd e hn
  ·rw[e] at ha
   have:=sg 14 (by decide) (by decide) i.ao 16639 (by decide) h0 hI.2 ha
   omega
  ·rw[e] at ha
   have:=sg 15 (by decide) (by decide) i.ao 33023 (by decide) h0 hI.2 ha
   omega
theorem Ae {i:IN} (h:aq i) (hs:aa i.form=21\/aa i.form=22\/aa i.form=23):0<=i.kind/\i.kind<=3/\0<=i.bC/\i.bC<=255:=by
 obtain⟨hf,h1,h2,h3,h4,h5,h6,h7,h8,h9,cC⟩:=h
 have hk:(bX (aa i.form)).kind=true:=by rcases hs with e|e|e<;>rw[e]<;>rfl
 rcases h9 with ⟨_,hb⟩|⟨hn,_⟩
 ·unfold ct at hb; omega
 ·exact absurd hk hn
theorem Af {f:Int} (h:1<=f/\f<=3):aa f=1:=by
 rcases (show f=1\/f=2\/f=3 by omega) with rfl|rfl|rfl<;>decide
theorem Ag {i:IN} (h:aq i) (hf:1<=i.form/\i.form<=3):0<=i.az/\i.az<=32:=by
 obtain⟨_,h1,h2,h3,h4,h5,h6,h7,h8,h9,cC⟩:=h
 rw[Af hf] at h7
 have e0:(bX 1).i0=0:=rfl
 have e1:(bX 1).i1=32:=rfl
 rcases h7 with ⟨_,e⟩|⟨_,a,b,_⟩<;>omega
theorem Ah {i:IN} (h:aq i) (hf:i.form=86\/i.form=87):0<=i.bC/\i.bC<=3:=by
 obtain⟨_,h1,h2,h3,h4,h5,h6,h7,h8,h9,cC⟩:=h
 have hs:aa i.form=26:=by rcases hf with e|e<;>rw[e]<;>decide
 rw[hs] at h9
 have e0:(bX 26).b0=0:=rfl
 have e1:(bX 26).b1=3:=rfl
 rcases h9 with ⟨hk,_⟩|⟨_,_,⟨_,e⟩|⟨_,a,b,_⟩⟩
 ·exact absurd hk (by decide)
 ·omega
 ·omega
structure uP (s:RS):Prop where
 r:∀ k,bO (s.R k)
 n:0<=s.N/\s.N<=1
 z:0<=s.Z/\s.Z<=1
 c:0<=s.C/\s.C<=1
 v:0<=s.V/\s.V<=1
def ca (s:RS) (i:IN):XS:=⟨i,{ s with R:=PN s.R 15 (IntKind.u32.wrap (s.R 15+IntKind.u32.wrap (dO i.form))) },s.R 15,False,0,0,0,0,0,0⟩
theorem sK {R:Nat->Int} {i v:Int} (h:∀ k,bO (R k)) (hv:bO v):∀ k,bO (PN R i v k):=fun k=>by
 unfold PN; split
 ·exact hv
 ·exact h k
theorem qP {s:RS} {i:IN} (hs:uP s) (h:aq i) (hi:uA i):kq (ca s i) where
 rd:=⟨(fq h.2.1).1,by have:=(fq h.2.1).2; show _<=(15:Int); exact Int.le_of_lt this⟩
 rn:=⟨(fq h.2.2.1).1,by have:=(fq h.2.2.1).2; show _<=(15:Int); exact Int.le_of_lt this⟩
 rm:=⟨(fq h.2.2.2.1).1,by have:=(fq h.2.2.2.1).2; show _<=(15:Int); exact Int.le_of_lt this⟩
 ra:=⟨(fq h.2.2.2.2.1).1,by have:=(fq h.2.2.2.2.1).2; show _<=(15:Int); exact Int.le_of_lt this⟩
 az:=hi i.az (by simp[nM])
 Z5:=Ae h
 low:=Ag h
 idx:=Ah h
 ao:=jR h hi
 r:=sK hs.r (wrap_u32 _)
 n:=hs.n
 z:=hs.z
 c:=hs.c
 v:=hs.v
instance (h:Int):Decidable (dy h):=by unfold dy; infer_instance
def kC (fl:List Int) (a:Int):Int:=jg fl a*65536+jg fl (IntKind.u32.wrap (a+2))
noncomputable def iD (fl:List Int) (a:Int):Int :=
 if m5 fl a≠0 then m5 fl a else if ¬ dy (jg fl a) then kx (jg fl a) False else if m5 fl (IntKind.u32.wrap (a+2))≠0 then m5 fl (IntKind.u32.wrap (a+2)) else kx (kC fl a) True
noncomputable def d_ (fl:List Int) (a:Int):IN :=
 if m5 fl a≠0 then iZ else if ¬ dy (jg fl a) then zV (jg fl a) False else if m5 fl (IntKind.u32.wrap (a+2))≠0 then iZ else zV (kC fl a) True
theorem pz {fl:List Int} (hb:DI fl) (a:Int):0<=jg fl a/\jg fl a<=65535:=by
 unfold jg
 split
 ·decide
 ·split
  ·exact DJ hb _
  ·decide
theorem uQ {fl:List Int} (hb:DI fl) (a:Int):bits .or .u32 (jg fl a*65536) (jg fl (IntKind.u32.wrap (a+2)))=kC fl a:=by
 have b1:=pz hb a
 have b2:=pz hb (IntKind.u32.wrap (a+2))
 exact (fF (jg fl (IntKind.u32.wrap (a+2))) (jg fl a) 16 (by decide) (show 0<=_/\_ < (65536:Int) by omega) (show 0<=jg fl a/\jg fl a*65536<=_ by omega)).2
theorem Em {fl:List Int} (hb:DI fl) (a:Int):bO (kC fl a):=by
 have b1:=pz hb a
 have b2:=pz hb (IntKind.u32.wrap (a+2))
 unfold kC bO; omega
theorem En (m:MS) (a:Int) (hm:Ei m) (ha:bO a):Spec gT 43 [.ptr 2 0,.int .u32 a] (stM m) [] fun y S'=>y = .tup [cG (d_ m.fl a),.int .i64 (iD m.fl a)]/\S'=stM m:=by
 have bh:=pz hm.fl a
 have uh:bO (jg m.fl a):=⟨bh.1,by omega⟩
 have kE:iD m.fl a=if m5 m.fl a≠0 then m5 m.fl a else if ¬ dy (jg m.fl a) then kx (jg m.fl a) False else if m5 m.fl (IntKind.u32.wrap (a+2))≠0 then m5 m.fl (IntKind.u32.wrap (a+2)) else kx (kC m.fl a) True:=rfl
 have kI:d_ m.fl a=if m5 m.fl a≠0 then iZ else if ¬ dy (jg m.fl a) then zV (jg m.fl a) False else if m5 m.fl (IntKind.u32.wrap (a+2))≠0 then iZ else zV (kC m.fl a) True:=rfl
 refine Spec.iJ (Spec.enter an P43 100 Tryz.func43 rfl (by kernel_rfl) ?_)
 refine (yu m.w m.fl a ha hm.fl hm.len).e ?_
 refine⟨fun h=>?_,fun h=>?_⟩
 ·have h':m5 m.fl a≠0:=h
  rw[if_pos h'] at kE kI
  rw[kE,kI]
  exact rS
 rw[if_neg (show ¬ m5 m.fl a≠0 from h)] at kE kI
 refine (uD (jg m.fl a) uh).u ?_
 refine⟨fun h1=>?_,fun h1=>?_⟩
 ·rw[if_pos (show ¬ dy (jg m.fl a) from h1)] at kE kI
  rw[kE,kI]
  refine⟨[],br,(yi (jg m.fl a) False uh).use (And.intro rfl (And.intro not_false trivial)) rfl rfl ?_⟩
  exact rS
 rw[if_neg (show ¬ ¬ dy (jg m.fl a) from h1)] at kE kI
 refine .inr ?_
 refine (yu m.w m.fl (IntKind.u32.wrap (a+2)) (wrap_u32 _) hm.fl hm.len).e ?_
 refine⟨fun h=>?_,fun h=>?_⟩
 ·rw[if_pos (show m5 m.fl (IntKind.u32.wrap (a+2))≠0 from h)] at kE kI
  rw[kE,kI]
  exact rS
 rw[if_neg (show ¬ m5 m.fl (IntKind.u32.wrap (a+2))≠0 from h)] at kE kI
 have hw:=yi (kC m.fl a) True (Em hm.fl a)
 rw[← uQ hm.fl a] at hw
 rw[kE,kI,← uQ hm.fl a]
 refine⟨by decide,.inl ⟨af (show 0<=jg m.fl a*65536/\jg m.fl a*65536<=_ by omega),?_⟩⟩
 refine hw.u ?_
 exact rS
def pA (m:MS) (e:Int):MS:={ m with kind:=3,code:=e }
def VJ (a d w c n:Int):PV:=.agg [.int .u32 a,.int .u32 d,.int .i64 w,.int .i64 c,.int .i64 n]
theorem uR (m:MS) (e:Int):Spec gT 44 [.ptr 2 0,.int .i64 e] (stM m) [] fun y S'=>y = .tup [VJ 0 0 0 0 0,.int .i64 10]/\S'=stM (pA m e):=by
 refine Spec.iJ (Spec.enter an P44 100 Tryz.func44 rfl (by kernel_rfl) ?_)
 exact rS
structure sL (m:MS):Prop where
 mem:Ei m
 s:uP m.s
 wait:0<=m.wait/\m.wait<=7
 gJ:0<=m.gJ/\m.gJ<=1000000000000000
structure gk (x:XS):Prop where
 s:uP x.s
 a:bO x.a
 b:bO x.b
 k:x.kind=0\/x.kind=1\/x.kind=2
theorem dN {x:XS} (h:gk x) (r:Int) {v:Int} (hv:bO v):gk (cD x r v):=⟨⟨sK h.s.r hv,h.s.n,h.s.z,h.s.c,h.s.v⟩,h.a,h.b,h.k⟩
theorem Eo {x:XS} (h:gk x) {v:Int} (hv:bO v):gk (nY x v):=⟨⟨h.s.r,by unfold bO at hv; show 0<=v / 2147483648/\v / 2147483648<=1; omega,by show 0<=(if v=0 then (1:Int) else 0)/\(if v=0 then (1:Int) else 0)<=1; split<;>omega,h.s.c,h.s.v⟩,h.a,h.b,h.k⟩
theorem Ii {x:XS} (h:gk x) {c:Int} (hc:0<=c/\c<=1):gk (nt x c):=⟨⟨h.s.r,h.s.n,h.s.z,hc,h.s.v⟩,h.a,h.b,h.k⟩
theorem Ep {x:XS} (h:gk x) {c o:Int} (hc:0<=c/\c<=1) (ho:0<=o/\o<=1):gk (jK x c o):=⟨⟨h.s.r,h.s.n,h.s.z,hc,ho⟩,h.a,h.b,h.k⟩
theorem P4 {x:XS} (h:gk x) (d:Int) {v w c:Int} (hv:bO v) (hw:bO w) (hc:0<=c):gk (gL x d v w c):=by
 have hs:bO (Rm.fy v w c):=Rm.rW _ _ _
 have h1:gk (if dK x then jK (nY x (Rm.fy v w c)) (Rm.jD v w c) (Rm.kS v w c) else x):=by
  split
  ·exact Ep (Eo h hs) (Rm.xN _ _ _ hc hv.1 hv.2 hw.1 hw.2) (Rm.Gh _ _ _)
  ·exact h
 unfold gL
 split
 ·exact dN h1 _ hs
 ·exact h1
theorem eP {x:XS} (h:gk x) (d:Int) {v c:Int} (hv:bO v) (hc:0<=c/\c<=1):gk (cQ x d v c):=by
 have h1:gk (if dK x then nt (nY x v) c else x):=by
  split
  ·exact Ii (Eo h hv) hc
  ·exact h
 unfold cQ
 split
 ·exact dN h1 _ hv
 ·exact h1
theorem iE {a b:Int} (ha:bO a) (hb:bO b):bO (bits .and .u32 a b)/\bO (bits .or .u32 a b)/\bO (bits .xor .u32 a b)/\bO (bits .andNot .u32 a b):=by
 obtain⟨a0,a1⟩:=ha
 obtain⟨b0,b1⟩:=hb
 rw[u32_and a b a0 (by omega) b0 (by omega),u32_or a b a0 (by omega) b0 (by omega),u32_xor a b a0 (by omega) b0 (by omega),u32_andNot a b a0 (by omega) b0 (by omega)]
 have h1:a.toNat &&& b.toNat < 2 ^ 32:=Nat.and_lt_two_pow _ (show b.toNat < 4294967296 by omega)
 have h2:a.toNat ||| b.toNat < 2 ^ 32:=Nat.or_lt_two_pow (show a.toNat < 4294967296 by omega) (show b.toNat < 4294967296 by omega)
 have h3:a.toNat ^^^ b.toNat < 2 ^ 32:=Nat.xor_lt_two_pow (show a.toNat < 4294967296 by omega) (show b.toNat < 4294967296 by omega)
 have h4:a.toNat &&& (4294967295 - b.toNat) < 2 ^ 32:=Nat.and_lt_two_pow _ (show 4294967295 - b.toNat < 4294967296 by omega)
 generalize a.toNat &&& b.toNat=p at h1 ⊢
 generalize a.toNat ||| b.toNat=q at h2 ⊢
 generalize a.toNat ^^^ b.toNat=r at h3 ⊢
 generalize a.toNat &&& (4294967295 - b.toNat)=t at h4 ⊢
 unfold bO
 omega
theorem uS:bO 0:=⟨by decide,by decide⟩
theorem Ij {x:XS} (h:kq x):0<=cV x/\cV x<=1:=by
 have hc:=h.c
 unfold cV
 split
 ·exact hc
 ·split
  ·unfold Rm.fW
   have:=Rm.oZ x.i.az
   split
   ·split<;>omega
   ·omega
  ·split
   ·exact DO _ _ _ _ (bH h _)
   ·exact hc
theorem Ik {x:XS} (h:gk x) (hx:kq x):gk (dP x):=by
 have f:=bE hx
 have w:=bZ hx
 have c:=hx.c
 unfold dP
 repeat' split
 all_goals first|exact h|(refine P4 h _ ?_ ?_ ?_<;>first|exact f|exact w|exact cS f|exact cS w|exact c.1|decide|exact⟨by decide,by decide⟩)
theorem Ai {x:XS} (h:gk x) (hx:kq x):gk (ch x):=by
 have f:=bE hx
 have w:=bZ hx
 have c:=Ij hx
 have b:=iE f w
 have n:=cS w
 have o:=(iE f n).2.1
 unfold ch
 split
 ·exact eP h _ w c
 split
 ·exact eP h _ n c
 split
 ·exact eP h _ b.1 c
 split
 ·exact eP h _ b.2.1 c
 split
 ·exact eP h _ b.2.2.1 c
 split
 ·exact eP h _ b.2.2.2 c
 split
 ·exact eP h _ o c
 split
 ·exact eP h _ b.1 c
 split
 ·exact eP h _ b.2.2.1 c
 ·exact h
theorem Er {x:XS} (h:gk x) (k:Int) {v:Int} (n:Int) (hv:bO v):gk (gH x k v n):=eP h _ (DN _ _ _ hv) (DO _ _ _ _ hv)
theorem Aj {x:XS} (h:gk x) (hx:kq x):gk (dp x):=by
 unfold dp
 repeat' split
 all_goals first|exact h|exact Er h _ _ (bH hx _)
theorem yz {x:XS} (h:gk x) {a b:Int} (ha:bO a) (hb:bO b):gk (pq x a b):=dN (dN h _ ha) _ hb
theorem Il {x:XS} (h:gk x) (hx:kq x):gk (dQ x):=by
 have hab:gk { x with a:=au x x.i.rn,b:=au x x.i.rm }:=⟨h.s,bH hx _,bH hx _,h.k⟩
 unfold dQ
 repeat' split
 all_goals first|exact h|exact dN (Eo h (wrap_u32 _)) _ (wrap_u32 _)|exact dN h _ (D5 x)|exact dN h _ (wrap_u32 _)|exact yz h (D5 x) (JV hx)|exact yz h (Rm.rW _ _ _) (Rm.rW _ _ _)|exact dN hab _ (wrap_u32 _)
theorem qQ (r:Int) {v:Int} (hv:bO v):bO (fG r v):=by
 unfold fG
 split
 ·exact (iE hv ⟨by decide,by decide⟩).2.2.2
 ·exact hv
theorem Es {x:XS} (h:gk x) (hx:kq x):gk (cu x):=by
 unfold cu
 repeat' split
 all_goals first|exact h|exact dN h _ (qQ _ (wrap_u32 _))|exact dN h _ (qQ _ (bH hx _))|exact dN h _ (wrap_u32 _)|exact dN h _ (iE (iE (bH hx _) ⟨by decide,by decide⟩).1 (wrap_u32 _)).2.1
theorem yA {x:XS} (h:gk x) {v:Int} (hv:bO v):gk (iB x v):=by
 unfold iB
 split
 ·exact⟨h.s,h.a,h.b,.inr (.inl rfl)⟩
 ·exact dN h _ (iE hv ⟨by decide,by decide⟩).2.2.2
theorem Et {x:XS} (h:gk x) (hx:kq x):gk (eZ x):=by
 have ht:gk (iX x):=⟨h.s,h.a,h.b,h.k⟩
 unfold eZ
 repeat' split
 all_goals first|exact h|exact ht|exact dN ht _ (wrap_u32 _)|exact dN h _ (wrap_u32 _)|exact yA h (bH hx _)|exact⟨h.s,h.a,h.b,.inr (.inr rfl)⟩
theorem Eu {x:XS} (h:gk x) (hx:kq x):gk (eA x):=by
 unfold eA
 repeat' split
 ·exact Ik h hx
 ·exact Ai h hx
 ·exact Aj h hx
 ·exact Il h hx
 ·exact Es h hx
 ·exact Et h hx
theorem kj {x:XS} (h:gk x) (a n:Int):gk (de x a n):=⟨h.s,h.a,h.b,h.k⟩
theorem w5 {m:MS} (hm:Ei m) (a:Int):bO (qK m.fl m.w a):=by
 unfold qK
 split
 ·exact⟨by decide,by decide⟩
 ·split
  ·exact hm.w _
  ·split
   ·have b1:=DJ hm.fl (eI a)
    have b2:=DJ hm.fl (eI a+2)
    unfold bO; omega
   ·exact⟨by decide,by decide⟩
theorem P5 {m:MS} {x:XS} (hm:Ei m) (h:gk x) (a:Int):gk (iY m x a):=by
 unfold iY
 repeat' split
 ·exact kj h _ _
 ·exact dN (kj h _ _) _ (w5 hm _)
 ·exact kj h _ _
theorem Im {m:MS} {x:XS} (h:gk x):gk (mm m x):=by
 unfold mm
 split
 ·exact dN (kj h _ _) _ (wrap_u32 _)
 ·exact kj h _ _
theorem Ew {m:MS} (hm:Ei m) {x:XS} (h:gk x) (a:Int):∀ r,gk (cd m x a r).1
 | 0=>h
 | r+1=>by
  have ih:=Ew hm h a r
  rw[cd]
  split
  ·exact ih
  ·split
   ·exact ih
   ·split
    ·exact ih
    ·split
     ·exact yA ih (w5 hm _)
     ·exact dN ih _ (w5 hm _)
theorem P' {m:MS} (hm:Ei m) {x:XS} (h:gk x) (hx:kq x):gk (sH m x):=by
 have h1:=Ew hm (kj h (au x 13) (b_ x.i.ao)) (au x 13) 16
 have h2:=(sG (m:=m) (x:=de x (au x 13) (b_ x.i.ao)) (bH hx 13) 16).1
 unfold sH
 split
 ·exact dN h1 _ h2
 ·exact h1
theorem JY {m:MS} (hm:Ei m) {x:XS} (h:gk x) (hx:kq x):gk (jQ m x):=by
 unfold jQ
 repeat' split
 ·exact P5 hm h _
 ·exact Im h
 ·exact P' hm h hx
 ·exact Eu h hx
theorem uT {s:RS} (hs:uP s) (i:IN):gk (ca s i):=⟨⟨sK hs.r (wrap_u32 _),hs.n,hs.z,hs.c,hs.v⟩,uS,uS,.inl rfl⟩
theorem mo {w:Int} {wide:Prop} (h:kx w wide=0):aq (zV w wide)/\uA (zV w wide)/\eu wide (zV w wide).form:=by
 unfold kx at h
 split at h
 ·rename_i hf
  obtain⟨f,hf⟩:=hf
  have e:=pf hf
  rw[e]
  have hI:wx f:=by have:=hf.1; unfold eu at this; unfold wx; omega
  refine⟨hf.2.1.1,yh hI,?_⟩
  have:(aU f w).form=f:=rfl
  rw[this]; exact hf.1
 ·cases h
theorem qR {fl:List Int} {a:Int} (h:iD fl a=0):aq (d_ fl a)/\uA (d_ fl a):=by
 unfold iD at h
 unfold d_
 split at h
 ·rename_i h1; exact absurd h h1
 ·rename_i h1
  rw[if_neg h1]
  split at h
  ·rename_i h2
   rw[if_pos h2]
   exact⟨(mo h).1,(mo h).2.1⟩
  ·rename_i h2
   rw[if_neg h2]
   split at h
   ·rename_i h3; exact absurd h h3
   ·rename_i h3
    rw[if_neg h3]
    exact⟨(mo h).1,(mo h).2.1⟩
theorem sM {i:IN} (h:aq i):dO i.form=2\/dO i.form=4:=by
 have:=h.1
 unfold dO
 split
 ·exact .inr rfl
 ·split
  ·exact .inl rfl
  ·omega
theorem yB (i:IN) (t:Prop) [Decidable t] {a b:Int} (ha:bO a) (hb:bO b) (h0:0<=i.ao) (h1:i.ao<=65535):1<=dL i t a b/\dL i t a b<=20:=by
 have e1:=px ha.2
 have e2:=mP i.ao h0 h1
 unfold dL
 repeat' split
 all_goals first|omega|(unfold kB; split<;>omega)|(unfold divC; split<;>omega)
theorem yC (full:Prop) [Decidable full] (line a n:Int):0<=la full line a n/\la full line a n<=2:=by
 have b1:=mn full line (eG a)
 have b2:=mn True (eG a) (eG (IntKind.u32.wrap (a+2)))
 unfold la
 split<;>omega
theorem Ex {n w:Int} (hn:0<=n/\n<=2) (hw:0<=w/\w<=7):0<=n*w/\n*w<=14:=by
 rcases (show n=0\/n=1\/n=2 by omega) with rfl|rfl|rfl<;>omega
open Classical in
noncomputable def dY (m:MS):Int:=dL (d_ m.fl (m.s.R 15)) (jQ m (ca m.s (d_ m.fl (m.s.R 15)))).taken (jQ m (ca m.s (d_ m.fl (m.s.R 15)))).a (jQ m (ca m.s (d_ m.fl (m.s.R 15)))).b
open Classical in
noncomputable def dq (m:MS):Int:=la m.full m.line (m.s.R 15) (dO (d_ m.fl (m.s.R 15)).form)
noncomputable def uU (m:MS):XS:=jQ m (ca m.s (d_ m.fl (m.s.R 15)))
noncomputable def qS (m:MS):MS:=⟨yw m (ca m.s (d_ m.fl (m.s.R 15))),m.fl,m.wait,(uU m).s,True,sJ (m.s.R 15) (dO (d_ m.fl (m.s.R 15)).form),m.gJ+(dY m+dq m*m.wait),(uU m).kind,(uU m).code⟩
noncomputable def pB (m:MS):Int:=vm m (ca m.s (d_ m.fl (m.s.R 15)))
noncomputable def mq (m:MS):Int:=if m.kind≠0 then 71 else if iD m.fl (m.s.R 15)≠0 then 10 else if pB m≠0 then 10 else 0
noncomputable def jh (m:MS):MS:=if m.kind≠0 then m else if iD m.fl (m.s.R 15)≠0 then pA m (iD m.fl (m.s.R 15)) else if pB m≠0 then pA (jO m (yw m (ca m.s (d_ m.fl (m.s.R 15))))) (pB m) else qS m
noncomputable def evA (m:MS):Int:=if mq m≠0 then 0 else m.s.R 15
noncomputable def evD (m:MS):Int:=if mq m≠0 then 0 else (uU m).data
noncomputable def evW (m:MS):Int:=if mq m≠0 then 0 else (uU m).words
noncomputable def evC (m:MS):Int:=if mq m≠0 then 0 else dY m
noncomputable def evN (m:MS):Int:=if mq m≠0 then 0 else dq m
noncomputable def P_ (m:MS):PV:=VJ (evA m) (evD m) (evW m) (evC m) (evN m)
theorem Io (m:MS):P_ m=if mq m≠0 then VJ 0 0 0 0 0 else VJ (m.s.R 15) (uU m).data (uU m).words (dY m) (dq m):=by
 unfold P_ evA evD evW evC evN
 split<;>rfl
open Classical in
theorem Ip (m:MS) (hm:sL m):Spec gT 17 [.ptr 2 0] (stM m) [] fun y S'=>y = .tup [P_ m,.int .i64 (mq m)]/\S'=stM (jh m):=by
 have kE:mq m=if m.kind≠0 then 71 else if iD m.fl (m.s.R 15)≠0 then 10 else if pB m≠0 then 10 else 0:=rfl
 have kM:jh m=if m.kind≠0 then m else if iD m.fl (m.s.R 15)≠0 then pA m (iD m.fl (m.s.R 15)) else if pB m≠0 then pA (jO m (yw m (ca m.s (d_ m.fl (m.s.R 15))))) (pB m) else qS m:=rfl
 have kV:=Io m
 refine Spec.iJ (Spec.enter an P17 100 Tryz.func17 rfl (by kernel_rfl) ?_)
 refine⟨fun h=>?_,fun h=>?_⟩
 ·have h':m.kind≠0:=h
  rw[if_pos h'] at kE kM
  rw[kE,if_pos (by decide)] at kV
  rw[kV,kE,kM]
  exact rS
 rw[if_neg (show ¬ m.kind≠0 from h)] at kE kM
 refine (En m (m.s.R 15) hm.mem (hm.s.r 15)).e ?_
 refine⟨fun h=>?_,fun h=>?_⟩
 ·have h':iD m.fl (m.s.R 15)≠0:=h
  rw[if_pos h'] at kE kM
  rw[kE,if_pos (by decide)] at kV
  rw[kV,kE,kM]
  refine (uR m (iD m.fl (m.s.R 15))).e ?_
  exact rS
 have hf:iD m.fl (m.s.R 15)=0:=Classical.not_not.1 h
 rw[if_neg (show ¬ iD m.fl (m.s.R 15)≠0 from h)] at kE kM
 obtain⟨hr,yD⟩:=qR hf
 have hx:=qP hm.s hr yD
 have hy:=JY hm.mem (uT hm.s (d_ m.fl (m.s.R 15))) hx
 have fe:=sM hr
 have Qa:=jR hr yD
 have hdo:=Uo m (ca m.s (d_ m.fl (m.s.R 15))) hm.mem hx
 refine (jI (d_ m.fl (m.s.R 15))).u ?_
 refine .inr ?_
 refine .inr ?_
 refine⟨[],br,(hdo).TZ [0,1,2,5] rfl rfl rfl (by repeat' first|exact trivial|exact rfl|exact Iff.rfl|refine And.intro ?_ ?_) (And.intro (by first|(show fA _ _; exact aY rfl rfl)|(repeat' first|exact trivial|exact rfl|exact Iff.rfl|exact Or.inl rfl|exact not_false|refine And.intro ?_ ?_)) (And.intro (by first|(show fA _ _; exact aY rfl rfl)|(repeat' first|exact trivial|exact rfl|exact Iff.rfl|exact Or.inl rfl|exact not_false|refine And.intro ?_ ?_)) (And.intro (by first|(show fA _ _; exact aY rfl rfl)|(repeat' first|exact trivial|exact rfl|exact Iff.rfl|exact Or.inl rfl|exact not_false|refine And.intro ?_ ?_)) (And.intro (by first|(show fA _ _; exact aY rfl rfl)|(repeat' first|exact trivial|exact rfl|exact Iff.rfl|exact Or.inl rfl|exact not_false|refine And.intro ?_ ?_)) ?_))))⟩
 refine⟨fun h=>?_,fun h=>?_⟩
 ·have h':pB m≠0:=h
  rw[if_pos h'] at kE kM
  rw[kE,if_pos (by decide)] at kV
  rw[kV,kE,kM]
  refine (uR (jO m (yw m (ca m.s (d_ m.fl (m.s.R 15))))) (pB m)).e ?_
  exact rS
 rw[if_neg (show ¬ pB m≠0 from h)] at kE kM
 rw[kE,if_neg (by decide)] at kV
 rw[kV,kE,kM]
 have hba:=Ac (d_ m.fl (m.s.R 15)) (jQ m (ca m.s (d_ m.fl (m.s.R 15)))).taken (jQ m (ca m.s (d_ m.fl (m.s.R 15)))).a (jQ m (ca m.s (d_ m.fl (m.s.R 15)))).b hr (yD _ (by simp[nM])) Qa.1 Qa.2 hy.a hy.b
 have Yf:=w4 m.full m.line (m.s.R 15) (dO (d_ m.fl (m.s.R 15)).form) (hm.s.r 15) fe
 refine hba.u ?_
 refine (jI (d_ m.fl (m.s.R 15))).u ?_
 refine Yf.u ?_
 have Yg:=yC m.full m.line (m.s.R 15) (dO (d_ m.fl (m.s.R 15)).form)
 have hbb:=yB (d_ m.fl (m.s.R 15)) (jQ m (ca m.s (d_ m.fl (m.s.R 15)))).taken hy.a hy.b Qa.1 Qa.2
 have hmw:=Ex Yg hm.wait
 have hcy:=hm.gJ
 refine And.intro ?_ ?_
 ·refine And.intro ?_ ?_
  ·refine li ?_ (show _<=dq m*m.wait/\dq m*m.wait<=_ by unfold dq; omega)
   refine li ?_ (show _<=dY m+dq m*m.wait/\dY m+dq m*m.wait<=_ by unfold dq dY; omega)
   refine li ?_ (show _<=m.gJ+(dY m+dq m*m.wait)/\m.gJ+(dY m+dq m*m.wait)<=_ by unfold dq dY; omega)
   exact rS
  ·refine And.intro ?_ ?_
   ·refine (jI (d_ m.fl (m.s.R 15))).u ?_
    refine Yf.u ?_
    exact rfl
   ·first|exact trivial|((conv=>whnf); exact trivial)
 ·refine And.intro ?_ ?_
  ·refine Yf.u ?_
   exact rfl
  ·first|exact trivial|((conv=>whnf); exact trivial)
def sN (s:RS):RS:={ s with N:=min s.N 1,Z:=min s.Z 1,C:=min s.C 1,V:=min s.V 1 }
def Iq (m:MS) (s:RS):MS:={ m with s:=sN s }
theorem Qb (m:MS) (s:RS):Spec gT 14 [.ptr 2 0,ph s] (stM m) [] fun y S'=>y = .tup []/\S'=stM (Iq m s):=by
 refine Spec.iJ (Spec.enter an P14 100 Tryz.func14 rfl (by kernel_rfl) ?_)
 exact rS
theorem Ak (m:MS):Spec gT 34 [.ptr 2 0] (stM m) [] fun y S'=>y = .int .i64 m.gJ/\S'=stM m:=by
 refine Spec.iJ (Spec.enter an P34 100 Tryz.func34 rfl (by kernel_rfl) ?_)
 exact rS
def rs0:RS:=⟨fun _=>0,0,0,0,0⟩
def rK (fl:List Int) (wait:Int):MS:=⟨fun _=>0,fl,wait,rs0,False,0,0,0,0⟩
theorem qT:List.replicate 65536 (PV.int .u8 0)=fX fun _=>0:=by
 refine List.ext_getElem? fun k=>?_
 rw[uM,List.getElem?_replicate]
 split
 ·unfold mj jf; rw[Int.zero_ediv]; rfl
 ·rfl
theorem Ey (fl:List Int) (hl:fl.length<=65536):ai gT 69 [.sl 1 (gi fl)] (.sl 1 (gi fl)):=by
 have el:(gi fl).length=fl.length:=List.length_map ..
 have hm:0+(gi fl).length<=maxLen:=by rw[el]; unfold maxLen; omega
 have hb:(0+(gi fl).length)*1<=140737488355328:=by rw[el]; omega
 refine Spec.enter an P69 100 Tryz.func69 rfl (by kernel_rfl) ?_
 by_cases h:fl = []
 ·subst h
  refine .inr (And.intro ?_ ?_)
  ·exact aD (show (gi []) = [] from rfl)
  ·refine⟨hm,hb,?_⟩
   exact aD rfl
 ·refine .inl ⟨by rw[el]; exact fun e=>h (List.eq_nil_of_length_eq_zero e),?_⟩
  refine⟨hm,hb,?_⟩
  exact aD rfl
theorem Ir (a b:List Int):gi (a++b)=gi a++gi b:=List.map_append ..
theorem Ez (i:IN):(kA i).length<=4:=by
 unfold kA
 split<;>simp
theorem Al (p b q:List Int) (k:Nat) (h:k < b.length):(p++b++q).getD (p.length+k) 0=b.getD k 0:=by
 rw[List.getD_eq_getElem?_getD,List.getD_eq_getElem?_getD,List.append_assoc,List.getElem?_append_right (by omega),Nat.add_sub_cancel_left,List.getElem?_append_left h]
theorem EA (i:IN):DI (kA i):=by
 intro z hz
 unfold kA at hz
 split at hz<;>simp only[List.mem_append,List.mem_cons,List.not_mem_nil,or_false,false_or] at hz<;>omega
theorem It (p q:List Int) (i:IN) (h:aq i) (hg:i.ao<=9223372036854775807):T4 (p++kA i++q) p.length=i/\T5 (p++kA i++q) p.length=0:=by
 have fst:=Hs i h hg
 have bk:=back i h hg
 have wb:=Ht i
 have tw:=DH i h
 have tn:=wV i h
 have f1:=h.1
 unfold bO at wb
 have g:=Al p (kA i) q
 have Yh:(p++kA i++q).length=p.length+(kA i).length+q.length:=by rw[List.length_append,List.length_append]
 generalize fw:kA i=b at g Yh ⊢
 by_cases p4:48<=i.form
 ·have eb:b = [bs i / 65536 % 256,bs i / 16777216 % 256,bs i % 256,bs i / 256 % 256]:=by rw[← fw]; unfold kA; rw[if_pos p4]; rfl
  subst eb
  have el:(p++[bs i / 65536 % 256,bs i / 16777216 % 256,bs i % 256,bs i / 256 % 256]++q).length=p.length+4+q.length:=Yh
  generalize p++[bs i / 65536 % 256,bs i / 16777216 % 256,bs i % 256,bs i / 256 % 256]++q=l at g el ⊢
  have g0:=g 0 (by simp)
  have g1:=g 1 (by simp)
  have g2:=g 2 (by simp)
  have g3:=g 3 (by simp)
  have k0:hN l p.length=bs i / 65536:=by
   unfold hN
   rw[Nat.add_zero] at g0
   rw[g0,g1]
   show bs i / 65536 % 256+bs i / 16777216 % 256*256=_
   omega
  have k2:hN l (p.length+2)=bs i % 65536:=by
   unfold hN
   rw[g2,g3]
   show bs i % 256+bs i / 256 % 256*256=_
   omega
  have kW:hW l p.length=bs i:=by unfold hW; rw[k0,k2]; omega
  have hb:¬ ¬ dy (hN l p.length):=by
   have:=tw p4
   rw[k0]; unfold dy; omega
  have e:(48<=i.form)=True:=eq_true p4
  rw[e] at fst
  unfold T4 T5
  rw[if_neg (by omega),if_neg hb,if_neg (by omega),if_neg (by omega),if_neg hb,if_neg (by omega),kW,pf fst,sv fst,bk]
  exact⟨rfl,rfl⟩
 ·have eb:b = [bs i % 256,bs i / 256 % 256]:=by rw[← fw]; unfold kA; rw[if_neg p4]; rfl
  subst eb
  have el:(p++[bs i % 256,bs i / 256 % 256]++q).length=p.length+2+q.length:=Yh
  generalize p++[bs i % 256,bs i / 256 % 256]++q=l at g el ⊢
  have tn':=tn p4
  have g0:=g 0 (by simp)
  have g1:=g 1 (by simp)
  have k0:hN l p.length=bs i:=by
   unfold hN
   rw[Nat.add_zero] at g0
   rw[g0,g1]
   show bs i % 256+bs i / 256 % 256*256=_
   omega
  have hb:¬ dy (hN l p.length):=by rw[k0]; unfold dy; omega
  have e:(48<=i.form)=False:=eq_false p4
  rw[e] at fst
  unfold T4 T5
  rw[if_neg (by omega),if_pos hb,if_neg (by omega),if_pos hb,k0,pf fst,sv fst,bk]
  exact⟨rfl,rfl⟩
theorem Qc {fl:List Int} {n:Nat} (hn:n % 2=0) (hl:fl.length<=65536) (h:T5 fl n=0):iD fl (134217728+(n:Int))=0/\d_ fl (134217728+(n:Int))=T4 fl n:=by
 have e0:eI (134217728+(n:Int))=n:=by unfold eI; omega
 have h2:¬ (134217728+(n:Int)) % 2≠0:=by omega
 unfold T5 at h
 split at h
 ·cases h
 ·rename_i h1
  have f1:jL fl (134217728+(n:Int)) 2:=⟨by omega,by omega⟩
  have k1:m5 fl (134217728+(n:Int))=0:=by unfold m5; rw[if_neg h2,if_pos f1]
  have k2:jg fl (134217728+(n:Int))=hN fl n:=by unfold jg; rw[if_neg h2,if_pos f1,e0]
  unfold iD d_ T4
  rw[k1,k2,if_neg (show ¬ (0:Int)≠0 by decide),if_neg (show ¬ (0:Int)≠0 by decide),if_neg h1]
  split at h
  ·rename_i hb
   rw[if_pos hb,if_pos hb,if_pos hb]
   exact⟨h,rfl⟩
  ·rename_i hb
   rw[if_neg hb,if_neg hb,if_neg hb]
   split at h
   ·cases h
   ·rename_i h4
    have ew:IntKind.u32.wrap (134217728+(n:Int)+2)=134217728+((n+2:Nat):Int):=by rw[IntKind.wrap_u32']; omega
    have e1:eI (134217728+((n+2:Nat):Int))=n+2:=by unfold eI; omega
    have h3:¬ (134217728+((n+2:Nat):Int)) % 2≠0:=by omega
    have f2:jL fl (134217728+((n+2:Nat):Int)) 2:=⟨by omega,by omega⟩
    have k3:m5 fl (134217728+((n+2:Nat):Int))=0:=by unfold m5; rw[if_neg h3,if_pos f2]
    have k4:jg fl (134217728+((n+2:Nat):Int))=hN fl (n+2):=by unfold jg; rw[if_neg h3,if_pos f2,e1]
    have kh:kC fl (134217728+(n:Int))=hW fl n:=by unfold kC; rw[k2,ew,k4]; rfl
    rw[ew,k3,if_neg (show ¬ (0:Int)≠0 by decide),if_neg (show ¬ (0:Int)≠0 by decide),if_neg h4,kh]
    exact⟨h,rfl⟩
theorem Iu (p q:List Int) (i:IN) (h:aq i) (hi:uA i) (hp:p.length % 2=0) (hl:(p++kA i++q).length<=65536):iD (p++kA i++q) (134217728+(p.length:Int))=0/\d_ (p++kA i++q) (134217728+(p.length:Int))=i:=by
 have hI:=hi i.ao (by simp[nM])
 obtain⟨h1,h2⟩:=It p q i h hI.2
 obtain⟨h3,h4⟩:=Qc hp hl h2
 exact⟨h3,h4.trans h1⟩
theorem Iv {w:Nat->Int} (h:∀ k,bO (w k)) (j:Nat) {x:Int} (hx:bO x):∀ k,bO (p6 w j x k):=fun k=>by
 unfold p6; split
 ·exact hx
 ·exact h k
theorem EB {w:Nat->Int} (h:∀ k,bO (w k)) (a:Int) {x:Int} (hx:bO x):∀ k,bO (vl w a x k):=by
 unfold vl; split
 ·exact Iv h _ hx
 ·exact h
theorem yE {x:XS} (hx:kq x) {w:Nat->Int} (h:∀ k,bO (w k)) (a:Int):∀ r k,bO ((bW x w a r).1 k)
 | 0,k=>h k
 | r+1,k=>by
  have ih:=yE hx h a r
  rw[bW]
  split
  ·exact ih k
  ·split
   ·exact ih k
   ·split
    ·exact ih k
    ·exact EB ih _ (bH hx _) k
theorem Qd {m:MS} (hm:Ei m) {x:XS} (hx:kq x):∀ k,bO (yw m x k):=by
 unfold yw
 split
 ·unfold kr
  split
  ·exact EB hm.w _ (bH hx _)
  ·exact hm.w
 ·split
  ·exact yE hx hm.w _ 15
  ·exact hm.w
open Classical in
theorem yF {m:MS} (hm:sL m) (hc:m.gJ<=999999999999900):sL (jh m)/\m.gJ<=(jh m).gJ/\(jh m).gJ<=m.gJ+34/\(mq m=0->m.gJ < (jh m).gJ)/\(jh m).wait=m.wait/\(jh m).fl=m.fl:=by
 unfold jh
 split
 ·rename_i hk
  exact⟨hm,Int.le_refl _,by omega,fun h=>absurd h (by unfold mq; rw[if_pos hk]; decide),rfl,rfl⟩
 rename_i hk
 split
 ·rename_i hf
  exact⟨⟨⟨hm.mem.w,hm.mem.fl,hm.mem.len⟩,hm.s,hm.wait,hm.gJ⟩,Int.le_refl _,by show m.gJ<=_; omega,fun h=>absurd h (by unfold mq; rw[if_neg hk,if_pos hf]; decide),rfl,rfl⟩
 rename_i hf
 obtain⟨hr,yD⟩:=qR (Classical.not_not.1 hf)
 have hx:=qP hm.s hr yD
 have hy:=JY hm.mem (uT hm.s (d_ m.fl (m.s.R 15))) hx
 have hw:=Qd hm.mem hx
 split
 ·rename_i hd
  exact⟨⟨⟨hw,hm.mem.fl,hm.mem.len⟩,hm.s,hm.wait,hm.gJ⟩,Int.le_refl _,by show m.gJ<=_; omega,fun h=>absurd h (by unfold mq; rw[if_neg hk,if_neg hf,if_pos hd]; decide),rfl,rfl⟩
 ·have Qa:=jR hr yD
  have hb:1<=dY m/\dY m<=20:=by unfold dY; exact yB _ _ hy.a hy.b Qa.1 Qa.2
  have Yg:0<=dq m/\dq m<=2:=by unfold dq; exact yC _ _ _ _
  have hmw:=Ex Yg hm.wait
  have hcy:=hm.gJ
  have e:(qS m).gJ=m.gJ+(dY m+dq m*m.wait):=rfl
  exact⟨⟨⟨hw,hm.mem.fl,hm.mem.len⟩,hy.s,hm.wait,by show 0<=(qS m).gJ/\(qS m).gJ<=_; rw[e]; omega⟩,by rw[e]; omega,by rw[e]; omega,fun _=>by rw[e]; omega,rfl,rfl⟩
theorem Qe:uP rs0:=⟨fun _=>uS,⟨Int.le_refl _,Int.zero_le_ofNat 1⟩,⟨Int.le_refl _,Int.zero_le_ofNat 1⟩,⟨Int.le_refl _,Int.zero_le_ofNat 1⟩,⟨Int.le_refl _,Int.zero_le_ofNat 1⟩⟩
theorem Am {s:RS} (h:∀ k,bO (s.R k)) (hn:0<=s.N) (hz:0<=s.Z) (hc:0<=s.C) (hv:0<=s.V):uP (sN s):=⟨h,by show 0<=min s.N 1/\min s.N 1<=1; omega,by show 0<=min s.Z 1/\min s.Z 1<=1; omega,by show 0<=min s.C 1/\min s.C 1<=1; omega,by show 0<=min s.V 1/\min s.V 1<=1; omega⟩
theorem Qf {fl:List Int} {wait:Int} (hb:DI fl) (hl:fl.length<=65536) (hw:0<=wait/\wait<=7):sL (rK fl wait):=⟨⟨fun _=>uS,hb,hl⟩,Qe,hw,by show 0<=(0:Int)/\(0:Int)<=_; decide⟩
theorem Iw {m:MS} (hm:sL m) {s:RS} (h:uP (sN s)):sL (Iq m s):=⟨⟨hm.mem.w,hm.mem.fl,hm.mem.len⟩,h,hm.wait,hm.gJ⟩
abbrev EC (t:TypeId) (cs:List PV):ak:=⟨.loc,t,1,.w,true,cs⟩
abbrev stD (o:Nat) (m:MS):List ak:=[zY m.w,EC 94 [.sl 1 (gi m.fl),.wref o],EC 91 (.ptr (o+1) 0::(DL m).cs.tail)]
structure gl (x y:XS):Prop where
 i:y.i=x.i
 k:y.kind=x.kind
 c:y.code=x.code
 t:y.taken=x.taken
 r:y.s.R 15=x.s.R 15
theorem gl.refl (x:XS):gl x x:=⟨rfl,rfl,rfl,rfl,rfl⟩
theorem gl.trans {x y z:XS} (h:gl x y) (g:gl y z):gl x z:=⟨g.i.trans h.i,g.k.trans h.k,g.c.trans h.c,g.t.trans h.t,g.r.trans h.r⟩
theorem eQ {x:XS} {r v:Int} (h:r≠15):gl x (cD x r v):=⟨rfl,rfl,rfl,rfl,by show PN x.s.R r v 15=_; unfold PN; rw[if_neg (by omega)]⟩
theorem uV {x:XS} {d v w c:Int} (h:d≠15):gl x (gL x d v w c):=by
 have h1:gl x (if dK x then jK (nY x (Rm.fy v w c)) (Rm.jD v w c) (Rm.kS v w c) else x):=by
  split
  ·exact⟨rfl,rfl,rfl,rfl,rfl⟩
  ·exact .refl x
 unfold gL
 split
 ·exact h1.trans (eQ h)
 ·exact h1
theorem lb {x:XS} {d v c:Int} (h:d≠15):gl x (cQ x d v c):=by
 have h1:gl x (if dK x then nt (nY x v) c else x):=by
  split
  ·exact⟨rfl,rfl,rfl,rfl,rfl⟩
  ·exact .refl x
 unfold cQ
 split
 ·exact h1.trans (eQ h)
 ·exact h1
theorem An {x:XS} (h:x.i.rd≠15):gl x (dP x):=by
 unfold dP
 repeat' split
 all_goals first|exact uV h|exact uV (by decide)|exact .refl x
theorem uW {x:XS} (h:x.i.rd≠15):gl x (ch x):=by
 unfold ch
 repeat' split
 all_goals first|exact lb h|exact lb (by decide)|exact .refl x
theorem uX {x:XS} (h:x.i.rd≠15):gl x (dp x):=by
 unfold dp gH
 repeat' split
 all_goals first|exact lb h|exact .refl x
theorem w6 {x:XS} (h:x.i.rd≠15):gl x (cu x):=by
 unfold cu
 repeat' split
 all_goals first|exact eQ h|exact eQ (by decide)|exact .refl x
theorem Ao {x:XS} {lo hi:Int} (h:x.i.rd≠15) (g:x.i.ra≠15):gl x (pq x lo hi):=(eQ h).trans (eQ g)
theorem Ap {x:XS} (h:x.i.rd≠15) (g:x.i.ra≠15):gl x (dQ x):=by
 have hd:∀ v,gl x (cD { x with a:=au x x.i.rn,b:=au x x.i.rm } x.i.rd v):=fun v=>(show gl x { x with a:=au x x.i.rn,b:=au x x.i.rm } from ⟨rfl,rfl,rfl,rfl,rfl⟩).trans (eQ h)
 unfold dQ
 repeat' split
 all_goals first|exact eQ h|exact Ao h g|exact hd _|exact .refl x|exact (show gl x (nY x _) from ⟨rfl,rfl,rfl,rfl,rfl⟩).trans (eQ h)
theorem ED {m:MS} {x:XS} {a:Int} (h:x.i.rd≠15):gl x (iY m x a):=by
 have hd:gl x (de x a 1):=⟨rfl,rfl,rfl,rfl,rfl⟩
 unfold iY
 repeat' split
 all_goals first|exact hd|exact hd.trans (eQ h)
def EE (f:Int):Prop:=cp f=0/\f≠42/\f≠43
theorem Ix {m:MS} {x:XS} (h:x.i.rd≠15) (g:x.i.ra≠15) (hf:EE x.i.form):gl x (jQ m x):=by
 unfold jQ
 rw[if_neg hf.2.1,if_neg hf.2.2]
 split
 ·exact ED h
 unfold eA
 rw[uL hf.1]
 repeat' split
 ·exact An h
 ·exact uW h
 ·exact uX h
 ·exact Ap h g
 ·exact w6 h
 ·exact .refl x
theorem EF {i:IN} (h:aq i):i.rd≠15/\i.ra≠15:=⟨by have:=(fq h.2.1).2; omega,by have:=(fq h.2.2.2.2.1).2; omega⟩
open Classical in
theorem n8 {m:MS} {i:IN} (hk:m.kind=0) (hf:iD m.fl (m.s.R 15)=0) (hi:d_ m.fl (m.s.R 15)=i) (hr:aq i) (hs:EE i.form) (hd:vm m (ca m.s i)=0) :
  mq m=0/\jh m=⟨yw m (ca m.s i),m.fl,m.wait,(jQ m (ca m.s i)).s,True,sJ (m.s.R 15) (dO i.form),m.gJ+(dL i False (jQ m (ca m.s i)).a (jQ m (ca m.s i)).b+la m.full m.line (m.s.R 15) (dO i.form)*m.wait),0,0⟩/\(jQ m (ca m.s i)).s.R 15=IntKind.u32.wrap (m.s.R 15+IntKind.u32.wrap (dO i.form)):=by
 have gP:¬ m.kind≠0:=fun h=>h hk
 have hf':¬ iD m.fl (m.s.R 15)≠0:=fun h=>h hf
 have Q4:¬ pB m≠0:=by unfold pB; rw[hi]; exact fun h=>h hd
 obtain⟨h1,h2⟩:=EF hr
 have hK:gl (ca m.s i) (jQ m (ca m.s i)):=Ix h1 h2 hs
 have eT:(jQ m (ca m.s i)).taken=False:=hK.t
 refine⟨by unfold mq; rw[if_neg gP,if_neg hf',if_neg Q4],?_,hK.r⟩
 unfold jh
 rw[if_neg gP,if_neg hf',if_neg Q4]
 unfold qS dY dq uU
 rw[hi,hK.k,hK.c]
 have eB:dL i (jQ m (ca m.s i)).taken (jQ m (ca m.s i)).a (jQ m (ca m.s i)).b=dL i False (jQ m (ca m.s i)).a (jQ m (ca m.s i)).b:=by
  unfold dL
  simp only[eT]
 simp only[eB]
 rfl
noncomputable def qU:Nat->MS->MS
 | 0,m=>m
 | k+1,m=>jh (qU k m)
def dt (l:List IN):List Int:=l.flatMap kA
theorem uY {i:IN} (h:aq i):((kA i).length:Int)=dO i.form:=by
 have:=h.1
 unfold kA dO
 by_cases p4:48<=i.form
 ·rw[if_pos p4,if_pos ⟨p4,this.2⟩]; rfl
 ·rw[if_neg p4,if_neg (fun h=>p4 h.1),if_pos (by omega)]; rfl
theorem pC (a b:List IN):dt (a++b)=dt a++dt b:=List.flatMap_append ..
theorem qV:∀ {l:List IN},(∀ i∈l,aq i)->(dt l).length % 2=0
 | [],_=>rfl
 | i::l,h=>by
  have ih:=qV (l:=l) fun j hj=>h j (List.mem_cons_of_mem _ hj)
  have h1:=uY (h i (List.mem_cons_self ..))
  have h2:=sM (h i (List.mem_cons_self ..))
  have:dt (i::l)=kA i++dt l:=rfl
  rw[this,List.length_append]
  omega
structure Iy (m:MS) (l:List IN) (k:Nat):Prop where
 kd:m.kind=0
 fl:m.fl=dt l
 r:m.s.R 15=134217728+((dt (l.take k)).length:Int)
theorem Iy.EG {m:MS} {l:List IN} {k:Nat} {i:IN} (h:Iy m l k) (hl:∀ i∈l,aq i/\uA i) (hn:(dt l).length<=65536) (hi:l[k]?=some i):iD m.fl (m.s.R 15)=0/\d_ m.fl (m.s.R 15)=i:=by
 have hm:=List.mem_of_getElem? hi
 have es:l=l.take k++(i::l.drop (k+1)):=by
  have:=List.take_append_drop k l
  rw[List.drop_eq_getElem?_toList_append,hi] at this
  exact this.symm
 have eb:dt l=dt (l.take k)++kA i++dt (l.drop (k+1)):=by
  rw[List.append_assoc]
  calc dt l=dt (l.take k++(i::l.drop (k+1))):=by rw[← es]
   _=_:=by rw[pC]; rfl
 rw[h.fl,h.r,eb]
 refine Iu _ _ i (hl i hm).1 (hl i hm).2 (qV fun j hj=>(hl j (List.mem_of_mem_take hj)).1) ?_
 rw[← eb]; exact hn
theorem m6 {l:List IN} {k:Nat} {i:IN} (hi:l[k]?=some i):dt (l.take (k+1))=dt (l.take k)++kA i:=by
 rw[List.take_add_one,hi,pC]
 simp[dt]
theorem p_ (l:List IN) (k:Nat):(dt (l.take k)).length<=(dt l).length:=by
 have:dt l=dt (l.take k)++dt (l.drop k):=by rw[← pC,List.take_append_drop]
 rw[this,List.length_append]; omega
theorem Iy.next {m:MS} {l:List IN} {k:Nat} {i:IN} (h:Iy m l k) (hl:∀ i∈l,aq i/\uA i) (hn:(dt l).length<=65536) (hi:l[k]?=some i) (hs:EE i.form) (hd:vm m (ca m.s i)=0):Iy (jh m) l (k+1):=by
 obtain⟨h1,h2⟩:=h.EG hl hn hi
 have hr:=(hl i (List.mem_of_getElem? hi)).1
 obtain⟨h3,h4,h5⟩:=n8 h.kd h1 h2 hr hs hd
 have hb:=uY hr
 have ht:=p_ l (k+1)
 rw[m6 hi,List.length_append] at ht
 have Ya:=sM hr
 rw[h4]
 refine⟨rfl,h.fl,?_⟩
 show (jQ m (ca m.s i)).s.R 15=_
 rw[h5,h.r,m6 hi,List.length_append,IntKind.wrap_u32',IntKind.wrap_u32']
 omega
structure Alike (m n:MS):Prop where
 kd:n.kind=m.kind
 fl:n.fl=m.fl
 wait:n.wait=m.wait
 r:n.s.R 15=m.s.R 15
 full:n.full=m.full
 line:n.line=m.line
 gJ:n.gJ=m.gJ
open Classical in
theorem Alike.next {m n:MS} {l:List IN} {k:Nat} {i:IN} (ha:Alike m n) (h:Iy m l k) (hl:∀ i∈l,aq i/\uA i) (hn:(dt l).length<=65536) (hi:l[k]?=some i) (hs:EE i.form) (hd:vm m (ca m.s i)=0) (he:vm n (ca n.s i)=0) (h5:bm i.form≠5) (h4:bm i.form≠4):Alike (jh m) (jh n):=by
 obtain⟨h1,h2⟩:=h.EG hl hn hi
 have hr:=(hl i (List.mem_of_getElem? hi)).1
 obtain⟨_,em,rm⟩:=n8 h.kd h1 h2 hr hs hd
 obtain⟨_,en,rn⟩:=n8 (m:=n) (i:=i) (ha.kd.trans h.kd) (by rw[ha.fl,ha.r]; exact h1) (by rw[ha.fl,ha.r]; exact h2) hr hs he
 have eb:∀ a b c d:Int,dL i False a b=dL i False c d:=fun a b c d=>by
  unfold dL
  rw[if_neg h5,if_neg h5]
 rw[em,en]
 have eN:la n.full n.line (n.s.R 15) (dO i.form)=la m.full m.line (m.s.R 15) (dO i.form):=by
  have e1:=ha.full
  rw[ha.line,ha.r]
  unfold la fQ
  simp only[e1]
 refine⟨rfl,ha.fl,ha.wait,?_,rfl,?_,?_⟩
 ·show (jQ n (ca n.s i)).s.R 15=(jQ m (ca m.s i)).s.R 15
  rw[rm,rn,ha.r]
 ·show sJ (n.s.R 15) _=sJ (m.s.R 15) _
  rw[ha.r]
 ·show n.gJ+(dL i False _ _+la n.full n.line (n.s.R 15) (dO i.form)*n.wait)=m.gJ+(dL i False _ _+la m.full m.line (m.s.R 15) (dO i.form)*m.wait)
  rw[eN,ha.gJ,ha.wait,eb]
def Up (f:Int):Prop:=EE f/\bR f=0
theorem n9 {m:MS} {x:XS} (h:Up x.i.form):vm m x=0:=by
 unfold vm
 rw[if_neg (fun e=>e h.2),if_neg h.1.2.1,if_neg h.1.2.2]
theorem m7 {m n:MS} {l:List IN} (ha:Alike m n) (h:Iy m l 0) (hl:∀ i∈l,aq i/\uA i) (hn:(dt l).length<=65536) (hs:∀ i∈l,Up i.form/\bm i.form≠5/\bm i.form≠4):∀ k,k<=l.length->Iy (qU k m) l k/\Alike (qU k m) (qU k n)
 | 0,_=>⟨h,ha⟩
 | k+1,hk=>by
  obtain⟨h1,h2⟩:=m7 ha h hl hn hs k (by omega)
  obtain⟨i,hi⟩:∃ i,l[k]?=some i:=⟨_,List.getElem?_eq_getElem (by omega)⟩
  obtain⟨h3,h4,h5⟩:=hs i (List.mem_of_getElem? hi)
  exact⟨h1.next hl hn hi h3.1 (n9 h3),h2.next h1 hl hn hi h3.1 (n9 h3) (n9 h3) h4 h5⟩
end Go.Proofs.YtlgkljpgagfndaaGreatDoor.Pw

/- What this claim is proved with: no condition. -/
import Derived.Test.YtlgkljpgagfndaaGreatDoorNv22
import Derived.Test.YtlgkljpgagfndaaGreatDoorNv23
import Derived.Test.YtlgkljpgagfndaaGreatDoorNv21
import Derived.Test.YtlgkljpgagfndaaGreatDoorNv11
set_option maxRecDepth 100000
set_option maxHeartbeats 16000000
set_option linter.unusedVariables false
set_option linter.unusedSimpArgs false
namespace Go.Proofs.YtlgkljpgagfndaaGreatDoor.Pw
open Go Go.RowKit
def Bs (m:MS) (x:XS):Int:=if bY x.i.form≠0 then mQ m x (iT x) else if x.i.form=42 then (lj m x).2.2 else if x.i.form=43 then (rT m x).2.2 else 0
def x5 (m:MS) (x:XS):Nat->Int:=if bY x.i.form≠0 then lZ m x (iT x) else if x.i.form=42 then (lj m x).1 else m.w
def eO (x:XS):XS:=if aX x.i.form≠0 then eR x else if aY x.i.form≠0 then cA x else if cT x.i.form≠0 then dW x else if bK x.i.form≠0 then eS x else if bP x.i.form≠0 then cP x else fU x
def kA (m:MS) (x:XS):XS:=if bY x.i.form≠0 then j9 m x (iT x) else if x.i.form=42 then n9 m x else if x.i.form=43 then vB m x else eO x
theorem Ms {x:XS}:a_ (iT x):=by
 unfold iT
 repeat' split
 all_goals first|exact wrap_u32 _|exact⟨by decide,by decide⟩
theorem Zg (m:MS) (x:XS) (hm:Ie m) (hx:lY x):Spec gT 46 [.ptr 3 0] (gU m x) [] fun y S'=>y = .int .i64 (Bs m x)/\S'=gU (lh m (x5 m x)) (kA m x):=by
 refine Spec.jS (Spec.enter al P46 100 Tryz.func46 rfl (by kernel_rfl) ?_)
 refine (zP m x hx).e ?_
 refine⟨fun ha=>?_,fun ha=>?_⟩
 ·have dv:bY x.i.form≠0:=ha
  have e1:Bs m x=mQ m x (iT x):=by unfold Bs; rw[if_pos dv]
  have e2:x5 m x=lZ m x (iT x):=by unfold x5; rw[if_pos dv]
  have e3:kA m x=j9 m x (iT x):=by unfold kA; rw[if_pos dv]
  rw[e1,e2,e3]
  refine (DI m x (iT x) hm hx Ms).e ?_
  exact rS
 have dv:¬ bY x.i.form≠0:=ha
 refine⟨fun Ej=>?_,fun Ej=>?_⟩
 ·have e1:Bs m x=(lj m x).2.2:=by unfold Bs; rw[if_neg dv,if_pos Ej]
  have e2:x5 m x=(lj m x).1:=by unfold x5; rw[if_neg dv,if_pos Ej]
  have e3:kA m x=n9 m x:=by unfold kA; rw[if_neg dv,if_pos Ej]
  rw[e1,e2,e3]
  refine (Mp m x hx).e ?_
  exact rS
 have e2:x5 m x=m.w:=by unfold x5; rw[if_neg dv,if_neg Ej]
 rw[e2]
 refine⟨fun NT=>?_,fun NT=>?_⟩
 ·have e1:Bs m x=(rT m x).2.2:=by unfold Bs; rw[if_neg dv,if_neg Ej,if_pos NT]
  have e3:kA m x=vB m x:=by unfold kA; rw[if_neg dv,if_neg Ej,if_pos NT]
  rw[e1,e3]
  refine (Mr m x hm hx).e ?_
  exact rS
 have e1:Bs m x=0:=by unfold Bs; rw[if_neg dv,if_neg Ej,if_neg NT]
 have e3:kA m x=eO x:=by unfold kA; rw[if_neg dv,if_neg Ej,if_neg NT]
 rw[e1,e3]
 have s0:=L1 m x hx
 by_cases c0:aX x.i.form≠0
 ·have e:eO x=eR x:=by unfold eO; rw[if_pos c0]
  rw[e]
  refine (s0).e ?_
  refine⟨fun h=>absurd c0 h,fun _=>?_⟩
  exact rS
 rw[Bl (Classical.not_not.1 c0)] at s0
 have s1:=DD m x hx
 by_cases c1:aY x.i.form≠0
 ·have e:eO x=cA x:=by unfold eO; rw[if_neg c0,if_pos c1]
  rw[e]
  refine (s0).e ?_
  refine⟨fun _=>?_,fun h=>absurd c0 h⟩
  refine (s1).e ?_
  refine⟨fun h=>absurd c1 h,fun _=>?_⟩
  exact rS
 rw[tY (Classical.not_not.1 c1)] at s1
 have s2:=DF m x hx
 by_cases c2:cT x.i.form≠0
 ·have e:eO x=dW x:=by unfold eO; rw[if_neg c0,if_neg c1,if_pos c2]
  rw[e]
  refine (s0).e ?_
  refine⟨fun _=>?_,fun h=>absurd c0 h⟩
  refine (s1).e ?_
  refine⟨fun _=>?_,fun h=>absurd c1 h⟩
  refine (s2).e ?_
  refine⟨fun h=>absurd c2 h,fun _=>?_⟩
  exact rS
 rw[tZ (Classical.not_not.1 c2)] at s2
 have s3:=xT m x hx
 by_cases c3:bK x.i.form≠0
 ·have e:eO x=eS x:=by unfold eO; rw[if_neg c0,if_neg c1,if_neg c2,if_pos c3]
  rw[e]
  refine (s0).e ?_
  refine⟨fun _=>?_,fun h=>absurd c0 h⟩
  refine (s1).e ?_
  refine⟨fun _=>?_,fun h=>absurd c1 h⟩
  refine (s2).e ?_
  refine⟨fun _=>?_,fun h=>absurd c2 h⟩
  refine (s3).e ?_
  refine⟨fun h=>absurd c3 h,fun _=>?_⟩
  exact rS
 rw[Bo (Classical.not_not.1 c3)] at s3
 have s4:=HL m x hx
 by_cases c4:bP x.i.form≠0
 ·have e:eO x=cP x:=by unfold eO; rw[if_neg c0,if_neg c1,if_neg c2,if_neg c3,if_pos c4]
  rw[e]
  refine (s0).e ?_
  refine⟨fun _=>?_,fun h=>absurd c0 h⟩
  refine (s1).e ?_
  refine⟨fun _=>?_,fun h=>absurd c1 h⟩
  refine (s2).e ?_
  refine⟨fun _=>?_,fun h=>absurd c2 h⟩
  refine (s3).e ?_
  refine⟨fun _=>?_,fun h=>absurd c3 h⟩
  refine (s4).e ?_
  refine⟨fun h=>absurd c4 h,fun _=>?_⟩
  exact rS
 rw[xS (Classical.not_not.1 c4)] at s4
 have e:eO x=fU x:=by unfold eO; rw[if_neg c0,if_neg c1,if_neg c2,if_neg c3,if_neg c4]
 rw[e]
 refine (s0).e ?_
 refine⟨fun _=>?_,fun h=>absurd c0 h⟩
 refine (s1).e ?_
 refine⟨fun _=>?_,fun h=>absurd c1 h⟩
 refine (s2).e ?_
 refine⟨fun _=>?_,fun h=>absurd c2 h⟩
 refine (s3).e ?_
 refine⟨fun _=>?_,fun h=>absurd c3 h⟩
 refine (s4).e ?_
 refine⟨fun _=>?_,fun h=>absurd c4 h⟩
 refine (HT m x hx).e ?_
 exact rS
def divC (a b:Int):Int:=if b=0\/(Lib.bitLen a.toNat:Int) - Lib.bitLen b.toNat < 0 then 2 else 3+((Lib.bitLen a.toNat:Int) - Lib.bitLen b.toNat) / 4
theorem rU {x:Int} (h:x<=4294967295):Lib.bitLen x.toNat<=32:=Rm.gN x.toNat (by omega)
theorem DM (a b:Int) (ha:a_ a) (hb:a_ b):ai gT 88 [.int .u32 a,.int .u32 b] (.int .i64 (divC a b)):=by
 have h1:=rU ha.2
 have h2:=rU hb.2
 refine Spec.enter al P88 100 Tryz.func88 rfl (by kernel_rfl) ?_
 refine (tU a ha).u ?_
 refine (tU b hb).u ?_
 refine li ?_
 refine⟨fun h=>?_,fun h=>And.intro (fun h3=>?_) (fun h3=>?_)⟩
 ·refine aw ?_
  exact (show (2:Int)=divC a b by unfold divC; rw[if_pos (.inl h)])
 ·refine aw ?_
  exact (show (2:Int)=divC a b by unfold divC; rw[if_pos (.inr h3)])
 ·refine⟨by decide,.inl ⟨by omega,show (Lib.bitLen a.toNat:Int) - Lib.bitLen b.toNat<=9223372036854775807 by omega,by decide,?_⟩⟩
  refine li ?_
  refine aw ?_
  exact (show (3:Int)+_=divC a b by unfold divC; rw[if_neg (by omega)])
def Un (ar:Int):Prop:=bits .and .i64 (ar / Ev.aV .i64 15) 1=1
instance (r:Int):Decidable (Un r):=by unfold Un; infer_instance
def ml (i:IN):Int:=if i.form=43/\Un i.ar then 1+cl i.ar+2 else 1+cl i.ar
theorem rV (i:IN) (h0:0<=i.ar) (h1:i.ar<=65535):ai gT 87 [cX i] (.int .i64 (ml i)):=by
 have hb:=oU i.ar h0 h1
 refine Spec.enter al P87 100 Tryz.func87 rfl (by kernel_rfl) ?_
 refine lu ?_ (show 0<=i.ar/\i.ar<=_ by omega)
 refine (rM i.ar h0 h1).u ?_
 refine li ?_ (show _<=1+cl i.ar/\1+cl i.ar<=_ by omega)
 refine⟨fun h=>?_,fun h=>?_⟩
 ·refine⟨by decide,?_⟩
  refine⟨fun ht=>?_,fun ht=>?_⟩
  ·refine li ?_ (show _<=1+cl i.ar+2/\1+cl i.ar+2<=_ by omega)
   exact aw (show 1+cl i.ar+2=ml i by unfold ml; rw[if_pos ⟨h,ht⟩])
  ·exact aw (show 1+cl i.ar=ml i by unfold ml; rw[if_neg (fun q=>ht q.2)])
 ·exact aw (show 1+cl i.ar=ml i by unfold ml; rw[if_neg (fun q=>h q.1)])
def bN (f:Int):Int :=
 if f=46\/f=99 then 1 else if f=47\/f=100\/f=31 then 2 else if f=32\/f=34\/f=36\/f=38\/f=85\/f=87\/f=33\/f=35\/f=37\/f=84\/f=86\/f=93\/f=94 then 3 else if f=42\/f=43 then 4 else if f=97 then 5 else 0
def fI (i:IN) (t:Prop) [Decidable t] (a b:Int):Int:=if bN i.form=1 then (if t then 3 else 1) else if bN i.form=2 then 3 else if bN i.form=3 then 2 else if bN i.form=4 then ml i else if bN i.form=5 then divC a b else 1
theorem Mt {i:IN} {t:Prop} [Decidable t] {a b:Int} (h:bN i.form=0):fI i t a b=1:=by unfold fI; rw[if_neg (by omega),if_neg (by omega),if_neg (by omega),if_neg (by omega),if_neg (by omega)]
theorem Bt {i:IN} {t:Prop} [Decidable t] {a b:Int} (h:bN i.form=1):fI i t a b=(if t then 3 else 1):=by unfold fI; rw[if_pos h]
theorem vC {i:IN} {t:Prop} [Decidable t] {a b:Int} (h:bN i.form=2):fI i t a b=3:=by unfold fI; rw[if_neg (by omega),if_pos h]
theorem fv {i:IN} {t:Prop} [Decidable t] {a b:Int} (h:bN i.form=3):fI i t a b=2:=by unfold fI; rw[if_neg (by omega),if_neg (by omega),if_pos h]
theorem Bu {i:IN} {t:Prop} [Decidable t] {a b:Int} (h:bN i.form=4):fI i t a b=ml i:=by unfold fI; rw[if_neg (by omega),if_neg (by omega),if_neg (by omega),if_pos h]
theorem Mu {i:IN} {t:Prop} [Decidable t] {a b:Int} (h:bN i.form=5):fI i t a b=divC a b:=by unfold fI; rw[if_neg (by omega),if_neg (by omega),if_neg (by omega),if_neg (by omega),if_pos h]
theorem DN (i:IN) (t:Prop) [Decidable t] (a b:Int) (hr:au i) (hi:zi i.az) (h0:0<=i.ar) (h1:i.ar<=65535) (ha:a_ a) (hb:a_ b):ai gT 47 [cX i,.bool t,.int .u32 a,.int .u32 b] (.tup [.int .i64 (fI i t a b),.int .i64 0]):=by
 refine Spec.enter al P47 100 Tryz.func47 rfl (by kernel_rfl) ?_
 refine (mH i hi).u ?_
 refine⟨fun h=>absurd hr h,fun _=>?_⟩
 refine⟨fun Zd=>?_,fun Zd=>?_⟩
 ·have hc:bN i.form=1:=by rw[show i.form=46 from Zd]; rfl
  rw[Bt hc]
  refine⟨fun h=>?_,fun h=>?_⟩
  ·rw[if_neg (show ¬ t from h)]
   exact aw (And.intro rfl (And.intro rfl trivial))
  ·rw[if_pos (Classical.not_not.1 (show ¬ ¬ t from h))]
   exact aw (And.intro rfl (And.intro rfl trivial))
 refine⟨fun Ze=>?_,fun Ze=>?_⟩
 ·have hc:bN i.form=1:=by rw[show i.form=99 from Ze]; rfl
  rw[Bt hc]
  refine⟨fun h=>?_,fun h=>?_⟩
  ·rw[if_neg (show ¬ t from h)]
   exact aw (And.intro rfl (And.intro rfl trivial))
  ·rw[if_pos (Classical.not_not.1 (show ¬ ¬ t from h))]
   exact aw (And.intro rfl (And.intro rfl trivial))
 refine⟨fun Zf=>?_,fun Zf=>?_⟩
 ·have hc:bN i.form=2:=by rw[show i.form=47 from Zf]; rfl
  rw[vC hc]
  exact aw (And.intro rfl (And.intro rfl trivial))
 refine⟨fun HU=>?_,fun HU=>?_⟩
 ·have hc:bN i.form=2:=by rw[show i.form=100 from HU]; rfl
  rw[vC hc]
  exact aw (And.intro rfl (And.intro rfl trivial))
 refine⟨fun HV=>?_,fun HV=>?_⟩
 ·have hc:bN i.form=2:=by rw[show i.form=31 from HV]; rfl
  rw[vC hc]
  exact aw (And.intro rfl (And.intro rfl trivial))
 refine⟨fun Kt=>?_,fun Kt=>?_⟩
 ·have hc:bN i.form=3:=by rw[show i.form=32 from Kt]; rfl
  rw[fv hc]
  exact aw (And.intro rfl (And.intro rfl trivial))
 refine⟨fun Y5=>?_,fun Y5=>?_⟩
 ·have hc:bN i.form=3:=by rw[show i.form=34 from Y5]; rfl
  rw[fv hc]
  exact aw (And.intro rfl (And.intro rfl trivial))
 refine⟨fun Y7=>?_,fun Y7=>?_⟩
 ·have hc:bN i.form=3:=by rw[show i.form=36 from Y7]; rfl
  rw[fv hc]
  exact aw (And.intro rfl (And.intro rfl trivial))
 refine⟨fun Y_=>?_,fun Y_=>?_⟩
 ·have hc:bN i.form=3:=by rw[show i.form=38 from Y_]; rfl
  rw[fv hc]
  exact aw (And.intro rfl (And.intro rfl trivial))
 refine⟨fun Y9=>?_,fun Y9=>?_⟩
 ·have hc:bN i.form=3:=by rw[show i.form=85 from Y9]; rfl
  rw[fv hc]
  exact aw (And.intro rfl (And.intro rfl trivial))
 refine⟨fun Zb=>?_,fun Zb=>?_⟩
 ·have hc:bN i.form=3:=by rw[show i.form=87 from Zb]; rfl
  rw[fv hc]
  exact aw (And.intro rfl (And.intro rfl trivial))
 refine⟨fun Y6=>?_,fun Y6=>?_⟩
 ·have hc:bN i.form=3:=by rw[show i.form=33 from Y6]; rfl
  rw[fv hc]
  exact aw (And.intro rfl (And.intro rfl trivial))
 refine⟨fun Y8=>?_,fun Y8=>?_⟩
 ·have hc:bN i.form=3:=by rw[show i.form=35 from Y8]; rfl
  rw[fv hc]
  exact aw (And.intro rfl (And.intro rfl trivial))
 refine⟨fun Za=>?_,fun Za=>?_⟩
 ·have hc:bN i.form=3:=by rw[show i.form=37 from Za]; rfl
  rw[fv hc]
  exact aw (And.intro rfl (And.intro rfl trivial))
 refine⟨fun Y'=>?_,fun Y'=>?_⟩
 ·have hc:bN i.form=3:=by rw[show i.form=84 from Y']; rfl
  rw[fv hc]
  exact aw (And.intro rfl (And.intro rfl trivial))
 refine⟨fun Zc=>?_,fun Zc=>?_⟩
 ·have hc:bN i.form=3:=by rw[show i.form=86 from Zc]; rfl
  rw[fv hc]
  exact aw (And.intro rfl (And.intro rfl trivial))
 refine⟨fun Y2=>?_,fun Y2=>?_⟩
 ·have hc:bN i.form=3:=by rw[show i.form=93 from Y2]; rfl
  rw[fv hc]
  exact aw (And.intro rfl (And.intro rfl trivial))
 refine⟨fun Y3=>?_,fun Y3=>?_⟩
 ·have hc:bN i.form=3:=by rw[show i.form=94 from Y3]; rfl
  rw[fv hc]
  exact aw (And.intro rfl (And.intro rfl trivial))
 refine⟨fun Ej=>?_,fun Ej=>?_⟩
 ·have hc:bN i.form=4:=by rw[show i.form=42 from Ej]; rfl
  rw[Bu hc]
  refine (rV i h0 h1).u ?_
  exact aw (And.intro rfl (And.intro rfl trivial))
 refine⟨fun NT=>?_,fun NT=>?_⟩
 ·have hc:bN i.form=4:=by rw[show i.form=43 from NT]; rfl
  rw[Bu hc]
  refine (rV i h0 h1).u ?_
  exact aw (And.intro rfl (And.intro rfl trivial))
 refine⟨fun Y4=>?_,fun Y4=>?_⟩
 ·have hc:bN i.form=5:=by rw[show i.form=97 from Y4]; rfl
  rw[Mu hc]
  refine (DM a b ha hb).u ?_
  exact aw (And.intro rfl (And.intro rfl trivial))
 ·have hc:bN i.form=0:=by unfold bN; rw[if_neg (by omega),if_neg (by omega),if_neg (by omega),if_neg (by omega),if_neg (by omega)]
  rw[Mt hc]
  exact aw (And.intro rfl (And.intro rfl trivial))
def fy (a:Int):Int:=a / 16
def Mv (full:Prop) (line:Int):PV:=.agg [.bool full,.int .u32 line]
theorem zS (n:Int):ai gT 89 [.int .i64 n] (.bool (n=2\/n=4)):=by
 refine Spec.enter al P89 100 Tryz.func89 rfl (by kernel_rfl) ?_
 refine⟨fun h=>?_,fun h=>?_⟩
 ·exact aw (show n=2\/n=4 from .inl h)
 ·exact aw (show n=4↔(n=2\/n=4) from ⟨.inr,fun q=>q.elim (fun e=>absurd e h) id⟩)
theorem uc (a:Int) (ha:a_ a):ai gT 91 [.int .u32 a] (.int .u32 (fy a)):=by
 refine Spec.enter al P91 100 Tryz.func91 rfl (by kernel_rfl) ?_
 refine And.intro (show (16:Int)≠0 by decide) (.inl ⟨ha.1,show a<=4294967295 from ha.2,show (0:Int) < 16 by decide,?_⟩)
 exact aw rfl
def hZ (full:Prop) [Decidable full] (line l:Int):Int:=if full/\line=l then 0 else 1
theorem ud (full:Prop) [Decidable full] (line l:Int):ai gT 90 [Mv full line,.int .u32 l] (.tup [Mv True l,.int .i64 (hZ full line l)]):=by
 refine Spec.enter al P90 100 Tryz.func90 rfl (by kernel_rfl) ?_
 refine⟨fun h=>?_,fun h=>?_⟩
 ·refine⟨fun hl=>?_,fun hl=>?_⟩
  ·have e:hZ full line l=0:=by unfold hZ; rw[if_pos ⟨h,hl⟩]
   rw[e]
   exact aw (And.intro (And.intro (iff_true_intro h) (And.intro hl trivial)) (And.intro rfl trivial))
  ·have e:hZ full line l=1:=by unfold hZ; rw[if_neg (fun q=>hl q.2)]
   rw[e]
   exact aw (And.intro (And.intro trivial (And.intro rfl trivial)) (And.intro rfl trivial))
 ·have e:hZ full line l=1:=by unfold hZ; rw[if_neg (fun q=>h q.1)]
  rw[e]
  exact aw (And.intro (And.intro trivial (And.intro rfl trivial)) (And.intro rfl trivial))
def zT (at_ n:Int):Int:=if n=2 then fy at_ else fy (IntKind.u32.wrap (at_+2))
def s_ (full:Prop) [Decidable full] (line at_ n:Int):Int:=if n=2 then hZ full line (fy at_) else hZ full line (fy at_)+hZ True (fy at_) (fy (IntKind.u32.wrap (at_+2)))
theorem n_ (full:Prop) [Decidable full] (line l:Int):0<=hZ full line l/\hZ full line l<=1:=by unfold hZ; split<;>omega
theorem zU (full:Prop) [Decidable full] (line at_ n:Int) (ha:a_ at_) (hn:n=2\/n=4):ai gT 48 [Mv full line,.int .u32 at_,.int .i64 n] (.tup [Mv True (zT at_ n),.int .i64 (s_ full line at_ n)]):=by
 have b1:=n_ full line (fy at_)
 have b2:=n_ True (fy at_) (fy (IntKind.u32.wrap (at_+2)))
 refine Spec.enter al P48 100 Tryz.func48 rfl (by kernel_rfl) ?_
 refine (zS n).u ?_
 refine⟨fun h=>absurd hn h,fun _=>?_⟩
 refine (uc at_ ha).u ?_
 refine (ud full line (fy at_)).u ?_
 refine⟨fun h=>?_,fun h=>?_⟩
 ·have e1:zT at_ n=fy at_:=by unfold zT; rw[if_pos h]
  have e2:s_ full line at_ n=hZ full line (fy at_):=by unfold s_; rw[if_pos h]
  rw[e1,e2]
  exact rA
 ·have e1:zT at_ n=fy (IntKind.u32.wrap (at_+2)):=by unfold zT; rw[if_neg h]
  have e2:s_ full line at_ n=hZ full line (fy at_)+hZ True (fy at_) (fy (IntKind.u32.wrap (at_+2))):=by unfold s_; rw[if_neg h]
  rw[e1,e2]
  refine .inr ?_
  refine (uc (IntKind.u32.wrap (at_+2)) (wrap_u32 _)).u ?_
  refine (ud True (fy at_) (fy (IntKind.u32.wrap (at_+2)))).u ?_
  refine li ?_
  exact rA
theorem Mw:∀ s:Fin 35,(ch (s.1:Int)).ar=0\/(ch (s.1:Int)).ar=16639\/(ch (s.1:Int)).ar=33023:=by decide
theorem DO (f:Int):0<=aa f/\aa f<=34:=by
 unfold aa
 split
 ·have key:∀ n:Fin 101,0<=Vb.getD n.1 0/\Vb.getD n.1 0<=34:=by decide
  exact key ⟨f.toNat,by omega⟩
 ·decide
theorem ll {i:IN} (h:au i) (hi:yw i):0<=i.ar/\i.ar<=65535:=by
 obtain⟨hf,h1,h2,h3,h4,h5,_⟩:=h
 have hb:=DO i.form
 have hr:=Mw ⟨(aa i.form).toNat,by omega⟩
 rw[show (((⟨(aa i.form).toNat,by omega⟩:Fin 35).1:Nat):Int)=aa i.form by simp only[]; omega] at hr
 have hI:=hi i.ar (by simp[pX])
 rcases h5 with ⟨_,e⟩|⟨hn,h0,ha⟩
 ·omega
 ·rcases hr with e|e|e
  ·exact absurd e hn
  ·rw[e] at ha
   have:=vd 14 (by decide) (by decide) i.ar 16639 (by decide) h0 hI.2 ha
   omega
  ·rw[e] at ha
   have:=vd 15 (by decide) (by decide) i.ar 33023 (by decide) h0 hI.2 ha
   omega
theorem DP {i:IN} (h:au i) (hs:aa i.form=21\/aa i.form=22\/aa i.form=23):0<=i.kind/\i.kind<=3/\0<=i.bG/\i.bG<=255:=by
 obtain⟨hf,h1,h2,h3,h4,h5,h6,h7,h8,h9,cV⟩:=h
 have hk:(ch (aa i.form)).kind=true:=by rcases hs with e|e|e<;>rw[e]<;>rfl
 rcases h9 with ⟨_,hb⟩|⟨hn,_⟩
 ·unfold cO at hb; omega
 ·exact absurd hk hn
theorem DQ {f:Int} (h:1<=f/\f<=3):aa f=1:=by
 rcases (show f=1\/f=2\/f=3 by omega) with rfl|rfl|rfl<;>decide
theorem DS {i:IN} (h:au i) (hf:1<=i.form/\i.form<=3):0<=i.az/\i.az<=32:=by
 obtain⟨_,h1,h2,h3,h4,h5,h6,h7,h8,h9,cV⟩:=h
 rw[DQ hf] at h7
 have e0:(ch 1).i0=0:=rfl
 have e1:(ch 1).i1=32:=rfl
 rcases h7 with ⟨_,e⟩|⟨_,a,b,_⟩<;>omega
theorem DT {i:IN} (h:au i) (hf:i.form=86\/i.form=87):0<=i.bG/\i.bG<=3:=by
 obtain⟨_,h1,h2,h3,h4,h5,h6,h7,h8,h9,cV⟩:=h
 have hs:aa i.form=26:=by rcases hf with e|e<;>rw[e]<;>decide
 rw[hs] at h9
 have e0:(ch 26).b0=0:=rfl
 have e1:(ch 26).b1=3:=rfl
 rcases h9 with ⟨hk,_⟩|⟨_,_,⟨_,e⟩|⟨_,a,b,_⟩⟩
 ·exact absurd hk (by decide)
 ·omega
 ·omega
structure eh (s:RS):Prop where
 r:∀ k,a_ (s.R k)
 n:0<=s.N/\s.N<=1
 z:0<=s.Z/\s.Z<=1
 c:0<=s.C/\s.C<=1
 v:0<=s.V/\s.V<=1
def ax (s:RS) (i:IN):XS:=⟨i,{ s with R:=kx s.R 15 (IntKind.u32.wrap (s.R 15+IntKind.u32.wrap (fH i.form))) },s.R 15,False,0,0,0,0,0,0⟩
theorem rW {R:Nat->Int} {i v:Int} (h:∀ k,a_ (R k)) (hv:a_ v):∀ k,a_ (kx R i v k):=fun k=>by
 unfold kx; split
 ·exact hv
 ·exact h k
theorem ue {s:RS} {i:IN} (hs:eh s) (h:au i) (hi:yw i):lY (ax s i) where
 rd:=⟨(gm h.2.1).1,by have:=(gm h.2.1).2; show _<=(15:Int); exact Int.le_of_lt this⟩
 rn:=⟨(gm h.2.2.1).1,by have:=(gm h.2.2.1).2; show _<=(15:Int); exact Int.le_of_lt this⟩
 rm:=⟨(gm h.2.2.2.1).1,by have:=(gm h.2.2.2.1).2; show _<=(15:Int); exact Int.le_of_lt this⟩
 ra:=⟨(gm h.2.2.2.2.1).1,by have:=(gm h.2.2.2.2.1).2; show _<=(15:Int); exact Int.le_of_lt this⟩
 az:=hi i.az (by simp[pX])
 bar:=DP h
 low:=DS h
 idx:=DT h
 ar:=ll h hi
 r:=rW hs.r (wrap_u32 _)
 n:=hs.n
 z:=hs.z
 c:=hs.c
 v:=hs.v
instance (h:Int):Decidable (ez h):=by unfold ez; infer_instance
def mm (fl:List Int) (a:Int):Int:=km fl a*65536+km fl (IntKind.u32.wrap (a+2))
noncomputable def jN (fl:List Int) (a:Int):Int :=
 if o9 fl a≠0 then o9 fl a else if ¬ ez (km fl a) then kv (km fl a) False else if o9 fl (IntKind.u32.wrap (a+2))≠0 then o9 fl (IntKind.u32.wrap (a+2)) else kv (mm fl a) True
noncomputable def fj (fl:List Int) (a:Int):IN :=
 if o9 fl a≠0 then iZ else if ¬ ez (km fl a) then Dy (km fl a) False else if o9 fl (IntKind.u32.wrap (a+2))≠0 then iZ else Dy (mm fl a) True
theorem rX {fl:List Int} (hb:Bg fl) (a:Int):0<=km fl a/\km fl a<=65535:=by
 unfold km
 split
 ·decide
 ·split
  ·exact Hp hb _
  ·decide
theorem x6 {fl:List Int} (hb:Bg fl) (a:Int):bits .or .u32 (km fl a*65536) (km fl (IntKind.u32.wrap (a+2)))=mm fl a:=by
 have b1:=rX hb a
 have b2:=rX hb (IntKind.u32.wrap (a+2))
 exact (gE (km fl (IntKind.u32.wrap (a+2))) (km fl a) 16 (by decide) (show 0<=_/\_ < (65536:Int) by omega) (show 0<=km fl a/\km fl a*65536<=_ by omega)).2
theorem Ij {fl:List Int} (hb:Bg fl) (a:Int):a_ (mm fl a):=by
 have b1:=rX hb a
 have b2:=rX hb (IntKind.u32.wrap (a+2))
 unfold mm a_; omega
theorem Ik (m:MS) (a:Int) (hm:Ie m) (ha:a_ a):Spec gT 43 [.ptr 2 0,.int .u32 a] (stM m) [] fun y S'=>y = .tup [cX (fj m.fl a),.int .i64 (jN m.fl a)]/\S'=stM m:=by
 have bh:=rX hm.fl a
 have uh:a_ (km m.fl a):=⟨bh.1,by omega⟩
 have kE:jN m.fl a=if o9 m.fl a≠0 then o9 m.fl a else if ¬ ez (km m.fl a) then kv (km m.fl a) False else if o9 m.fl (IntKind.u32.wrap (a+2))≠0 then o9 m.fl (IntKind.u32.wrap (a+2)) else kv (mm m.fl a) True:=rfl
 have kI:fj m.fl a=if o9 m.fl a≠0 then iZ else if ¬ ez (km m.fl a) then Dy (km m.fl a) False else if o9 m.fl (IntKind.u32.wrap (a+2))≠0 then iZ else Dy (mm m.fl a) True:=rfl
 refine Spec.jS (Spec.enter al P43 100 Tryz.func43 rfl (by kernel_rfl) ?_)
 refine (Bq m.w m.fl a ha hm.fl hm.len).e ?_
 refine⟨fun h=>?_,fun h=>?_⟩
 ·have h':o9 m.fl a≠0:=h
  rw[if_pos h'] at kE kI
  rw[kE,kI]
  exact rS
 rw[if_neg (show ¬ o9 m.fl a≠0 from h)] at kE kI
 refine (xN (km m.fl a) uh).u ?_
 refine⟨fun h1=>?_,fun h1=>?_⟩
 ·rw[if_pos (show ¬ ez (km m.fl a) from h1)] at kE kI
  rw[kE,kI]
  refine⟨[],bn,(Be (km m.fl a) False uh).use (And.intro rfl (And.intro not_false trivial)) rfl rfl ?_⟩
  exact rS
 rw[if_neg (show ¬ ¬ ez (km m.fl a) from h1)] at kE kI
 refine .inr ?_
 refine (Bq m.w m.fl (IntKind.u32.wrap (a+2)) (wrap_u32 _) hm.fl hm.len).e ?_
 refine⟨fun h=>?_,fun h=>?_⟩
 ·rw[if_pos (show o9 m.fl (IntKind.u32.wrap (a+2))≠0 from h)] at kE kI
  rw[kE,kI]
  exact rS
 rw[if_neg (show ¬ o9 m.fl (IntKind.u32.wrap (a+2))≠0 from h)] at kE kI
 have hw:=Be (mm m.fl a) True (Ij hm.fl a)
 rw[← x6 hm.fl a] at hw
 rw[kE,kI,← x6 hm.fl a]
 refine⟨by decide,.inl ⟨ah (show 0<=km m.fl a*65536/\km m.fl a*65536<=_ by omega),?_⟩⟩
 refine hw.u ?_
 exact rS
def rY (m:MS) (e:Int):MS:={ m with kind:=3,code:=e }
def evP (a d w c n:Int):PV:=.agg [.int .u32 a,.int .u32 d,.int .i64 w,.int .i64 c,.int .i64 n]
theorem x7 (m:MS) (e:Int):Spec gT 44 [.ptr 2 0,.int .i64 e] (stM m) [] fun y S'=>y = .tup [evP 0 0 0 0 0,.int .i64 10]/\S'=stM (rY m e):=by
 refine Spec.jS (Spec.enter al P44 100 Tryz.func44 rfl (by kernel_rfl) ?_)
 exact rS
structure ta (m:MS):Prop where
 mem:Ie m
 s:eh m.s
 wait:0<=m.wait/\m.wait<=7
 lX:0<=m.lX/\m.lX<=1000000000000000
structure ik (x:XS):Prop where
 s:eh x.s
 a:a_ x.a
 b:a_ x.b
 k:x.kind=0\/x.kind=1\/x.kind=2
theorem eP {x:XS} (h:ik x) (r:Int) {v:Int} (hv:a_ v):ik (cG x r v):=⟨⟨rW h.s.r hv,h.s.n,h.s.z,h.s.c,h.s.v⟩,h.a,h.b,h.k⟩
theorem Il {x:XS} (h:ik x) {v:Int} (hv:a_ v):ik (qf x v):=⟨⟨h.s.r,by unfold a_ at hv; show 0<=v / 2147483648/\v / 2147483648<=1; omega,by show 0<=(if v=0 then (1:Int) else 0)/\(if v=0 then (1:Int) else 0)<=1; split<;>omega,h.s.c,h.s.v⟩,h.a,h.b,h.k⟩
theorem Mx {x:XS} (h:ik x) {c:Int} (hc:0<=c/\c<=1):ik (pF x c):=⟨⟨h.s.r,h.s.n,h.s.z,hc,h.s.v⟩,h.a,h.b,h.k⟩
theorem Im {x:XS} (h:ik x) {c o:Int} (hc:0<=c/\c<=1) (ho:0<=o/\o<=1):ik (la x c o):=⟨⟨h.s.r,h.s.n,h.s.z,hc,ho⟩,h.a,h.b,h.k⟩
theorem Uo {x:XS} (h:ik x) (d:Int) {v w c:Int} (hv:a_ v) (hw:a_ w) (hc:0<=c):ik (fB x d v w c):=by
 have hs:a_ (Rm.fh v w c):=Rm.uZ _ _ _
 have h1:ik (if ee x then la (qf x (Rm.fh v w c)) (Rm.iR v w c) (Rm.mD v w c) else x):=by
  split
  ·exact Im (Il h hs) (Rm.AJ _ _ _ hc hv.1 hv.2 hw.1 hw.2) (Rm.Kf _ _ _)
  ·exact h
 unfold fB
 split
 ·exact eP h1 _ hs
 ·exact h1
theorem fJ {x:XS} (h:ik x) (d:Int) {v c:Int} (hv:a_ v) (hc:0<=c/\c<=1):ik (bX x d v c):=by
 have h1:ik (if ee x then pF (qf x v) c else x):=by
  split
  ·exact Mx (Il h hv) hc
  ·exact h
 unfold bX
 split
 ·exact eP h1 _ hv
 ·exact h1
theorem dX {a b:Int} (ha:a_ a) (hb:a_ b):a_ (bits .and .u32 a b)/\a_ (bits .or .u32 a b)/\a_ (bits .xor .u32 a b)/\a_ (bits .andNot .u32 a b):=by
 obtain⟨a0,a1⟩:=ha
 obtain⟨b0,b1⟩:=hb
 rw[u32_and a b a0 (by omega) b0 (by omega),u32_or a b a0 (by omega) b0 (by omega),u32_xor a b a0 (by omega) b0 (by omega),u32_andNot a b a0 (by omega) b0 (by omega)]
 have h1:a.toNat &&& b.toNat < 2 ^ 32:=Nat.and_lt_two_pow _ (show b.toNat < 4294967296 by omega)
 have h2:a.toNat ||| b.toNat < 2 ^ 32:=Nat.or_lt_two_pow (show a.toNat < 4294967296 by omega) (show b.toNat < 4294967296 by omega)
 have h3:a.toNat ^^^ b.toNat < 2 ^ 32:=Nat.xor_lt_two_pow (show a.toNat < 4294967296 by omega) (show b.toNat < 4294967296 by omega)
 have h4:a.toNat &&& (4294967295 - b.toNat) < 2 ^ 32:=Nat.and_lt_two_pow _ (show 4294967295 - b.toNat < 4294967296 by omega)
 generalize a.toNat &&& b.toNat=p at h1 ⊢
 generalize a.toNat ||| b.toNat=q at h2 ⊢
 generalize a.toNat ^^^ b.toNat=r at h3 ⊢
 generalize a.toNat &&& (4294967295 - b.toNat)=t at h4 ⊢
 unfold a_
 omega
theorem Bv:a_ 0:=⟨by decide,by decide⟩
theorem My {x:XS} (h:lY x):0<=dp x/\dp x<=1:=by
 have hc:=h.c
 unfold dp
 split
 ·exact hc
 ·split
  ·unfold Rm.fR
   have:=Rm.nH x.i.az
   split
   ·split<;>omega
   ·omega
  ·split
   ·exact Ht _ _ _ _ (bM h _)
   ·exact hc
theorem Mz {x:XS} (h:ik x) (hx:lY x):ik (eR x):=by
 have f:=bJ hx
 have w:=ck hx
 have c:=hx.c
 unfold eR
 repeat' split
 all_goals first|exact h|(refine Uo h _ ?_ ?_ ?_<;>first|exact f|exact w|exact dm f|exact dm w|exact c.1|decide|exact⟨by decide,by decide⟩)
theorem DU {x:XS} (h:ik x) (hx:lY x):ik (cA x):=by
 have f:=bJ hx
 have w:=ck hx
 have c:=My hx
 have b:=dX f w
 have n:=dm w
 have o:=(dX f n).2.1
 unfold cA
 split
 ·exact fJ h _ w c
 split
 ·exact fJ h _ n c
 split
 ·exact fJ h _ b.1 c
 split
 ·exact fJ h _ b.2.1 c
 split
 ·exact fJ h _ b.2.2.1 c
 split
 ·exact fJ h _ b.2.2.2 c
 split
 ·exact fJ h _ o c
 split
 ·exact fJ h _ b.1 c
 split
 ·exact fJ h _ b.2.2.1 c
 ·exact h
theorem Io {x:XS} (h:ik x) (k:Int) {v:Int} (n:Int) (hv:a_ v):ik (iK x k v n):=fJ h _ (jm _ _ _ hv) (Ht _ _ _ _ hv)
theorem DV {x:XS} (h:ik x) (hx:lY x):ik (dW x):=by
 unfold dW
 repeat' split
 all_goals first|exact h|exact Io h _ _ (bM hx _)
theorem Bw {x:XS} (h:ik x) {a b:Int} (ha:a_ a) (hb:a_ b):ik (rP x a b):=eP (eP h _ ha) _ hb
theorem MA {x:XS} (h:ik x) (hx:lY x):ik (eS x):=by
 have hab:ik { x with a:=an x x.i.rn,b:=an x x.i.rm }:=⟨h.s,bM hx _,bM hx _,h.k⟩
 unfold eS
 repeat' split
 all_goals first|exact h|exact eP (Il h (wrap_u32 _)) _ (wrap_u32 _)|exact eP h _ (HN x)|exact eP h _ (wrap_u32 _)|exact Bw h (HN x) (NR hx)|exact Bw h (Rm.uZ _ _ _) (Rm.uZ _ _ _)|exact eP hab _ (wrap_u32 _)
theorem uf (r:Int) {v:Int} (hv:a_ v):a_ (gF r v):=by
 unfold gF
 split
 ·exact (dX hv ⟨by decide,by decide⟩).2.2.2
 ·exact hv
theorem Ip {x:XS} (h:ik x) (hx:lY x):ik (cP x):=by
 unfold cP
 repeat' split
 all_goals first|exact h|exact eP h _ (uf _ (wrap_u32 _))|exact eP h _ (uf _ (bM hx _))|exact eP h _ (wrap_u32 _)|exact eP h _ (dX (dX (bM hx _) ⟨by decide,by decide⟩).1 (wrap_u32 _)).2.1
theorem Bx {x:XS} (h:ik x) {v:Int} (hv:a_ v):ik (jL x v):=by
 unfold jL
 split
 ·exact⟨h.s,h.a,h.b,.inr (.inl rfl)⟩
 ·exact eP h _ (dX hv ⟨by decide,by decide⟩).2.2.2
theorem Iq {x:XS} (h:ik x) (hx:lY x):ik (fU x):=by
 have ht:ik (j8 x):=⟨h.s,h.a,h.b,h.k⟩
 unfold fU
 repeat' split
 all_goals first|exact h|exact ht|exact eP ht _ (wrap_u32 _)|exact eP h _ (wrap_u32 _)|exact Bx h (bM hx _)|exact⟨h.s,h.a,h.b,.inr (.inr rfl)⟩
theorem Ir {x:XS} (h:ik x) (hx:lY x):ik (eO x):=by
 unfold eO
 repeat' split
 ·exact Mz h hx
 ·exact DU h hx
 ·exact DV h hx
 ·exact MA h hx
 ·exact Ip h hx
 ·exact Iq h hx
theorem lO {x:XS} (h:ik x) (a n:Int):ik (dJ x a n):=⟨h.s,h.a,h.b,h.k⟩
theorem zV {m:MS} (hm:Ie m) (a:Int):a_ (t_ m.fl m.w a):=by
 unfold t_
 split
 ·exact⟨by decide,by decide⟩
 ·split
  ·exact hm.w _
  ·split
   ·have b1:=Hp hm.fl (c8 a)
    have b2:=Hp hm.fl (c8 a+2)
    unfold a_; omega
   ·exact⟨by decide,by decide⟩
theorem Up {m:MS} {x:XS} (hm:Ie m) (h:ik x) (a:Int):ik (j9 m x a):=by
 unfold j9
 repeat' split
 ·exact lO h _ _
 ·exact eP (lO h _ _) _ (zV hm _)
 ·exact lO h _ _
theorem MB {m:MS} {x:XS} (h:ik x):ik (n9 m x):=by
 unfold n9
 split
 ·exact eP (lO h _ _) _ (wrap_u32 _)
 ·exact lO h _ _
theorem It {m:MS} (hm:Ie m) {x:XS} (h:ik x) (a:Int):∀ r,ik (ct m x a r).1
 | 0=>h
 | r+1=>by
  have ih:=It hm h a r
  rw[ct]
  split
  ·exact ih
  ·split
   ·exact ih
   ·split
    ·exact ih
    ·split
     ·exact Bx ih (zV hm _)
     ·exact eP ih _ (zV hm _)
theorem Uq {m:MS} (hm:Ie m) {x:XS} (h:ik x) (hx:lY x):ik (vB m x):=by
 have h1:=It hm (lO h (an x 13) (cl x.i.ar)) (an x 13) 16
 have h2:=(vz (m:=m) (x:=dJ x (an x 13) (cl x.i.ar)) (bM hx 13) 16).1
 unfold vB
 split
 ·exact eP h1 _ h2
 ·exact h1
theorem NU {m:MS} (hm:Ie m) {x:XS} (h:ik x) (hx:lY x):ik (kA m x):=by
 unfold kA
 repeat' split
 ·exact Up hm h _
 ·exact MB h
 ·exact Uq hm h hx
 ·exact Ir h hx
theorem x8 {s:RS} (hs:eh s) (i:IN):ik (ax s i):=⟨⟨rW hs.r (wrap_u32 _),hs.n,hs.z,hs.c,hs.v⟩,Bv,Bv,.inl rfl⟩
theorem oa {w:Int} {wide:Prop} (h:kv w wide=0):au (Dy w wide)/\yw (Dy w wide)/\fq wide (Dy w wide).form:=by
 unfold kv at h
 split at h
 ·rename_i hf
  obtain⟨f,hf⟩:=hf
  have e:=rK hf
  rw[e]
  have hI:zi f:=by have:=hf.1; unfold fq at this; unfold zi; omega
  refine⟨hf.2.1.1,Bd hI,?_⟩
  have:(bd f w).form=f:=rfl
  rw[this]; exact hf.1
 ·cases h
theorem ug {fl:List Int} {a:Int} (h:jN fl a=0):au (fj fl a)/\yw (fj fl a):=by
 unfold jN at h
 unfold fj
 split at h
 ·rename_i h1; exact absurd h h1
 ·rename_i h1
  rw[if_neg h1]
  split at h
  ·rename_i h2
   rw[if_pos h2]
   exact⟨(oa h).1,(oa h).2.1⟩
  ·rename_i h2
   rw[if_neg h2]
   split at h
   ·rename_i h3; exact absurd h h3
   ·rename_i h3
    rw[if_neg h3]
    exact⟨(oa h).1,(oa h).2.1⟩
theorem vE {i:IN} (h:au i):fH i.form=2\/fH i.form=4:=by
 have:=h.1
 unfold fH
 split
 ·exact .inr rfl
 ·split
  ·exact .inl rfl
  ·omega
theorem By (i:IN) (t:Prop) [Decidable t] {a b:Int} (ha:a_ a) (hb:a_ b) (h0:0<=i.ar) (h1:i.ar<=65535):1<=fI i t a b/\fI i t a b<=20:=by
 have e1:=rU ha.2
 have e2:=oU i.ar h0 h1
 unfold fI
 repeat' split
 all_goals first|omega|(unfold ml; split<;>omega)|(unfold divC; split<;>omega)
theorem Bz (full:Prop) [Decidable full] (line a n:Int):0<=s_ full line a n/\s_ full line a n<=2:=by
 have b1:=n_ full line (fy a)
 have b2:=n_ True (fy a) (fy (IntKind.u32.wrap (a+2)))
 unfold s_
 split<;>omega
theorem Iu {n w:Int} (hn:0<=n/\n<=2) (hw:0<=w/\w<=7):0<=n*w/\n*w<=14:=by
 rcases (show n=0\/n=1\/n=2 by omega) with rfl|rfl|rfl<;>omega
open Classical in
noncomputable def fg (m:MS):Int:=fI (fj m.fl (m.s.R 15)) (kA m (ax m.s (fj m.fl (m.s.R 15)))).taken (kA m (ax m.s (fj m.fl (m.s.R 15)))).a (kA m (ax m.s (fj m.fl (m.s.R 15)))).b
open Classical in
noncomputable def dY (m:MS):Int:=s_ m.full m.line (m.s.R 15) (fH (fj m.fl (m.s.R 15)).form)
noncomputable def x9 (m:MS):XS:=kA m (ax m.s (fj m.fl (m.s.R 15)))
noncomputable def ui (m:MS):MS:=⟨x5 m (ax m.s (fj m.fl (m.s.R 15))),m.fl,m.wait,(x9 m).s,True,zT (m.s.R 15) (fH (fj m.fl (m.s.R 15)).form),m.lX+(fg m+dY m*m.wait),(x9 m).kind,(x9 m).code⟩
noncomputable def rZ (m:MS):Int:=Bs m (ax m.s (fj m.fl (m.s.R 15)))
noncomputable def l5 (m:MS):Int:=if m.kind≠0 then 71 else if jN m.fl (m.s.R 15)≠0 then 10 else if rZ m≠0 then 10 else 0
noncomputable def l6 (m:MS):MS:=if m.kind≠0 then m else if jN m.fl (m.s.R 15)≠0 then rY m (jN m.fl (m.s.R 15)) else if rZ m≠0 then rY (lh m (x5 m (ax m.s (fj m.fl (m.s.R 15))))) (rZ m) else ui m
noncomputable def evA (m:MS):Int:=if l5 m≠0 then 0 else m.s.R 15
noncomputable def evD (m:MS):Int:=if l5 m≠0 then 0 else (x9 m).data
noncomputable def evW (m:MS):Int:=if l5 m≠0 then 0 else (x9 m).words
noncomputable def evC (m:MS):Int:=if l5 m≠0 then 0 else fg m
noncomputable def evN (m:MS):Int:=if l5 m≠0 then 0 else dY m
noncomputable def Ur (m:MS):PV:=evP (evA m) (evD m) (evW m) (evC m) (evN m)
theorem MC (m:MS):Ur m=if l5 m≠0 then evP 0 0 0 0 0 else evP (m.s.R 15) (x9 m).data (x9 m).words (fg m) (dY m):=by
 unfold Ur evA evD evW evC evN
 split<;>rfl
open Classical in
theorem BA (m:MS) (hm:ta m):Spec gT 17 [.ptr 2 0] (stM m) [] fun y S'=>y = .tup [Ur m,.int .i64 (l5 m)]/\S'=stM (l6 m):=by
 have kE:l5 m=if m.kind≠0 then 71 else if jN m.fl (m.s.R 15)≠0 then 10 else if rZ m≠0 then 10 else 0:=rfl
 have kM:l6 m=if m.kind≠0 then m else if jN m.fl (m.s.R 15)≠0 then rY m (jN m.fl (m.s.R 15)) else if rZ m≠0 then rY (lh m (x5 m (ax m.s (fj m.fl (m.s.R 15))))) (rZ m) else ui m:=rfl
 have kV:=MC m
 refine Spec.jS (Spec.enter al P17 100 Tryz.func17 rfl (by kernel_rfl) ?_)
 refine⟨fun h=>?_,fun h=>?_⟩
 ·have h':m.kind≠0:=h
  rw[if_pos h'] at kE kM
  rw[kE,if_pos (by decide)] at kV
  rw[kV,kE,kM]
  exact rS
 rw[if_neg (show ¬ m.kind≠0 from h)] at kE kM
 refine (Ik m (m.s.R 15) hm.mem (hm.s.r 15)).e ?_
 refine⟨fun h=>?_,fun h=>?_⟩
 ·have h':jN m.fl (m.s.R 15)≠0:=h
  rw[if_pos h'] at kE kM
  rw[kE,if_pos (by decide)] at kV
  rw[kV,kE,kM]
  refine (x7 m (jN m.fl (m.s.R 15))).e ?_
  exact rS
 have hf:jN m.fl (m.s.R 15)=0:=Classical.not_not.1 h
 rw[if_neg (show ¬ jN m.fl (m.s.R 15)≠0 from h)] at kE kM
 obtain⟨hr,Ek⟩:=ug hf
 have hx:=ue hm.s hr Ek
 have hy:=NU hm.mem (x8 hm.s (fj m.fl (m.s.R 15))) hx
 have fF:=vE hr
 have Us:=ll hr Ek
 have hdo:=Zg m (ax m.s (fj m.fl (m.s.R 15))) hm.mem hx
 refine (k_ (fj m.fl (m.s.R 15))).u ?_
 refine .inr ?_
 refine .inr ?_
 refine⟨[],bn,(hdo).YQ [0,1,2,5] rfl rfl rfl (by repeat' first|exact trivial|exact rfl|exact Iff.rfl|refine And.intro ?_ ?_) (And.intro (by first|(show gy _ _; exact bj rfl rfl)|(repeat' first|exact trivial|exact rfl|exact Iff.rfl|exact Or.inl rfl|exact not_false|refine And.intro ?_ ?_)) (And.intro (by first|(show gy _ _; exact bj rfl rfl)|(repeat' first|exact trivial|exact rfl|exact Iff.rfl|exact Or.inl rfl|exact not_false|refine And.intro ?_ ?_)) (And.intro (by first|(show gy _ _; exact bj rfl rfl)|(repeat' first|exact trivial|exact rfl|exact Iff.rfl|exact Or.inl rfl|exact not_false|refine And.intro ?_ ?_)) (And.intro (by first|(show gy _ _; exact bj rfl rfl)|(repeat' first|exact trivial|exact rfl|exact Iff.rfl|exact Or.inl rfl|exact not_false|refine And.intro ?_ ?_)) ?_))))⟩
 refine⟨fun h=>?_,fun h=>?_⟩
 ·have h':rZ m≠0:=h
  rw[if_pos h'] at kE kM
  rw[kE,if_pos (by decide)] at kV
  rw[kV,kE,kM]
  refine (x7 (lh m (x5 m (ax m.s (fj m.fl (m.s.R 15))))) (rZ m)).e ?_
  exact rS
 rw[if_neg (show ¬ rZ m≠0 from h)] at kE kM
 rw[kE,if_neg (by decide)] at kV
 rw[kV,kE,kM]
 have hba:=DN (fj m.fl (m.s.R 15)) (kA m (ax m.s (fj m.fl (m.s.R 15)))).taken (kA m (ax m.s (fj m.fl (m.s.R 15)))).a (kA m (ax m.s (fj m.fl (m.s.R 15)))).b hr (Ek _ (by simp[pX])) Us.1 Us.2 hy.a hy.b
 have hfe:=zU m.full m.line (m.s.R 15) (fH (fj m.fl (m.s.R 15)).form) (hm.s.r 15) fF
 refine hba.u ?_
 refine (k_ (fj m.fl (m.s.R 15))).u ?_
 refine hfe.u ?_
 have hmi:=Bz m.full m.line (m.s.R 15) (fH (fj m.fl (m.s.R 15)).form)
 have hbb:=By (fj m.fl (m.s.R 15)) (kA m (ax m.s (fj m.fl (m.s.R 15)))).taken hy.a hy.b Us.1 Us.2
 have hmw:=Iu hmi hm.wait
 have Ut:=hm.lX
 refine And.intro ?_ ?_
 ·refine And.intro ?_ ?_
  ·refine li ?_ (show _<=dY m*m.wait/\dY m*m.wait<=_ by unfold dY; omega)
   refine li ?_ (show _<=fg m+dY m*m.wait/\fg m+dY m*m.wait<=_ by unfold dY fg; omega)
   refine li ?_ (show _<=m.lX+(fg m+dY m*m.wait)/\m.lX+(fg m+dY m*m.wait)<=_ by unfold dY fg; omega)
   exact rS
  ·refine And.intro ?_ ?_
   ·refine (k_ (fj m.fl (m.s.R 15))).u ?_
    refine hfe.u ?_
    exact rfl
   ·first|exact trivial|((conv=>whnf); exact trivial)
 ·refine And.intro ?_ ?_
  ·refine hfe.u ?_
   exact rfl
  ·first|exact trivial|((conv=>whnf); exact trivial)
def vG (s:RS):RS:={ s with N:=min s.N 1,Z:=min s.Z 1,C:=min s.C 1,V:=min s.V 1 }
def x_ (m:MS) (s:RS):MS:={ m with s:=vG s }
theorem Uu (m:MS) (s:RS):Spec gT 14 [.ptr 2 0,tS s] (stM m) [] fun y S'=>y = .tup []/\S'=stM (x_ m s):=by
 refine Spec.jS (Spec.enter al P14 100 Tryz.func14 rfl (by kernel_rfl) ?_)
 exact rS
theorem r5 (m:MS):Spec gT 18 [.ptr 2 0] (stM m) [] fun y S'=>y=tS m.s/\S'=stM m:=by
 refine Spec.jS (Spec.enter al P18 100 Tryz.func18 rfl (by kernel_rfl) ?_)
 exact rS
def wP (p:Int × Int):PV:=.agg [.int .u32 p.1,.int .u32 p.2]
def rs0:RS:=⟨fun _=>0,0,0,0,0⟩
def p9 (fl:List Int) (wait:Int):MS:=⟨fun _=>0,fl,wait,rs0,False,0,0,0,0⟩
theorem uj:List.replicate 65536 (PV.int .u8 0)=g_ fun _=>0:=by
 refine List.ext_getElem? fun k=>?_
 rw[xY,List.getElem?_replicate]
 split
 ·unfold n7 kl; rw[Int.zero_ediv]; rfl
 ·rfl
theorem Iv (fl:List Int) (hl:fl.length<=65536):ai gT 69 [.sl 1 (gz fl)] (.sl 1 (gz fl)):=by
 have el:(gz fl).length=fl.length:=List.length_map ..
 have hm:0+(gz fl).length<=maxLen:=by rw[el]; unfold maxLen; omega
 have hb:(0+(gz fl).length)*1<=140737488355328:=by rw[el]; omega
 refine Spec.enter al P69 100 Tryz.func69 rfl (by kernel_rfl) ?_
 by_cases h:fl = []
 ·subst h
  refine .inr (And.intro ?_ ?_)
  ·exact aw (show (gz []) = [] from rfl)
  ·refine⟨hm,hb,?_⟩
   exact aw rfl
 ·refine .inl ⟨by rw[el]; exact fun e=>h (List.eq_nil_of_length_eq_zero e),?_⟩
  refine⟨hm,hb,?_⟩
  exact aw rfl
theorem MD (a b:List Int):gz (a++b)=gz a++gz b:=List.map_append ..
theorem Iw (i:IN):(mj i).length<=4:=by
 unfold mj
 split<;>simp
theorem DW (p b q:List Int) (k:Nat) (h:k < b.length):(p++b++q).getD (p.length+k) 0=b.getD k 0:=by
 rw[List.getD_eq_getElem?_getD,List.getD_eq_getElem?_getD,List.append_assoc,List.getElem?_append_right (by omega),Nat.add_sub_cancel_left,List.getElem?_append_left h]
theorem Ix (i:IN):Bg (mj i):=by
 intro z hz
 unfold mj at hz
 split at hz<;>simp only[List.mem_append,List.mem_cons,List.not_mem_nil,or_false,false_or] at hz<;>omega
theorem ME (p q:List Int) (i:IN) (h:au i) (hg:i.ar<=9223372036854775807):YW (p++mj i++q) p.length=i/\YX (p++mj i++q) p.length=0:=by
 have fst:=LV i h hg
 have bk:=back i h hg
 have wb:=LW i
 have tw:=Ho i h
 have tn:=zO i h
 have f1:=h.1
 unfold a_ at wb
 have g:=DW p (mj i) q
 have el0:(p++mj i++q).length=p.length+(mj i).length+q.length:=by rw[List.length_append,List.length_append]
 generalize gq:mj i=b at g el0 ⊢
 by_cases sU:48<=i.form
 ·have eb:b = [bC i / 65536 % 256,bC i / 16777216 % 256,bC i % 256,bC i / 256 % 256]:=by rw[← gq]; unfold mj; rw[if_pos sU]; rfl
  subst eb
  have el:(p++[bC i / 65536 % 256,bC i / 16777216 % 256,bC i % 256,bC i / 256 % 256]++q).length=p.length+4+q.length:=el0
  generalize p++[bC i / 65536 % 256,bC i / 16777216 % 256,bC i % 256,bC i / 256 % 256]++q=l at g el ⊢
  have g0:=g 0 (by simp)
  have g1:=g 1 (by simp)
  have g2:=g 2 (by simp)
  have g3:=g 3 (by simp)
  have k0:hN l p.length=bC i / 65536:=by
   unfold hN
   rw[Nat.add_zero] at g0
   rw[g0,g1]
   show bC i / 65536 % 256+bC i / 16777216 % 256*256=_
   omega
  have k2:hN l (p.length+2)=bC i % 65536:=by
   unfold hN
   rw[g2,g3]
   show bC i % 256+bC i / 256 % 256*256=_
   omega
  have kW:hW l p.length=bC i:=by unfold hW; rw[k0,k2]; omega
  have hb:¬ ¬ ez (hN l p.length):=by
   have:=tw sU
   rw[k0]; unfold ez; omega
  have e:(48<=i.form)=True:=eq_true sU
  rw[e] at fst
  unfold YW YX
  rw[if_neg (by omega),if_neg hb,if_neg (by omega),if_neg (by omega),if_neg hb,if_neg (by omega),kW,rK fst,vp fst,bk]
  exact⟨rfl,rfl⟩
 ·have eb:b = [bC i % 256,bC i / 256 % 256]:=by rw[← gq]; unfold mj; rw[if_neg sU]; rfl
  subst eb
  have el:(p++[bC i % 256,bC i / 256 % 256]++q).length=p.length+2+q.length:=el0
  generalize p++[bC i % 256,bC i / 256 % 256]++q=l at g el ⊢
  have tn':=tn sU
  have g0:=g 0 (by simp)
  have g1:=g 1 (by simp)
  have k0:hN l p.length=bC i:=by
   unfold hN
   rw[Nat.add_zero] at g0
   rw[g0,g1]
   show bC i % 256+bC i / 256 % 256*256=_
   omega
  have hb:¬ ez (hN l p.length):=by rw[k0]; unfold ez; omega
  have e:(48<=i.form)=False:=eq_false sU
  rw[e] at fst
  unfold YW YX
  rw[if_neg (by omega),if_pos hb,if_neg (by omega),if_pos hb,k0,rK fst,vp fst,bk]
  exact⟨rfl,rfl⟩
theorem Uv {fl:List Int} {n:Nat} (hn:n % 2=0) (hl:fl.length<=65536) (h:YX fl n=0):jN fl (134217728+(n:Int))=0/\fj fl (134217728+(n:Int))=YW fl n:=by
 have e0:c8 (134217728+(n:Int))=n:=by unfold c8; omega
 have h2:¬ (134217728+(n:Int)) % 2≠0:=by omega
 unfold YX at h
 split at h
 ·cases h
 ·rename_i h1
  have f1:iL fl (134217728+(n:Int)) 2:=⟨by omega,by omega⟩
  have k1:o9 fl (134217728+(n:Int))=0:=by unfold o9; rw[if_neg h2,if_pos f1]
  have k2:km fl (134217728+(n:Int))=hN fl n:=by unfold km; rw[if_neg h2,if_pos f1,e0]
  unfold jN fj YW
  rw[k1,k2,if_neg (show ¬ (0:Int)≠0 by decide),if_neg (show ¬ (0:Int)≠0 by decide),if_neg h1]
  split at h
  ·rename_i hb
   rw[if_pos hb,if_pos hb,if_pos hb]
   exact⟨h,rfl⟩
  ·rename_i hb
   rw[if_neg hb,if_neg hb,if_neg hb]
   split at h
   ·cases h
   ·rename_i h4
    have ew:IntKind.u32.wrap (134217728+(n:Int)+2)=134217728+((n+2:Nat):Int):=by rw[IntKind.wrap_u32']; omega
    have e1:c8 (134217728+((n+2:Nat):Int))=n+2:=by unfold c8; omega
    have h3:¬ (134217728+((n+2:Nat):Int)) % 2≠0:=by omega
    have f2:iL fl (134217728+((n+2:Nat):Int)) 2:=⟨by omega,by omega⟩
    have k3:o9 fl (134217728+((n+2:Nat):Int))=0:=by unfold o9; rw[if_neg h3,if_pos f2]
    have k4:km fl (134217728+((n+2:Nat):Int))=hN fl (n+2):=by unfold km; rw[if_neg h3,if_pos f2,e1]
    have kh:mm fl (134217728+(n:Int))=hW fl n:=by unfold mm; rw[k2,ew,k4]; rfl
    rw[ew,k3,if_neg (show ¬ (0:Int)≠0 by decide),if_neg (show ¬ (0:Int)≠0 by decide),if_neg h4,kh]
    exact⟨h,rfl⟩
theorem MF (p q:List Int) (i:IN) (h:au i) (hi:yw i) (hp:p.length % 2=0) (hl:(p++mj i++q).length<=65536):jN (p++mj i++q) (134217728+(p.length:Int))=0/\fj (p++mj i++q) (134217728+(p.length:Int))=i:=by
 have hI:=hi i.ar (by simp[pX])
 obtain⟨h1,h2⟩:=ME p q i h hI.2
 obtain⟨h3,h4⟩:=Uv hp hl h2
 exact⟨h3,h4.trans h1⟩
theorem MG {w:Nat->Int} (h:∀ k,a_ (w k)) (j:Nat) {x:Int} (hx:a_ x):∀ k,a_ (sY w j x k):=fun k=>by
 unfold sY; split
 ·exact hx
 ·exact h k
theorem Iy {w:Nat->Int} (h:∀ k,a_ (w k)) (a:Int) {x:Int} (hx:a_ x):∀ k,a_ (yx w a x k):=by
 unfold yx; split
 ·exact MG h _ hx
 ·exact h
theorem BB {x:XS} (hx:lY x) {w:Nat->Int} (h:∀ k,a_ (w k)) (a:Int):∀ r k,a_ ((cf x w a r).1 k)
 | 0,k=>h k
 | r+1,k=>by
  have ih:=BB hx h a r
  rw[cf]
  split
  ·exact ih k
  ·split
   ·exact ih k
   ·split
    ·exact ih k
    ·exact Iy ih _ (bM hx _) k
theorem Uw {m:MS} (hm:Ie m) {x:XS} (hx:lY x):∀ k,a_ (x5 m x k):=by
 unfold x5
 split
 ·unfold lZ
  split
  ·exact Iy hm.w _ (bM hx _)
  ·exact hm.w
 ·split
  ·exact BB hx hm.w _ 15
  ·exact hm.w
open Classical in
theorem MH {m:MS} (hm:ta m) (hc:m.lX<=999999999999900):ta (l6 m)/\m.lX<=(l6 m).lX/\(l6 m).lX<=m.lX+34/\(l5 m=0->m.lX < (l6 m).lX)/\(l6 m).wait=m.wait/\(l6 m).fl=m.fl:=by
 unfold l6
 split
 ·rename_i hk
  exact⟨hm,Int.le_refl _,by omega,fun h=>absurd h (by unfold l5; rw[if_pos hk]; decide),rfl,rfl⟩
 rename_i hk
 split
 ·rename_i hf
  exact⟨⟨⟨hm.mem.w,hm.mem.fl,hm.mem.len⟩,hm.s,hm.wait,hm.lX⟩,Int.le_refl _,by show m.lX<=_; omega,fun h=>absurd h (by unfold l5; rw[if_neg hk,if_pos hf]; decide),rfl,rfl⟩
 rename_i hf
 obtain⟨hr,Ek⟩:=ug (Classical.not_not.1 hf)
 have hx:=ue hm.s hr Ek
 have hy:=NU hm.mem (x8 hm.s (fj m.fl (m.s.R 15))) hx
 have hw:=Uw hm.mem hx
 split
 ·rename_i hd
  exact⟨⟨⟨hw,hm.mem.fl,hm.mem.len⟩,hm.s,hm.wait,hm.lX⟩,Int.le_refl _,by show m.lX<=_; omega,fun h=>absurd h (by unfold l5; rw[if_neg hk,if_neg hf,if_pos hd]; decide),rfl,rfl⟩
 ·have Us:=ll hr Ek
  have hb:1<=fg m/\fg m<=20:=by unfold fg; exact By _ _ hy.a hy.b Us.1 Us.2
  have hmi:0<=dY m/\dY m<=2:=by unfold dY; exact Bz _ _ _ _
  have hmw:=Iu hmi hm.wait
  have Ut:=hm.lX
  have e:(ui m).lX=m.lX+(fg m+dY m*m.wait):=rfl
  exact⟨⟨⟨hw,hm.mem.fl,hm.mem.len⟩,hy.s,hm.wait,by show 0<=(ui m).lX/\(ui m).lX<=_; rw[e]; omega⟩,by rw[e]; omega,by rw[e]; omega,fun _=>by rw[e]; omega,rfl,rfl⟩
theorem Ux:eh rs0:=⟨fun _=>Bv,⟨Int.le_refl _,Int.zero_le_ofNat 1⟩,⟨Int.le_refl _,Int.zero_le_ofNat 1⟩,⟨Int.le_refl _,Int.zero_le_ofNat 1⟩,⟨Int.le_refl _,Int.zero_le_ofNat 1⟩⟩
theorem DX {s:RS} (h:∀ k,a_ (s.R k)) (hn:0<=s.N) (hz:0<=s.Z) (hc:0<=s.C) (hv:0<=s.V):eh (vG s):=⟨h,by show 0<=min s.N 1/\min s.N 1<=1; omega,by show 0<=min s.Z 1/\min s.Z 1<=1; omega,by show 0<=min s.C 1/\min s.C 1<=1; omega,by show 0<=min s.V 1/\min s.V 1<=1; omega⟩
theorem Uy {fl:List Int} {wait:Int} (hb:Bg fl) (hl:fl.length<=65536) (hw:0<=wait/\wait<=7):ta (p9 fl wait):=⟨⟨fun _=>Bv,hb,hl⟩,Ux,hw,by show 0<=(0:Int)/\(0:Int)<=_; decide⟩
theorem MI {m:MS} (hm:ta m) {s:RS} (h:eh (vG s)):ta (x_ m s):=⟨⟨hm.mem.w,hm.mem.fl,hm.mem.len⟩,h,hm.wait,hm.lX⟩
abbrev NV (t:TypeId) (cs:List PV):ak:=⟨.loc,t,1,.w,true,cs⟩
structure il (x y:XS):Prop where
 i:y.i=x.i
 k:y.kind=x.kind
 c:y.code=x.code
 t:y.taken=x.taken
 r:y.s.R 15=x.s.R 15
theorem il.refl (x:XS):il x x:=⟨rfl,rfl,rfl,rfl,rfl⟩
theorem il.trans {x y z:XS} (h:il x y) (g:il y z):il x z:=⟨g.i.trans h.i,g.k.trans h.k,g.c.trans h.c,g.t.trans h.t,g.r.trans h.r⟩
theorem fK {x:XS} {r v:Int} (h:r≠15):il x (cG x r v):=⟨rfl,rfl,rfl,rfl,by show kx x.s.R r v 15=_; unfold kx; rw[if_neg (by omega)]⟩
theorem ya {x:XS} {d v w c:Int} (h:d≠15):il x (fB x d v w c):=by
 have h1:il x (if ee x then la (qf x (Rm.fh v w c)) (Rm.iR v w c) (Rm.mD v w c) else x):=by
  split
  ·exact⟨rfl,rfl,rfl,rfl,rfl⟩
  ·exact .refl x
 unfold fB
 split
 ·exact h1.trans (fK h)
 ·exact h1
theorem mR {x:XS} {d v c:Int} (h:d≠15):il x (bX x d v c):=by
 have h1:il x (if ee x then pF (qf x v) c else x):=by
  split
  ·exact⟨rfl,rfl,rfl,rfl,rfl⟩
  ·exact .refl x
 unfold bX
 split
 ·exact h1.trans (fK h)
 ·exact h1
theorem DY {x:XS} (h:x.i.rd≠15):il x (eR x):=by
 unfold eR
 repeat' split
 all_goals first|exact ya h|exact ya (by decide)|exact .refl x
theorem yb {x:XS} (h:x.i.rd≠15):il x (cA x):=by
 unfold cA
 repeat' split
 all_goals first|exact mR h|exact mR (by decide)|exact .refl x
theorem yc {x:XS} (h:x.i.rd≠15):il x (dW x):=by
 unfold dW iK
 repeat' split
 all_goals first|exact mR h|exact .refl x
theorem zW {x:XS} (h:x.i.rd≠15):il x (cP x):=by
 unfold cP
 repeat' split
 all_goals first|exact fK h|exact fK (by decide)|exact .refl x
theorem DZ {x:XS} {lo hi:Int} (h:x.i.rd≠15) (g:x.i.ra≠15):il x (rP x lo hi):=(fK h).trans (fK g)
theorem D0 {x:XS} (h:x.i.rd≠15) (g:x.i.ra≠15):il x (eS x):=by
 have hd:∀ v,il x (cG { x with a:=an x x.i.rn,b:=an x x.i.rm } x.i.rd v):=fun v=>(show il x { x with a:=an x x.i.rn,b:=an x x.i.rm } from ⟨rfl,rfl,rfl,rfl,rfl⟩).trans (fK h)
 unfold eS
 repeat' split
 all_goals first|exact fK h|exact DZ h g|exact hd _|exact .refl x|exact (show il x (qf x _) from ⟨rfl,rfl,rfl,rfl,rfl⟩).trans (fK h)
theorem Iz {m:MS} {x:XS} {a:Int} (h:x.i.rd≠15):il x (j9 m x a):=by
 have hd:il x (dJ x a 1):=⟨rfl,rfl,rfl,rfl,rfl⟩
 unfold j9
 repeat' split
 all_goals first|exact hd|exact hd.trans (fK h)
def IA (f:Int):Prop:=cL f=0/\f≠42/\f≠43
theorem MJ {m:MS} {x:XS} (h:x.i.rd≠15) (g:x.i.ra≠15) (hf:IA x.i.form):il x (kA m x):=by
 unfold kA
 rw[if_neg hf.2.1,if_neg hf.2.2]
 split
 ·exact Iz h
 unfold eO
 rw[xX hf.1]
 repeat' split
 ·exact DY h
 ·exact yb h
 ·exact yc h
 ·exact D0 h g
 ·exact zW h
 ·exact .refl x
theorem IB {i:IN} (h:au i):i.rd≠15/\i.ra≠15:=⟨by have:=(gm h.2.1).2; omega,by have:=(gm h.2.2.2.2.1).2; omega⟩
open Classical in
theorem qi {m:MS} {i:IN} (hk:m.kind=0) (hf:jN m.fl (m.s.R 15)=0) (hi:fj m.fl (m.s.R 15)=i) (hr:au i) (hs:IA i.form) (hd:Bs m (ax m.s i)=0) :
  l5 m=0/\l6 m=⟨x5 m (ax m.s i),m.fl,m.wait,(kA m (ax m.s i)).s,True,zT (m.s.R 15) (fH i.form),m.lX+(fI i False (kA m (ax m.s i)).a (kA m (ax m.s i)).b+s_ m.full m.line (m.s.R 15) (fH i.form)*m.wait),0,0⟩/\(kA m (ax m.s i)).s.R 15=IntKind.u32.wrap (m.s.R 15+IntKind.u32.wrap (fH i.form)):=by
 have iV:¬ m.kind≠0:=fun h=>h hk
 have hf':¬ jN m.fl (m.s.R 15)≠0:=fun h=>h hf
 have Vs:¬ rZ m≠0:=by unfold rZ; rw[hi]; exact fun h=>h hd
 obtain⟨h1,h2⟩:=IB hr
 have hK:il (ax m.s i) (kA m (ax m.s i)):=MJ h1 h2 hs
 have eT:(kA m (ax m.s i)).taken=False:=hK.t
 refine⟨by unfold l5; rw[if_neg iV,if_neg hf',if_neg Vs],?_,hK.r⟩
 unfold l6
 rw[if_neg iV,if_neg hf',if_neg Vs]
 unfold ui fg dY x9
 rw[hi,hK.k,hK.c]
 have eB:fI i (kA m (ax m.s i)).taken (kA m (ax m.s i)).a (kA m (ax m.s i)).b=fI i False (kA m (ax m.s i)).a (kA m (ax m.s i)).b:=by
  unfold fI
  simp only[eT]
 simp only[eB]
 rfl
noncomputable def ou:Nat->MS->MS
 | 0,m=>m
 | k+1,m=>l6 (ou k m)
def dB (l:List IN):List Int:=l.flatMap mj
theorem yd {i:IN} (h:au i):((mj i).length:Int)=fH i.form:=by
 have:=h.1
 unfold mj fH
 by_cases sU:48<=i.form
 ·rw[if_pos sU,if_pos ⟨sU,this.2⟩]; rfl
 ·rw[if_neg sU,if_neg (fun h=>sU h.1),if_pos (by omega)]; rfl
theorem r9 (a b:List IN):dB (a++b)=dB a++dB b:=List.flatMap_append ..
theorem uk:∀ {l:List IN},(∀ i∈l,au i)->(dB l).length % 2=0
 | [],_=>rfl
 | i::l,h=>by
  have ih:=uk (l:=l) fun j hj=>h j (List.mem_cons_of_mem _ hj)
  have h1:=yd (h i (List.mem_cons_self ..))
  have h2:=vE (h i (List.mem_cons_self ..))
  have:dB (i::l)=mj i++dB l:=rfl
  rw[this,List.length_append]
  omega
structure MK (m:MS) (l:List IN) (k:Nat):Prop where
 kd:m.kind=0
 fl:m.fl=dB l
 r:m.s.R 15=134217728+((dB (l.take k)).length:Int)
theorem MK.BC {m:MS} {l:List IN} {k:Nat} {i:IN} (h:MK m l k) (hl:∀ i∈l,au i/\yw i) (hn:(dB l).length<=65536) (hi:l[k]?=some i):jN m.fl (m.s.R 15)=0/\fj m.fl (m.s.R 15)=i:=by
 have hm:=List.mem_of_getElem? hi
 have es:l=l.take k++(i::l.drop (k+1)):=by
  have:=List.take_append_drop k l
  rw[List.drop_eq_getElem?_toList_append,hi] at this
  exact this.symm
 have eb:dB l=dB (l.take k)++mj i++dB (l.drop (k+1)):=by
  rw[List.append_assoc]
  calc dB l=dB (l.take k++(i::l.drop (k+1))):=by rw[← es]
   _=_:=by rw[r9]; rfl
 rw[h.fl,h.r,eb]
 refine MF _ _ i (hl i hm).1 (hl i hm).2 (uk fun j hj=>(hl j (List.mem_of_mem_take hj)).1) ?_
 rw[← eb]; exact hn
theorem o_ {l:List IN} {k:Nat} {i:IN} (hi:l[k]?=some i):dB (l.take (k+1))=dB (l.take k)++mj i:=by
 rw[List.take_add_one,hi,r9]
 simp[dB]
theorem tc (l:List IN) (k:Nat):(dB (l.take k)).length<=(dB l).length:=by
 have:dB l=dB (l.take k)++dB (l.drop k):=by rw[← r9,List.take_append_drop]
 rw[this,List.length_append]; omega
theorem MK.next {m:MS} {l:List IN} {k:Nat} {i:IN} (h:MK m l k) (hl:∀ i∈l,au i/\yw i) (hn:(dB l).length<=65536) (hi:l[k]?=some i) (hs:IA i.form) (hd:Bs m (ax m.s i)=0):MK (l6 m) l (k+1):=by
 obtain⟨h1,h2⟩:=h.BC hl hn hi
 have hr:=(hl i (List.mem_of_getElem? hi)).1
 obtain⟨h3,h4,h5⟩:=qi h.kd h1 h2 hr hs hd
 have hb:=yd hr
 have ht:=tc l (k+1)
 rw[o_ hi,List.length_append] at ht
 have h24:=vE hr
 rw[h4]
 refine⟨rfl,h.fl,?_⟩
 show (kA m (ax m.s i)).s.R 15=_
 rw[h5,h.r,o_ hi,List.length_append,IntKind.wrap_u32',IntKind.wrap_u32']
 omega
def IC (f:Int):Prop:=IA f/\bY f=0
theorem qj {m:MS} {x:XS} (h:IC x.i.form):Bs m x=0:=by
 unfold Bs
 rw[if_neg (fun e=>e h.2),if_neg h.1.2.1,if_neg h.1.2.2]
def ruB4 (r:RU):Bool:=decide ((-16777216<=r.i0/\r.i1<=16777214)/\(0<=r.b0/\r.b1<=255))
theorem ML:∀ k:Fin 35,ruB4 (ch ((k.1:Nat):Int))=true:=by decide
theorem ID (s:Int):(-16777216<=(ch s).i0/\(ch s).i1<=16777214)/\(0<=(ch s).b0/\(ch s).b1<=255):=by
 by_cases h:s < 1\/34 < s
 ·have e:ch s=fx:=by
   unfold ch
   repeat rw[if_neg (by omega)]
   unfold ruN
   repeat rw[if_neg (by omega)]
  rw[e]; decide
 ·have h1:=ML ⟨s.toNat,by omega⟩
  rw[show (((⟨s.toNat,by omega⟩:Fin 35).1:Nat):Int)=s by simp only[]; omega] at h1
  exact of_decide_eq_true h1
theorem D1 {i:IN} (h:au i) (hg:i.ar=0):yw i:=by
 obtain⟨g1,g2,g3,g4⟩:=mI h
 obtain⟨hf,h1,h2,h3,h4,h5,h6,h7,h8,h9,cV⟩:=h
 have b:=ID (aa i.form)
 have hk:(0<=i.kind/\i.kind<=3)/\0<=i.bG/\i.bG<=255:=by
  rcases h9 with ⟨_,h⟩|⟨_,h,k⟩
  ·unfold cO at h; omega
  ·refine⟨by omega,?_⟩
   rcases k with k|k<;>omega
 have hm:-16777216<=i.az/\i.az<=16777214:=by rcases h7 with k|k<;>omega
 have hs:0<=i.set/\i.set<=1:=by rcases h8 with k|k<;>omega
 have hc:0<=i.cond/\i.cond<=13:=by rcases h6 with k|k<;>omega
 intro x hx
 unfold pX at hx
 simp only[List.mem_cons,List.not_mem_nil,or_false] at hx
 unfold zi
 omega
end Go.Proofs.YtlgkljpgagfndaaGreatDoor.Pw

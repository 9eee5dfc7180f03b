/- What this claim is proved with: no condition. -/
import Derived.Test.YtlgkljpgagfndaaGreatDoorNu22
import Derived.Test.YtlgkljpgagfndaaGreatDoorNu23
import Derived.Test.YtlgkljpgagfndaaGreatDoorNu21
import Derived.Test.YtlgkljpgagfndaaGreatDoorNu11
set_option maxRecDepth 100000
set_option maxHeartbeats 16000000
set_option linter.unusedVariables false
set_option linter.unusedSimpArgs false
namespace Go.Proofs.YtlgkljpgagfndaaGreatDoor.Pw
open Go Go.RowKit
def zA (m:MS) (x:XS):Int:=if bw x.i.form≠0 then jm m x (fU x) else if x.i.form=42 then (lV m x).2.2 else if x.i.form=43 then (sR m x).2.2 else 0
def wQ (m:MS) (x:XS):Nat->Int:=if bw x.i.form≠0 then kJ m x (fU x) else if x.i.form=42 then (lV m x).1 else m.w
def eZ (x:XS):XS:=if aX x.i.form≠0 then fg x else if aZ x.i.form≠0 then cA x else if cU x.i.form≠0 then dZ x else if bK x.i.form≠0 then fh x else if bP x.i.form≠0 then cQ x else gi x
def kU (m:MS) (x:XS):XS:=if bw x.i.form≠0 then je m x (fU x) else if x.i.form=42 then oR m x else if x.i.form=43 then wL m x else eZ x
theorem NN {x:XS}:aY (fU x):=by
 unfold fU
 repeat' split
 all_goals first|exact wrap_u32 _|exact⟨by decide,by decide⟩
theorem do_ok (m:MS) (x:XS) (hm:Jh m) (hx:mC x):Spec gT 46 [.ptr 3 0] (iq m x) [] fun y S'=>y = .int .i64 (zA m x)/\S'=iq (fM m (wQ m x)) (kU m x):=by
 refine Spec.jP (Spec.enter al P46 100 Tryz.func46 rfl (by kernel_rfl) ?_)
 refine (AQ m x hx).e ?_
 refine⟨fun ha=>?_,fun ha=>?_⟩
 ·have dH:bw x.i.form≠0:=ha
  have e1:zA m x=jm m x (fU x):=by unfold zA; rw[if_pos dH]
  have e2:wQ m x=kJ m x (fU x):=by unfold wQ; rw[if_pos dH]
  have e3:kU m x=je m x (fU x):=by unfold kU; rw[if_pos dH]
  rw[e1,e2,e3]
  refine (Eb m x (fU x) hm hx NN).e ?_
  exact rS
 have dH:¬ bw x.i.form≠0:=ha
 refine⟨fun FC=>?_,fun FC=>?_⟩
 ·have e1:zA m x=(lV m x).2.2:=by unfold zA; rw[if_neg dH,if_pos FC]
  have e2:wQ m x=(lV m x).1:=by unfold wQ; rw[if_neg dH,if_pos FC]
  have e3:kU m x=oR m x:=by unfold kU; rw[if_neg dH,if_pos FC]
  rw[e1,e2,e3]
  refine (Nf m x hx).e ?_
  exact rS
 have e2:wQ m x=m.w:=by unfold wQ; rw[if_neg dH,if_neg FC]
 rw[e2]
 refine⟨fun Pq=>?_,fun Pq=>?_⟩
 ·have e1:zA m x=(sR m x).2.2:=by unfold zA; rw[if_neg dH,if_neg FC,if_pos Pq]
  have e3:kU m x=wL m x:=by unfold kU; rw[if_neg dH,if_neg FC,if_pos Pq]
  rw[e1,e3]
  refine (Nh m x hm hx).e ?_
  exact rS
 have e1:zA m x=0:=by unfold zA; rw[if_neg dH,if_neg FC,if_neg Pq]
 have e3:kU m x=eZ x:=by unfold kU; rw[if_neg dH,if_neg FC,if_neg Pq]
 rw[e1,e3]
 have s0:=MU m x hx
 by_cases c0:aX x.i.form≠0
 ·have e:eZ x=fg x:=by unfold eZ; rw[if_pos c0]
  rw[e]
  refine (s0).e ?_
  refine⟨fun h=>absurd c0 h,fun _=>?_⟩
  exact rS
 rw[Cl (Classical.not_not.1 c0)] at s0
 have s1:=D8 m x hx
 by_cases c1:aZ x.i.form≠0
 ·have e:eZ x=cA x:=by unfold eZ; rw[if_neg c0,if_pos c1]
  rw[e]
  refine (s0).e ?_
  refine⟨fun _=>?_,fun h=>absurd c0 h⟩
  refine (s1).e ?_
  refine⟨fun h=>absurd c1 h,fun _=>?_⟩
  exact rS
 rw[uQ (Classical.not_not.1 c1)] at s1
 have s2:=D' m x hx
 by_cases c2:cU x.i.form≠0
 ·have e:eZ x=dZ x:=by unfold eZ; rw[if_neg c0,if_neg c1,if_pos c2]
  rw[e]
  refine (s0).e ?_
  refine⟨fun _=>?_,fun h=>absurd c0 h⟩
  refine (s1).e ?_
  refine⟨fun _=>?_,fun h=>absurd c1 h⟩
  refine (s2).e ?_
  refine⟨fun h=>absurd c2 h,fun _=>?_⟩
  exact rS
 rw[uR (Classical.not_not.1 c2)] at s2
 have s3:=yM m x hx
 by_cases c3:bK x.i.form≠0
 ·have e:eZ x=fh x:=by unfold eZ; rw[if_neg c0,if_neg c1,if_neg c2,if_pos c3]
  rw[e]
  refine (s0).e ?_
  refine⟨fun _=>?_,fun h=>absurd c0 h⟩
  refine (s1).e ?_
  refine⟨fun _=>?_,fun h=>absurd c1 h⟩
  refine (s2).e ?_
  refine⟨fun _=>?_,fun h=>absurd c2 h⟩
  refine (s3).e ?_
  refine⟨fun h=>absurd c3 h,fun _=>?_⟩
  exact rS
 rw[Co (Classical.not_not.1 c3)] at s3
 have s4:=IU m x hx
 by_cases c4:bP x.i.form≠0
 ·have e:eZ x=cQ x:=by unfold eZ; rw[if_neg c0,if_neg c1,if_neg c2,if_neg c3,if_pos c4]
  rw[e]
  refine (s0).e ?_
  refine⟨fun _=>?_,fun h=>absurd c0 h⟩
  refine (s1).e ?_
  refine⟨fun _=>?_,fun h=>absurd c1 h⟩
  refine (s2).e ?_
  refine⟨fun _=>?_,fun h=>absurd c2 h⟩
  refine (s3).e ?_
  refine⟨fun _=>?_,fun h=>absurd c3 h⟩
  refine (s4).e ?_
  refine⟨fun h=>absurd c4 h,fun _=>?_⟩
  exact rS
 rw[yL (Classical.not_not.1 c4)] at s4
 have e:eZ x=gi x:=by unfold eZ; rw[if_neg c0,if_neg c1,if_neg c2,if_neg c3,if_neg c4]
 rw[e]
 refine (s0).e ?_
 refine⟨fun _=>?_,fun h=>absurd c0 h⟩
 refine (s1).e ?_
 refine⟨fun _=>?_,fun h=>absurd c1 h⟩
 refine (s2).e ?_
 refine⟨fun _=>?_,fun h=>absurd c2 h⟩
 refine (s3).e ?_
 refine⟨fun _=>?_,fun h=>absurd c3 h⟩
 refine (s4).e ?_
 refine⟨fun _=>?_,fun h=>absurd c4 h⟩
 refine (IZ m x hx).e ?_
 exact rS
def divC (a b:Int):Int:=if b=0\/(Lib.bitLen a.toNat:Int) - Lib.bitLen b.toNat < 0 then 2 else 3+((Lib.bitLen a.toNat:Int) - Lib.bitLen b.toNat) / 4
theorem s_ {x:Int} (h:x<=4294967295):Lib.bitLen x.toNat<=32:=Rm.ij x.toNat (by omega)
theorem ES (a b:Int) (ha:aY a) (hb:aY b):ai gT 88 [.int .u32 a,.int .u32 b] (.int .i64 (divC a b)):=by
 have h1:=s_ ha.2
 have h2:=s_ hb.2
 refine Spec.enter al P88 100 Tryz.func88 rfl (by kernel_rfl) ?_
 refine (uM a ha).u ?_
 refine (uM b hb).u ?_
 refine li ?_
 refine⟨fun h=>?_,fun h=>And.intro (fun h3=>?_) (fun h3=>?_)⟩
 ·refine ax ?_
  exact (show (2:Int)=divC a b by unfold divC; rw[if_pos (.inl h)])
 ·refine ax ?_
  exact (show (2:Int)=divC a b by unfold divC; rw[if_pos (.inr h3)])
 ·refine⟨by decide,.inl ⟨by omega,show (Lib.bitLen a.toNat:Int) - Lib.bitLen b.toNat<=9223372036854775807 by omega,by decide,?_⟩⟩
  refine li ?_
  refine ax ?_
  exact (show (3:Int)+_=divC a b by unfold divC; rw[if_neg (by omega)])
def VU (av:Int):Prop:=bits .and .i64 (av / Ev.aV .i64 15) 1=1
instance (r:Int):Decidable (VU r):=by unfold VU; infer_instance
def mO (i:IN):Int:=if i.form=43/\VU i.av then 1+cl i.av+2 else 1+cl i.av
theorem ta (i:IN) (h0:0<=i.av) (h1:i.av<=65535):ai gT 87 [c9 i] (.int .i64 (mO i)):=by
 have hb:=py i.av h0 h1
 refine Spec.enter al P87 100 Tryz.func87 rfl (by kernel_rfl) ?_
 refine lu ?_ (show 0<=i.av/\i.av<=_ by omega)
 refine (sG i.av h0 h1).u ?_
 refine li ?_ (show _<=1+cl i.av/\1+cl i.av<=_ by omega)
 refine⟨fun h=>?_,fun h=>?_⟩
 ·refine⟨by decide,?_⟩
  refine⟨fun ht=>?_,fun ht=>?_⟩
  ·refine li ?_ (show _<=1+cl i.av+2/\1+cl i.av+2<=_ by omega)
   exact ax (show 1+cl i.av+2=mO i by unfold mO; rw[if_pos ⟨h,ht⟩])
  ·exact ax (show 1+cl i.av=mO i by unfold mO; rw[if_neg (fun q=>ht q.2)])
 ·exact ax (show 1+cl i.av=mO i by unfold mO; rw[if_neg (fun q=>h q.1)])
def bN (f:Int):Int :=
 if f=46\/f=99 then 1 else if f=47\/f=100\/f=31 then 2 else if f=32\/f=34\/f=36\/f=38\/f=85\/f=87\/f=33\/f=35\/f=37\/f=84\/f=86\/f=93\/f=94 then 3 else if f=42\/f=43 then 4 else if f=97 then 5 else 0
def fV (i:IN) (t:Prop) [Decidable t] (a b:Int):Int:=if bN i.form=1 then (if t then 3 else 1) else if bN i.form=2 then 3 else if bN i.form=3 then 2 else if bN i.form=4 then mO i else if bN i.form=5 then divC a b else 1
theorem NO {i:IN} {t:Prop} [Decidable t] {a b:Int} (h:bN i.form=0):fV i t a b=1:=by unfold fV; rw[if_neg (by omega),if_neg (by omega),if_neg (by omega),if_neg (by omega),if_neg (by omega)]
theorem CA {i:IN} {t:Prop} [Decidable t] {a b:Int} (h:bN i.form=1):fV i t a b=(if t then 3 else 1):=by unfold fV; rw[if_pos h]
theorem wR {i:IN} {t:Prop} [Decidable t] {a b:Int} (h:bN i.form=2):fV i t a b=3:=by unfold fV; rw[if_neg (by omega),if_pos h]
theorem fJ {i:IN} {t:Prop} [Decidable t] {a b:Int} (h:bN i.form=3):fV i t a b=2:=by unfold fV; rw[if_neg (by omega),if_neg (by omega),if_pos h]
theorem CB {i:IN} {t:Prop} [Decidable t] {a b:Int} (h:bN i.form=4):fV i t a b=mO i:=by unfold fV; rw[if_neg (by omega),if_neg (by omega),if_neg (by omega),if_pos h]
theorem NP {i:IN} {t:Prop} [Decidable t] {a b:Int} (h:bN i.form=5):fV i t a b=divC a b:=by unfold fV; rw[if_neg (by omega),if_neg (by omega),if_neg (by omega),if_neg (by omega),if_pos h]
theorem ET (i:IN) (t:Prop) [Decidable t] (a b:Int) (hr:aw i) (hi:Al i.ay) (h0:0<=i.av) (h1:i.av<=65535) (ha:aY a) (hb:aY b):ai gT 47 [c9 i,.bool t,.int .u32 a,.int .u32 b] (.tup [.int .i64 (fV i t a b),.int .i64 0]):=by
 refine Spec.enter al P47 100 Tryz.func47 rfl (by kernel_rfl) ?_
 refine (nj i hi).u ?_
 refine⟨fun h=>absurd hr h,fun _=>?_⟩
 refine⟨fun h46=>?_,fun h46=>?_⟩
 ·have hc:bN i.form=1:=by rw[show i.form=46 from h46]; rfl
  rw[CA hc]
  refine⟨fun h=>?_,fun h=>?_⟩
  ·rw[if_neg (show ¬ t from h)]
   exact ax (And.intro rfl (And.intro rfl trivial))
  ·rw[if_pos (Classical.not_not.1 (show ¬ ¬ t from h))]
   exact ax (And.intro rfl (And.intro rfl trivial))
 refine⟨fun h99=>?_,fun h99=>?_⟩
 ·have hc:bN i.form=1:=by rw[show i.form=99 from h99]; rfl
  rw[CA hc]
  refine⟨fun h=>?_,fun h=>?_⟩
  ·rw[if_neg (show ¬ t from h)]
   exact ax (And.intro rfl (And.intro rfl trivial))
  ·rw[if_pos (Classical.not_not.1 (show ¬ ¬ t from h))]
   exact ax (And.intro rfl (And.intro rfl trivial))
 refine⟨fun h47=>?_,fun h47=>?_⟩
 ·have hc:bN i.form=2:=by rw[show i.form=47 from h47]; rfl
  rw[wR hc]
  exact ax (And.intro rfl (And.intro rfl trivial))
 refine⟨fun I_=>?_,fun I_=>?_⟩
 ·have hc:bN i.form=2:=by rw[show i.form=100 from I_]; rfl
  rw[wR hc]
  exact ax (And.intro rfl (And.intro rfl trivial))
 refine⟨fun Ja=>?_,fun Ja=>?_⟩
 ·have hc:bN i.form=2:=by rw[show i.form=31 from Ja]; rfl
  rw[wR hc]
  exact ax (And.intro rfl (And.intro rfl trivial))
 refine⟨fun LJ=>?_,fun LJ=>?_⟩
 ·have hc:bN i.form=3:=by rw[show i.form=32 from LJ]; rfl
  rw[fJ hc]
  exact ax (And.intro rfl (And.intro rfl trivial))
 refine⟨fun h34=>?_,fun h34=>?_⟩
 ·have hc:bN i.form=3:=by rw[show i.form=34 from h34]; rfl
  rw[fJ hc]
  exact ax (And.intro rfl (And.intro rfl trivial))
 refine⟨fun h36=>?_,fun h36=>?_⟩
 ·have hc:bN i.form=3:=by rw[show i.form=36 from h36]; rfl
  rw[fJ hc]
  exact ax (And.intro rfl (And.intro rfl trivial))
 refine⟨fun h38=>?_,fun h38=>?_⟩
 ·have hc:bN i.form=3:=by rw[show i.form=38 from h38]; rfl
  rw[fJ hc]
  exact ax (And.intro rfl (And.intro rfl trivial))
 refine⟨fun h85=>?_,fun h85=>?_⟩
 ·have hc:bN i.form=3:=by rw[show i.form=85 from h85]; rfl
  rw[fJ hc]
  exact ax (And.intro rfl (And.intro rfl trivial))
 refine⟨fun h87=>?_,fun h87=>?_⟩
 ·have hc:bN i.form=3:=by rw[show i.form=87 from h87]; rfl
  rw[fJ hc]
  exact ax (And.intro rfl (And.intro rfl trivial))
 refine⟨fun h33=>?_,fun h33=>?_⟩
 ·have hc:bN i.form=3:=by rw[show i.form=33 from h33]; rfl
  rw[fJ hc]
  exact ax (And.intro rfl (And.intro rfl trivial))
 refine⟨fun h35=>?_,fun h35=>?_⟩
 ·have hc:bN i.form=3:=by rw[show i.form=35 from h35]; rfl
  rw[fJ hc]
  exact ax (And.intro rfl (And.intro rfl trivial))
 refine⟨fun h37=>?_,fun h37=>?_⟩
 ·have hc:bN i.form=3:=by rw[show i.form=37 from h37]; rfl
  rw[fJ hc]
  exact ax (And.intro rfl (And.intro rfl trivial))
 refine⟨fun h84=>?_,fun h84=>?_⟩
 ·have hc:bN i.form=3:=by rw[show i.form=84 from h84]; rfl
  rw[fJ hc]
  exact ax (And.intro rfl (And.intro rfl trivial))
 refine⟨fun h86=>?_,fun h86=>?_⟩
 ·have hc:bN i.form=3:=by rw[show i.form=86 from h86]; rfl
  rw[fJ hc]
  exact ax (And.intro rfl (And.intro rfl trivial))
 refine⟨fun h93=>?_,fun h93=>?_⟩
 ·have hc:bN i.form=3:=by rw[show i.form=93 from h93]; rfl
  rw[fJ hc]
  exact ax (And.intro rfl (And.intro rfl trivial))
 refine⟨fun h94=>?_,fun h94=>?_⟩
 ·have hc:bN i.form=3:=by rw[show i.form=94 from h94]; rfl
  rw[fJ hc]
  exact ax (And.intro rfl (And.intro rfl trivial))
 refine⟨fun FC=>?_,fun FC=>?_⟩
 ·have hc:bN i.form=4:=by rw[show i.form=42 from FC]; rfl
  rw[CB hc]
  refine (ta i h0 h1).u ?_
  exact ax (And.intro rfl (And.intro rfl trivial))
 refine⟨fun Pq=>?_,fun Pq=>?_⟩
 ·have hc:bN i.form=4:=by rw[show i.form=43 from Pq]; rfl
  rw[CB hc]
  refine (ta i h0 h1).u ?_
  exact ax (And.intro rfl (And.intro rfl trivial))
 refine⟨fun h97=>?_,fun h97=>?_⟩
 ·have hc:bN i.form=5:=by rw[show i.form=97 from h97]; rfl
  rw[NP hc]
  refine (ES a b ha hb).u ?_
  exact ax (And.intro rfl (And.intro rfl trivial))
 ·have hc:bN i.form=0:=by unfold bN; rw[if_neg (by omega),if_neg (by omega),if_neg (by omega),if_neg (by omega),if_neg (by omega)]
  rw[NO hc]
  exact ax (And.intro rfl (And.intro rfl trivial))
def fN (a:Int):Int:=a / 16
def NQ (full:Prop) (line:Int):PV:=.agg [.bool full,.int .u32 line]
theorem A4 (n:Int):ai gT 89 [.int .i64 n] (.bool (n=2\/n=4)):=by
 refine Spec.enter al P89 100 Tryz.func89 rfl (by kernel_rfl) ?_
 refine⟨fun h=>?_,fun h=>?_⟩
 ·exact ax (show n=2\/n=4 from .inl h)
 ·exact ax (show n=4↔(n=2\/n=4) from ⟨.inr,fun q=>q.elim (fun e=>absurd e h) id⟩)
theorem uY (a:Int) (ha:aY a):ai gT 91 [.int .u32 a] (.int .u32 (fN a)):=by
 refine Spec.enter al P91 100 Tryz.func91 rfl (by kernel_rfl) ?_
 refine And.intro (show (16:Int)≠0 by decide) (.inl ⟨ha.1,show a<=4294967295 from ha.2,show (0:Int) < 16 by decide,?_⟩)
 exact ax rfl
def iC (full:Prop) [Decidable full] (line l:Int):Int:=if full/\line=l then 0 else 1
theorem uZ (full:Prop) [Decidable full] (line l:Int):ai gT 90 [NQ full line,.int .u32 l] (.tup [NQ True l,.int .i64 (iC full line l)]):=by
 refine Spec.enter al P90 100 Tryz.func90 rfl (by kernel_rfl) ?_
 refine⟨fun h=>?_,fun h=>?_⟩
 ·refine⟨fun hl=>?_,fun hl=>?_⟩
  ·have e:iC full line l=0:=by unfold iC; rw[if_pos ⟨h,hl⟩]
   rw[e]
   exact ax (And.intro (And.intro (iff_true_intro h) (And.intro hl trivial)) (And.intro rfl trivial))
  ·have e:iC full line l=1:=by unfold iC; rw[if_neg (fun q=>hl q.2)]
   rw[e]
   exact ax (And.intro (And.intro trivial (And.intro rfl trivial)) (And.intro rfl trivial))
 ·have e:iC full line l=1:=by unfold iC; rw[if_neg (fun q=>h q.1)]
  rw[e]
  exact ax (And.intro (And.intro trivial (And.intro rfl trivial)) (And.intro rfl trivial))
def A5 (at_ n:Int):Int:=if n=2 then fN at_ else fN (IntKind.u32.wrap (at_+2))
def t_ (full:Prop) [Decidable full] (line at_ n:Int):Int:=if n=2 then iC full line (fN at_) else iC full line (fN at_)+iC True (fN at_) (fN (IntKind.u32.wrap (at_+2)))
theorem oV (full:Prop) [Decidable full] (line l:Int):0<=iC full line l/\iC full line l<=1:=by unfold iC; split<;>omega
theorem A6 (full:Prop) [Decidable full] (line at_ n:Int) (ha:aY at_) (hn:n=2\/n=4):ai gT 48 [NQ full line,.int .u32 at_,.int .i64 n] (.tup [NQ True (A5 at_ n),.int .i64 (t_ full line at_ n)]):=by
 have b1:=oV full line (fN at_)
 have b2:=oV True (fN at_) (fN (IntKind.u32.wrap (at_+2)))
 refine Spec.enter al P48 100 Tryz.func48 rfl (by kernel_rfl) ?_
 refine (A4 n).u ?_
 refine⟨fun h=>absurd hn h,fun _=>?_⟩
 refine (uY at_ ha).u ?_
 refine (uZ full line (fN at_)).u ?_
 refine⟨fun h=>?_,fun h=>?_⟩
 ·have e1:A5 at_ n=fN at_:=by unfold A5; rw[if_pos h]
  have e2:t_ full line at_ n=iC full line (fN at_):=by unfold t_; rw[if_pos h]
  rw[e1,e2]
  exact rA
 ·have e1:A5 at_ n=fN (IntKind.u32.wrap (at_+2)):=by unfold A5; rw[if_neg h]
  have e2:t_ full line at_ n=iC full line (fN at_)+iC True (fN at_) (fN (IntKind.u32.wrap (at_+2))):=by unfold t_; rw[if_neg h]
  rw[e1,e2]
  refine .inr ?_
  refine (uY (IntKind.u32.wrap (at_+2)) (wrap_u32 _)).u ?_
  refine (uZ True (fN at_) (fN (IntKind.u32.wrap (at_+2)))).u ?_
  refine li ?_
  exact rA
theorem NR:∀ s:Fin 35,(cg (s.1:Int)).av=0\/(cg (s.1:Int)).av=16639\/(cg (s.1:Int)).av=33023:=by decide
theorem EU (f:Int):0<=aa f/\aa f<=34:=by
 unfold aa
 split
 ·have key:∀ n:Fin 101,0<=WS.getD n.1 0/\WS.getD n.1 0<=34:=by decide
  exact key ⟨f.toNat,by omega⟩
 ·decide
theorem lY {i:IN} (h:aw i) (hi:B5 i):0<=i.av/\i.av<=65535:=by
 obtain⟨hf,h1,h2,h3,h4,h5,_⟩:=h
 have hb:=EU i.form
 have hr:=NR ⟨(aa i.form).toNat,by omega⟩
 rw[show (((⟨(aa i.form).toNat,by omega⟩:Fin 35).1:Nat):Int)=aa i.form by simp only[]; omega] at hr
 have hI:=hi i.av (by simp[qx])
 rcases h5 with ⟨_,e⟩|⟨hn,h0,ha⟩
 ·omega
 ·rcases hr with e|e|e
  ·exact absurd e hn
  ·rw[e] at ha
   have:=wg 14 (by decide) (by decide) i.av 16639 (by decide) h0 hI.2 ha
   omega
  ·rw[e] at ha
   have:=wg 15 (by decide) (by decide) i.av 33023 (by decide) h0 hI.2 ha
   omega
theorem EV {i:IN} (h:aw i) (hs:aa i.form=21\/aa i.form=22\/aa i.form=23):0<=i.kind/\i.kind<=3/\0<=i.bF/\i.bF<=255:=by
 obtain⟨hf,h1,h2,h3,h4,h5,h6,h7,h8,h9,cZ⟩:=h
 have hk:(cg (aa i.form)).kind=true:=by rcases hs with e|e|e<;>rw[e]<;>rfl
 rcases h9 with ⟨_,hb⟩|⟨hn,_⟩
 ·unfold cP at hb; omega
 ·exact absurd hk hn
theorem EW {f:Int} (h:1<=f/\f<=3):aa f=1:=by
 rcases (show f=1\/f=2\/f=3 by omega) with rfl|rfl|rfl<;>decide
theorem EX {i:IN} (h:aw i) (hf:1<=i.form/\i.form<=3):0<=i.ay/\i.ay<=32:=by
 obtain⟨_,h1,h2,h3,h4,h5,h6,h7,h8,h9,cZ⟩:=h
 rw[EW hf] at h7
 have e0:(cg 1).i0=0:=rfl
 have e1:(cg 1).i1=32:=rfl
 rcases h7 with ⟨_,e⟩|⟨_,a,b,_⟩<;>omega
theorem EY {i:IN} (h:aw i) (hf:i.form=86\/i.form=87):0<=i.bF/\i.bF<=3:=by
 obtain⟨_,h1,h2,h3,h4,h5,h6,h7,h8,h9,cZ⟩:=h
 have hs:aa i.form=26:=by rcases hf with e|e<;>rw[e]<;>decide
 rw[hs] at h9
 have e0:(cg 26).b0=0:=rfl
 have e1:(cg 26).b1=3:=rfl
 rcases h9 with ⟨hk,_⟩|⟨_,_,⟨_,e⟩|⟨_,a,b,_⟩⟩
 ·exact absurd hk (by decide)
 ·omega
 ·omega
structure ee (s:RS):Prop where
 r:∀ k,aY (s.R k)
 n:0<=s.N/\s.N<=1
 z:0<=s.Z/\s.Z<=1
 c:0<=s.C/\s.C<=1
 v:0<=s.V/\s.V<=1
def ak (s:RS) (i:IN):XS:=⟨i,{ s with R:=kS s.R 15 (IntKind.u32.wrap (s.R 15+IntKind.u32.wrap (fT i.form))) },s.R 15,False,0,0,0,0,0,0⟩
theorem tc {R:Nat->Int} {i v:Int} (h:∀ k,aY (R k)) (hv:aY v):∀ k,aY (kS R i v k):=fun k=>by
 unfold kS; split
 ·exact hv
 ·exact h k
theorem u4 {s:RS} {i:IN} (hs:ee s) (h:aw i) (hi:B5 i):mC (ak s i) where
 rd:=⟨(gG h.2.1).1,by have:=(gG h.2.1).2; show _<=(15:Int); exact Int.le_of_lt this⟩
 rn:=⟨(gG h.2.2.1).1,by have:=(gG h.2.2.1).2; show _<=(15:Int); exact Int.le_of_lt this⟩
 rm:=⟨(gG h.2.2.2.1).1,by have:=(gG h.2.2.2.1).2; show _<=(15:Int); exact Int.le_of_lt this⟩
 ra:=⟨(gG h.2.2.2.2.1).1,by have:=(gG h.2.2.2.2.1).2; show _<=(15:Int); exact Int.le_of_lt this⟩
 ay:=hi i.ay (by simp[qx])
 bar:=EV h
 low:=EX h
 idx:=EY h
 av:=lY h hi
 r:=tc hs.r (wrap_u32 _)
 n:=hs.n
 z:=hs.z
 c:=hs.c
 v:=hs.v
instance (h:Int):Decidable (eG h):=by unfold eG; infer_instance
def mQ (fl:List Int) (a:Int):Int:=lf fl a*65536+lf fl (IntKind.u32.wrap (a+2))
noncomputable def ke (fl:List Int) (a:Int):Int :=
 if pL fl a≠0 then pL fl a else if ¬ eG (lf fl a) then k_ (lf fl a) False else if pL fl (IntKind.u32.wrap (a+2))≠0 then pL fl (IntKind.u32.wrap (a+2)) else k_ (mQ fl a) True
noncomputable def fx (fl:List Int) (a:Int):IN :=
 if pL fl a≠0 then iZ else if ¬ eG (lf fl a) then D4 (lf fl a) False else if pL fl (IntKind.u32.wrap (a+2))≠0 then iZ else D4 (mQ fl a) True
theorem te {fl:List Int} (hb:Cg fl) (a:Int):0<=lf fl a/\lf fl a<=65535:=by
 unfold lf
 split
 ·decide
 ·split
  ·exact Iy hb _
  ·decide
theorem y8 {fl:List Int} (hb:Cg fl) (a:Int):bits .or .u32 (lf fl a*65536) (lf fl (IntKind.u32.wrap (a+2)))=mQ fl a:=by
 have b1:=te hb a
 have b2:=te hb (IntKind.u32.wrap (a+2))
 exact (gS (lf fl (IntKind.u32.wrap (a+2))) (lf fl a) 16 (by decide) (show 0<=_/\_ < (65536:Int) by omega) (show 0<=lf fl a/\lf fl a*65536<=_ by omega)).2
theorem JL {fl:List Int} (hb:Cg fl) (a:Int):aY (mQ fl a):=by
 have b1:=te hb a
 have b2:=te hb (IntKind.u32.wrap (a+2))
 unfold mQ aY; omega
theorem JM (m:MS) (a:Int) (hm:Jh m) (ha:aY a):Spec gT 43 [.ptr 2 0,.int .u32 a] (stM m) [] fun y S'=>y = .tup [c9 (fx m.fl a),.int .i64 (ke m.fl a)]/\S'=stM m:=by
 have bh:=te hm.fl a
 have uh:aY (lf m.fl a):=⟨bh.1,by omega⟩
 have kE:ke m.fl a=if pL m.fl a≠0 then pL m.fl a else if ¬ eG (lf m.fl a) then k_ (lf m.fl a) False else if pL m.fl (IntKind.u32.wrap (a+2))≠0 then pL m.fl (IntKind.u32.wrap (a+2)) else k_ (mQ m.fl a) True:=rfl
 have kI:fx m.fl a=if pL m.fl a≠0 then iZ else if ¬ eG (lf m.fl a) then D4 (lf m.fl a) False else if pL m.fl (IntKind.u32.wrap (a+2))≠0 then iZ else D4 (mQ m.fl a) True:=rfl
 refine Spec.jP (Spec.enter al P43 100 Tryz.func43 rfl (by kernel_rfl) ?_)
 refine (Cr m.w m.fl a ha hm.fl hm.len).e ?_
 refine⟨fun h=>?_,fun h=>?_⟩
 ·have h':pL m.fl a≠0:=h
  rw[if_pos h'] at kE kI
  rw[kE,kI]
  exact rS
 rw[if_neg (show ¬ pL m.fl a≠0 from h)] at kE kI
 refine (yH (lf m.fl a) uh).u ?_
 refine⟨fun h1=>?_,fun h1=>?_⟩
 ·rw[if_pos (show ¬ eG (lf m.fl a) from h1)] at kE kI
  rw[kE,kI]
  refine⟨[],bf,(Ce (lf m.fl a) False uh).use (And.intro rfl (And.intro not_false trivial)) rfl rfl ?_⟩
  exact rS
 rw[if_neg (show ¬ ¬ eG (lf m.fl a) from h1)] at kE kI
 refine .inr ?_
 refine (Cr m.w m.fl (IntKind.u32.wrap (a+2)) (wrap_u32 _) hm.fl hm.len).e ?_
 refine⟨fun h=>?_,fun h=>?_⟩
 ·rw[if_pos (show pL m.fl (IntKind.u32.wrap (a+2))≠0 from h)] at kE kI
  rw[kE,kI]
  exact rS
 rw[if_neg (show ¬ pL m.fl (IntKind.u32.wrap (a+2))≠0 from h)] at kE kI
 have hw:=Ce (mQ m.fl a) True (JL hm.fl a)
 rw[← y8 hm.fl a] at hw
 rw[kE,kI,← y8 hm.fl a]
 refine⟨by decide,.inl ⟨ah (show 0<=lf m.fl a*65536/\lf m.fl a*65536<=_ by omega),?_⟩⟩
 refine hw.u ?_
 exact rS
def tg (m:MS) (e:Int):MS:={ m with kind:=3,code:=e }
def evP (a d w c n:Int):PV:=.agg [.int .u32 a,.int .u32 d,.int .i64 w,.int .i64 c,.int .i64 n]
theorem y9 (m:MS) (e:Int):Spec gT 44 [.ptr 2 0,.int .i64 e] (stM m) [] fun y S'=>y = .tup [evP 0 0 0 0 0,.int .i64 10]/\S'=stM (tg m e):=by
 refine Spec.jP (Spec.enter al P44 100 Tryz.func44 rfl (by kernel_rfl) ?_)
 exact rS
structure qA (m:MS):Prop where
 mem:Jh m
 s:ee m.s
 wait:0<=m.wait/\m.wait<=7
 mB:0<=m.mB/\m.mB<=1000000000000000
structure iJ (x:XS):Prop where
 s:ee x.s
 a:aY x.a
 b:aY x.b
 k:x.kind=0\/x.kind=1\/x.kind=2
theorem e8 {x:XS} (h:iJ x) (r:Int) {v:Int} (hv:aY v):iJ (cI x r v):=⟨⟨tc h.s.r hv,h.s.n,h.s.z,h.s.c,h.s.v⟩,h.a,h.b,h.k⟩
theorem JN {x:XS} (h:iJ x) {v:Int} (hv:aY v):iJ (qQ x v):=⟨⟨h.s.r,by unfold aY at hv; show 0<=v / 2147483648/\v / 2147483648<=1; omega,by show 0<=(if v=0 then (1:Int) else 0)/\(if v=0 then (1:Int) else 0)<=1; split<;>omega,h.s.c,h.s.v⟩,h.a,h.b,h.k⟩
theorem NS {x:XS} (h:iJ x) {c:Int} (hc:0<=c/\c<=1):iJ (qb x c):=⟨⟨h.s.r,h.s.n,h.s.z,hc,h.s.v⟩,h.a,h.b,h.k⟩
theorem JO {x:XS} (h:iJ x) {c o:Int} (hc:0<=c/\c<=1) (ho:0<=o/\o<=1):iJ (lS x c o):=⟨⟨h.s.r,h.s.n,h.s.z,hc,ho⟩,h.a,h.b,h.k⟩
theorem VV {x:XS} (h:iJ x) (d:Int) {v w c:Int} (hv:aY v) (hw:aY w) (hc:0<=c):iJ (fm x d v w c):=by
 have hs:aY (Rm.fj v w c):=Rm.vV _ _ _
 have h1:iJ (if en x then lS (qQ x (Rm.fj v w c)) (Rm.iG v w c) (Rm.nf v w c) else x):=by
  split
  ·exact JO (JN h hs) (Rm.BO _ _ _ hc hv.1 hv.2 hw.1 hw.2) (Rm.Lu _ _ _)
  ·exact h
 unfold fm
 split
 ·exact e8 h1 _ hs
 ·exact h1
theorem fW {x:XS} (h:iJ x) (d:Int) {v c:Int} (hv:aY v) (hc:0<=c/\c<=1):iJ (bZ x d v c):=by
 have h1:iJ (if en x then qb (qQ x v) c else x):=by
  split
  ·exact NS (JN h hv) hc
  ·exact h
 unfold bZ
 split
 ·exact e8 h1 _ hv
 ·exact h1
theorem dG {a b:Int} (ha:aY a) (hb:aY b):aY (bits .and .u32 a b)/\aY (bits .or .u32 a b)/\aY (bits .xor .u32 a b)/\aY (bits .andNot .u32 a b):=by
 obtain⟨a0,a1⟩:=ha
 obtain⟨b0,b1⟩:=hb
 rw[u32_and a b a0 (by omega) b0 (by omega),u32_or a b a0 (by omega) b0 (by omega),u32_xor a b a0 (by omega) b0 (by omega),u32_andNot a b a0 (by omega) b0 (by omega)]
 have h1:a.toNat &&& b.toNat < 2 ^ 32:=Nat.and_lt_two_pow _ (show b.toNat < 4294967296 by omega)
 have h2:a.toNat ||| b.toNat < 2 ^ 32:=Nat.or_lt_two_pow (show a.toNat < 4294967296 by omega) (show b.toNat < 4294967296 by omega)
 have h3:a.toNat ^^^ b.toNat < 2 ^ 32:=Nat.xor_lt_two_pow (show a.toNat < 4294967296 by omega) (show b.toNat < 4294967296 by omega)
 have h4:a.toNat &&& (4294967295 - b.toNat) < 2 ^ 32:=Nat.and_lt_two_pow _ (show 4294967295 - b.toNat < 4294967296 by omega)
 generalize a.toNat &&& b.toNat=p at h1 ⊢
 generalize a.toNat ||| b.toNat=q at h2 ⊢
 generalize a.toNat ^^^ b.toNat=r at h3 ⊢
 generalize a.toNat &&& (4294967295 - b.toNat)=t at h4 ⊢
 unfold aY
 omega
theorem y_:aY 0:=⟨by decide,by decide⟩
theorem NT {x:XS} (h:mC x):0<=dz x/\dz x<=1:=by
 have hc:=h.c
 unfold dz
 split
 ·exact hc
 ·split
  ·unfold Rm.gg
   have:=Rm.lM x.i.ay
   split
   ·split<;>omega
   ·omega
  ·split
   ·exact IC _ _ _ _ (bM h _)
   ·exact hc
theorem NU {x:XS} (h:iJ x) (hx:mC x):iJ (fg x):=by
 have f:=bJ hx
 have w:=ck hx
 have c:=hx.c
 unfold fg
 repeat' split
 all_goals first|exact h|(refine VV h _ ?_ ?_ ?_<;>first|exact f|exact w|exact dx f|exact dx w|exact c.1|decide|exact⟨by decide,by decide⟩)
theorem EZ {x:XS} (h:iJ x) (hx:mC x):iJ (cA x):=by
 have f:=bJ hx
 have w:=ck hx
 have c:=NT hx
 have b:=dG f w
 have n:=dx w
 have o:=(dG f n).2.1
 unfold cA
 split
 ·exact fW h _ w c
 split
 ·exact fW h _ n c
 split
 ·exact fW h _ b.1 c
 split
 ·exact fW h _ b.2.1 c
 split
 ·exact fW h _ b.2.2.1 c
 split
 ·exact fW h _ b.2.2.2 c
 split
 ·exact fW h _ o c
 split
 ·exact fW h _ b.1 c
 split
 ·exact fW h _ b.2.2.1 c
 ·exact h
theorem JP {x:XS} (h:iJ x) (k:Int) {v:Int} (n:Int) (hv:aY v):iJ (jc x k v n):=fW h _ (jK _ _ _ hv) (IC _ _ _ _ hv)
theorem E0 {x:XS} (h:iJ x) (hx:mC x):iJ (dZ x):=by
 unfold dZ
 repeat' split
 all_goals first|exact h|exact JP h _ _ (bM hx _)
theorem CC {x:XS} (h:iJ x) {a b:Int} (ha:aY a) (hb:aY b):iJ (sL x a b):=e8 (e8 h _ ha) _ hb
theorem NV {x:XS} (h:iJ x) (hx:mC x):iJ (fh x):=by
 have hab:iJ { x with a:=ao x x.i.rn,b:=ao x x.i.rm }:=⟨h.s,bM hx _,bM hx _,h.k⟩
 unfold fh
 repeat' split
 all_goals first|exact h|exact e8 (JN h (wrap_u32 _)) _ (wrap_u32 _)|exact e8 h _ (IV x)|exact e8 h _ (wrap_u32 _)|exact CC h (IV x) (Pj hx)|exact CC h (Rm.vV _ _ _) (Rm.vV _ _ _)|exact e8 hab _ (wrap_u32 _)
theorem u5 (r:Int) {v:Int} (hv:aY v):aY (gU r v):=by
 unfold gU
 split
 ·exact (dG hv ⟨by decide,by decide⟩).2.2.2
 ·exact hv
theorem JQ {x:XS} (h:iJ x) (hx:mC x):iJ (cQ x):=by
 unfold cQ
 repeat' split
 all_goals first|exact h|exact e8 h _ (u5 _ (wrap_u32 _))|exact e8 h _ (u5 _ (bM hx _))|exact e8 h _ (wrap_u32 _)|exact e8 h _ (dG (dG (bM hx _) ⟨by decide,by decide⟩).1 (wrap_u32 _)).2.1
theorem CD {x:XS} (h:iJ x) {v:Int} (hv:aY v):iJ (j' x v):=by
 unfold j'
 split
 ·exact⟨h.s,h.a,h.b,.inr (.inl rfl)⟩
 ·exact e8 h _ (dG hv ⟨by decide,by decide⟩).2.2.2
theorem JR {x:XS} (h:iJ x) (hx:mC x):iJ (gi x):=by
 have ht:iJ (kH x):=⟨h.s,h.a,h.b,h.k⟩
 unfold gi
 repeat' split
 all_goals first|exact h|exact ht|exact e8 ht _ (wrap_u32 _)|exact e8 h _ (wrap_u32 _)|exact CD h (bM hx _)|exact⟨h.s,h.a,h.b,.inr (.inr rfl)⟩
theorem JS {x:XS} (h:iJ x) (hx:mC x):iJ (eZ x):=by
 unfold eZ
 repeat' split
 ·exact NU h hx
 ·exact EZ h hx
 ·exact E0 h hx
 ·exact NV h hx
 ·exact JQ h hx
 ·exact JR h hx
theorem mu {x:XS} (h:iJ x) (a n:Int):iJ (dO x a n):=⟨h.s,h.a,h.b,h.k⟩
theorem A7 {m:MS} (hm:Jh m) (a:Int):aY (nB m.fl m.w a):=by
 unfold nB
 split
 ·exact⟨by decide,by decide⟩
 ·split
  ·exact hm.w _
  ·split
   ·have b1:=Iy hm.fl (dc a)
    have b2:=Iy hm.fl (dc a+2)
    unfold aY; omega
   ·exact⟨by decide,by decide⟩
theorem VW {m:MS} {x:XS} (hm:Jh m) (h:iJ x) (a:Int):iJ (je m x a):=by
 unfold je
 repeat' split
 ·exact mu h _ _
 ·exact e8 (mu h _ _) _ (A7 hm _)
 ·exact mu h _ _
theorem NW {m:MS} {x:XS} (h:iJ x):iJ (oR m x):=by
 unfold oR
 split
 ·exact e8 (mu h _ _) _ (wrap_u32 _)
 ·exact mu h _ _
theorem JT {m:MS} (hm:Jh m) {x:XS} (h:iJ x) (a:Int):∀ r,iJ (ct m x a r).1
 | 0=>h
 | r+1=>by
  have ih:=JT hm h a r
  rw[ct]
  split
  ·exact ih
  ·split
   ·exact ih
   ·split
    ·exact ih
    ·split
     ·exact CD ih (A7 hm _)
     ·exact e8 ih _ (A7 hm _)
theorem VX {m:MS} (hm:Jh m) {x:XS} (h:iJ x) (hx:mC x):iJ (wL m x):=by
 have h1:=JT hm (mu h (ao x 13) (cl x.i.av)) (ao x 13) 16
 have h2:=(wK (m:=m) (x:=dO x (ao x 13) (cl x.i.av)) (bM hx 13) 16).1
 unfold wL
 split
 ·exact e8 h1 _ h2
 ·exact h1
theorem Pr {m:MS} (hm:Jh m) {x:XS} (h:iJ x) (hx:mC x):iJ (kU m x):=by
 unfold kU
 repeat' split
 ·exact VW hm h _
 ·exact NW h
 ·exact VX hm h hx
 ·exact JS h hx
theorem za {s:RS} (hs:ee s) (i:IN):iJ (ak s i):=⟨⟨tc hs.r (wrap_u32 _),hs.n,hs.z,hs.c,hs.v⟩,y_,y_,.inl rfl⟩
theorem oW {w:Int} {wide:Prop} (h:k_ w wide=0):aw (D4 w wide)/\B5 (D4 w wide)/\fF wide (D4 w wide).form:=by
 unfold k_ at h
 split at h
 ·rename_i hf
  obtain⟨f,hf⟩:=hf
  have e:=sD hf
  rw[e]
  have hI:Al f:=by have:=hf.1; unfold fF at this; unfold Al; omega
  refine⟨hf.2.1.1,Cd hI,?_⟩
  have:(bg f w).form=f:=rfl
  rw[this]; exact hf.1
 ·cases h
theorem u6 {fl:List Int} {a:Int} (h:ke fl a=0):aw (fx fl a)/\B5 (fx fl a):=by
 unfold ke at h
 unfold fx
 split at h
 ·rename_i h1; exact absurd h h1
 ·rename_i h1
  rw[if_neg h1]
  split at h
  ·rename_i h2
   rw[if_pos h2]
   exact⟨(oW h).1,(oW h).2.1⟩
  ·rename_i h2
   rw[if_neg h2]
   split at h
   ·rename_i h3; exact absurd h h3
   ·rename_i h3
    rw[if_neg h3]
    exact⟨(oW h).1,(oW h).2.1⟩
theorem wS {i:IN} (h:aw i):fT i.form=2\/fT i.form=4:=by
 have:=h.1
 unfold fT
 split
 ·exact .inr rfl
 ·split
  ·exact .inl rfl
  ·omega
theorem CE (i:IN) (t:Prop) [Decidable t] {a b:Int} (ha:aY a) (hb:aY b) (h0:0<=i.av) (h1:i.av<=65535):1<=fV i t a b/\fV i t a b<=20:=by
 have e1:=s_ ha.2
 have e2:=py i.av h0 h1
 unfold fV
 repeat' split
 all_goals first|omega|(unfold mO; split<;>omega)|(unfold divC; split<;>omega)
theorem CF (full:Prop) [Decidable full] (line a n:Int):0<=t_ full line a n/\t_ full line a n<=2:=by
 have b1:=oV full line (fN a)
 have b2:=oV True (fN a) (fN (IntKind.u32.wrap (a+2)))
 unfold t_
 split<;>omega
theorem JU {n w:Int} (hn:0<=n/\n<=2) (hw:0<=w/\w<=7):0<=n*w/\n*w<=14:=by
 rcases (show n=0\/n=1\/n=2 by omega) with rfl|rfl|rfl<;>omega
open Classical in
noncomputable def fu (m:MS):Int:=fV (fx m.fl (m.s.R 15)) (kU m (ak m.s (fx m.fl (m.s.R 15)))).taken (kU m (ak m.s (fx m.fl (m.s.R 15)))).a (kU m (ak m.s (fx m.fl (m.s.R 15)))).b
open Classical in
noncomputable def d_ (m:MS):Int:=t_ m.full m.line (m.s.R 15) (fT (fx m.fl (m.s.R 15)).form)
noncomputable def zb (m:MS):XS:=kU m (ak m.s (fx m.fl (m.s.R 15)))
noncomputable def u7 (m:MS):MS:=⟨wQ m (ak m.s (fx m.fl (m.s.R 15))),m.fl,m.wait,(zb m).s,True,A5 (m.s.R 15) (fT (fx m.fl (m.s.R 15)).form),m.mB+(fu m+d_ m*m.wait),(zb m).kind,(zb m).code⟩
noncomputable def qB (m:MS):Int:=zA m (ak m.s (fx m.fl (m.s.R 15)))
noncomputable def gu (m:MS):Int:=if m.kind≠0 then 71 else if ke m.fl (m.s.R 15)≠0 then 10 else if qB m≠0 then 10 else 0
noncomputable def kf (m:MS):MS:=if m.kind≠0 then m else if ke m.fl (m.s.R 15)≠0 then tg m (ke m.fl (m.s.R 15)) else if qB m≠0 then tg (fM m (wQ m (ak m.s (fx m.fl (m.s.R 15))))) (qB m) else u7 m
noncomputable def evA (m:MS):Int:=if gu m≠0 then 0 else m.s.R 15
noncomputable def evD (m:MS):Int:=if gu m≠0 then 0 else (zb m).data
noncomputable def evW (m:MS):Int:=if gu m≠0 then 0 else (zb m).words
noncomputable def evC (m:MS):Int:=if gu m≠0 then 0 else fu m
noncomputable def evN (m:MS):Int:=if gu m≠0 then 0 else d_ m
noncomputable def VY (m:MS):PV:=evP (evA m) (evD m) (evW m) (evC m) (evN m)
theorem NX (m:MS):VY m=if gu m≠0 then evP 0 0 0 0 0 else evP (m.s.R 15) (zb m).data (zb m).words (fu m) (d_ m):=by
 unfold VY evA evD evW evC evN
 split<;>rfl
open Classical in
theorem NY (m:MS) (hm:qA m):Spec gT 17 [.ptr 2 0] (stM m) [] fun y S'=>y = .tup [VY m,.int .i64 (gu m)]/\S'=stM (kf m):=by
 have kE:gu m=if m.kind≠0 then 71 else if ke m.fl (m.s.R 15)≠0 then 10 else if qB m≠0 then 10 else 0:=rfl
 have kM:kf m=if m.kind≠0 then m else if ke m.fl (m.s.R 15)≠0 then tg m (ke m.fl (m.s.R 15)) else if qB m≠0 then tg (fM m (wQ m (ak m.s (fx m.fl (m.s.R 15))))) (qB m) else u7 m:=rfl
 have kV:=NX m
 refine Spec.jP (Spec.enter al P17 100 Tryz.func17 rfl (by kernel_rfl) ?_)
 refine⟨fun h=>?_,fun h=>?_⟩
 ·have h':m.kind≠0:=h
  rw[if_pos h'] at kE kM
  rw[kE,if_pos (by decide)] at kV
  rw[kV,kE,kM]
  exact rS
 rw[if_neg (show ¬ m.kind≠0 from h)] at kE kM
 refine (JM m (m.s.R 15) hm.mem (hm.s.r 15)).e ?_
 refine⟨fun h=>?_,fun h=>?_⟩
 ·have h':ke m.fl (m.s.R 15)≠0:=h
  rw[if_pos h'] at kE kM
  rw[kE,if_pos (by decide)] at kV
  rw[kV,kE,kM]
  refine (y9 m (ke m.fl (m.s.R 15))).e ?_
  exact rS
 have hf:ke m.fl (m.s.R 15)=0:=Classical.not_not.1 h
 rw[if_neg (show ¬ ke m.fl (m.s.R 15)≠0 from h)] at kE kM
 obtain⟨hr,u9⟩:=u6 hf
 have hx:=u4 hm.s hr u9
 have hy:=Pr hm.mem (za hm.s (fx m.fl (m.s.R 15))) hx
 have ga:=wS hr
 have VZ:=lY hr u9
 have hdo:=do_ok m (ak m.s (fx m.fl (m.s.R 15))) hm.mem hx
 refine (lR (fx m.fl (m.s.R 15))).u ?_
 refine .inr ?_
 refine .inr ?_
 refine⟨[],bf,(hdo).useP [0,1,2,5] rfl rfl rfl (by repeat' first|exact trivial|exact rfl|exact Iff.rfl|refine And.intro ?_ ?_) (And.intro (by first|(show gN _ _; exact bm rfl rfl)|(repeat' first|exact trivial|exact rfl|exact Iff.rfl|exact Or.inl rfl|exact not_false|refine And.intro ?_ ?_)) (And.intro (by first|(show gN _ _; exact bm rfl rfl)|(repeat' first|exact trivial|exact rfl|exact Iff.rfl|exact Or.inl rfl|exact not_false|refine And.intro ?_ ?_)) (And.intro (by first|(show gN _ _; exact bm rfl rfl)|(repeat' first|exact trivial|exact rfl|exact Iff.rfl|exact Or.inl rfl|exact not_false|refine And.intro ?_ ?_)) (And.intro (by first|(show gN _ _; exact bm rfl rfl)|(repeat' first|exact trivial|exact rfl|exact Iff.rfl|exact Or.inl rfl|exact not_false|refine And.intro ?_ ?_)) ?_))))⟩
 refine⟨fun h=>?_,fun h=>?_⟩
 ·have h':qB m≠0:=h
  rw[if_pos h'] at kE kM
  rw[kE,if_pos (by decide)] at kV
  rw[kV,kE,kM]
  refine (y9 (fM m (wQ m (ak m.s (fx m.fl (m.s.R 15))))) (qB m)).e ?_
  exact rS
 rw[if_neg (show ¬ qB m≠0 from h)] at kE kM
 rw[kE,if_neg (by decide)] at kV
 rw[kV,kE,kM]
 have hba:=ET (fx m.fl (m.s.R 15)) (kU m (ak m.s (fx m.fl (m.s.R 15)))).taken (kU m (ak m.s (fx m.fl (m.s.R 15)))).a (kU m (ak m.s (fx m.fl (m.s.R 15)))).b hr (u9 _ (by simp[qx])) VZ.1 VZ.2 hy.a hy.b
 have hfe:=A6 m.full m.line (m.s.R 15) (fT (fx m.fl (m.s.R 15)).form) (hm.s.r 15) ga
 refine hba.u ?_
 refine (lR (fx m.fl (m.s.R 15))).u ?_
 refine hfe.u ?_
 have hmi:=CF m.full m.line (m.s.R 15) (fT (fx m.fl (m.s.R 15)).form)
 have hbb:=CE (fx m.fl (m.s.R 15)) (kU m (ak m.s (fx m.fl (m.s.R 15)))).taken hy.a hy.b VZ.1 VZ.2
 have hmw:=JU hmi hm.wait
 have hcy:=hm.mB
 refine And.intro ?_ ?_
 ·refine And.intro ?_ ?_
  ·refine li ?_ (show _<=d_ m*m.wait/\d_ m*m.wait<=_ by unfold d_; omega)
   refine li ?_ (show _<=fu m+d_ m*m.wait/\fu m+d_ m*m.wait<=_ by unfold d_ fu; omega)
   refine li ?_ (show _<=m.mB+(fu m+d_ m*m.wait)/\m.mB+(fu m+d_ m*m.wait)<=_ by unfold d_ fu; omega)
   exact rS
  ·refine And.intro ?_ ?_
   ·refine (lR (fx m.fl (m.s.R 15))).u ?_
    refine hfe.u ?_
    exact rfl
   ·first|exact trivial|((conv=>whnf); exact trivial)
 ·refine And.intro ?_ ?_
  ·refine hfe.u ?_
   exact rfl
  ·first|exact trivial|((conv=>whnf); exact trivial)
def wT (s:RS):RS:={ s with N:=min s.N 1,Z:=min s.Z 1,C:=min s.C 1,V:=min s.V 1 }
def ua (m:MS) (s:RS):MS:={ m with s:=wT s }
theorem V0 (m:MS) (s:RS):Spec gT 14 [.ptr 2 0,qy s] (stM m) [] fun y S'=>y = .tup []/\S'=stM (ua m s):=by
 refine Spec.jP (Spec.enter al P14 100 Tryz.func14 rfl (by kernel_rfl) ?_)
 exact rS
theorem JV (m:MS):Spec gT 18 [.ptr 2 0] (stM m) [] fun y S'=>y=qy m.s/\S'=stM m:=by
 refine Spec.jP (Spec.enter al P18 100 Tryz.func18 rfl (by kernel_rfl) ?_)
 exact rS
def wP (p:Int × Int):PV:=.agg [.int .u32 p.1,.int .u32 p.2]
def rs0:RS:=⟨fun _=>0,0,0,0,0⟩
def o5 (fl:List Int) (wait:Int):MS:=⟨fun _=>0,fl,wait,rs0,False,0,0,0,0⟩
theorem u_:List.replicate 65536 (PV.int .u8 0)=gr fun _=>0:=by
 refine List.ext_getElem? fun k=>?_
 rw[yQ,List.getElem?_replicate]
 split
 ·unfold la gK; rw[Int.zero_ediv]; rfl
 ·rfl
theorem JW (fl:List Int) (hl:fl.length<=65536):ai gT 69 [.sl 1 (gI fl)] (.sl 1 (gI fl)):=by
 have el:(gI fl).length=fl.length:=List.length_map ..
 have hm:0+(gI fl).length<=maxLen:=by rw[el]; unfold maxLen; omega
 have hb:(0+(gI fl).length)*1<=140737488355328:=by rw[el]; omega
 refine Spec.enter al P69 100 Tryz.func69 rfl (by kernel_rfl) ?_
 by_cases h:fl = []
 ·subst h
  refine .inr (And.intro ?_ ?_)
  ·exact ax (show (gI []) = [] from rfl)
  ·refine⟨hm,hb,?_⟩
   exact ax rfl
 ·refine .inl ⟨by rw[el]; exact fun e=>h (List.eq_nil_of_length_eq_zero e),?_⟩
  refine⟨hm,hb,?_⟩
  exact ax rfl
theorem NZ (a b:List Int):gI (a++b)=gI a++gI b:=List.map_append ..
theorem JX (i:IN):(mN i).length<=4:=by
 unfold mN
 split<;>simp
theorem E1 (p b q:List Int) (k:Nat) (h:k < b.length):(p++b++q).getD (p.length+k) 0=b.getD k 0:=by
 rw[List.getD_eq_getElem?_getD,List.getD_eq_getElem?_getD,List.append_assoc,List.getElem?_append_right (by omega),Nat.add_sub_cancel_left,List.getElem?_append_left h]
theorem JY (i:IN):Cg (mN i):=by
 intro z hz
 unfold mN at hz
 split at hz<;>simp only[List.mem_append,List.mem_cons,List.not_mem_nil,or_false,false_or] at hz<;>omega
theorem N0 (p q:List Int) (i:IN) (h:aw i) (hg:i.av<=9223372036854775807):atI (p++mN i++q) p.length=i/\atE (p++mN i++q) p.length=0:=by
 have fst:=MM i h hg
 have bk:=back i h hg
 have wb:=MN i
 have tw:=Ix i h
 have tn:=AN i h
 have f1:=h.1
 unfold aY at wb
 have g:=E1 p (mN i) q
 have el0:(p++mN i++q).length=p.length+(mN i).length+q.length:=by rw[List.length_append,List.length_append]
 generalize gq:mN i=b at g el0 ⊢
 by_cases tV:48<=i.form
 ·have eb:b = [bC i / 65536 % 256,bC i / 16777216 % 256,bC i % 256,bC i / 256 % 256]:=by rw[← gq]; unfold mN; rw[if_pos tV]; rfl
  subst eb
  have el:(p++[bC i / 65536 % 256,bC i / 16777216 % 256,bC i % 256,bC i / 256 % 256]++q).length=p.length+4+q.length:=el0
  generalize p++[bC i / 65536 % 256,bC i / 16777216 % 256,bC i % 256,bC i / 256 % 256]++q=l at g el ⊢
  have g0:=g 0 (by simp)
  have g1:=g 1 (by simp)
  have g2:=g 2 (by simp)
  have g3:=g 3 (by simp)
  have k0:hN l p.length=bC i / 65536:=by
   unfold hN
   rw[Nat.add_zero] at g0
   rw[g0,g1]
   show bC i / 65536 % 256+bC i / 16777216 % 256*256=_
   omega
  have k2:hN l (p.length+2)=bC i % 65536:=by
   unfold hN
   rw[g2,g3]
   show bC i % 256+bC i / 256 % 256*256=_
   omega
  have kW:hW l p.length=bC i:=by unfold hW; rw[k0,k2]; omega
  have hb:¬ ¬ eG (hN l p.length):=by
   have:=tw tV
   rw[k0]; unfold eG; omega
  have e:(48<=i.form)=True:=eq_true tV
  rw[e] at fst
  unfold atI atE
  rw[if_neg (by omega),if_neg hb,if_neg (by omega),if_neg (by omega),if_neg hb,if_neg (by omega),kW,sD fst,wz fst,bk]
  exact⟨rfl,rfl⟩
 ·have eb:b = [bC i % 256,bC i / 256 % 256]:=by rw[← gq]; unfold mN; rw[if_neg tV]; rfl
  subst eb
  have el:(p++[bC i % 256,bC i / 256 % 256]++q).length=p.length+2+q.length:=el0
  generalize p++[bC i % 256,bC i / 256 % 256]++q=l at g el ⊢
  have tn':=tn tV
  have g0:=g 0 (by simp)
  have g1:=g 1 (by simp)
  have k0:hN l p.length=bC i:=by
   unfold hN
   rw[Nat.add_zero] at g0
   rw[g0,g1]
   show bC i % 256+bC i / 256 % 256*256=_
   omega
  have hb:¬ eG (hN l p.length):=by rw[k0]; unfold eG; omega
  have e:(48<=i.form)=False:=eq_false tV
  rw[e] at fst
  unfold atI atE
  rw[if_neg (by omega),if_pos hb,if_neg (by omega),if_pos hb,k0,sD fst,wz fst,bk]
  exact⟨rfl,rfl⟩
theorem V3 {fl:List Int} {n:Nat} (hn:n % 2=0) (hl:fl.length<=65536) (h:atE fl n=0):ke fl (134217728+(n:Int))=0/\fx fl (134217728+(n:Int))=atI fl n:=by
 have e0:dc (134217728+(n:Int))=n:=by unfold dc; omega
 have h2:¬ (134217728+(n:Int)) % 2≠0:=by omega
 unfold atE at h
 split at h
 ·cases h
 ·rename_i h1
  have f1:gV fl (134217728+(n:Int)) 2:=⟨by omega,by omega⟩
  have k1:pL fl (134217728+(n:Int))=0:=by unfold pL; rw[if_neg h2,if_pos f1]
  have k2:lf fl (134217728+(n:Int))=hN fl n:=by unfold lf; rw[if_neg h2,if_pos f1,e0]
  unfold ke fx atI
  rw[k1,k2,if_neg (show ¬ (0:Int)≠0 by decide),if_neg (show ¬ (0:Int)≠0 by decide),if_neg h1]
  split at h
  ·rename_i hb
   rw[if_pos hb,if_pos hb,if_pos hb]
   exact⟨h,rfl⟩
  ·rename_i hb
   rw[if_neg hb,if_neg hb,if_neg hb]
   split at h
   ·cases h
   ·rename_i h4
    have ew:IntKind.u32.wrap (134217728+(n:Int)+2)=134217728+((n+2:Nat):Int):=by rw[IntKind.wrap_u32']; omega
    have e1:dc (134217728+((n+2:Nat):Int))=n+2:=by unfold dc; omega
    have h3:¬ (134217728+((n+2:Nat):Int)) % 2≠0:=by omega
    have f2:gV fl (134217728+((n+2:Nat):Int)) 2:=⟨by omega,by omega⟩
    have k3:pL fl (134217728+((n+2:Nat):Int))=0:=by unfold pL; rw[if_neg h3,if_pos f2]
    have k4:lf fl (134217728+((n+2:Nat):Int))=hN fl (n+2):=by unfold lf; rw[if_neg h3,if_pos f2,e1]
    have kh:mQ fl (134217728+(n:Int))=hW fl n:=by unfold mQ; rw[k2,ew,k4]; rfl
    rw[ew,k3,if_neg (show ¬ (0:Int)≠0 by decide),if_neg (show ¬ (0:Int)≠0 by decide),if_neg h4,kh]
    exact⟨h,rfl⟩
theorem N1 (p q:List Int) (i:IN) (h:aw i) (hi:B5 i) (hp:p.length % 2=0) (hl:(p++mN i++q).length<=65536):ke (p++mN i++q) (134217728+(p.length:Int))=0/\fx (p++mN i++q) (134217728+(p.length:Int))=i:=by
 have hI:=hi i.av (by simp[qx])
 obtain⟨h1,h2⟩:=N0 p q i h hI.2
 obtain⟨h3,h4⟩:=V3 hp hl h2
 exact⟨h3,h4.trans h1⟩
theorem N2 {w:Nat->Int} (h:∀ k,aY (w k)) (j:Nat) {x:Int} (hx:aY x):∀ k,aY (sM w j x k):=fun k=>by
 unfold sM; split
 ·exact hx
 ·exact h k
theorem A8 {w:Nat->Int} (h:∀ k,aY (w k)) (a:Int) {x:Int} (hx:aY x):∀ k,aY (wI w a x k):=by
 unfold wI; split
 ·exact N2 h _ hx
 ·exact h
theorem CG {x:XS} (hx:mC x) {w:Nat->Int} (h:∀ k,aY (w k)) (a:Int):∀ r k,aY ((cf x w a r).1 k)
 | 0,k=>h k
 | r+1,k=>by
  have ih:=CG hx h a r
  rw[cf]
  split
  ·exact ih k
  ·split
   ·exact ih k
   ·split
    ·exact ih k
    ·exact A8 ih _ (bM hx _) k
theorem V4 {m:MS} (hm:Jh m) {x:XS} (hx:mC x):∀ k,aY (wQ m x k):=by
 unfold wQ
 split
 ·unfold kJ
  split
  ·exact A8 hm.w _ (bM hx _)
  ·exact hm.w
 ·split
  ·exact CG hx hm.w _ 15
  ·exact hm.w
open Classical in
theorem N3 {m:MS} (hm:qA m) (hc:m.mB<=999999999999900):qA (kf m)/\m.mB<=(kf m).mB/\(kf m).mB<=m.mB+34/\(gu m=0->m.mB < (kf m).mB)/\(kf m).wait=m.wait/\(kf m).fl=m.fl:=by
 unfold kf
 split
 ·rename_i hk
  exact⟨hm,Int.le_refl _,by omega,fun h=>absurd h (by unfold gu; rw[if_pos hk]; decide),rfl,rfl⟩
 rename_i hk
 split
 ·rename_i hf
  exact⟨⟨⟨hm.mem.w,hm.mem.fl,hm.mem.len⟩,hm.s,hm.wait,hm.mB⟩,Int.le_refl _,by show m.mB<=_; omega,fun h=>absurd h (by unfold gu; rw[if_neg hk,if_pos hf]; decide),rfl,rfl⟩
 rename_i hf
 obtain⟨hr,u9⟩:=u6 (Classical.not_not.1 hf)
 have hx:=u4 hm.s hr u9
 have hy:=Pr hm.mem (za hm.s (fx m.fl (m.s.R 15))) hx
 have hw:=V4 hm.mem hx
 split
 ·rename_i hd
  exact⟨⟨⟨hw,hm.mem.fl,hm.mem.len⟩,hm.s,hm.wait,hm.mB⟩,Int.le_refl _,by show m.mB<=_; omega,fun h=>absurd h (by unfold gu; rw[if_neg hk,if_neg hf,if_pos hd]; decide),rfl,rfl⟩
 ·have VZ:=lY hr u9
  have hb:1<=fu m/\fu m<=20:=by unfold fu; exact CE _ _ hy.a hy.b VZ.1 VZ.2
  have hmi:0<=d_ m/\d_ m<=2:=by unfold d_; exact CF _ _ _ _
  have hmw:=JU hmi hm.wait
  have hcy:=hm.mB
  have e:(u7 m).mB=m.mB+(fu m+d_ m*m.wait):=rfl
  exact⟨⟨⟨hw,hm.mem.fl,hm.mem.len⟩,hy.s,hm.wait,by show 0<=(u7 m).mB/\(u7 m).mB<=_; rw[e]; omega⟩,by rw[e]; omega,by rw[e]; omega,fun _=>by rw[e]; omega,rfl,rfl⟩
theorem V5:ee rs0:=⟨fun _=>y_,⟨Int.le_refl _,Int.zero_le_ofNat 1⟩,⟨Int.le_refl _,Int.zero_le_ofNat 1⟩,⟨Int.le_refl _,Int.zero_le_ofNat 1⟩,⟨Int.le_refl _,Int.zero_le_ofNat 1⟩⟩
theorem E2 {s:RS} (h:∀ k,aY (s.R k)) (hn:0<=s.N) (hz:0<=s.Z) (hc:0<=s.C) (hv:0<=s.V):ee (wT s):=⟨h,by show 0<=min s.N 1/\min s.N 1<=1; omega,by show 0<=min s.Z 1/\min s.Z 1<=1; omega,by show 0<=min s.C 1/\min s.C 1<=1; omega,by show 0<=min s.V 1/\min s.V 1<=1; omega⟩
theorem V6 {fl:List Int} {wait:Int} (hb:Cg fl) (hl:fl.length<=65536) (hw:0<=wait/\wait<=7):qA (o5 fl wait):=⟨⟨fun _=>y_,hb,hl⟩,V5,hw,by show 0<=(0:Int)/\(0:Int)<=_; decide⟩
theorem N4 {m:MS} (hm:qA m) {s:RS} (h:ee (wT s)):qA (ua m s):=⟨⟨hm.mem.w,hm.mem.fl,hm.mem.len⟩,h,hm.wait,hm.mB⟩
abbrev va (t:TypeId) (cs:List PV):an:=⟨.loc,t,1,.w,true,cs⟩
abbrev stD (o:Nat) (m:MS):List an:=[AP m.w,va 94 [.sl 1 (gI m.fl),.wref o],va 91 (.ptr (o+1) 0::(IA m).cs.tail)]
structure iK (x y:XS):Prop where
 i:y.i=x.i
 k:y.kind=x.kind
 c:y.code=x.code
 t:y.taken=x.taken
 r:y.s.R 15=x.s.R 15
theorem iK.refl (x:XS):iK x x:=⟨rfl,rfl,rfl,rfl,rfl⟩
theorem iK.trans {x y z:XS} (h:iK x y) (g:iK y z):iK x z:=⟨g.i.trans h.i,g.k.trans h.k,g.c.trans h.c,g.t.trans h.t,g.r.trans h.r⟩
theorem fX {x:XS} {r v:Int} (h:r≠15):iK x (cI x r v):=⟨rfl,rfl,rfl,rfl,by show kS x.s.R r v 15=_; unfold kS; rw[if_neg (by omega)]⟩
theorem zc {x:XS} {d v w c:Int} (h:d≠15):iK x (fm x d v w c):=by
 have h1:iK x (if en x then lS (qQ x (Rm.fj v w c)) (Rm.iG v w c) (Rm.nf v w c) else x):=by
  split
  ·exact⟨rfl,rfl,rfl,rfl,rfl⟩
  ·exact .refl x
 unfold fm
 split
 ·exact h1.trans (fX h)
 ·exact h1
theorem nv {x:XS} {d v c:Int} (h:d≠15):iK x (bZ x d v c):=by
 have h1:iK x (if en x then qb (qQ x v) c else x):=by
  split
  ·exact⟨rfl,rfl,rfl,rfl,rfl⟩
  ·exact .refl x
 unfold bZ
 split
 ·exact h1.trans (fX h)
 ·exact h1
theorem E3 {x:XS} (h:x.i.rd≠15):iK x (fg x):=by
 unfold fg
 repeat' split
 all_goals first|exact zc h|exact zc (by decide)|exact .refl x
theorem zd {x:XS} (h:x.i.rd≠15):iK x (cA x):=by
 unfold cA
 repeat' split
 all_goals first|exact nv h|exact nv (by decide)|exact .refl x
theorem ze {x:XS} (h:x.i.rd≠15):iK x (dZ x):=by
 unfold dZ jc
 repeat' split
 all_goals first|exact nv h|exact .refl x
theorem A9 {x:XS} (h:x.i.rd≠15):iK x (cQ x):=by
 unfold cQ
 repeat' split
 all_goals first|exact fX h|exact fX (by decide)|exact .refl x
theorem E4 {x:XS} {lo hi:Int} (h:x.i.rd≠15) (g:x.i.ra≠15):iK x (sL x lo hi):=(fX h).trans (fX g)
theorem E5 {x:XS} (h:x.i.rd≠15) (g:x.i.ra≠15):iK x (fh x):=by
 have hd:∀ v,iK x (cI { x with a:=ao x x.i.rn,b:=ao x x.i.rm } x.i.rd v):=fun v=>(show iK x { x with a:=ao x x.i.rn,b:=ao x x.i.rm } from ⟨rfl,rfl,rfl,rfl,rfl⟩).trans (fX h)
 unfold fh
 repeat' split
 all_goals first|exact fX h|exact E4 h g|exact hd _|exact .refl x|exact (show iK x (qQ x _) from ⟨rfl,rfl,rfl,rfl,rfl⟩).trans (fX h)
theorem JZ {m:MS} {x:XS} {a:Int} (h:x.i.rd≠15):iK x (je m x a):=by
 have hd:iK x (dO x a 1):=⟨rfl,rfl,rfl,rfl,rfl⟩
 unfold je
 repeat' split
 all_goals first|exact hd|exact hd.trans (fX h)
def mF (f:Int):Prop:=cM f=0/\f≠42/\f≠43
theorem N5 {m:MS} {x:XS} (h:x.i.rd≠15) (g:x.i.ra≠15) (hf:mF x.i.form):iK x (kU m x):=by
 unfold kU
 rw[if_neg hf.2.1,if_neg hf.2.2]
 split
 ·exact JZ h
 unfold eZ
 rw[yP hf.1]
 repeat' split
 ·exact E3 h
 ·exact zd h
 ·exact ze h
 ·exact E5 h g
 ·exact A9 h
 ·exact .refl x
theorem J0 {i:IN} (h:aw i):i.rd≠15/\i.ra≠15:=⟨by have:=(gG h.2.1).2; omega,by have:=(gG h.2.2.2.2.1).2; omega⟩
open Classical in
theorem oX {m:MS} {i:IN} (hk:m.kind=0) (hf:ke m.fl (m.s.R 15)=0) (hi:fx m.fl (m.s.R 15)=i) (hr:aw i) (hs:mF i.form) (hd:zA m (ak m.s i)=0) :
  gu m=0/\kf m=⟨wQ m (ak m.s i),m.fl,m.wait,(kU m (ak m.s i)).s,True,A5 (m.s.R 15) (fT i.form),m.mB+(fV i False (kU m (ak m.s i)).a (kU m (ak m.s i)).b+t_ m.full m.line (m.s.R 15) (fT i.form)*m.wait),0,0⟩/\(kU m (ak m.s i)).s.R 15=IntKind.u32.wrap (m.s.R 15+IntKind.u32.wrap (fT i.form)):=by
 have jq:¬ m.kind≠0:=fun h=>h hk
 have hf':¬ ke m.fl (m.s.R 15)≠0:=fun h=>h hf
 have Xm:¬ qB m≠0:=by unfold qB; rw[hi]; exact fun h=>h hd
 obtain⟨h1,h2⟩:=J0 hr
 have hK:iK (ak m.s i) (kU m (ak m.s i)):=N5 h1 h2 hs
 have eT:(kU m (ak m.s i)).taken=False:=hK.t
 refine⟨by unfold gu; rw[if_neg jq,if_neg hf',if_neg Xm],?_,hK.r⟩
 unfold kf
 rw[if_neg jq,if_neg hf',if_neg Xm]
 unfold u7 fu d_ zb
 rw[hi,hK.k,hK.c]
 have eB:fV i (kU m (ak m.s i)).taken (kU m (ak m.s i)).a (kU m (ak m.s i)).b=fV i False (kU m (ak m.s i)).a (kU m (ak m.s i)).b:=by
  unfold fV
  simp only[eT]
 simp only[eB]
 rfl
noncomputable def mv:Nat->MS->MS
 | 0,m=>m
 | k+1,m=>kf (mv k m)
def cV (l:List IN):List Int:=l.flatMap mN
theorem zf {i:IN} (h:aw i):((mN i).length:Int)=fT i.form:=by
 have:=h.1
 unfold mN fT
 by_cases tV:48<=i.form
 ·rw[if_pos tV,if_pos ⟨tV,this.2⟩]; rfl
 ·rw[if_neg tV,if_neg (fun h=>tV h.1),if_pos (by omega)]; rfl
theorem th (a b:List IN):cV (a++b)=cV a++cV b:=List.flatMap_append ..
theorem vb:∀ {l:List IN},(∀ i∈l,aw i)->(cV l).length % 2=0
 | [],_=>rfl
 | i::l,h=>by
  have ih:=vb (l:=l) fun j hj=>h j (List.mem_cons_of_mem _ hj)
  have h1:=zf (h i (List.mem_cons_self ..))
  have h2:=wS (h i (List.mem_cons_self ..))
  have:cV (i::l)=mN i++cV l:=rfl
  rw[this,List.length_append]
  omega
structure KB (m:MS) (l:List IN) (k:Nat):Prop where
 kd:m.kind=0
 fl:m.fl=cV l
 r:m.s.R 15=134217728+((cV (l.take k)).length:Int)
theorem KB.zg {m:MS} {l:List IN} {k:Nat} {i:IN} (h:KB m l k) (hl:∀ i∈l,aw i/\B5 i) (hn:(cV l).length<=65536) (hi:l[k]?=some i):ke m.fl (m.s.R 15)=0/\fx m.fl (m.s.R 15)=i:=by
 have hm:=List.mem_of_getElem? hi
 have es:l=l.take k++(i::l.drop (k+1)):=by
  have:=List.take_append_drop k l
  rw[List.drop_eq_getElem?_toList_append,hi] at this
  exact this.symm
 have eb:cV l=cV (l.take k)++mN i++cV (l.drop (k+1)):=by
  rw[List.append_assoc]
  calc cV l=cV (l.take k++(i::l.drop (k+1))):=by rw[← es]
   _=_:=by rw[th]; rfl
 rw[h.fl,h.r,eb]
 refine N1 _ _ i (hl i hm).1 (hl i hm).2 (vb fun j hj=>(hl j (List.mem_of_mem_take hj)).1) ?_
 rw[← eb]; exact hn
theorem pN {l:List IN} {k:Nat} {i:IN} (hi:l[k]?=some i):cV (l.take (k+1))=cV (l.take k)++mN i:=by
 rw[List.take_add_one,hi,th]
 simp[cV]
theorem ub (l:List IN) (k:Nat):(cV (l.take k)).length<=(cV l).length:=by
 have:cV l=cV (l.take k)++cV (l.drop k):=by rw[← th,List.take_append_drop]
 rw[this,List.length_append]; omega
theorem KB.next {m:MS} {l:List IN} {k:Nat} {i:IN} (h:KB m l k) (hl:∀ i∈l,aw i/\B5 i) (hn:(cV l).length<=65536) (hi:l[k]?=some i) (hs:mF i.form) (hd:zA m (ak m.s i)=0):KB (kf m) l (k+1):=by
 obtain⟨h1,h2⟩:=h.zg hl hn hi
 have hr:=(hl i (List.mem_of_getElem? hi)).1
 obtain⟨h3,h4,h5⟩:=oX h.kd h1 h2 hr hs hd
 have hb:=zf hr
 have ht:=ub l (k+1)
 rw[pN hi,List.length_append] at ht
 have h24:=wS hr
 rw[h4]
 refine⟨rfl,h.fl,?_⟩
 show (kU m (ak m.s i)).s.R 15=_
 rw[h5,h.r,pN hi,List.length_append,IntKind.wrap_u32',IntKind.wrap_u32']
 omega
def KC (f:Int):Prop:=mF f/\bw f=0
theorem qT {m:MS} {x:XS} (h:KC x.i.form):zA m x=0:=by
 unfold zA
 rw[if_neg (fun e=>e h.2),if_neg h.1.2.1,if_neg h.1.2.2]
def ruB4 (r:RU):Bool:=decide ((-16777216<=r.i0/\r.i1<=16777214)/\(0<=r.b0/\r.b1<=255))
theorem N6:∀ k:Fin 35,ruB4 (cg ((k.1:Nat):Int))=true:=by decide
theorem J1 (s:Int):(-16777216<=(cg s).i0/\(cg s).i1<=16777214)/\(0<=(cg s).b0/\(cg s).b1<=255):=by
 by_cases h:s < 1\/34 < s
 ·have e:cg s=fL:=by
   unfold cg
   repeat rw[if_neg (by omega)]
   unfold ruN
   repeat rw[if_neg (by omega)]
  rw[e]; decide
 ·have h1:=N6 ⟨s.toNat,by omega⟩
  rw[show (((⟨s.toNat,by omega⟩:Fin 35).1:Nat):Int)=s by simp only[]; omega] at h1
  exact of_decide_eq_true h1
theorem E6 {i:IN} (h:aw i) (hg:i.av=0):B5 i:=by
 obtain⟨g1,g2,g3,g4⟩:=nk h
 obtain⟨hf,h1,h2,h3,h4,h5,h6,h7,h8,h9,cZ⟩:=h
 have b:=J1 (aa i.form)
 have hk:(0<=i.kind/\i.kind<=3)/\0<=i.bF/\i.bF<=255:=by
  rcases h9 with ⟨_,h⟩|⟨_,h,k⟩
  ·unfold cP at h; omega
  ·refine⟨by omega,?_⟩
   rcases k with k|k<;>omega
 have hm:-16777216<=i.ay/\i.ay<=16777214:=by rcases h7 with k|k<;>omega
 have hs:0<=i.set/\i.set<=1:=by rcases h8 with k|k<;>omega
 have hc:0<=i.cond/\i.cond<=13:=by rcases h6 with k|k<;>omega
 intro x hx
 unfold qx at hx
 simp only[List.mem_cons,List.not_mem_nil,or_false] at hx
 unfold Al
 omega
end Go.Proofs.YtlgkljpgagfndaaGreatDoor.Pw

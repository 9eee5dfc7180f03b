/- What this claim is proved with: no condition. -/
import Derived.Test.YtnbngokbamifbaaGreatDoorNr27
import Derived.Test.YtnbngokbamifbaaGreatDoorNr11
import Derived.Test.YtnbngokbamifbaaGreatDoorNr12
set_option maxRecDepth 100000
set_option maxHeartbeats 16000000
set_option linter.unusedVariables false
set_option linter.unusedSimpArgs false
namespace Go.Proofs.YtnbngokbamifbaaGreatDoor.Pw
open Go Go.RowKit
structure m8 (m:MS):Prop where
 mem:BA m
 s:qL m.s
 wait:0<=m.wait/\m.wait<=7
 iD:0<=m.iD/\m.iD<=1000000000000000
structure iy (x:XS):Prop where
 s:qL x.s
 a:aP x.a
 b:aP x.b
 k:x.kind=0\/x.kind=1\/x.kind=2
theorem ez {x:XS} (h:iy x) (r:Int) {v:Int} (hv:aP v):iy (cg x r v):=⟨⟨pS h.s.r hv,h.s.n,h.s.z,h.s.c,h.s.v⟩,h.a,h.b,h.k⟩
theorem Jm {x:XS} (h:iy x) {v:Int} (hv:aP v):iy (lg x v):=⟨⟨h.s.r,by unfold aP at hv; show 0<=v / 2147483648/\v / 2147483648<=1; omega,by show 0<=(if v=0 then (1:Int) else 0)/\(if v=0 then (1:Int) else 0)<=1; split<;>omega,h.s.c,h.s.v⟩,h.a,h.b,h.k⟩
theorem NI {x:XS} (h:iy x) {c:Int} (hc:0<=c/\c<=1):iy (hU x c):=⟨⟨h.s.r,h.s.n,h.s.z,hc,h.s.v⟩,h.a,h.b,h.k⟩
theorem Jn {x:XS} (h:iy x) {c o:Int} (hc:0<=c/\c<=1) (ho:0<=o/\o<=1):iy (l7 x c o):=⟨⟨h.s.r,h.s.n,h.s.z,hc,ho⟩,h.a,h.b,h.k⟩
theorem Vz {x:XS} (h:iy x) (d:Int) {v w c:Int} (hv:aP v) (hw:aP w) (hc:0<=c):iy (dD x d v w c):=by
 have hs:aP (Rm.eD v w c):=Rm.q_ _ _ _
 have h1:iy (if bY x then l7 (lg x (Rm.eD v w c)) (Rm.iB v w c) (Rm.jT v w c) else x):=by
  split
  ·exact Jn (Jm h hs) (Rm.Ck _ _ _ hc hv.1 hv.2 hw.1 hw.2) (Rm.K7 _ _ _)
  ·exact h
 unfold dD
 split
 ·exact ez h1 _ hs
 ·exact h1
theorem fJ {x:XS} (h:iy x) (d:Int) {v c:Int} (hv:aP v) (hc:0<=c/\c<=1):iy (bK x d v c):=by
 have h1:iy (if bY x then hU (lg x v) c else x):=by
  split
  ·exact NI (Jm h hv) hc
  ·exact h
 unfold bK
 split
 ·exact ez h1 _ hv
 ·exact h1
theorem dX {a b:Int} (ha:aP a) (hb:aP b):aP (bits .and .u32 a b)/\aP (bits .or .u32 a b)/\aP (bits .xor .u32 a b)/\aP (bits .andNot .u32 a b):=by
 obtain⟨a0,a1⟩:=ha
 obtain⟨b0,b1⟩:=hb
 rw[u32_and a b a0 (by omega) b0 (by omega),u32_or a b a0 (by omega) b0 (by omega),u32_xor a b a0 (by omega) b0 (by omega),u32_andNot a b a0 (by omega) b0 (by omega)]
 have h1:a.toNat &&& b.toNat < 2 ^ 32:=Nat.and_lt_two_pow _ (show b.toNat < 4294967296 by omega)
 have h2:a.toNat ||| b.toNat < 2 ^ 32:=Nat.or_lt_two_pow (show a.toNat < 4294967296 by omega) (show b.toNat < 4294967296 by omega)
 have h3:a.toNat ^^^ b.toNat < 2 ^ 32:=Nat.xor_lt_two_pow (show a.toNat < 4294967296 by omega) (show b.toNat < 4294967296 by omega)
 have h4:a.toNat &&& (4294967295 - b.toNat) < 2 ^ 32:=Nat.and_lt_two_pow _ (show 4294967295 - b.toNat < 4294967296 by omega)
 generalize a.toNat &&& b.toNat=p at h1 ⊢
 generalize a.toNat ||| b.toNat=q at h2 ⊢
 generalize a.toNat ^^^ b.toNat=r at h3 ⊢
 generalize a.toNat &&& (4294967295 - b.toNat)=t at h4 ⊢
 unfold aP
 omega
theorem o5:aP 0:=⟨by decide,by decide⟩
theorem NJ {x:XS} (h:iX x):0<=cB x/\cB x<=1:=by
 have hc:=h.c
 unfold cB
 split
 ·exact hc
 ·split
  ·unfold Rm.gq
   have:=Rm.oK x.i.av
   split
   ·split<;>omega
   ·omega
  ·split
   ·exact IM _ _ _ _ (aX h _)
   ·exact hc
theorem NK {x:XS} (h:iy x) (hx:iX x):iy (fk x):=by
 have f:=bL hx
 have w:=cf hx
 have c:=hx.c
 unfold fk
 repeat' split
 all_goals first|exact h|(refine Vz h _ ?_ ?_ ?_<;>first|exact f|exact w|exact cV f|exact cV w|exact c.1|decide|exact⟨by decide,by decide⟩)
theorem Fu {x:XS} (h:iy x) (hx:iX x):iy (cJ x):=by
 have f:=bL hx
 have w:=cf hx
 have c:=NJ hx
 have b:=dX f w
 have n:=cV w
 have o:=(dX f n).2.1
 unfold cJ
 split
 ·exact fJ h _ w c
 split
 ·exact fJ h _ n c
 split
 ·exact fJ h _ b.1 c
 split
 ·exact fJ h _ b.2.1 c
 split
 ·exact fJ h _ b.2.2.1 c
 split
 ·exact fJ h _ b.2.2.2 c
 split
 ·exact fJ h _ o c
 split
 ·exact fJ h _ b.1 c
 split
 ·exact fJ h _ b.2.2.1 c
 ·exact h
theorem Jo {x:XS} (h:iy x) (k:Int) {v:Int} (n:Int) (hv:aP v):iy (fj x k v n):=fJ h _ (Bu _ _ _ hv) (IM _ _ _ _ hv)
theorem Fv {x:XS} (h:iy x) (hx:iX x):iy (cm x):=by
 unfold cm
 repeat' split
 all_goals first|exact h|exact Jo h _ _ (aX hx _)
theorem Ds {x:XS} (h:iy x) {a b:Int} (ha:aP a) (hb:aP b):iy (qq x a b):=ez (ez h _ ha) _ hb
theorem Dt {x:XS} (h:iy x) (hx:iX x):iy (dm x):=by
 have hab:iy { x with a:=al x x.i.rn,b:=al x x.i.rm }:=⟨h.s,aX hx _,aX hx _,h.k⟩
 unfold dm
 repeat' split
 all_goals first|exact h|exact ez (Jm h (wrap_u32 _)) _ (wrap_u32 _)|exact ez h _ (Jb x)|exact ez h _ (wrap_u32 _)|exact Ds h (Jb x) (Pt hx)|exact Ds h (Rm.q_ _ _ _) (Rm.q_ _ _ _)|exact ez hab _ (wrap_u32 _)
theorem vi (r:Int) {v:Int} (hv:aP v):aP (dM r v):=by
 unfold dM
 split
 ·exact (dX hv ⟨by decide,by decide⟩).2.2.2
 ·exact hv
theorem zS {x:XS} (h:iy x) (hx:iX x):iy (ch x):=by
 unfold ch
 repeat' split
 all_goals first|exact h|exact ez h _ (vi _ (wrap_u32 _))|exact ez h _ (vi _ (aX hx _))|exact ez h _ (wrap_u32 _)|exact ez h _ (dX (dX (aX hx _) ⟨by decide,by decide⟩).1 (wrap_u32 _)).2.1
theorem Du {x:XS} (h:iy x) {v:Int} (hv:aP v):iy (fo x v):=by
 unfold fo
 split
 ·exact⟨h.s,h.a,h.b,.inr (.inl rfl)⟩
 ·exact ez h _ (dX hv ⟨by decide,by decide⟩).2.2.2
theorem Jp {x:XS} (h:iy x) (hx:iX x):iy (cT x):=by
 have ht:iy (jD x):=⟨h.s,h.a,h.b,h.k⟩
 unfold cT
 repeat' split
 all_goals first|exact h|exact ht|exact ez ht _ (wrap_u32 _)|exact ez h _ (wrap_u32 _)|exact Du h (aX hx _)|exact⟨h.s,h.a,h.b,.inr (.inr rfl)⟩
theorem Jq {x:XS} (h:iy x) (hx:iX x):iy (eu x):=by
 unfold eu
 repeat' split
 ·exact NK h hx
 ·exact Fu h hx
 ·exact Fv h hx
 ·exact Dt h hx
 ·exact zS h hx
 ·exact Jp h hx
theorem mU {x:XS} (h:iy x) (a n:Int):iy (cR x a n):=⟨h.s,h.a,h.b,h.k⟩
theorem xm {m:MS} (hm:BA m) (a:Int):aP (qK m.fl m.w a):=by
 unfold qK
 split
 ·exact⟨by decide,by decide⟩
 ·split
  ·exact hm.w _
  ·split
   ·have b1:=Iv hm.fl (cu a)
    have b2:=Iv hm.fl (cu a+2)
    unfold aP; omega
   ·exact⟨by decide,by decide⟩
theorem VA {m:MS} {x:XS} (hm:BA m) (h:iy x) (a:Int):iy (iH m x a):=by
 unfold iH
 repeat' split
 ·exact mU h _ _
 ·exact ez (mU h _ _) _ (xm hm _)
 ·exact mU h _ _
theorem NL {m:MS} {x:XS} (h:iy x):iy (ix m x):=by
 unfold ix
 split
 ·exact ez (mU h _ _) _ (wrap_u32 _)
 ·exact mU h _ _
theorem Jr {m:MS} (hm:BA m) {x:XS} (h:iy x) (a:Int):∀ r,iy (bN m x a r).1
 | 0=>h
 | r+1=>by
  have ih:=Jr hm h a r
  rw[bN]
  split
  ·exact ih
  ·split
   ·exact ih
   ·split
    ·exact ih
    ·split
     ·exact Du ih (xm hm _)
     ·exact ez ih _ (xm hm _)
theorem VB {m:MS} (hm:BA m) {x:XS} (h:iy x) (hx:iX x):iy (m6 m x):=by
 have h1:=Jr hm (mU h (al x 13) (bb x.i.an)) (al x 13) 16
 have h2:=(rC (m:=m) (x:=cR x (al x 13) (bb x.i.an)) (aX hx 13) 16).1
 unfold m6
 split
 ·exact ez h1 _ h2
 ·exact h1
theorem Js {m:MS} (hm:BA m) {x:XS} (h:iy x) (hx:iX x):iy (qs m x):=by
 unfold qs
 repeat' split
 ·exact VA hm h _
 ·exact NL h
 ·exact VB hm h hx
 ·exact Jq h hx
theorem o6 {s:RS} (hs:qL s) (i:IN):iy (cD s i):=⟨⟨pS hs.r (wrap_u32 _),hs.n,hs.z,hs.c,hs.v⟩,o5,o5,.inl rfl⟩
theorem j8 {w:Int} {wide:Prop} (h:sZ w wide=0):bQ (ri w wide)/\tR (ri w wide)/\cZ wide (ri w wide).form:=by
 unfold sZ at h
 split at h
 ·rename_i hf
  obtain⟨f,hf⟩:=hf
  have e:=nN hf
  rw[e]
  have hI:fe f:=by have:=hf.1; unfold cZ at this; unfold fe; omega
  refine⟨hf.2.1.1,rk hI,?_⟩
  have:(aW f w).form=f:=rfl
  rw[this]; exact hf.1
 ·cases h
theorem j9 {fl:List Int} {a:Int} (h:fp fl a=0):bQ (cE fl a)/\tR (cE fl a):=by
 unfold fp at h
 unfold cE
 split at h
 ·rename_i h1; exact absurd h h1
 ·rename_i h1
  rw[if_neg h1]
  split at h
  ·rename_i h2
   rw[if_pos h2]
   exact⟨(j8 h).1,(j8 h).2.1⟩
  ·rename_i h2
   rw[if_neg h2]
   split at h
   ·rename_i h3; exact absurd h h3
   ·rename_i h3
    rw[if_neg h3]
    exact⟨(j8 h).1,(j8 h).2.1⟩
theorem Dv {i:IN} (h:bQ i):dN i.form=2\/dN i.form=4:=by
 have:=h.1
 unfold dN
 split
 ·exact .inr rfl
 ·split
  ·exact .inl rfl
  ·omega
theorem xn (i:IN) (t:Prop) [Decidable t] {a b:Int} (ha:aP a) (hb:aP b) (h0:0<=i.an) (h1:i.an<=65535):1<=gE i t a b/\gE i t a b<=20:=by
 have e1:=mb ha.2
 have e2:=gP i.an h0 h1
 unfold gE
 repeat' split
 all_goals first|omega|(unfold mc; split<;>omega)|(unfold divC; split<;>omega)
theorem xo (full:Prop) [Decidable full] (line a n:Int):0<=m7 full line a n/\m7 full line a n<=2:=by
 have b1:=o4 full line (cW a)
 have b2:=o4 True (cW a) (cW (IntKind.u32.wrap (a+2)))
 unfold m7
 split<;>omega
theorem BE {n w:Int} (hn:0<=n/\n<=2) (hw:0<=w/\w<=7):0<=n*w/\n*w<=14:=by
 rcases (show n=0\/n=1\/n=2 by omega) with rfl|rfl|rfl<;>omega
open Classical in
noncomputable def cz (m:MS):Int:=gE (cE m.fl (m.s.R 15)) (qs m (cD m.s (cE m.fl (m.s.R 15)))).taken (qs m (cD m.s (cE m.fl (m.s.R 15)))).a (qs m (cD m.s (cE m.fl (m.s.R 15)))).b
open Classical in
noncomputable def cq (m:MS):Int:=m7 m.full m.line (m.s.R 15) (dN (cE m.fl (m.s.R 15)).form)
noncomputable def kK (m:MS):XS:=qs m (cD m.s (cE m.fl (m.s.R 15)))
noncomputable def qt (m:MS):MS:=⟨zO m (cD m.s (cE m.fl (m.s.R 15))),m.fl,m.wait,(kK m).s,True,o1 (m.s.R 15) (dN (cE m.fl (m.s.R 15)).form),m.iD+(cz m+cq m*m.wait),(kK m).kind,(kK m).code⟩
noncomputable def lq (m:MS):Int:=F1 m (cD m.s (cE m.fl (m.s.R 15)))
noncomputable def j' (m:MS):Int:=if m.kind≠0 then 71 else if fp m.fl (m.s.R 15)≠0 then 10 else if lq m≠0 then 10 else 0
noncomputable def cX (m:MS):MS:=if m.kind≠0 then m else if fp m.fl (m.s.R 15)≠0 then nQ m (fp m.fl (m.s.R 15)) else if lq m≠0 then nQ (gC m (zO m (cD m.s (cE m.fl (m.s.R 15))))) (lq m) else qt m
noncomputable def evA (m:MS):Int:=if j' m≠0 then 0 else m.s.R 15
noncomputable def evD (m:MS):Int:=if j' m≠0 then 0 else (kK m).data
noncomputable def evW (m:MS):Int:=if j' m≠0 then 0 else (kK m).words
noncomputable def evC (m:MS):Int:=if j' m≠0 then 0 else cz m
noncomputable def evN (m:MS):Int:=if j' m≠0 then 0 else cq m
noncomputable def NM (m:MS):PV:=Z3 (evA m) (evD m) (evW m) (evC m) (evN m)
theorem Dw (m:MS):NM m=if j' m≠0 then Z3 0 0 0 0 0 else Z3 (m.s.R 15) (kK m).data (kK m).words (cz m) (cq m):=by
 unfold NM evA evD evW evC evN
 split<;>rfl
open Classical in
theorem rD (m:MS) (hm:m8 m):Spec gT 20 [.ptr 2 0] (stM m) [] fun y S'=>y = .tup [NM m,.int .i64 (j' m)]/\S'=stM (cX m):=by
 have kE:j' m=if m.kind≠0 then 71 else if fp m.fl (m.s.R 15)≠0 then 10 else if lq m≠0 then 10 else 0:=rfl
 have kM:cX m=if m.kind≠0 then m else if fp m.fl (m.s.R 15)≠0 then nQ m (fp m.fl (m.s.R 15)) else if lq m≠0 then nQ (gC m (zO m (cD m.s (cE m.fl (m.s.R 15))))) (lq m) else qt m:=rfl
 have kV:=Dw m
 refine Spec.kB (Spec.enter ar P20 100 Tryz.func20 rfl (by kernel_rfl) ?_)
 refine⟨fun h=>?_,fun h=>?_⟩
 ·have h':m.kind≠0:=h
  rw[if_pos h'] at kE kM
  rw[kE,if_pos (by decide)] at kV
  rw[kV,kE,kM]
  exact rS
 rw[if_neg (show ¬ m.kind≠0 from h)] at kE kM
 refine (Jl m (m.s.R 15) hm.mem (hm.s.r 15)).e ?_
 refine⟨fun h=>?_,fun h=>?_⟩
 ·have h':fp m.fl (m.s.R 15)≠0:=h
  rw[if_pos h'] at kE kM
  rw[kE,if_pos (by decide)] at kV
  rw[kV,kE,kM]
  refine (zR m (fp m.fl (m.s.R 15))).e ?_
  exact rS
 have hf:fp m.fl (m.s.R 15)=0:=Classical.not_not.1 h
 rw[if_neg (show ¬ fp m.fl (m.s.R 15)≠0 from h)] at kE kM
 obtain⟨hr,xp⟩:=j9 hf
 have hx:=j7 hm.s hr xp
 have hy:=Js hm.mem (o6 hm.s (cE m.fl (m.s.R 15))) hx
 have fA:=Dv hr
 have F3:=ju hr xp
 have hdo:=Z2 m (cD m.s (cE m.fl (m.s.R 15))) hm.mem hx
 refine (lZ (cE m.fl (m.s.R 15))).u ?_
 refine .inr ?_
 refine .inr ?_
 refine⟨[],aT,(hdo).ZB [0,1,2,5] rfl rfl rfl (by repeat' first|exact trivial|exact rfl|exact Iff.rfl|refine And.intro ?_ ?_) (And.intro (by first|(show gB _ _; exact a_ rfl rfl)|(repeat' first|exact trivial|exact rfl|exact Iff.rfl|exact Or.inl rfl|exact not_false|refine And.intro ?_ ?_)) (And.intro (by first|(show gB _ _; exact a_ rfl rfl)|(repeat' first|exact trivial|exact rfl|exact Iff.rfl|exact Or.inl rfl|exact not_false|refine And.intro ?_ ?_)) (And.intro (by first|(show gB _ _; exact a_ rfl rfl)|(repeat' first|exact trivial|exact rfl|exact Iff.rfl|exact Or.inl rfl|exact not_false|refine And.intro ?_ ?_)) (And.intro (by first|(show gB _ _; exact a_ rfl rfl)|(repeat' first|exact trivial|exact rfl|exact Iff.rfl|exact Or.inl rfl|exact not_false|refine And.intro ?_ ?_)) ?_))))⟩
 refine⟨fun h=>?_,fun h=>?_⟩
 ·have h':lq m≠0:=h
  rw[if_pos h'] at kE kM
  rw[kE,if_pos (by decide)] at kV
  rw[kV,kE,kM]
  refine (zR (gC m (zO m (cD m.s (cE m.fl (m.s.R 15))))) (lq m)).e ?_
  exact rS
 rw[if_neg (show ¬ lq m≠0 from h)] at kE kM
 rw[kE,if_neg (by decide)] at kV
 rw[kV,kE,kM]
 have hba:=Fm (cE m.fl (m.s.R 15)) (qs m (cD m.s (cE m.fl (m.s.R 15)))).taken (qs m (cD m.s (cE m.fl (m.s.R 15)))).a (qs m (cD m.s (cE m.fl (m.s.R 15)))).b hr (xp _ (by simp[lW])) F3.1 F3.2 hy.a hy.b
 have hfe:=BD m.full m.line (m.s.R 15) (dN (cE m.fl (m.s.R 15)).form) (hm.s.r 15) fA
 refine hba.u ?_
 refine (lZ (cE m.fl (m.s.R 15))).u ?_
 refine hfe.u ?_
 have Z4:=xo m.full m.line (m.s.R 15) (dN (cE m.fl (m.s.R 15)).form)
 have hbb:=xn (cE m.fl (m.s.R 15)) (qs m (cD m.s (cE m.fl (m.s.R 15)))).taken hy.a hy.b F3.1 F3.2
 have hmw:=BE Z4 hm.wait
 have hcy:=hm.iD
 refine And.intro ?_ ?_
 ·refine And.intro ?_ ?_
  ·refine li ?_ (show _<=cq m*m.wait/\cq m*m.wait<=_ by unfold cq; omega)
   refine li ?_ (show _<=cz m+cq m*m.wait/\cz m+cq m*m.wait<=_ by unfold cq cz; omega)
   refine li ?_ (show _<=m.iD+(cz m+cq m*m.wait)/\m.iD+(cz m+cq m*m.wait)<=_ by unfold cq cz; omega)
   exact rS
  ·refine And.intro ?_ ?_
   ·refine (lZ (cE m.fl (m.s.R 15))).u ?_
    refine hfe.u ?_
    exact rfl
   ·first|exact trivial|((conv=>whnf); exact trivial)
 ·refine And.intro ?_ ?_
  ·refine hfe.u ?_
   exact rfl
  ·first|exact trivial|((conv=>whnf); exact trivial)
def tx (s:RS):RS:={ s with N:=min s.N 1,Z:=min s.Z 1,C:=min s.C 1,V:=min s.V 1 }
def qM (m:MS) (s:RS):MS:={ m with s:=tx s }
def Z5 (k c:Int):PV:=.agg [.int .i64 k,.int .i64 c]
theorem BF (m:MS) (s:RS):Spec gT 17 [.ptr 2 0,pf s] (stM m) [] fun y S'=>y = .tup []/\S'=stM (qM m s):=by
 refine Spec.kB (Spec.enter ar P17 100 Tryz.func17 rfl (by kernel_rfl) ?_)
 exact rS
theorem zT (m:MS):Spec gT 23 [.ptr 2 0] (stM m) [] fun y S'=>y=pf m.s/\S'=stM m:=by
 refine Spec.kB (Spec.enter ar P23 100 Tryz.func23 rfl (by kernel_rfl) ?_)
 exact rS
theorem Dx (m:MS):Spec gT 22 [.ptr 2 0] (stM m) [] fun y S'=>y=Z5 m.kind m.code/\S'=stM m:=by
 refine Spec.kB (Spec.enter ar P22 100 Tryz.func22 rfl (by kernel_rfl) ?_)
 exact rS
theorem vj (m:MS):Spec gT 21 [.ptr 2 0] (stM m) [] fun y S'=>y = .int .i64 m.iD/\S'=stM m:=by
 refine Spec.kB (Spec.enter ar P21 100 Tryz.func21 rfl (by kernel_rfl) ?_)
 exact rS
theorem NN (m:MS):Spec gT 29 [.ptr 2 0] (stM m) [] fun y S'=>y = .ptr 1 0/\S'=stM m:=by
 refine Spec.kB (Spec.enter ar P29 100 Tryz.func29 rfl (by kernel_rfl) ?_)
 exact rS
structure MD where
 fl:List Int
 L:List (Int × Int)
 wait:Int
 s:RS
 line:Int
 iD:Int
 kind:Int
 code:Int
def wP (p:Int × Int):PV:=.agg [.int .u32 p.1,.int .u32 p.2]
def Z6 (m:MD):List PV:=[.sl 1 (db m.fl),.sl 2 (m.L.map wP),.int .i64 m.wait,.int .u32 (m.s.R 0),.int .u32 (m.s.R 1),.int .u32 (m.s.R 2),.int .u32 (m.s.R 3),.int .u32 (m.s.R 4),.int .u32 (m.s.R 5),.int .u32 (m.s.R 6),.int .u32 (m.s.R 7),.int .u32 (m.s.R 8),.int .u32 (m.s.R 9),.int .u32 (m.s.R 10),.int .u32 (m.s.R 11),.int .u32 (m.s.R 12),.int .u32 (m.s.R 13),.int .u32 (m.s.R 14),.int .u32 (m.s.R 15),.int .u32 m.s.N,.int .u32 m.s.Z,.int .u32 m.s.C,.int .u32 m.s.V,.int .i64 m.line,.int .i64 m.iD,.int .i64 m.kind,.int .i64 m.code]
def Ki (m:MD):PV:=.agg (Z6 m)
def Ae (m:MD):au:=⟨.loc,52,1,.w,true,Z6 m⟩
def rs0:RS:=⟨fun _=>0,0,0,0,0⟩
def ow (fl:List Int) (wait:Int):MS:=⟨fun _=>0,fl,wait,rs0,False,0,0,0,0⟩
def Z7 (fl:List Int) (wait:Int):MD:=⟨fl,[],wait,rs0,-1,0,0,0⟩
def Jt:MD:=⟨[],[],0,rs0,0,0,0,0⟩
theorem mV:List.replicate 65536 (PV.int .u8 0)=fG fun _=>0:=by
 refine List.ext_getElem? fun k=>?_
 rw[zy,List.getElem?_replicate]
 split
 ·unfold lj gy; rw[Int.zero_ediv]; rfl
 ·rfl
theorem zU (fl:List Int) (hl:fl.length<=65536):ah gT 86 [.sl 1 (db fl)] (.sl 1 (db fl)):=by
 have el:(db fl).length=fl.length:=List.length_map ..
 have hm:0+(db fl).length<=maxLen:=by rw[el]; unfold maxLen; omega
 have hb:(0+(db fl).length)*1<=140737488355328:=by rw[el]; omega
 refine Spec.enter ar P86 100 Tryz.func86 rfl (by kernel_rfl) ?_
 by_cases h:fl = []
 ·subst h
  refine .inr (And.intro ?_ ?_)
  ·exact ao (show (db []) = [] from rfl)
  ·refine⟨hm,hb,?_⟩
   exact ao rfl
 ·refine .inl ⟨by rw[el]; exact fun e=>h (List.eq_nil_of_length_eq_zero e),?_⟩
  refine⟨hm,hb,?_⟩
  exact ao rfl
theorem Fw (fl:List Int) (wait:Int):ah gT 51 [.sl 1 (db fl),.int .i64 wait] (Ki (Z7 fl wait)):=by
 refine Spec.enter ar P51 100 Tryz.func51 rfl (by kernel_rfl) ?_
 exact rA
open Classical in
noncomputable def bF (l:List IN):List Int:=l.flatMap fun i=>if bQ i then kU i else []
theorem rE (a b:List Int):db (a++b)=db a++db b:=List.map_append ..
theorem qu {l:List IN} {k:Nat} {i:IN} (h:l[k]?=some i):bF (l.take (k+1))=bF (l.take k)++(open Classical in if bQ i then kU i else []):=by
 unfold bF
 rw[List.take_add_one,h,List.flatMap_append]; simp
theorem BG (i:IN):(kU i).length<=4:=by
 unfold kU
 split<;>simp
theorem fS:∀ (l:List IN),(bF l).length<=4*l.length
 | []=>by simp[bF]
 | i::l=>by
  have ih:=fS l
  unfold bF at ih ⊢
  rw[List.flatMap_cons,List.length_append,List.length_cons]
  have h1:=BG i
  split
  ·omega
  ·simp only[List.length_nil]; omega
theorem tz (l:List IN) (more:List Int) (wait:Int) (hl:l.length<=40) (hmo:more.length<=100) (hi:∀ i∈l,tR i) (hw:0<=wait/\wait<=7):Spec gT 16 [.sl 11 (lQ l),.sl 1 (db more),.int .i64 wait] [] [] fun r S'=>r = .tup [.ptr 2 0,Ki (Z7 (bF l++more) wait)]/\S'=stM (ow (bF l++more) wait)++[Ae (Z7 (bF l++more) wait)]:=by
 have el:(lQ l).length=l.length:=List.length_map ..
 refine Spec.kC ar P16 100 Tryz.func16 rfl (by kernel_rfl) ?_
 refine fun hm=>?_
 refine SW.nj ar P16 (by kernel_rfl) (α:={k:Nat // k<=l.length}) (fun k=>[(1,.sl 1 (db more)),(2,.int .i64 wait),(7,.ptr 0 0),(8,.wref 1),(17,.sl 11 (lQ l)),(18,.int .i64 (lQ l).length),(19,.int .i64 k.1)]) (fun k=>[Ae Jt,⟨.dyn,5,1,.w,true,db (bF (l.take k.1))⟩]) (fun k=>l.length - k.1) ⟨0,Nat.zero_le _⟩ 60 [some 0,none] ?_ ?_
 ·repeat' first|exact trivial|exact rfl|exact Iff.rfl|refine And.intro ?_ ?_
 rintro⟨k,hk⟩
 refine⟨fun h=>?_,fun h=>?_⟩
 ·have h':(k:Int) < ((lQ l).length:Nat):=h
  rw[el] at h'
  obtain⟨i,uC⟩:∃ i,l[k]?=some i:=⟨_,List.getElem?_eq_getElem (by omega)⟩
  have xp:=hi i (List.mem_of_getElem? uC)
  have hs:=qu uC
  have Pu:=fS (l.take k)
  rw[List.length_take] at Pu
  have Ju:(db (bF (l.take k))).length=(bF (l.take k)).length:=List.length_map ..
  refine⟨IN,l,bX,rfl,show (0:Int)<=(k:Int) by omega,show (k:Int) < (l.length:Int) by omega,fun j hj=>?_⟩
  obtain rfl:i=j:=Option.some.inj (uC.symm.trans hj)
  by_cases hr:bQ i
  ·rw[if_pos hr] at hs
   have ZT:=BG i
   have Z8:(db (kU i)).length=(kU i).length:=List.length_map ..
   refine (uX i hr xp).u ?_
   refine⟨fun _=>?_,fun h=>absurd rfl h⟩
   refine⟨show (db (bF (l.take k))).length+(db (kU i)).length<=maxLen by rw[Ju,Z8]; unfold maxLen; omega,show ((db (bF (l.take k))).length+(db (kU i)).length)*1<=140737488355328 by rw[Ju,Z8]; omega,?_⟩
   refine .inl ⟨ax (show _<=(k:Int)+1/\(k:Int)+1<=_ by omega),⟨⟨k+1,by omega⟩,[some 0,some 3],show l.length - (k+1) < l.length - k by omega,?_⟩⟩
   repeat' first|exact trivial|exact rfl|exact Iff.rfl|refine And.intro ?_ ?_
   all_goals exact (show db (bF (l.take k))++db (kU i)=db (bF (l.take (k+1))) by rw[hs,rE])
  ·rw[if_neg hr,List.append_nil] at hs
   refine (zt i hr xp).u ?_
   refine⟨fun h=>absurd h (show ¬ (10:Int)=0 by decide),fun _=>?_⟩
   refine .inl ⟨ax (show _<=(k:Int)+1/\(k:Int)+1<=_ by omega),⟨⟨k+1,by omega⟩,[some 0,some 1],show l.length - (k+1) < l.length - k by omega,?_⟩⟩
   repeat' first|exact trivial|exact rfl|exact Iff.rfl|refine And.intro ?_ ?_
   all_goals exact (show db (bF (l.take k))=db (bF (l.take (k+1))) by rw[hs])
 ·have h':¬ (k:Int) < ((lQ l).length:Nat):=h
  rw[el] at h'
  have cP:l.take k=l:=List.take_of_length_le (by omega)
  have Pu:=fS l
  have Ju:(db (bF l)).length=(bF l).length:=List.length_map ..
  have Z9:(db more).length=more.length:=List.length_map ..
  have eF:db (bF (l.take k))++db more=db (bF l++more):=by rw[cP,rE]
  have Pv:(bF l++more).length<=65536:=by rw[List.length_append]; omega
  refine⟨show (db (bF (l.take k))).length+(db more).length<=maxLen by rw[cP,Ju,Z9]; unfold maxLen; omega,show ((db (bF (l.take k))).length+(db more).length)*1<=140737488355328 by rw[cP,Ju,Z9]; omega,?_⟩
  rw[eF]
  generalize bF l++more=F at Pv ⊢
  have eFl:(db F).length=F.length:=List.length_map ..
  have hc:=zU F Pv
  refine⟨[],aT,Spec.kC ar P49 100 Tryz.func49 rfl (by kernel_rfl) ?_⟩
  refine fun xA=>?_
  refine⟨fun h=>absurd (show (65536:Int) < ((db F).length:Nat) from h) (by rw[eFl]; omega),fun _=>?_⟩
  refine⟨[],aT,hc.Ha [2] rfl (And.intro rfl trivial) rfl rfl ?_⟩
  refine mG ar ?_
  refine⟨65536,rfl,rfl,rfl,rfl,by decide,by decide,?_⟩
  rw[show List.replicate 65536 (PV.norm (.lit .u8 0))=fG fun _=>0 from mV]
  refine And.intro ?_ ?_
  ·refine Exists.intro [some 0,some 1,some 2,some 3,some 4] (Exists.intro [(2,.ptr 4 0),(3,.int .i64 0)] (Exists.intro [Ae Jt,⟨.dyn,5,1,.w,false,[]⟩,⟨.dyn,5,1,.r,true,db F⟩,uf fun _=>0,⟨.loc,150,1,.w,true,[.sl 1 (db F),.wref 3]⟩] (And.intro ?_ (And.intro (Nat.le_of_ble_eq_true rfl) ?_))))
   ·repeat' first|exact trivial|exact rfl|exact Iff.rfl|refine And.intro ?_ ?_
   refine⟨fun h=>absurd rfl h,fun _=>?_⟩
   refine⟨[],aT,Spec.kC ar P50 100 Tryz.func50 rfl (by kernel_rfl) ?_⟩
   refine⟨fun h=>absurd hw.1 (Int.not_le.2 h),fun _=>?_⟩
   refine⟨fun h=>absurd hw.2 (Int.not_le.2 h),fun _=>?_⟩
   refine Exists.intro [some 0,some 1,some 2,some 3,some 4,some 5] (Exists.intro [(4,.ptr 5 0),(5,.int .i64 0)] (Exists.intro [Ae Jt,⟨.dyn,5,1,.w,false,[]⟩,⟨.dyn,5,1,.r,true,db F⟩,uf fun _=>0,⟨.loc,150,1,.w,true,[.sl 1 (db F),.wref 3]⟩,⟨.loc,120,1,.w,true,.ptr 4 0::(Ix (ow F wait)).cs.tail⟩] (And.intro ?_ (And.intro (Nat.le_of_ble_eq_true rfl) ?_))))
   ·repeat' first|exact trivial|exact rfl|exact Iff.rfl|exact not_false|refine And.intro ?_ ?_
   refine⟨fun h=>absurd rfl h,fun _=>?_⟩
   refine⟨[],aT,(Fw F wait).Ha [2] rfl (And.intro rfl (And.intro rfl trivial)) rfl rfl ?_⟩
   refine Exists.intro [some 3,some 4,some 5,some 0] (Exists.intro [(6,.ptr 2 0),(7,.ptr 3 0)] (Exists.intro (stM (ow F wait)++[Ae (Z7 F wait)]) (And.intro ?_ (And.intro (Nat.le_of_ble_eq_true rfl) ?_))))
   ·repeat' first|exact trivial|exact rfl|exact Iff.rfl|exact not_false|refine And.intro ?_ ?_
   exact⟨rfl,rfl⟩
  ·refine And.intro ?_ ?_
   ·refine mG ar ?_
    refine⟨65536,rfl,rfl,rfl,rfl,by decide,by decide,?_⟩
    rw[show List.replicate 65536 (PV.norm (.lit .u8 0))=fG fun _=>0 from mV]
    refine⟨[],aT,hc.Ha [2] rfl (And.intro rfl trivial) rfl rfl ?_⟩
    exact rfl
   ·first|exact trivial|((conv=>whnf); exact trivial)
theorem Jv (l:List IN) (more:List Int) (wait:Int) (hl:l.length<=40) (hmo:more.length<=100) (hi:∀ i∈l,tR i) (hw:¬ (0<=wait/\wait<=7)):Spec gT 16 [.sl 11 (lQ l),.sl 1 (db more),.int .i64 wait] [] [] fun r S'=>r = .tup [.val (.pointer none),Ki Jt]/\S' = [Ae Jt]:=by
 have el:(lQ l).length=l.length:=List.length_map ..
 refine Spec.kC ar P16 100 Tryz.func16 rfl (by kernel_rfl) ?_
 refine fun hm=>?_
 refine SW.nj ar P16 (by kernel_rfl) (α:={k:Nat // k<=l.length}) (fun k=>[(1,.sl 1 (db more)),(2,.int .i64 wait),(7,.ptr 0 0),(8,.wref 1),(17,.sl 11 (lQ l)),(18,.int .i64 (lQ l).length),(19,.int .i64 k.1)]) (fun k=>[Ae Jt,⟨.dyn,5,1,.w,true,db (bF (l.take k.1))⟩]) (fun k=>l.length - k.1) ⟨0,Nat.zero_le _⟩ 60 [some 0,none] ?_ ?_
 ·repeat' first|exact trivial|exact rfl|exact Iff.rfl|refine And.intro ?_ ?_
 rintro⟨k,hk⟩
 refine⟨fun h=>?_,fun h=>?_⟩
 ·have h':(k:Int) < ((lQ l).length:Nat):=h
  rw[el] at h'
  obtain⟨i,uC⟩:∃ i,l[k]?=some i:=⟨_,List.getElem?_eq_getElem (by omega)⟩
  have xp:=hi i (List.mem_of_getElem? uC)
  have hs:=qu uC
  have Pu:=fS (l.take k)
  rw[List.length_take] at Pu
  have Ju:(db (bF (l.take k))).length=(bF (l.take k)).length:=List.length_map ..
  refine⟨IN,l,bX,rfl,show (0:Int)<=(k:Int) by omega,show (k:Int) < (l.length:Int) by omega,fun j hj=>?_⟩
  obtain rfl:i=j:=Option.some.inj (uC.symm.trans hj)
  by_cases hr:bQ i
  ·rw[if_pos hr] at hs
   have ZT:=BG i
   have Z8:(db (kU i)).length=(kU i).length:=List.length_map ..
   refine (uX i hr xp).u ?_
   refine⟨fun _=>?_,fun h=>absurd rfl h⟩
   refine⟨show (db (bF (l.take k))).length+(db (kU i)).length<=maxLen by rw[Ju,Z8]; unfold maxLen; omega,show ((db (bF (l.take k))).length+(db (kU i)).length)*1<=140737488355328 by rw[Ju,Z8]; omega,?_⟩
   refine .inl ⟨ax (show _<=(k:Int)+1/\(k:Int)+1<=_ by omega),⟨⟨k+1,by omega⟩,[some 0,some 3],show l.length - (k+1) < l.length - k by omega,?_⟩⟩
   repeat' first|exact trivial|exact rfl|exact Iff.rfl|refine And.intro ?_ ?_
   all_goals exact (show db (bF (l.take k))++db (kU i)=db (bF (l.take (k+1))) by rw[hs,rE])
  ·rw[if_neg hr,List.append_nil] at hs
   refine (zt i hr xp).u ?_
   refine⟨fun h=>absurd h (show ¬ (10:Int)=0 by decide),fun _=>?_⟩
   refine .inl ⟨ax (show _<=(k:Int)+1/\(k:Int)+1<=_ by omega),⟨⟨k+1,by omega⟩,[some 0,some 1],show l.length - (k+1) < l.length - k by omega,?_⟩⟩
   repeat' first|exact trivial|exact rfl|exact Iff.rfl|refine And.intro ?_ ?_
   all_goals exact (show db (bF (l.take k))=db (bF (l.take (k+1))) by rw[hs])
 ·have h':¬ (k:Int) < ((lQ l).length:Nat):=h
  rw[el] at h'
  have cP:l.take k=l:=List.take_of_length_le (by omega)
  have Pu:=fS l
  have Ju:(db (bF l)).length=(bF l).length:=List.length_map ..
  have Z9:(db more).length=more.length:=List.length_map ..
  have eF:db (bF (l.take k))++db more=db (bF l++more):=by rw[cP,rE]
  have Pv:(bF l++more).length<=65536:=by rw[List.length_append]; omega
  refine⟨show (db (bF (l.take k))).length+(db more).length<=maxLen by rw[cP,Ju,Z9]; unfold maxLen; omega,show ((db (bF (l.take k))).length+(db more).length)*1<=140737488355328 by rw[cP,Ju,Z9]; omega,?_⟩
  rw[eF]
  generalize bF l++more=F at Pv ⊢
  have eFl:(db F).length=F.length:=List.length_map ..
  have hc:=zU F Pv
  refine⟨[],aT,Spec.kC ar P49 100 Tryz.func49 rfl (by kernel_rfl) ?_⟩
  refine fun xA=>?_
  refine⟨fun h=>absurd (show (65536:Int) < ((db F).length:Nat) from h) (by rw[eFl]; omega),fun _=>?_⟩
  refine⟨[],aT,hc.Ha [2] rfl (And.intro rfl trivial) rfl rfl ?_⟩
  refine mG ar ?_
  refine⟨65536,rfl,rfl,rfl,rfl,by decide,by decide,?_⟩
  rw[show List.replicate 65536 (PV.norm (.lit .u8 0))=fG fun _=>0 from mV]
  refine And.intro ?_ ?_
  ·refine Exists.intro [some 0,some 1,some 2,some 3,some 4] (Exists.intro [(2,.ptr 4 0),(3,.int .i64 0)] (Exists.intro [Ae Jt,⟨.dyn,5,1,.w,false,[]⟩,⟨.dyn,5,1,.r,true,db F⟩,uf fun _=>0,⟨.loc,150,1,.w,true,[.sl 1 (db F),.wref 3]⟩] (And.intro ?_ (And.intro (Nat.le_of_ble_eq_true rfl) ?_))))
   ·repeat' first|exact trivial|exact rfl|exact Iff.rfl|refine And.intro ?_ ?_
   refine⟨fun h=>absurd rfl h,fun _=>?_⟩
   refine⟨[],aT,Spec.kC ar P50 100 Tryz.func50 rfl (by kernel_rfl) ?_⟩
   refine⟨fun _=>?_,fun h0=>?_⟩
   ·refine Exists.intro [some 0,some 1,some 2,some 3,some 4] (Exists.intro [(4,.val (.pointer none)),(5,.int .i64 11)] (Exists.intro [Ae Jt,⟨.dyn,5,1,.w,false,[]⟩,⟨.dyn,5,1,.r,true,db F⟩,uf fun _=>0,⟨.loc,150,1,.w,true,[.sl 1 (db F),.wref 3]⟩] (And.intro ?_ (And.intro (Nat.le_of_ble_eq_true rfl) ?_))))
    ·repeat' first|exact trivial|exact rfl|exact Iff.rfl|exact not_false|refine And.intro ?_ ?_
    refine⟨fun _=>?_,fun h=>absurd (show ¬ (11:Int)=0 by decide) h⟩
    refine Exists.intro [some 0] (Exists.intro [(6,.val (.pointer none)),(7,.ptr 0 0)] (Exists.intro [Ae Jt] (And.intro ?_ (And.intro (Nat.le_of_ble_eq_true rfl) ?_))))
    ·repeat' first|exact trivial|exact rfl|exact Iff.rfl|exact not_false|refine And.intro ?_ ?_
    exact⟨rfl,rfl⟩
   ·have h7:7 < wait:=by have:¬ wait < 0:=h0; omega
    refine⟨fun _=>?_,fun h=>absurd h7 h⟩
    refine Exists.intro [some 0,some 1,some 2,some 3,some 4] (Exists.intro [(4,.val (.pointer none)),(5,.int .i64 11)] (Exists.intro [Ae Jt,⟨.dyn,5,1,.w,false,[]⟩,⟨.dyn,5,1,.r,true,db F⟩,uf fun _=>0,⟨.loc,150,1,.w,true,[.sl 1 (db F),.wref 3]⟩] (And.intro ?_ (And.intro (Nat.le_of_ble_eq_true rfl) ?_))))
    ·repeat' first|exact trivial|exact rfl|exact Iff.rfl|exact not_false|refine And.intro ?_ ?_
    refine⟨fun _=>?_,fun h=>absurd (show ¬ (11:Int)=0 by decide) h⟩
    refine Exists.intro [some 0] (Exists.intro [(6,.val (.pointer none)),(7,.ptr 0 0)] (Exists.intro [Ae Jt] (And.intro ?_ (And.intro (Nat.le_of_ble_eq_true rfl) ?_))))
    ·repeat' first|exact trivial|exact rfl|exact Iff.rfl|exact not_false|refine And.intro ?_ ?_
    exact⟨rfl,rfl⟩
  ·refine And.intro ?_ ?_
   ·refine mG ar ?_
    refine⟨65536,rfl,rfl,rfl,rfl,by decide,by decide,?_⟩
    rw[show List.replicate 65536 (PV.norm (.lit .u8 0))=fG fun _=>0 from mV]
    refine⟨[],aT,hc.Ha [2] rfl (And.intro rfl trivial) rfl rfl ?_⟩
    exact rfl
   ·first|exact trivial|((conv=>whnf); exact trivial)
theorem Fx (p b q:List Int) (k:Nat) (h:k < b.length):(p++b++q).getD (p.length+k) 0=b.getD k 0:=by
 rw[List.getD_eq_getElem?_getD,List.getD_eq_getElem?_getD,List.append_assoc,List.getElem?_append_right (by omega),Nat.add_sub_cancel_left,List.getElem?_append_left h]
theorem tA (i:IN):w9 (kU i):=by
 intro z hz
 unfold kU at hz
 split at hz<;>simp only[List.mem_append,List.mem_cons,List.not_mem_nil,or_false,false_or] at hz<;>omega
theorem NO (p q:List Int) (i:IN) (h:bQ i) (hg:i.an<=9223372036854775807):ZJ (p++kU i++q) p.length=i/\ZK (p++kU i++q) p.length=0:=by
 have fst:=MN i h hg
 have bk:=back i h hg
 have wb:=MQ i
 have tw:=Iu i h
 have tn:=Bq i h
 have f1:=h.1
 unfold aP at wb
 have g:=Fx p (kU i) q
 have el0:(p++kU i++q).length=p.length+(kU i).length+q.length:=by rw[List.length_append,List.length_append]
 generalize gw:kU i=b at g el0 ⊢
 by_cases Ac:48<=i.form
 ·have eb:b = [bs i / 65536 % 256,bs i / 16777216 % 256,bs i % 256,bs i / 256 % 256]:=by rw[← gw]; unfold kU; rw[if_pos Ac]; rfl
  subst eb
  have el:(p++[bs i / 65536 % 256,bs i / 16777216 % 256,bs i % 256,bs i / 256 % 256]++q).length=p.length+4+q.length:=el0
  generalize p++[bs i / 65536 % 256,bs i / 16777216 % 256,bs i % 256,bs i / 256 % 256]++q=l at g el ⊢
  have g0:=g 0 (by simp)
  have g1:=g 1 (by simp)
  have g2:=g 2 (by simp)
  have g3:=g 3 (by simp)
  have k0:hN l p.length=bs i / 65536:=by
   unfold hN
   rw[Nat.add_zero] at g0
   rw[g0,g1]
   show bs i / 65536 % 256+bs i / 16777216 % 256*256=_
   omega
  have k2:hN l (p.length+2)=bs i % 65536:=by
   unfold hN
   rw[g2,g3]
   show bs i % 256+bs i / 256 % 256*256=_
   omega
  have kW:hW l p.length=bs i:=by unfold hW; rw[k0,k2]; omega
  have hb:¬ ¬ cL (hN l p.length):=by
   have:=tw Ac
   rw[k0]; unfold cL; omega
  have e:(48<=i.form)=True:=eq_true Ac
  rw[e] at fst
  unfold ZJ ZK
  rw[if_neg (by omega),if_neg hb,if_neg (by omega),if_neg (by omega),if_neg hb,if_neg (by omega),kW,nN fst,pJ fst,bk]
  exact⟨rfl,rfl⟩
 ·have eb:b = [bs i % 256,bs i / 256 % 256]:=by rw[← gw]; unfold kU; rw[if_neg Ac]; rfl
  subst eb
  have el:(p++[bs i % 256,bs i / 256 % 256]++q).length=p.length+2+q.length:=el0
  generalize p++[bs i % 256,bs i / 256 % 256]++q=l at g el ⊢
  have tn':=tn Ac
  have g0:=g 0 (by simp)
  have g1:=g 1 (by simp)
  have k0:hN l p.length=bs i:=by
   unfold hN
   rw[Nat.add_zero] at g0
   rw[g0,g1]
   show bs i % 256+bs i / 256 % 256*256=_
   omega
  have hb:¬ cL (hN l p.length):=by rw[k0]; unfold cL; omega
  have e:(48<=i.form)=False:=eq_false Ac
  rw[e] at fst
  unfold ZJ ZK
  rw[if_neg (by omega),if_pos hb,if_neg (by omega),if_pos hb,k0,nN fst,pJ fst,bk]
  exact⟨rfl,rfl⟩
theorem VC {fl:List Int} {n:Nat} (hn:n % 2=0) (hl:fl.length<=65536) (h:ZK fl n=0):fp fl (134217728+(n:Int))=0/\cE fl (134217728+(n:Int))=ZJ fl n:=by
 have e0:cu (134217728+(n:Int))=n:=by unfold cu; omega
 have h2:¬ (134217728+(n:Int)) % 2≠0:=by omega
 unfold ZK at h
 split at h
 ·cases h
 ·rename_i h1
  have f1:iF fl (134217728+(n:Int)) 2:=⟨by omega,by omega⟩
  have k1:jr fl (134217728+(n:Int))=0:=by unfold jr; rw[if_neg h2,if_pos f1]
  have k2:fx fl (134217728+(n:Int))=hN fl n:=by unfold fx; rw[if_neg h2,if_pos f1,e0]
  unfold fp cE ZJ
  rw[k1,k2,if_neg (show ¬ (0:Int)≠0 by decide),if_neg (show ¬ (0:Int)≠0 by decide),if_neg h1]
  split at h
  ·rename_i hb
   rw[if_pos hb,if_pos hb,if_pos hb]
   exact⟨h,rfl⟩
  ·rename_i hb
   rw[if_neg hb,if_neg hb,if_neg hb]
   split at h
   ·cases h
   ·rename_i h4
    have ew:IntKind.u32.wrap (134217728+(n:Int)+2)=134217728+((n+2:Nat):Int):=by rw[IntKind.wrap_u32']; omega
    have e1:cu (134217728+((n+2:Nat):Int))=n+2:=by unfold cu; omega
    have h3:¬ (134217728+((n+2:Nat):Int)) % 2≠0:=by omega
    have f2:iF fl (134217728+((n+2:Nat):Int)) 2:=⟨by omega,by omega⟩
    have k3:jr fl (134217728+((n+2:Nat):Int))=0:=by unfold jr; rw[if_neg h3,if_pos f2]
    have k4:fx fl (134217728+((n+2:Nat):Int))=hN fl (n+2):=by unfold fx; rw[if_neg h3,if_pos f2,e1]
    have kh:gF fl (134217728+(n:Int))=hW fl n:=by unfold gF; rw[k2,ew,k4]; rfl
    rw[ew,k3,if_neg (show ¬ (0:Int)≠0 by decide),if_neg (show ¬ (0:Int)≠0 by decide),if_neg h4,kh]
    exact⟨h,rfl⟩
theorem Dy (p q:List Int) (i:IN) (h:bQ i) (hi:tR i) (hp:p.length % 2=0) (hl:(p++kU i++q).length<=65536):fp (p++kU i++q) (134217728+(p.length:Int))=0/\cE (p++kU i++q) (134217728+(p.length:Int))=i:=by
 have hI:=hi i.an (by simp[lW])
 obtain⟨h1,h2⟩:=NO p q i h hI.2
 obtain⟨h3,h4⟩:=VC hp hl h2
 exact⟨h3,h4.trans h1⟩
theorem NP {w:Nat->Int} (h:∀ k,aP (w k)) (j:Nat) {x:Int} (hx:aP x):∀ k,aP (tk w j x k):=fun k=>by
 unfold tk; split
 ·exact hx
 ·exact h k
theorem BH {w:Nat->Int} (h:∀ k,aP (w k)) (a:Int) {x:Int} (hx:aP x):∀ k,aP (xb w a x k):=by
 unfold xb; split
 ·exact NP h _ hx
 ·exact h
theorem Dz {x:XS} (hx:iX x) {w:Nat->Int} (h:∀ k,aP (w k)) (a:Int):∀ r k,aP ((aY x w a r).1 k)
 | 0,k=>h k
 | r+1,k=>by
  have ih:=Dz hx h a r
  rw[aY]
  split
  ·exact ih k
  ·split
   ·exact ih k
   ·split
    ·exact ih k
    ·exact BH ih _ (aX hx _) k
theorem VD {m:MS} (hm:BA m) {x:XS} (hx:iX x):∀ k,aP (zO m x k):=by
 unfold zO
 split
 ·unfold lp
  split
  ·exact BH hm.w _ (aX hx _)
  ·exact hm.w
 ·split
  ·exact Dz hx hm.w _ 15
  ·exact hm.w
open Classical in
theorem xq {m:MS} (hm:m8 m) (hc:m.iD<=999999999999900):m8 (cX m)/\m.iD<=(cX m).iD/\(cX m).iD<=m.iD+34/\(j' m=0->m.iD < (cX m).iD)/\(cX m).wait=m.wait/\(cX m).fl=m.fl:=by
 unfold cX
 split
 ·rename_i hk
  exact⟨hm,Int.le_refl _,by omega,fun h=>absurd h (by unfold j'; rw[if_pos hk]; decide),rfl,rfl⟩
 rename_i hk
 split
 ·rename_i hf
  exact⟨⟨⟨hm.mem.w,hm.mem.fl,hm.mem.len⟩,hm.s,hm.wait,hm.iD⟩,Int.le_refl _,by show m.iD<=_; omega,fun h=>absurd h (by unfold j'; rw[if_neg hk,if_pos hf]; decide),rfl,rfl⟩
 rename_i hf
 obtain⟨hr,xp⟩:=j9 (Classical.not_not.1 hf)
 have hx:=j7 hm.s hr xp
 have hy:=Js hm.mem (o6 hm.s (cE m.fl (m.s.R 15))) hx
 have hw:=VD hm.mem hx
 split
 ·rename_i hd
  exact⟨⟨⟨hw,hm.mem.fl,hm.mem.len⟩,hm.s,hm.wait,hm.iD⟩,Int.le_refl _,by show m.iD<=_; omega,fun h=>absurd h (by unfold j'; rw[if_neg hk,if_neg hf,if_pos hd]; decide),rfl,rfl⟩
 ·have F3:=ju hr xp
  have hb:1<=cz m/\cz m<=20:=by unfold cz; exact xn _ _ hy.a hy.b F3.1 F3.2
  have Z4:0<=cq m/\cq m<=2:=by unfold cq; exact xo _ _ _ _
  have hmw:=BE Z4 hm.wait
  have hcy:=hm.iD
  have e:(qt m).iD=m.iD+(cz m+cq m*m.wait):=rfl
  exact⟨⟨⟨hw,hm.mem.fl,hm.mem.len⟩,hy.s,hm.wait,by show 0<=(qt m).iD/\(qt m).iD<=_; rw[e]; omega⟩,by rw[e]; omega,by rw[e]; omega,fun _=>by rw[e]; omega,rfl,rfl⟩
theorem VE:qL rs0:=⟨fun _=>o5,⟨Int.le_refl _,Int.zero_le_ofNat 1⟩,⟨Int.le_refl _,Int.zero_le_ofNat 1⟩,⟨Int.le_refl _,Int.zero_le_ofNat 1⟩,⟨Int.le_refl _,Int.zero_le_ofNat 1⟩⟩
theorem vk {s:RS} (h:∀ k,aP (s.R k)) (hn:0<=s.N) (hz:0<=s.Z) (hc:0<=s.C) (hv:0<=s.V):qL (tx s):=⟨h,by show 0<=min s.N 1/\min s.N 1<=1; omega,by show 0<=min s.Z 1/\min s.Z 1<=1; omega,by show 0<=min s.C 1/\min s.C 1<=1; omega,by show 0<=min s.V 1/\min s.V 1<=1; omega⟩
theorem BI {fl:List Int} {wait:Int} (hb:w9 fl) (hl:fl.length<=65536) (hw:0<=wait/\wait<=7):m8 (ow fl wait):=⟨⟨fun _=>o5,hb,hl⟩,VE,hw,by show 0<=(0:Int)/\(0:Int)<=_; decide⟩
theorem xr {m:MS} (hm:m8 m) {s:RS} (h:qL (tx s)):m8 (qM m s):=⟨⟨hm.mem.w,hm.mem.fl,hm.mem.len⟩,h,hm.wait,hm.iD⟩
def ui (x:XS) (fl:List Int) (L:List (Int × Int)):List PV:=[.int .i64 x.i.form,.int .i64 x.i.rd,.int .i64 x.i.rn,.int .i64 x.i.rm,.int .i64 x.i.ra,.int .i64 x.i.av,.int .i64 x.i.kind,.int .i64 x.i.bG,.int .i64 x.i.set,.int .i64 x.i.cond,.int .i64 x.i.an,.int .i64 (ae x.i.form),.int .u32 x.at_,.int .u32 (x.s.R 0),.int .u32 (x.s.R 1),.int .u32 (x.s.R 2),.int .u32 (x.s.R 3),.int .u32 (x.s.R 4),.int .u32 (x.s.R 5),.int .u32 (x.s.R 6),.int .u32 (x.s.R 7),.int .u32 (x.s.R 8),.int .u32 (x.s.R 9),.int .u32 (x.s.R 10),.int .u32 (x.s.R 11),.int .u32 (x.s.R 12),.int .u32 (x.s.R 13),.int .u32 (x.s.R 14),.int .u32 (x.s.R 15),.int .u32 x.s.N,.int .u32 x.s.Z,.int .u32 x.s.C,.int .u32 x.s.V,.sl 1 (db fl),.sl 2 (L.map wP),.bool x.taken,.int .u32 x.a,.int .u32 x.b,.int .u32 x.data,.int .i64 x.words,.int .i64 x.kind,.int .i64 x.code]
def mW (x:XS) (fl:List Int) (L:List (Int × Int)):PV:=.agg (ui x fl L)
theorem Jw (x:XS) (fl:List Int) (L:List (Int × Int)):∀ k:Nat,k < 16->(ui x fl L)[13+k*1]?=some (.int .u32 (x.s.R k))
 | 0,_=>rfl
 | 1,_=>rfl
 | 2,_=>rfl
 | 3,_=>rfl
 | 4,_=>rfl
 | 5,_=>rfl
 | 6,_=>rfl
 | 7,_=>rfl
 | 8,_=>rfl
 | 9,_=>rfl
 | 10,_=>rfl
 | 11,_=>rfl
 | 12,_=>rfl
 | 13,_=>rfl
 | 14,_=>rfl
 | 15,_=>rfl
 | k+16,h=>absurd h (by omega)
theorem aQ {l:List PV} (h:l.all w_=true):ki (.agg l) (.agg l):=fH h
theorem me {l:List PV} {a:PV} (h:l.all w_=true) (h1:w_ a=true):ki (.tup [.agg l,a]) (.tup [.agg l,a]):=⟨fH h,(by cases a<;>first|(cases h1; done)|exact zu h1),trivial⟩
theorem iI (x:XS) (fl:List Int) (L:List (Int × Int)) (r:Int) (h0:0<=r) (h1:r<=15):ah gT 158 [mW x fl L,.int .i64 r] (.int .u32 (al x r)):=by
 refine Spec.enter ar P158 100 Tryz.func158 rfl (by kernel_rfl) ?_
 refine⟨fun h=>?_,fun h=>?_⟩
 ·have h':r=15:=h
  have e0:al x r=IntKind.u32.wrap (x.at_+4):=by unfold al; rw[if_pos h']
  rw[e0]
  refine .inr ?_
  exact rA
 ·have h':¬ r=15:=h
  have e0:al x r=x.s.R r.toNat:=by unfold al; rw[if_neg h']
  rw[e0]
  refine⟨h0,show r < 16 by omega,?_⟩
  refine .inr ⟨rfl,h0,show 13+r.toNat*1 < 42 by omega,fun c hc=>?_⟩
  obtain rfl:=Option.some.inj (hc.symm.trans (Jw x fl L r.toNat (by omega)))
  exact rA
theorem F4 (x:XS) (fl:List Int) (L:List (Int × Int)) (v:Int) (hv:aP v):ah gT 163 [mW x fl L,.int .u32 v] (mW (lg x v) fl L):=by
 refine Spec.enter ar P163 100 Tryz.func163 rfl (by kernel_rfl) ?_
 refine⟨by decide,.inl ⟨hv.1,show v<=4294967295 by have:=hv.2; omega,by decide,?_⟩⟩
 refine⟨fun h=>?_,fun h=>?_⟩
 ·have e:lg x v = { x with s:={ x.s with N:=v / 2147483648,Z:=1 } }:=by unfold lg; rw[if_pos (show v=0 from h)]
  rw[e]
  exact rA
 ·have e:lg x v = { x with s:={ x.s with N:=v / 2147483648,Z:=0 } }:=by unfold lg; rw[if_neg (show ¬ v=0 from h)]
  rw[e]
  exact rA
theorem Jx (x:XS) (fl:List Int) (L:List (Int × Int)):ah gT 162 [mW x fl L] (.bool (bY x)):=by
 have key:bY x↔((ae x.i.form=18\/ae x.i.form=19\/ae x.i.form=21\/ae x.i.form=22\/ae x.i.form=27)->x.i.set=1):=Iff.rfl
 refine Spec.enter ar P162 100 Tryz.func162 rfl (by kernel_rfl) ?_
 unfold mW ui
 generalize ae x.i.form=sh at key ⊢
 refine⟨fun h=>?_,fun Ng=>?_⟩
 ·have h':sh=18:=h
  exact ao (show x.i.set=1↔bY x by rw[key]; simp[h'])
 have h18':¬ sh=18:=Ng
 refine⟨fun h=>?_,fun h19=>?_⟩
 ·have h':sh=19:=h
  exact ao (show x.i.set=1↔bY x by rw[key]; simp[h'])
 have h19':¬ sh=19:=h19
 refine⟨fun h=>?_,fun h21=>?_⟩
 ·have h':sh=21:=h
  exact ao (show x.i.set=1↔bY x by rw[key]; simp[h'])
 have h21':¬ sh=21:=h21
 refine⟨fun h=>?_,fun h22=>?_⟩
 ·have h':sh=22:=h
  exact ao (show x.i.set=1↔bY x by rw[key]; simp[h'])
 have h22':¬ sh=22:=h22
 refine⟨fun h=>?_,fun h27=>?_⟩
 ·have h':sh=27:=h
  exact ao (show x.i.set=1↔bY x by rw[key]; simp[h'])
 have h27':¬ sh=27:=h27
 exact ao (dW (key.2 fun h=>absurd h (by omega)))
theorem Fy (x:XS) (fl:List Int) (L:List (Int × Int)) (v w c:Int) (hv:aP v) (hw:aP w) (hc:0<=c):ah gT 194 [mW x fl L,.int .u32 v,.int .u32 w,.int .u32 c] (.tup [mW (if bY x then l7 (lg x (Rm.eD v w c)) (Rm.iB v w c) (Rm.jT v w c) else x) fl L,.int .u32 (Rm.eD v w c)]):=by
 have k1:=E8 v w c hv hw hc
 have k2:=Jx x fl L
 have k3:=F4 x fl L (Rm.eD v w c) (Rm.q_ _ _ _)
 refine Spec.enter ar P194 100 Tryz.func194 rfl (by kernel_rfl) ?_
 refine k1.u ?_
 refine k2.u ?_
 refine⟨fun h=>?_,fun h=>?_⟩
 ·rw[if_pos (show bY x from h)]
  refine k3.u ?_
  exact ao (me rfl rfl)
 ·rw[if_neg (show ¬ bY x from h)]
  exact ao (me rfl rfl)
theorem xu (x:XS) (fl:List Int) (L:List (Int × Int)) (k v n:Int) (xC:0<=k) (D9:k<=3) (iP:0<=n) (lx:n<=255) (hv:aP v) (hc:0<=x.s.C) (hd:0<=x.i.rd/\x.i.rd<=15):ah gT 164 [mW x fl L,.int .i64 k,.int .u32 v,.int .i64 n] (mW (fj x k v n) fl L):=by
 have k1:=oX k v n x.s.C xC D9 iP lx hv hc
 have k2:=Jx x fl L
 have k3:=F4 x fl L (C8 k v n) (Bu _ _ _ hv)
 have e:fj x k v n=cg (if bY x then hU (lg x (C8 k v n)) (E' k v n x.s.C) else x) x.i.rd (C8 k v n):=by unfold fj bK; rw[if_pos hd.1]
 rw[e]
 refine Spec.enter ar P164 100 Tryz.func164 rfl (by kernel_rfl) ?_
 refine k1.u ?_
 refine k2.u ?_
 refine⟨fun h=>?_,fun h=>?_⟩
 ·rw[if_pos (show bY x from h)]
  refine k3.u ?_
  refine⟨hd.1,show x.i.rd < 16 by omega,?_⟩
  refine⟨16,hd.1,show x.i.rd < 16 by omega,show 13+x.i.rd.toNat*1 < 42 by omega,?_⟩
  exact ao (aQ rfl)
 ·rw[if_neg (show ¬ bY x from h)]
  refine⟨hd.1,show x.i.rd < 16 by omega,?_⟩
  refine⟨16,hd.1,show x.i.rd < 16 by omega,show 13+x.i.rd.toNat*1 < 42 by omega,?_⟩
  exact ao (aQ rfl)
theorem NQ (n:Nat):n ||| 1=2*(n / 2)+1:=by
 refine Nat.eq_of_testBit_eq fun i=>?_
 cases i with
 | zero=>rw[Nat.testBit_or,Nat.testBit_zero,Nat.testBit_zero,Nat.testBit_zero]; simp
 | succ i =>
  rw[Nat.testBit_or,Nat.testBit_succ,Nat.testBit_succ,Nat.testBit_succ,show (2*(n / 2)+1) / 2=n / 2 by omega]
  simp
theorem tB (n k:Nat) (hk:k<=32) (h:n < 4294967296):n &&& (4294967296 - 2 ^ k)=n / 2 ^ k*2 ^ k:=by
 have e1:(4294967296:Nat) - 2 ^ k=(2 ^ (32 - k) - 1)*2 ^ k:=by
  rw[Nat.sub_mul,← Nat.pow_add,show 32 - k+k=32 by omega,Nat.one_mul]
 rw[e1]
 refine Nat.eq_of_testBit_eq fun i=>?_
 rw[Nat.testBit_and,Nat.testBit_mul_two_pow,Nat.testBit_mul_two_pow,Nat.testBit_two_pow_sub_one,Nat.testBit_div_two_pow]
 by_cases hi:k<=i
 ·rw[show i - k+k=i by omega]
  by_cases h2:i < 32
  ·simp[hi,show i - k < 32 - k by omega]
  ·have:n.testBit i=false:=Nat.testBit_lt_two_pow (Nat.lt_of_lt_of_le h (by rw[show (4294967296:Nat)=2 ^ 32 by decide]; exact Nat.pow_le_pow_right (by decide) (by omega)))
   simp[this]
 ·simp[hi]
theorem VF {v:Int} (h:aP v):bits .andNot .u32 v 1=v / 2*2:=by
 obtain⟨h0,h1⟩:=h
 rw[u32_andNot v 1 h0 (by omega) (by decide) (by decide),show 4294967295 - (1:Int).toNat=4294967296 - 2 ^ 1 by decide,tB _ 1 (by decide) (by omega)]
 omega
theorem BJ {v:Int} (h:aP v):bits .andNot .u32 v 3=v / 4*4:=by
 obtain⟨h0,h1⟩:=h
 rw[u32_andNot v 3 h0 (by omega) (by decide) (by decide),show 4294967295 - (3:Int).toNat=4294967296 - 2 ^ 2 by decide,tB _ 2 (by decide) (by omega)]
 omega
theorem DA {v:Int} (h:aP v):bits .or .u32 v 1=4294967295↔(v=4294967294\/v=4294967295):=by
 obtain⟨h0,h1⟩:=h
 rw[u32_or v 1 h0 (by omega) (by decide) (by decide),show (1:Int).toNat=1 by decide,NQ]
 omega
theorem Px (x:XS) (fl:List Int) (L:List (Int × Int)) (v:Int) (hv:aP v) (hc:x.code=0):ah gT 159 [mW x fl L,.int .u32 v] (mW (fo x v) fl L):=by
 have e1:∀ h:v=4294967294\/v=4294967295,fo x v = { x with kind:=1 }:=fun h=>by
  unfold fo; rw[if_pos ((DA hv).2 h),← hc]
 have e2:∀ h:¬ (v=4294967294\/v=4294967295),fo x v=cg x 15 (v / 2*2):=fun h=>by
  unfold fo; rw[if_neg (fun h2=>h ((DA hv).1 h2)),VF hv]
 refine Spec.enter ar P159 100 Tryz.func159 rfl (by kernel_rfl) ?_
 refine⟨fun h=>?_,fun h=>?_⟩
 ·rw[e1 (.inl h)]
  exact rA
 refine⟨fun h2=>?_,fun h2=>?_⟩
 ·rw[e1 (.inr h2)]
  exact rA
 rw[e2 (fun h3=>h3.elim h h2)]
 refine⟨by decide,.inl ⟨hv.1,show v<=4294967295 by have:=hv.2; omega,by decide,?_⟩⟩
 refine lu ?_ (show 0<=v / 2*2/\v / 2*2<=4294967295 by have:=hv.2; have:=hv.1; omega)
 exact rA
structure DOk (x:XS):Prop where
 ok:iX x
 im:ae x.i.form=18\/ae x.i.form=19\/ae x.i.form=20->0<=x.i.av/\x.i.av<=4095/\Rm.eG x.i.av=0
 code:x.code=0
 taken:¬ x.taken
theorem NR (x:XS) (fl:List Int) (L:List (Int × Int)) (h:DOk x) (Wm:ae x.i.form≠24):ah gT 160 [mW x fl L] (.tup [.int .u32 (aU x),.int .u32 (cB x)]):=by
 have kg:=iI x fl L x.i.rm h.ok.rm.1 h.ok.rm.2
 have him:=h.im
 have Z':=h.ok.bar
 have hb:=aX h.ok x.i.rm
 have hc:=h.ok.c
 have eW:aU x=if ae x.i.form=3\/ae x.i.form=4\/ae x.i.form=24 then IntKind.u32.wrap x.i.av
  else if ae x.i.form=18\/ae x.i.form=19\/ae x.i.form=20 then Rm.e_ x.i.av
  else if ae x.i.form=21\/ae x.i.form=22\/ae x.i.form=23 then C8 x.i.kind (al x x.i.rm) x.i.bG
  else al x x.i.rm:=rfl
 have eC:cB x=if ae x.i.form=3\/ae x.i.form=4\/ae x.i.form=24 then x.s.C
  else if ae x.i.form=18\/ae x.i.form=19\/ae x.i.form=20 then Rm.gq x.i.av x.s.C
  else if ae x.i.form=21\/ae x.i.form=22\/ae x.i.form=23 then E' x.i.kind (al x x.i.rm) x.i.bG x.s.C
  else x.s.C:=rfl
 refine Spec.enter ar P160 100 Tryz.func160 rfl (by kernel_rfl) ?_
 unfold mW ui at kg ⊢
 generalize ae x.i.form=sh at him Z' Wm eW eC kg ⊢
 refine⟨fun h3=>?_,fun h3=>?_⟩
 ·have h3':sh=3:=h3
  rw[if_pos (by omega)] at eW eC
  rw[eW,eC]
  refine .inr ?_
  exact rA
 have h3':¬ sh=3:=h3
 refine⟨fun h4=>?_,fun h4=>?_⟩
 ·have XU:sh=4:=h4
  rw[if_pos (by omega)] at eW eC
  rw[eW,eC]
  refine .inr ?_
  exact rA
 have XU:¬ sh=4:=h4
 rw[if_neg (by omega)] at eW eC
 have kw:=fun h:0<=x.i.av/\x.i.av<=4095=>sW x.i.av h.1 h.2
 refine⟨fun Ng=>?_,fun Ng=>?_⟩
 ·refine⟨fun Wn=>?_,fun Wn=>?_⟩
  ·have hh:18<=sh:=Ng
   have hh2:sh<=20:=Wn
   obtain⟨i0,i1,i2⟩:=him (by omega)
   rw[if_pos (by omega)] at eW eC
   unfold Rm.gq at eC
   rw[if_pos i2] at eC
   refine (kw ⟨i0,i1⟩).u ?_
   refine⟨fun hi=>?_,fun hi=>?_⟩
   ·rw[if_pos (show x.i.av < 1024 from hi),Int.min_eq_left hc.2] at eC
    rw[eW,eC]
    exact rA
   ·rw[if_neg (show ¬ x.i.av < 1024 from hi)] at eC
    rw[eW,eC]
    have hwd:=Rm.oK x.i.av
    refine⟨by decide,.inl ⟨hwd.1,show Rm.e_ x.i.av<=4294967295 by have:=hwd.2; omega,by decide,?_⟩⟩
    exact rA
  ·have hh:18<=sh:=Ng
   have hh2:¬ sh<=20:=Wn
   rw[if_neg (by omega)] at eW eC
   refine⟨fun _=>?_,fun h=>absurd (show 21<=sh by omega) h⟩
   refine⟨fun Wl=>?_,fun Wl=>?_⟩
   ·have hh3:sh<=23:=Wl
    obtain⟨b0,b1,b2,b3⟩:=Z' (by omega)
    rw[if_pos (by omega)] at eW eC
    rw[eW,eC]
    refine kg.u ?_
    refine (oX x.i.kind (al x x.i.rm) x.i.bG x.s.C b0 b1 b2 b3 hb hc.1).u ?_
    exact rA
   ·have hh3:¬ sh<=23:=Wl
    rw[if_neg (by omega)] at eW eC
    rw[eW,eC]
    refine kg.u ?_
    exact rA
 ·have hh:¬ 18<=sh:=Ng
  rw[if_neg (by omega),if_neg (by omega)] at eW eC
  rw[eW,eC]
  refine⟨fun h=>absurd (show 21<=sh from h) (by omega),fun _=>?_⟩
  refine kg.u ?_
  exact rA
theorem Jy (x:XS) (fl:List Int) (L:List (Int × Int)) (hx:iX x):ah gT 107 [mW x fl L] (.tup [.int .u32 (fI x),.bool (aO x.i.form≠0)]):=by
 have g15:=iI x fl L 15 (by decide) (by decide)
 have Wq:=iI x fl L 13 (by decide) (by decide)
 have gn:=iI x fl L x.i.rn hx.rn.1 hx.rn.2
 have gm:=iI x fl L x.i.rm hx.rm.1 hx.rm.2
 have Iz:=aX hx 15
 have idx:=hx.idx
 refine Spec.enter ar P107 100 Tryz.func107 rfl (by kernel_rfl) ?_
 refine .inr ?_
 refine⟨fun Eg=>?_,fun Eg=>?_⟩
 ·have h':x.i.form=32:=Eg
  have hc:aO x.i.form=1:=by rw[h']; rfl
  rw[Jc hc]
  rw[BJ Iz]
  refine (g15).u ?_
  refine⟨by decide,.inl ⟨Iz.1,show al x 15<=4294967295 by have:=Iz.2; omega,by decide,?_⟩⟩
  refine lu ?_ (show 0<=al x 15 / 4*4/\al x 15 / 4*4<=4294967295 by have:=Iz.1; have:=Iz.2; omega)
  refine .inr ?_
  exact ao (And.intro rfl (And.intro (show aO x.i.form≠0 by omega) trivial))
 have h32':¬ x.i.form=32:=Eg
 refine⟨fun Ns=>?_,fun Ns=>?_⟩
 ·have h':x.i.form=33:=Ns
  have hc:aO x.i.form=2:=by rw[h']; rfl
  rw[xf hc]
  refine (gn).u ?_
  refine (gm).u ?_
  refine .inr ?_
  exact ao (And.intro rfl (And.intro (show aO x.i.form≠0 by omega) trivial))
 have h33':¬ x.i.form=33:=Ns
 refine⟨fun Nr=>?_,fun Nr=>?_⟩
 ·have h':x.i.form=34:=Nr
  have hc:aO x.i.form=2:=by rw[h']; rfl
  rw[xf hc]
  refine (gn).u ?_
  refine (gm).u ?_
  refine .inr ?_
  exact ao (And.intro rfl (And.intro (show aO x.i.form≠0 by omega) trivial))
 have h34':¬ x.i.form=34:=Nr
 refine⟨fun Nu=>?_,fun Nu=>?_⟩
 ·have h':x.i.form=35:=Nu
  have hc:aO x.i.form=3:=by rw[h']; rfl
  rw[l9 hc]
  refine (gn).u ?_
  refine .inr ?_
  exact ao (And.intro rfl (And.intro (show aO x.i.form≠0 by omega) trivial))
 have h35':¬ x.i.form=35:=Nu
 refine⟨fun Nt=>?_,fun Nt=>?_⟩
 ·have h':x.i.form=36:=Nt
  have hc:aO x.i.form=3:=by rw[h']; rfl
  rw[l9 hc]
  refine (gn).u ?_
  refine .inr ?_
  exact ao (And.intro rfl (And.intro (show aO x.i.form≠0 by omega) trivial))
 have h36':¬ x.i.form=36:=Nt
 refine⟨fun Nw=>?_,fun Nw=>?_⟩
 ·have h':x.i.form=84:=Nw
  have hc:aO x.i.form=3:=by rw[h']; rfl
  rw[l9 hc]
  refine (gn).u ?_
  refine .inr ?_
  exact ao (And.intro rfl (And.intro (show aO x.i.form≠0 by omega) trivial))
 have h84':¬ x.i.form=84:=Nw
 refine⟨fun Nv=>?_,fun Nv=>?_⟩
 ·have h':x.i.form=85:=Nv
  have hc:aO x.i.form=3:=by rw[h']; rfl
  rw[l9 hc]
  refine (gn).u ?_
  refine .inr ?_
  exact ao (And.intro rfl (And.intro (show aO x.i.form≠0 by omega) trivial))
 have h85':¬ x.i.form=85:=Nv
 refine⟨fun Ny=>?_,fun Ny=>?_⟩
 ·have h':x.i.form=37:=Ny
  have hc:aO x.i.form=4:=by rw[h']; rfl
  rw[xg hc]
  refine (Wq).u ?_
  refine .inr ?_
  exact ao (And.intro rfl (And.intro (show aO x.i.form≠0 by omega) trivial))
 have h37':¬ x.i.form=37:=Ny
 refine⟨fun Nx=>?_,fun Nx=>?_⟩
 ·have h':x.i.form=38:=Nx
  have hc:aO x.i.form=4:=by rw[h']; rfl
  rw[xg hc]
  refine (Wq).u ?_
  refine .inr ?_
  exact ao (And.intro rfl (And.intro (show aO x.i.form≠0 by omega) trivial))
 have h38':¬ x.i.form=38:=Nx
 refine⟨fun NA=>?_,fun NA=>?_⟩
 ·have h':x.i.form=86:=NA
  have hc:aO x.i.form=5:=by rw[h']; rfl
  rw[xh hc]
  obtain⟨b0,b1⟩:=idx (by omega)
  refine⟨b0,show x.i.bG < 4 by omega,?_⟩
  have h4:x.i.bG=0\/x.i.bG=1\/x.i.bG=2\/x.i.bG=3:=by omega
  rcases h4 with e|e|e|e
  ·refine .inl ⟨0,e,?_⟩
   refine (gn).u ?_
   refine (gm).u ?_
   refine .inr (.inr ?_)
   rw[show Ev.aD .u32 x.i.bG=1 by rw[e]; decide]
   exact ao (And.intro rfl (And.intro (show aO x.i.form≠0 by omega) trivial))
  ·refine .inl ⟨1,e,?_⟩
   refine (gn).u ?_
   refine (gm).u ?_
   refine .inr (.inr ?_)
   rw[show Ev.aD .u32 x.i.bG=2 by rw[e]; decide]
   exact ao (And.intro rfl (And.intro (show aO x.i.form≠0 by omega) trivial))
  ·refine .inl ⟨2,e,?_⟩
   refine (gn).u ?_
   refine (gm).u ?_
   refine .inr (.inr ?_)
   rw[show Ev.aD .u32 x.i.bG=4 by rw[e]; decide]
   exact ao (And.intro rfl (And.intro (show aO x.i.form≠0 by omega) trivial))
  ·refine .inl ⟨3,e,?_⟩
   refine (gn).u ?_
   refine (gm).u ?_
   refine .inr (.inr ?_)
   rw[show Ev.aD .u32 x.i.bG=8 by rw[e]; decide]
   exact ao (And.intro rfl (And.intro (show aO x.i.form≠0 by omega) trivial))
 have h86':¬ x.i.form=86:=NA
 refine⟨fun Nz=>?_,fun Nz=>?_⟩
 ·have h':x.i.form=87:=Nz
  have hc:aO x.i.form=5:=by rw[h']; rfl
  rw[xh hc]
  obtain⟨b0,b1⟩:=idx (by omega)
  refine⟨b0,show x.i.bG < 4 by omega,?_⟩
  have h4:x.i.bG=0\/x.i.bG=1\/x.i.bG=2\/x.i.bG=3:=by omega
  rcases h4 with e|e|e|e
  ·refine .inl ⟨0,e,?_⟩
   refine (gn).u ?_
   refine (gm).u ?_
   refine .inr (.inr ?_)
   rw[show Ev.aD .u32 x.i.bG=1 by rw[e]; decide]
   exact ao (And.intro rfl (And.intro (show aO x.i.form≠0 by omega) trivial))
  ·refine .inl ⟨1,e,?_⟩
   refine (gn).u ?_
   refine (gm).u ?_
   refine .inr (.inr ?_)
   rw[show Ev.aD .u32 x.i.bG=2 by rw[e]; decide]
   exact ao (And.intro rfl (And.intro (show aO x.i.form≠0 by omega) trivial))
  ·refine .inl ⟨2,e,?_⟩
   refine (gn).u ?_
   refine (gm).u ?_
   refine .inr (.inr ?_)
   rw[show Ev.aD .u32 x.i.bG=4 by rw[e]; decide]
   exact ao (And.intro rfl (And.intro (show aO x.i.form≠0 by omega) trivial))
  ·refine .inl ⟨3,e,?_⟩
   refine (gn).u ?_
   refine (gm).u ?_
   refine .inr (.inr ?_)
   rw[show Ev.aD .u32 x.i.bG=8 by rw[e]; decide]
   exact ao (And.intro rfl (And.intro (show aO x.i.form≠0 by omega) trivial))
 have h87':¬ x.i.form=87:=Nz
 have hc:aO x.i.form=0:=by unfold aO; repeat (rw[if_neg (by omega)])
 rw[Jd hc]
 exact ao (And.intro rfl (And.intro (show ¬ aO x.i.form≠0 from fun h=>h hc) trivial))
end Go.Proofs.YtnbngokbamifbaaGreatDoor.Pw

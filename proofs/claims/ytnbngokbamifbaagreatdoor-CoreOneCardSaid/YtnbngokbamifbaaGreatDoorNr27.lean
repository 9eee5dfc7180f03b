/- What this claim is proved with: no condition. -/
import Derived.Test.YtnbngokbamifbaaGreatDoorNr26
import Derived.Test.YtnbngokbamifbaaGreatDoorNr25
import Derived.Test.YtnbngokbamifbaaGreatDoorNr11
set_option maxRecDepth 100000
set_option maxHeartbeats 8000000
set_option linter.unusedVariables false
set_option linter.unusedSimpArgs false
namespace Go.Proofs.YtnbngokbamifbaaGreatDoor.Pw
open Go Go.RowKit
def jD (x:XS):XS:={ x with taken:=aR x.s x.i.cond }
def cj (f:Int):Int :=
 if f=46\/f=99 then 1 else if f=47\/f=100 then 2 else if f=31 then 3 else if f=45 then 4 else 0
def cT (x:XS):XS :=
 if cj x.i.form=1 then (if aR x.s x.i.cond then cg (jD x) 15 (IntKind.u32.wrap (al x 15+(IntKind.u32.wrap x.i.av))) else jD x) else if cj x.i.form=2 then cg x 15 (IntKind.u32.wrap (al x 15+(IntKind.u32.wrap x.i.av))) else if cj x.i.form=3 then fo x (al x x.i.rm) else if cj x.i.form=4 then { x with kind:=2,code:=x.i.av } else x
theorem zK {x:XS} (h:cj x.i.form=1):cT x=(if aR x.s x.i.cond then cg (jD x) 15 (IntKind.u32.wrap (al x 15+(IntKind.u32.wrap x.i.av))) else jD x):=by unfold cT; rw[if_pos h]
theorem zL {x:XS} (h:cj x.i.form=2):cT x=cg x 15 (IntKind.u32.wrap (al x 15+(IntKind.u32.wrap x.i.av))):=by unfold cT; rw[if_neg (by omega),if_pos h]
theorem Je {x:XS} (h:cj x.i.form=3):cT x=fo x (al x x.i.rm):=by unfold cT; rw[if_neg (by omega),if_neg (by omega),if_pos h]
theorem Jf {x:XS} (h:cj x.i.form=4):cT x = { x with kind:=2,code:=x.i.av }:=by unfold cT; rw[if_neg (by omega),if_neg (by omega),if_neg (by omega),if_pos h]
theorem tu {x:XS} (h:cj x.i.form=0):cT x=x:=by unfold cT; rw[if_neg (by omega),if_neg (by omega),if_neg (by omega),if_neg (by omega)]
theorem Jg (m:MS) (x:XS) (hx:iX x):Spec gT 98 [.ptr 3 0] (hZ m x) [] fun y S'=>y = .bool (cj x.i.form≠0)/\S'=hZ m (cT x):=by
 refine Spec.kB (Spec.enter ar P98 100 Tryz.func98 rfl (by kernel_rfl) ?_)
 refine⟨fun ZY=>?_,fun ZY=>?_⟩
 ·have hc:cj x.i.form=1:=by rw[show x.i.form=46 from ZY]; rfl
  rw[zK hc]
  refine (tp x.s x.i.cond).u ?_
  refine⟨fun hn=>?_,fun hp=>?_⟩
  ·rw[if_neg (show ¬ aR x.s x.i.cond from hn)]
   exact bj (show cj x.i.form≠0 by omega) (by first|exact ak rfl|(repeat' first|exact trivial|exact rfl|exact Iff.rfl|exact not_false|refine And.intro ?_ ?_))
  rw[if_pos (Classical.not_not.1 (show ¬ ¬ aR x.s x.i.cond from hp))]
  refine .inr ?_
  refine (bH m (jD x) 15 (by decide) (by decide)).e ?_
  refine .inr ?_
  refine (bT m (jD x) 15 (IntKind.u32.wrap (al x 15+(IntKind.u32.wrap x.i.av))) (by decide) (by decide)).e ?_
  exact bj (show cj x.i.form≠0 by omega) (by first|exact ak rfl|(repeat' first|exact trivial|exact rfl|exact Iff.rfl|exact not_false|refine And.intro ?_ ?_))
 refine⟨fun ZZ=>?_,fun ZZ=>?_⟩
 ·have hc:cj x.i.form=1:=by rw[show x.i.form=99 from ZZ]; rfl
  rw[zK hc]
  refine (tp x.s x.i.cond).u ?_
  refine⟨fun hn=>?_,fun hp=>?_⟩
  ·rw[if_neg (show ¬ aR x.s x.i.cond from hn)]
   exact bj (show cj x.i.form≠0 by omega) (by first|exact ak rfl|(repeat' first|exact trivial|exact rfl|exact Iff.rfl|exact not_false|refine And.intro ?_ ?_))
  rw[if_pos (Classical.not_not.1 (show ¬ ¬ aR x.s x.i.cond from hp))]
  refine .inr ?_
  refine (bH m (jD x) 15 (by decide) (by decide)).e ?_
  refine .inr ?_
  refine (bT m (jD x) 15 (IntKind.u32.wrap (al x 15+(IntKind.u32.wrap x.i.av))) (by decide) (by decide)).e ?_
  exact bj (show cj x.i.form≠0 by omega) (by first|exact ak rfl|(repeat' first|exact trivial|exact rfl|exact Iff.rfl|exact not_false|refine And.intro ?_ ?_))
 refine⟨fun Z0=>?_,fun Z0=>?_⟩
 ·have hc:cj x.i.form=2:=by rw[show x.i.form=47 from Z0]; rfl
  rw[zL hc]
  refine .inr ?_
  refine (bH m x 15 (by decide) (by decide)).e ?_
  refine .inr ?_
  refine (bT m x 15 (IntKind.u32.wrap (al x 15+(IntKind.u32.wrap x.i.av))) (by decide) (by decide)).e ?_
  exact bj (show cj x.i.form≠0 by omega) (by first|exact ak rfl|(repeat' first|exact trivial|exact rfl|exact Iff.rfl|exact not_false|refine And.intro ?_ ?_))
 refine⟨fun Bz=>?_,fun Bz=>?_⟩
 ·have hc:cj x.i.form=2:=by rw[show x.i.form=100 from Bz]; rfl
  rw[zL hc]
  refine .inr ?_
  refine (bH m x 15 (by decide) (by decide)).e ?_
  refine .inr ?_
  refine (bT m x 15 (IntKind.u32.wrap (al x 15+(IntKind.u32.wrap x.i.av))) (by decide) (by decide)).e ?_
  exact bj (show cj x.i.form≠0 by omega) (by first|exact ak rfl|(repeat' first|exact trivial|exact rfl|exact Iff.rfl|exact not_false|refine And.intro ?_ ?_))
 refine⟨fun Z1=>?_,fun Z1=>?_⟩
 ·have hc:cj x.i.form=3:=by rw[show x.i.form=31 from Z1]; rfl
  rw[Je hc]
  refine (bH m x x.i.rm hx.rm.1 hx.rm.2).e ?_
  refine (Dg m x (al x x.i.rm)).e ?_
  exact bj (show cj x.i.form≠0 by omega) (by first|exact ak rfl|(repeat' first|exact trivial|exact rfl|exact Iff.rfl|exact not_false|refine And.intro ?_ ?_))
 refine⟨fun h45=>?_,fun h45=>?_⟩
 ·have hc:cj x.i.form=4:=by rw[show x.i.form=45 from h45]; rfl
  rw[Jf hc]
  exact bj (show cj x.i.form≠0 by omega) (by first|exact ak rfl|(repeat' first|exact trivial|exact rfl|exact Iff.rfl|exact not_false|refine And.intro ?_ ?_))
 ·have hc:cj x.i.form=0:=by unfold cj; rw[if_neg (by omega),if_neg (by omega),if_neg (by omega),if_neg (by omega)]
  rw[tu hc]
  exact bj (show ¬ cj x.i.form≠0 from fun h=>h hc) (by first|exact ak rfl|(repeat' first|exact trivial|exact rfl|exact Iff.rfl|exact not_false|refine And.intro ?_ ?_))
theorem Jh {a:Int} (h:a % 4≠0):jb a=60:=by unfold jb; rw[if_pos h]
theorem Ji {a:Int} (h:¬ a % 4≠0) (h1:134217728<=a/\a < 134283264):jb a=62:=by unfold jb; rw[if_neg h,if_pos h1]
theorem Jj {a:Int} (h:¬ a % 4≠0) (h2:c_ a):jb a=0:=by unfold jb; rw[if_neg h,if_neg (by obtain⟨q1,q2⟩:=h2; omega),if_pos h2]
theorem Jk {a:Int} (h:¬ a % 4≠0) (h1:¬ (134217728<=a/\a < 134283264)) (h2:¬ c_ a):jb a=61:=by unfold jb; rw[if_neg h,if_neg h1,if_neg h2]
theorem xi {w:Nat->Int} {a x:Int} (h:jb a≠0):xb w a x=w:=by unfold xb; rw[if_neg h]
theorem Vy {w:Nat->Int} {a x:Int} (h:jb a=0):xb w a x=tk w (m5 a) x:=by unfold xb; rw[if_pos h]
theorem rB (x:Int) (k:Nat):IntKind.u8.wrap (x / jH k)=gy x k:=IntKind.wrap_u8' _
theorem iY (w:Nat->Int) (fl:List Int) (at_ x:Int) (ha:aP at_):Spec gT 30 [.ptr 1 0,.int .u32 at_,.int .u32 x] (z8 w fl) [] fun y S'=>y = .int .i64 (jb at_)/\S'=z8 (xb w at_ x) fl:=by
 have el:=j6 w
 refine Spec.kB (Spec.enter ar P30 100 Tryz.func30 rfl (by kernel_rfl) ?_)
 refine And.intro (show (4:Int)≠0 by decide) (.inl ⟨ha.1,show (0:Int) < 4 by decide,?_⟩)
 refine⟨fun h=>?_,fun h=>?_⟩
 ·rw[xi (by rw[Jh h]; decide),Jh h]
  exact rS
 have h4:¬ at_ % 4≠0:=h
 by_cases hf:134217728<=at_/\at_ < 134283264
 ·rw[xi (by rw[Ji h4 hf]; decide),Ji h4 hf]
  refine⟨fun _=>?_,fun h=>absurd hf.1 h⟩
  refine⟨fun _=>?_,fun h=>absurd hf.2 h⟩
  exact rS
 by_cases hr:c_ at_
 ·obtain⟨e,hj⟩:=Pq h4 hr
  have hy:=l6 w fl at_ ha hr
  rw[e] at hy
  rw[Vy (Jj h4 hr),Jj h4 hr]
  have lH:=IQ w (m5 at_) x hj
  generalize m5 at_=j at hj hy lH ⊢
  refine⟨fun _=>?_,fun h=>absurd (show 134217728<=at_ by have:=hr.1; omega) h⟩
  refine⟨fun h=>absurd h (show ¬ at_ < 134283264 by have:=hr.1; omega),fun _=>?_⟩
  refine (hy).e ?_
  refine SW.rounds ar P30 (by kernel_rfl) (N:=60) 5 ?_
  refine⟨by decide,.inr ?_⟩
  refine⟨show 4*j+0 < (fG w).length by rw[el]; omega,?_⟩
  refine⟨by decide,.inr ?_⟩
  refine⟨show 4*j+1 < ((fG w).set (4*j+0) _).length by rw[List.length_set,el]; omega,?_⟩
  refine⟨by decide,.inr ?_⟩
  refine⟨show 4*j+2 < (((fG w).set (4*j+0) _).set (4*j+1) _).length by rw[List.length_set,List.length_set,el]; omega,?_⟩
  refine⟨by decide,.inr ?_⟩
  refine⟨show 4*j+3 < ((((fG w).set (4*j+0) _).set (4*j+1) _).set (4*j+2) _).length by rw[List.length_set,List.length_set,List.length_set,el]; omega,?_⟩
  refine bj rfl (And.intro ?_ (And.intro (a_ rfl rfl) trivial))
  show ((((fG w).set (4*j) (.int .u8 (IntKind.u8.wrap (x / jH 0)))).set (4*j+1) (.int .u8 (IntKind.u8.wrap (x / jH 1)))).set (4*j+2) (.int .u8 (IntKind.u8.wrap (x / jH 2)))).set (4*j+3) (.int .u8 (IntKind.u8.wrap (x / jH 3)))=fG (tk w j x)
  rw[rB,rB,rB,rB]
  exact lH
 ·rw[xi (by rw[Jk h4 hf hr]; decide),Jk h4 hf hr]
  refine⟨fun h1=>?_,fun h1=>?_⟩
  ·refine⟨fun h2=>absurd ⟨h1,h2⟩ hf,fun _=>?_⟩
   refine (jC w fl at_ ha hr (Classical.not_not.1 h4)).e ?_
   exact rS
  ·refine (jC w fl at_ ha hr (Classical.not_not.1 h4)).e ?_
   exact rS
structure BA (m:MS):Prop where
 w:∀ k,aP (m.w k)
 fl:w9 m.fl
 len:m.fl.length<=65536
def jE (f:Int):Prop:=f=33\/f=35\/f=84\/f=37\/f=86
instance (f:Int):Decidable (jE f):=by unfold jE; infer_instance
def cR (x:XS) (a n:Int):XS:={ x with data:=a,words:=n }
def lp (m:MS) (x:XS) (a:Int):Nat->Int:=if jE x.i.form then xb m.w a (al x x.i.rd) else m.w
def iH (m:MS) (x:XS) (a:Int):XS:=if jE x.i.form then cR x a 1 else if ll m.fl a=0 then cg (cR x a 1) x.i.rd (qK m.fl m.w a) else cR x a 1
def jF (m:MS) (x:XS) (a:Int):Int:=if jE x.i.form then jb a else ll m.fl a
def gC (m:MS) (w:Nat->Int):MS:={ m with w:=w }
theorem Fk (m:MS) (x:XS) (a:Int) (hm:BA m) (hx:iX x) (ha:aP a):Spec gT 90 [.ptr 3 0,.int .u32 a] (hZ m x) [] fun y S'=>y = .int .i64 (jF m x a)/\S'=hZ (gC m (lp m x a)) (iH m x a):=by
 refine Spec.kB (Spec.enter ar P90 100 Tryz.func90 rfl (by kernel_rfl) ?_)
 refine⟨fun h1=>?_,fun h1=>?_⟩
 ·have hs:jE x.i.form:=by unfold jE; omega
  have e1:lp m x a=xb m.w a (al x x.i.rd):=by unfold lp; rw[if_pos hs]
  have e2:iH m x a=cR x a 1:=by unfold iH; rw[if_pos hs]
  have e3:jF m x a=jb a:=by unfold jF; rw[if_pos hs]
  rw[e1,e2,e3]
  refine⟨[],aT,(iE .p .p m (cR x a 1) x.i.rd hx.rd.1 hx.rd.2).yp rfl rfl rfl rfl (by repeat' first|exact trivial|exact rfl|exact Iff.rfl|refine And.intro ?_ ?_) (And.intro (by first|exact a_ rfl rfl|(repeat' first|exact trivial|exact rfl|exact Iff.rfl|exact Or.inl rfl|exact not_false|refine And.intro ?_ ?_)) (And.intro (by first|exact a_ rfl rfl|(repeat' first|exact trivial|exact rfl|exact Iff.rfl|exact Or.inl rfl|exact not_false|refine And.intro ?_ ?_)) (And.intro (by first|exact a_ rfl rfl|(repeat' first|exact trivial|exact rfl|exact Iff.rfl|exact Or.inl rfl|exact not_false|refine And.intro ?_ ?_)) (And.intro (by first|exact a_ rfl rfl|(repeat' first|exact trivial|exact rfl|exact Iff.rfl|exact Or.inl rfl|exact not_false|refine And.intro ?_ ?_)) ?_))))⟩
  refine (iY m.w m.fl a (al x x.i.rd) ha).e ?_
  exact rS
 refine⟨fun h2=>?_,fun h2=>?_⟩
 ·have hs:jE x.i.form:=by unfold jE; omega
  have e1:lp m x a=xb m.w a (al x x.i.rd):=by unfold lp; rw[if_pos hs]
  have e2:iH m x a=cR x a 1:=by unfold iH; rw[if_pos hs]
  have e3:jF m x a=jb a:=by unfold jF; rw[if_pos hs]
  rw[e1,e2,e3]
  refine⟨[],aT,(iE .p .p m (cR x a 1) x.i.rd hx.rd.1 hx.rd.2).yp rfl rfl rfl rfl (by repeat' first|exact trivial|exact rfl|exact Iff.rfl|refine And.intro ?_ ?_) (And.intro (by first|exact a_ rfl rfl|(repeat' first|exact trivial|exact rfl|exact Iff.rfl|exact Or.inl rfl|exact not_false|refine And.intro ?_ ?_)) (And.intro (by first|exact a_ rfl rfl|(repeat' first|exact trivial|exact rfl|exact Iff.rfl|exact Or.inl rfl|exact not_false|refine And.intro ?_ ?_)) (And.intro (by first|exact a_ rfl rfl|(repeat' first|exact trivial|exact rfl|exact Iff.rfl|exact Or.inl rfl|exact not_false|refine And.intro ?_ ?_)) (And.intro (by first|exact a_ rfl rfl|(repeat' first|exact trivial|exact rfl|exact Iff.rfl|exact Or.inl rfl|exact not_false|refine And.intro ?_ ?_)) ?_))))⟩
  refine (iY m.w m.fl a (al x x.i.rd) ha).e ?_
  exact rS
 refine⟨fun h3=>?_,fun h3=>?_⟩
 ·have hs:jE x.i.form:=by unfold jE; omega
  have e1:lp m x a=xb m.w a (al x x.i.rd):=by unfold lp; rw[if_pos hs]
  have e2:iH m x a=cR x a 1:=by unfold iH; rw[if_pos hs]
  have e3:jF m x a=jb a:=by unfold jF; rw[if_pos hs]
  rw[e1,e2,e3]
  refine⟨[],aT,(iE .p .p m (cR x a 1) x.i.rd hx.rd.1 hx.rd.2).yp rfl rfl rfl rfl (by repeat' first|exact trivial|exact rfl|exact Iff.rfl|refine And.intro ?_ ?_) (And.intro (by first|exact a_ rfl rfl|(repeat' first|exact trivial|exact rfl|exact Iff.rfl|exact Or.inl rfl|exact not_false|refine And.intro ?_ ?_)) (And.intro (by first|exact a_ rfl rfl|(repeat' first|exact trivial|exact rfl|exact Iff.rfl|exact Or.inl rfl|exact not_false|refine And.intro ?_ ?_)) (And.intro (by first|exact a_ rfl rfl|(repeat' first|exact trivial|exact rfl|exact Iff.rfl|exact Or.inl rfl|exact not_false|refine And.intro ?_ ?_)) (And.intro (by first|exact a_ rfl rfl|(repeat' first|exact trivial|exact rfl|exact Iff.rfl|exact Or.inl rfl|exact not_false|refine And.intro ?_ ?_)) ?_))))⟩
  refine (iY m.w m.fl a (al x x.i.rd) ha).e ?_
  exact rS
 refine⟨fun h4=>?_,fun h4=>?_⟩
 ·have hs:jE x.i.form:=by unfold jE; omega
  have e1:lp m x a=xb m.w a (al x x.i.rd):=by unfold lp; rw[if_pos hs]
  have e2:iH m x a=cR x a 1:=by unfold iH; rw[if_pos hs]
  have e3:jF m x a=jb a:=by unfold jF; rw[if_pos hs]
  rw[e1,e2,e3]
  refine⟨[],aT,(iE .p .p m (cR x a 1) x.i.rd hx.rd.1 hx.rd.2).yp rfl rfl rfl rfl (by repeat' first|exact trivial|exact rfl|exact Iff.rfl|refine And.intro ?_ ?_) (And.intro (by first|exact a_ rfl rfl|(repeat' first|exact trivial|exact rfl|exact Iff.rfl|exact Or.inl rfl|exact not_false|refine And.intro ?_ ?_)) (And.intro (by first|exact a_ rfl rfl|(repeat' first|exact trivial|exact rfl|exact Iff.rfl|exact Or.inl rfl|exact not_false|refine And.intro ?_ ?_)) (And.intro (by first|exact a_ rfl rfl|(repeat' first|exact trivial|exact rfl|exact Iff.rfl|exact Or.inl rfl|exact not_false|refine And.intro ?_ ?_)) (And.intro (by first|exact a_ rfl rfl|(repeat' first|exact trivial|exact rfl|exact Iff.rfl|exact Or.inl rfl|exact not_false|refine And.intro ?_ ?_)) ?_))))⟩
  refine (iY m.w m.fl a (al x x.i.rd) ha).e ?_
  exact rS
 refine⟨fun h5=>?_,fun h5=>?_⟩
 ·have hs:jE x.i.form:=by unfold jE; omega
  have e1:lp m x a=xb m.w a (al x x.i.rd):=by unfold lp; rw[if_pos hs]
  have e2:iH m x a=cR x a 1:=by unfold iH; rw[if_pos hs]
  have e3:jF m x a=jb a:=by unfold jF; rw[if_pos hs]
  rw[e1,e2,e3]
  refine⟨[],aT,(iE .p .p m (cR x a 1) x.i.rd hx.rd.1 hx.rd.2).yp rfl rfl rfl rfl (by repeat' first|exact trivial|exact rfl|exact Iff.rfl|refine And.intro ?_ ?_) (And.intro (by first|exact a_ rfl rfl|(repeat' first|exact trivial|exact rfl|exact Iff.rfl|exact Or.inl rfl|exact not_false|refine And.intro ?_ ?_)) (And.intro (by first|exact a_ rfl rfl|(repeat' first|exact trivial|exact rfl|exact Iff.rfl|exact Or.inl rfl|exact not_false|refine And.intro ?_ ?_)) (And.intro (by first|exact a_ rfl rfl|(repeat' first|exact trivial|exact rfl|exact Iff.rfl|exact Or.inl rfl|exact not_false|refine And.intro ?_ ?_)) (And.intro (by first|exact a_ rfl rfl|(repeat' first|exact trivial|exact rfl|exact Iff.rfl|exact Or.inl rfl|exact not_false|refine And.intro ?_ ?_)) ?_))))⟩
  refine (iY m.w m.fl a (al x x.i.rd) ha).e ?_
  exact rS
 ·have hs:¬ jE x.i.form:=by unfold jE; omega
  have e1:lp m x a=m.w:=by unfold lp; rw[if_neg hs]
  have e3:jF m x a=ll m.fl a:=by unfold jF; rw[if_neg hs]
  have e2:iH m x a=if ll m.fl a=0 then cg (cR x a 1) x.i.rd (qK m.fl m.w a) else cR x a 1:=by unfold iH; rw[if_neg hs]
  rw[e1,e2,e3]
  refine (Dd m.w m.fl a ha hm.fl hm.len hm.w).e ?_
  refine⟨fun h=>?_,fun h=>?_⟩
  ·rw[if_pos h]
   refine⟨[],aT,(bT m (cR x a 1) x.i.rd (qK m.fl m.w a) hx.rd.1 hx.rd.2).yp rfl rfl rfl rfl (by repeat' first|exact trivial|exact rfl|exact Iff.rfl|refine And.intro ?_ ?_) (And.intro (by first|exact a_ rfl rfl|(repeat' first|exact trivial|exact rfl|exact Iff.rfl|exact Or.inl rfl|exact not_false|refine And.intro ?_ ?_)) (And.intro (by first|exact a_ rfl rfl|(repeat' first|exact trivial|exact rfl|exact Iff.rfl|exact Or.inl rfl|exact not_false|refine And.intro ?_ ?_)) (And.intro (by first|exact a_ rfl rfl|(repeat' first|exact trivial|exact rfl|exact Iff.rfl|exact Or.inl rfl|exact not_false|refine And.intro ?_ ?_)) (And.intro (by first|exact a_ rfl rfl|(repeat' first|exact trivial|exact rfl|exact Iff.rfl|exact Or.inl rfl|exact not_false|refine And.intro ?_ ?_)) ?_))))⟩
   exact rS
  ·rw[if_neg h]
   exact rS
def i_ (an:Int) (r:Nat):Int:=bits .and .i64 (an / Ev.aD .i64 (r:Int)) 1
def aY (x:XS) (w:Nat->Int) (a:Int):Nat->(Nat->Int) × Int × Int
 | 0=>(w,a,0)
 | r+1=>if (aY x w a r).2.2≠0 then aY x w a r else if i_ x.i.an r=0 then aY x w a r
  else if jb (aY x w a r).2.1≠0 then ((aY x w a r).1,(aY x w a r).2.1,jb (aY x w a r).2.1)
  else (xb (aY x w a r).1 (aY x w a r).2.1 (al x r),IntKind.u32.wrap ((aY x w a r).2.1+4),0)
theorem fW {x:XS} {w:Nat->Int} {a:Int} {r:Nat} (h:(aY x w a r).2.2≠0):∀ n,aY x w a (r+n)=aY x w a r
 | 0=>rfl
 | n+1=>by rw[← Nat.add_assoc,aY,fW h n,if_pos h]
theorem gQ {x:XS} {w:Nat->Int} {a:Int} {r:Nat} (h:(aY x w a r).2.2=0) (hb:i_ x.i.an r=0):aY x w a (r+1)=aY x w a r:=by rw[aY,if_neg (by omega),if_pos hb]
theorem mT {x:XS} {w:Nat->Int} {a:Int} {r:Nat} (h:(aY x w a r).2.2=0) (hb:¬ i_ x.i.an r=0) (he:jb (aY x w a r).2.1≠0):aY x w a (r+1)=((aY x w a r).1,(aY x w a r).2.1,jb (aY x w a r).2.1):=by rw[aY,if_neg (by omega),if_neg hb,if_pos he]
theorem oY {x:XS} {w:Nat->Int} {a:Int} {r:Nat} (h:(aY x w a r).2.2=0) (hb:¬ i_ x.i.an r=0) (he:¬ jb (aY x w a r).2.1≠0):aY x w a (r+1)=(xb (aY x w a r).1 (aY x w a r).2.1 (al x r),IntKind.u32.wrap ((aY x w a r).2.1+4),0):=by rw[aY,if_neg (by omega),if_neg hb,if_neg he]
theorem l_ {x:XS} {w:Nat->Int} {a:Int} (ha:aP a):∀ r,aP (aY x w a r).2.1
 | 0=>ha
 | r+1=>by
  have ih:=l_ (x:=x) (w:=w) ha r
  rw[aY]
  split
  ·exact ih
  ·split
   ·exact ih
   ·split
    ·exact ih
    ·exact wrap_u32 _
def bf (x:XS):Int:=IntKind.u32.wrap (al x 13 - IntKind.u32.wrap (4*bb x.i.an))
def gD (m:MS) (x:XS):(Nat->Int) × Int × Int:=aY x m.w (bf x) 15
def ix (m:MS) (x:XS):XS:=if (gD m x).2.2=0 then cg (cR x (bf x) (bb x.i.an)) 13 (bf x) else cR x (bf x) (bb x.i.an)
theorem NB (m:MS) (x:XS) (hx:iX x):Spec gT 91 [.ptr 3 0] (hZ m x) [] fun y S'=>y = .int .i64 (gD m x).2.2/\S'=hZ (gC m (gD m x).1) (ix m x):=by
 have hA:aP (bf x):=wrap_u32 _
 have hbits:=gP x.i.an hx.an.1 hx.an.2
 have ew:IntKind.u32.wrap x.i.an=x.i.an:=by rw[IntKind.wrap_u32']; have:=hx.an; omega
 refine Spec.kB (Spec.enter ar P91 100 Tryz.func91 rfl (by kernel_rfl) ?_)
 refine lu ?_ (show 0<=x.i.an/\x.i.an<=_ by have:=hx.an; omega)
 refine (tj x.i.an hx.an.1 hx.an.2).u ?_
 refine li ?_ (show _<=4*bb x.i.an/\4*bb x.i.an<=_ by omega)
 refine .inr ?_
 refine (iE .w .p m { x with words:=bb x.i.an } 13 (by decide) (by decide)).e ?_
 refine .inr ?_
 have e0:aY x m.w (bf x) 0=(m.w,bf x,0):=rfl
 refine SW.nj ar P91 (by kernel_rfl) (α:={r:Nat // r<=15/\(aY x m.w (bf x) r).2.2=0}) (fun r=>[(0,.ptr 3 0),(3,.int .u32 (aY x m.w (bf x) r.1).2.1),(32,.int .i64 r.1)]) (fun r=>hZ (gC m (aY x m.w (bf x) r.1).1) (cR x (bf x) (bb x.i.an))) (fun r=>15 - r.1) ⟨0,by omega,rfl⟩ 60 [some 0,some 1,some 2,some 3] ?_ ?_
 ·repeat' first|exact trivial|exact rfl|exact Iff.rfl|refine And.intro ?_ ?_
 rintro⟨r,hr,hz⟩
 have hP:=l_ (x:=x) (w:=m.w) hA r
 refine⟨fun h=>?_,fun h=>?_⟩
 ·have h':(r:Int) < 15:=h
  refine⟨show (0:Int)<=(r:Int) by omega,?_⟩
  refine⟨fun hb=>?_,fun hb=>?_⟩
  ·have hs:=gQ (x:=x) (w:=m.w) (a:=bf x) hz hb
   refine .inl ⟨ax (show _<=(r:Int)+1/\(r:Int)+1<=_ by omega),⟨⟨r+1,by omega,by rw[hs]; exact hz⟩,[some 0,some 1,some 2,some 3],show 15 - (r+1) < 15 - r by omega,?_⟩⟩
   show ee _ _ _ (aV.bare _ [(0,.ptr 3 0),(3,.int .u32 (aY x m.w (bf x) (r+1)).2.1),(32,.int .i64 (r+1:Nat))] (hZ (gC m (aY x m.w (bf x) (r+1)).1) (cR x (bf x) (bb x.i.an))))
   rw[hs]
   repeat' first|exact trivial|exact rfl|exact Iff.rfl|refine And.intro ?_ ?_
  ·refine (iE .p .p (gC m (aY x m.w (bf x) r).1) (cR x (bf x) (bb x.i.an)) (r:Int) (by omega) (by omega)).e ?_
   refine (iY (aY x m.w (bf x) r).1 m.fl (aY x m.w (bf x) r).2.1 (al x r) hP).e ?_
   refine⟨fun he=>?_,fun he=>?_⟩
   ·have hE:=mT (x:=x) (w:=m.w) (a:=bf x) hz hb he
    have hF:gD m x=((aY x m.w (bf x) r).1,(aY x m.w (bf x) r).2.1,jb (aY x m.w (bf x) r).2.1):=by
     have hs:=fW (x:=x) (w:=m.w) (a:=bf x) (r:=r+1) (by rw[hE]; exact he) (14 - r)
     unfold gD
     rw[show 15=r+1+(14 - r) by omega,hs,hE]
    have hX:ix m x=cR x (bf x) (bb x.i.an):=by unfold ix; rw[hF,if_neg (show ¬ jb _=0 from he)]
    rw[hF,hX]
    exact bj rfl (And.intro (show fG (xb _ _ _)=fG _ by rw[xi he]; rfl) (And.intro (a_ rfl rfl) (ak rfl)))
   ·have hs:=oY (x:=x) (w:=m.w) (a:=bf x) hz hb he
    refine .inr ?_
    refine .inl ⟨ax (show _<=(r:Int)+1/\(r:Int)+1<=_ by omega),⟨⟨r+1,by omega,by rw[hs]⟩,[some 0,some 1,some 2,some 3],show 15 - (r+1) < 15 - r by omega,?_⟩⟩
    show ee _ _ _ (aV.bare _ [(0,.ptr 3 0),(3,.int .u32 (aY x m.w (bf x) (r+1)).2.1),(32,.int .i64 (r+1:Nat))] (hZ (gC m (aY x m.w (bf x) (r+1)).1) (cR x (bf x) (bb x.i.an))))
    rw[hs]
    repeat' first|exact trivial|exact rfl|exact Iff.rfl|refine And.intro ?_ ?_
 ·have h':¬ (r:Int) < 15:=h
  obtain rfl:r=15:=by omega
  have hX:ix m x=cg (cR x (bf x) (bb x.i.an)) 13 (bf x):=by unfold ix; rw[if_pos (show (gD m x).2.2=0 from hz)]
  rw[show (gD m x).2.2=0 from hz,hX]
  refine (bT (gC m (aY x m.w (bf x) 15).1) (cR x (bf x) (bb x.i.an)) 13 (bf x) (by decide) (by decide)).e ?_
  exact bj rfl (ak rfl)
def bN (m:MS) (x:XS) (a:Int):Nat->XS × Int × Int
 | 0=>(x,a,0)
 | r+1=>if (bN m x a r).2.2≠0 then bN m x a r else if i_ x.i.an r=0 then bN m x a r
  else if ll m.fl (bN m x a r).2.1≠0 then ((bN m x a r).1,(bN m x a r).2.1,ll m.fl (bN m x a r).2.1)
  else if r=15 then (fo (bN m x a r).1 (qK m.fl m.w (bN m x a r).2.1),IntKind.u32.wrap ((bN m x a r).2.1+4),0)
  else (cg (bN m x a r).1 r (qK m.fl m.w (bN m x a r).2.1),IntKind.u32.wrap ((bN m x a r).2.1+4),0)
theorem nO {m:MS} {x:XS} {a:Int} {r:Nat} (h:(bN m x a r).2.2≠0):∀ n,bN m x a (r+n)=bN m x a r
 | 0=>rfl
 | n+1=>by rw[← Nat.add_assoc,bN,nO h n,if_pos h]
theorem vd {m:MS} {x:XS} {a:Int} {r:Nat} (h:(bN m x a r).2.2=0) (hb:i_ x.i.an r=0):bN m x a (r+1)=bN m x a r:=by rw[bN,if_neg (by omega),if_pos hb]
theorem zM {m:MS} {x:XS} {a:Int} {r:Nat} (h:(bN m x a r).2.2=0) (hb:¬ i_ x.i.an r=0) (he:ll m.fl (bN m x a r).2.1≠0):bN m x a (r+1)=((bN m x a r).1,(bN m x a r).2.1,ll m.fl (bN m x a r).2.1):=by rw[bN,if_neg (by omega),if_neg hb,if_pos he]
theorem ve {m:MS} {x:XS} {a:Int} {r:Nat} (h:(bN m x a r).2.2=0) (hb:¬ i_ x.i.an r=0) (he:¬ ll m.fl (bN m x a r).2.1≠0) (hr:r=15):bN m x a (r+1)=(fo (bN m x a r).1 (qK m.fl m.w (bN m x a r).2.1),IntKind.u32.wrap ((bN m x a r).2.1+4),0):=by rw[bN,if_neg (by omega),if_neg hb,if_neg he,if_pos hr]
theorem zN {m:MS} {x:XS} {a:Int} {r:Nat} (h:(bN m x a r).2.2=0) (hb:¬ i_ x.i.an r=0) (he:¬ ll m.fl (bN m x a r).2.1≠0) (hr:¬ r=15):bN m x a (r+1)=(cg (bN m x a r).1 r (qK m.fl m.w (bN m x a r).2.1),IntKind.u32.wrap ((bN m x a r).2.1+4),0):=by rw[bN,if_neg (by omega),if_neg hb,if_neg he,if_neg hr]
theorem NC (x:XS) (v:Int):(fo x v).i=x.i:=by unfold fo; split<;>rfl
theorem rC {m:MS} {x:XS} {a:Int} (ha:aP a):∀ r,aP (bN m x a r).2.1/\(bN m x a r).1.i=x.i
 | 0=>⟨ha,rfl⟩
 | r+1=>by
  have ih:=rC (m:=m) (x:=x) ha r
  rw[bN]
  split
  ·exact ih
  ·split
   ·exact ih
   ·split
    ·exact ih
    ·split
     ·exact⟨wrap_u32 _,(NC _ _).trans ih.2⟩
     ·exact⟨wrap_u32 _,ih.2⟩
def ma (m:MS) (x:XS):XS × Int × Int:=bN m (cR x (al x 13) (bb x.i.an)) (al x 13) 16
def m6 (m:MS) (x:XS):XS:=if (ma m x).2.2=0 then cg (ma m x).1 13 (ma m x).2.1 else (ma m x).1
theorem ND (m:MS) (x:XS) (hm:BA m) (hx:iX x):Spec gT 92 [.ptr 3 0] (hZ m x) [] fun y S'=>y = .int .i64 (ma m x).2.2/\S'=hZ m (m6 m x):=by
 have hA:aP (al x 13):=aX hx _
 refine Spec.kB (Spec.enter ar P92 100 Tryz.func92 rfl (by kernel_rfl) ?_)
 refine lu ?_ (show 0<=x.i.an/\x.i.an<=_ by have:=hx.an; omega)
 refine (tj x.i.an hx.an.1 hx.an.2).u ?_
 refine (bH m { x with words:=bb x.i.an } 13 (by decide) (by decide)).e ?_
 generalize Kh:cR x (al x 13) (bb x.i.an)=x2
 have hR:ma m x=bN m x2 (al x 13) 16:=by unfold ma; rw[Kh]
 have hi:x2.i=x.i:=by rw[← Kh]; rfl
 refine SW.nj ar P92 (by kernel_rfl) (α:={r:Nat // r<=16/\(bN m x2 (al x 13) r).2.2=0}) (fun r=>[(0,.ptr 3 0),(3,.int .u32 (bN m x2 (al x 13) r.1).2.1),(26,.int .i64 r.1)]) (fun r=>hZ m (bN m x2 (al x 13) r.1).1) (fun r=>16 - r.1) ⟨0,by omega,rfl⟩ 60 [some 0,some 1,some 2,some 3] ?_ ?_
 ·show ee _ _ _ (aV.bare _ [(0,.ptr 3 0),(3,.int .u32 (al x 13)),(26,.int .i64 (0:Nat))] (hZ m x2))
  rw[← Kh]
  repeat' first|exact trivial|exact rfl|exact Iff.rfl|refine And.intro ?_ ?_
 rintro⟨r,hr,hz⟩
 obtain⟨hP,hI⟩:=rC (m:=m) (x:=x2) hA r
 refine⟨fun h=>?_,fun h=>?_⟩
 ·have h':(r:Int) < 16:=h
  refine⟨show (0:Int)<=(r:Int) by omega,?_⟩
  refine⟨fun hb=>?_,fun hb=>?_⟩
  ·have di:i_ x2.i.an r=0:=by rw[← hI]; exact hb
   have hs:=vd (m:=m) (x:=x2) (a:=al x 13) hz di
   refine .inl ⟨ax (show _<=(r:Int)+1/\(r:Int)+1<=_ by omega),⟨⟨r+1,by omega,by rw[hs]; exact hz⟩,[some 0,some 1,some 2,some 3],show 16 - (r+1) < 16 - r by omega,?_⟩⟩
   show ee _ _ _ (aV.bare _ [(0,.ptr 3 0),(3,.int .u32 (bN m x2 (al x 13) (r+1)).2.1),(26,.int .i64 (r+1:Nat))] (hZ m (bN m x2 (al x 13) (r+1)).1))
   rw[hs]
   repeat' first|exact trivial|exact rfl|exact Iff.rfl|refine And.intro ?_ ?_
  ·have di:¬ i_ x2.i.an r=0:=by rw[← hI]; exact hb
   refine (Dd m.w m.fl (bN m x2 (al x 13) r).2.1 hP hm.fl hm.len hm.w).e ?_
   refine⟨fun he=>?_,fun he=>?_⟩
   ·have hE:=zM (m:=m) (x:=x2) (a:=al x 13) hz di he
    have hF:ma m x=((bN m x2 (al x 13) r).1,(bN m x2 (al x 13) r).2.1,ll m.fl (bN m x2 (al x 13) r).2.1):=by
     have hs:=nO (m:=m) (x:=x2) (a:=al x 13) (r:=r+1) (by rw[hE]; exact he) (15 - r)
     rw[hR,show 16=r+1+(15 - r) by omega,hs,hE]
    have hX:m6 m x=(bN m x2 (al x 13) r).1:=by unfold m6; rw[hF,if_neg (show ¬ ll m.fl _=0 from he)]
    rw[hF,hX]
    exact bj rfl (ak rfl)
   ·refine .inr ?_
    refine⟨fun Ad=>?_,fun Ad=>?_⟩
    ·have hs:=ve (m:=m) (x:=x2) (a:=al x 13) hz di he (show r=15 by have:(r:Int)=15:=Ad; omega)
     refine (Dg m (bN m x2 (al x 13) r).1 (qK m.fl m.w (bN m x2 (al x 13) r).2.1)).e ?_
     refine .inl ⟨ax (show _<=(r:Int)+1/\(r:Int)+1<=_ by omega),⟨⟨r+1,by omega,by rw[hs]⟩,[some 0,some 1,some 2,some 3],show 16 - (r+1) < 16 - r by omega,?_⟩⟩
     show ee _ _ _ (aV.bare _ [(0,.ptr 3 0),(3,.int .u32 (bN m x2 (al x 13) (r+1)).2.1),(26,.int .i64 (r+1:Nat))] (hZ m (bN m x2 (al x 13) (r+1)).1))
     rw[hs]
     repeat' first|exact trivial|exact rfl|exact Iff.rfl|refine And.intro ?_ ?_
    ·have hs:=zN (m:=m) (x:=x2) (a:=al x 13) hz di he (show ¬ r=15 from fun e=>Ad (show (r:Int)=15 by omega))
     refine (bT m (bN m x2 (al x 13) r).1 (r:Int) (qK m.fl m.w (bN m x2 (al x 13) r).2.1) (by omega) (by omega)).e ?_
     refine .inl ⟨ax (show _<=(r:Int)+1/\(r:Int)+1<=_ by omega),⟨⟨r+1,by omega,by rw[hs]⟩,[some 0,some 1,some 2,some 3],show 16 - (r+1) < 16 - r by omega,?_⟩⟩
     show ee _ _ _ (aV.bare _ [(0,.ptr 3 0),(3,.int .u32 (bN m x2 (al x 13) (r+1)).2.1),(26,.int .i64 (r+1:Nat))] (hZ m (bN m x2 (al x 13) (r+1)).1))
     rw[hs]
     repeat' first|exact trivial|exact rfl|exact Iff.rfl|refine And.intro ?_ ?_
 ·have h':¬ (r:Int) < 16:=h
  obtain rfl:r=16:=by omega
  have hX:m6 m x=cg (bN m x2 (al x 13) 16).1 13 (bN m x2 (al x 13) 16).2.1:=by unfold m6; rw[hR,if_pos hz]
  rw[show (ma m x).2.2=0 by rw[hR]; exact hz,hX]
  refine (bT m (bN m x2 (al x 13) 16).1 13 (bN m x2 (al x 13) 16).2.1 (by decide) (by decide)).e ?_
  exact bj rfl (ak rfl)
def F1 (m:MS) (x:XS):Int:=if aO x.i.form≠0 then jF m x (fI x) else if x.i.form=42 then (gD m x).2.2 else if x.i.form=43 then (ma m x).2.2 else 0
def zO (m:MS) (x:XS):Nat->Int:=if aO x.i.form≠0 then lp m x (fI x) else if x.i.form=42 then (gD m x).1 else m.w
def eu (x:XS):XS:=if aK x.i.form≠0 then fk x else if aM x.i.form≠0 then cJ x else if bW x.i.form≠0 then cm x else if bg x.i.form≠0 then dm x else if br x.i.form≠0 then ch x else cT x
def qs (m:MS) (x:XS):XS:=if aO x.i.form≠0 then iH m x (fI x) else if x.i.form=42 then ix m x else if x.i.form=43 then m6 m x else eu x
theorem NF {x:XS}:aP (fI x):=by
 unfold fI
 repeat' split
 all_goals first|exact wrap_u32 _|exact⟨by decide,by decide⟩
theorem Z2 (m:MS) (x:XS) (hm:BA m) (hx:iX x):Spec gT 55 [.ptr 3 0] (hZ m x) [] fun y S'=>y = .int .i64 (F1 m x)/\S'=hZ (gC m (zO m x)) (qs m x):=by
 refine Spec.kB (Spec.enter ar P55 100 Tryz.func55 rfl (by kernel_rfl) ?_)
 refine (By m x hx).e ?_
 refine⟨fun ha=>?_,fun ha=>?_⟩
 ·have dv:aO x.i.form≠0:=ha
  have e1:F1 m x=jF m x (fI x):=by unfold F1; rw[if_pos dv]
  have e2:zO m x=lp m x (fI x):=by unfold zO; rw[if_pos dv]
  have e3:qs m x=iH m x (fI x):=by unfold qs; rw[if_pos dv]
  rw[e1,e2,e3]
  refine (Fk m x (fI x) hm hx NF).e ?_
  exact rS
 have dv:¬ aO x.i.form≠0:=ha
 refine⟨fun vf=>?_,fun vf=>?_⟩
 ·have e1:F1 m x=(gD m x).2.2:=by unfold F1; rw[if_neg dv,if_pos vf]
  have e2:zO m x=(gD m x).1:=by unfold zO; rw[if_neg dv,if_pos vf]
  have e3:qs m x=ix m x:=by unfold qs; rw[if_neg dv,if_pos vf]
  rw[e1,e2,e3]
  refine (NB m x hx).e ?_
  exact rS
 have e2:zO m x=m.w:=by unfold zO; rw[if_neg dv,if_neg vf]
 rw[e2]
 refine⟨fun F2=>?_,fun F2=>?_⟩
 ·have e1:F1 m x=(ma m x).2.2:=by unfold F1; rw[if_neg dv,if_neg vf,if_pos F2]
  have e3:qs m x=m6 m x:=by unfold qs; rw[if_neg dv,if_neg vf,if_pos F2]
  rw[e1,e3]
  refine (ND m x hm hx).e ?_
  exact rS
 have e1:F1 m x=0:=by unfold F1; rw[if_neg dv,if_neg vf,if_neg F2]
 have e3:qs m x=eu x:=by unfold qs; rw[if_neg dv,if_neg vf,if_neg F2]
 rw[e1,e3]
 have s0:=Nf m x hx
 by_cases c0:aK x.i.form≠0
 ·have e:eu x=fk x:=by unfold eu; rw[if_pos c0]
  rw[e]
  refine (s0).e ?_
  refine⟨fun h=>absurd c0 h,fun _=>?_⟩
  exact rS
 rw[Df (Classical.not_not.1 c0)] at s0
 have s1:=Fg m x hx
 by_cases c1:aM x.i.form≠0
 ·have e:eu x=cJ x:=by unfold eu; rw[if_neg c0,if_pos c1]
  rw[e]
  refine (s0).e ?_
  refine⟨fun _=>?_,fun h=>absurd c0 h⟩
  refine (s1).e ?_
  refine⟨fun h=>absurd c1 h,fun _=>?_⟩
  exact rS
 rw[u_ (Classical.not_not.1 c1)] at s1
 have s2:=Fi m x hx
 by_cases c2:bW x.i.form≠0
 ·have e:eu x=cm x:=by unfold eu; rw[if_neg c0,if_neg c1,if_pos c2]
  rw[e]
  refine (s0).e ?_
  refine⟨fun _=>?_,fun h=>absurd c0 h⟩
  refine (s1).e ?_
  refine⟨fun _=>?_,fun h=>absurd c1 h⟩
  refine (s2).e ?_
  refine⟨fun h=>absurd c2 h,fun _=>?_⟩
  exact rS
 rw[vb (Classical.not_not.1 c2)] at s2
 have s3:=zJ m x hx
 by_cases c3:bg x.i.form≠0
 ·have e:eu x=dm x:=by unfold eu; rw[if_neg c0,if_neg c1,if_neg c2,if_pos c3]
  rw[e]
  refine (s0).e ?_
  refine⟨fun _=>?_,fun h=>absurd c0 h⟩
  refine (s1).e ?_
  refine⟨fun _=>?_,fun h=>absurd c1 h⟩
  refine (s2).e ?_
  refine⟨fun _=>?_,fun h=>absurd c2 h⟩
  refine (s3).e ?_
  refine⟨fun h=>absurd c3 h,fun _=>?_⟩
  exact rS
 rw[rz (Classical.not_not.1 c3)] at s3
 have s4:=Ja m x hx
 by_cases c4:br x.i.form≠0
 ·have e:eu x=ch x:=by unfold eu; rw[if_neg c0,if_neg c1,if_neg c2,if_neg c3,if_pos c4]
  rw[e]
  refine (s0).e ?_
  refine⟨fun _=>?_,fun h=>absurd c0 h⟩
  refine (s1).e ?_
  refine⟨fun _=>?_,fun h=>absurd c1 h⟩
  refine (s2).e ?_
  refine⟨fun _=>?_,fun h=>absurd c2 h⟩
  refine (s3).e ?_
  refine⟨fun _=>?_,fun h=>absurd c3 h⟩
  refine (s4).e ?_
  refine⟨fun h=>absurd c4 h,fun _=>?_⟩
  exact rS
 rw[l8 (Classical.not_not.1 c4)] at s4
 have e:eu x=cT x:=by unfold eu; rw[if_neg c0,if_neg c1,if_neg c2,if_neg c3,if_neg c4]
 rw[e]
 refine (s0).e ?_
 refine⟨fun _=>?_,fun h=>absurd c0 h⟩
 refine (s1).e ?_
 refine⟨fun _=>?_,fun h=>absurd c1 h⟩
 refine (s2).e ?_
 refine⟨fun _=>?_,fun h=>absurd c2 h⟩
 refine (s3).e ?_
 refine⟨fun _=>?_,fun h=>absurd c3 h⟩
 refine (s4).e ?_
 refine⟨fun _=>?_,fun h=>absurd c4 h⟩
 refine (Jg m x hx).e ?_
 exact rS
def divC (a b:Int):Int:=if b=0\/(Lib.bitLen a.toNat:Int) - Lib.bitLen b.toNat < 0 then 2 else 3+((Lib.bitLen a.toNat:Int) - Lib.bitLen b.toNat) / 4
theorem mb {x:Int} (h:x<=4294967295):Lib.bitLen x.toNat<=32:=Rm.jl x.toNat (by omega)
theorem Fl (a b:Int) (ha:aP a) (hb:aP b):ah gT 101 [.int .u32 a,.int .u32 b] (.int .i64 (divC a b)):=by
 have h1:=mb ha.2
 have h2:=mb hb.2
 refine Spec.enter ar P101 100 Tryz.func101 rfl (by kernel_rfl) ?_
 refine (u5 a ha).u ?_
 refine (u5 b hb).u ?_
 refine li ?_
 refine⟨fun h=>?_,fun h=>And.intro (fun h3=>?_) (fun h3=>?_)⟩
 ·refine ao ?_
  exact (show (2:Int)=divC a b by unfold divC; rw[if_pos (.inl h)])
 ·refine ao ?_
  exact (show (2:Int)=divC a b by unfold divC; rw[if_pos (.inr h3)])
 ·refine⟨by decide,.inl ⟨by omega,show (Lib.bitLen a.toNat:Int) - Lib.bitLen b.toNat<=9223372036854775807 by omega,by decide,?_⟩⟩
  refine li ?_
  refine ao ?_
  exact (show (3:Int)+_=divC a b by unfold divC; rw[if_neg (by omega)])
def BB (an:Int):Prop:=bits .and .i64 (an / Ev.aD .i64 15) 1=1
instance (r:Int):Decidable (BB r):=by unfold BB; infer_instance
def mc (i:IN):Int:=if i.form=43/\BB i.an then 1+bb i.an+2 else 1+bb i.an
theorem tv (i:IN) (h0:0<=i.an) (h1:i.an<=65535):ah gT 100 [bX i] (.int .i64 (mc i)):=by
 have hb:=gP i.an h0 h1
 refine Spec.enter ar P100 100 Tryz.func100 rfl (by kernel_rfl) ?_
 refine lu ?_ (show 0<=i.an/\i.an<=_ by omega)
 refine (tj i.an h0 h1).u ?_
 refine li ?_ (show _<=1+bb i.an/\1+bb i.an<=_ by omega)
 refine⟨fun h=>?_,fun h=>?_⟩
 ·refine⟨by decide,?_⟩
  refine⟨fun ht=>?_,fun ht=>?_⟩
  ·refine li ?_ (show _<=1+bb i.an+2/\1+bb i.an+2<=_ by omega)
   exact ao (show 1+bb i.an+2=mc i by unfold mc; rw[if_pos ⟨h,ht⟩])
  ·exact ao (show 1+bb i.an=mc i by unfold mc; rw[if_neg (fun q=>ht q.2)])
 ·exact ao (show 1+bb i.an=mc i by unfold mc; rw[if_neg (fun q=>h q.1)])
def bC (f:Int):Int :=
 if f=46\/f=99 then 1 else if f=47\/f=100\/f=31 then 2 else if f=32\/f=34\/f=36\/f=38\/f=85\/f=87\/f=33\/f=35\/f=37\/f=84\/f=86\/f=93\/f=94 then 3 else if f=42\/f=43 then 4 else if f=97 then 5 else 0
def gE (i:IN) (t:Prop) [Decidable t] (a b:Int):Int:=if bC i.form=1 then (if t then 3 else 1) else if bC i.form=2 then 3 else if bC i.form=3 then 2 else if bC i.form=4 then mc i else if bC i.form=5 then divC a b else 1
theorem xj {i:IN} {t:Prop} [Decidable t] {a b:Int} (h:bC i.form=0):gE i t a b=1:=by unfold gE; rw[if_neg (by omega),if_neg (by omega),if_neg (by omega),if_neg (by omega),if_neg (by omega)]
theorem xk {i:IN} {t:Prop} [Decidable t] {a b:Int} (h:bC i.form=1):gE i t a b=(if t then 3 else 1):=by unfold gE; rw[if_pos h]
theorem oZ {i:IN} {t:Prop} [Decidable t] {a b:Int} (h:bC i.form=2):gE i t a b=3:=by unfold gE; rw[if_neg (by omega),if_pos h]
theorem eO {i:IN} {t:Prop} [Decidable t] {a b:Int} (h:bC i.form=3):gE i t a b=2:=by unfold gE; rw[if_neg (by omega),if_neg (by omega),if_pos h]
theorem xl {i:IN} {t:Prop} [Decidable t] {a b:Int} (h:bC i.form=4):gE i t a b=mc i:=by unfold gE; rw[if_neg (by omega),if_neg (by omega),if_neg (by omega),if_pos h]
theorem Dr {i:IN} {t:Prop} [Decidable t] {a b:Int} (h:bC i.form=5):gE i t a b=divC a b:=by unfold gE; rw[if_neg (by omega),if_neg (by omega),if_neg (by omega),if_neg (by omega),if_pos h]
theorem Fm (i:IN) (t:Prop) [Decidable t] (a b:Int) (hr:bQ i) (hi:fe i.av) (h0:0<=i.an) (h1:i.an<=65535) (ha:aP a) (hb:aP b):ah gT 56 [bX i,.bool t,.int .u32 a,.int .u32 b] (.tup [.int .i64 (gE i t a b),.int .i64 0]):=by
 refine Spec.enter ar P56 100 Tryz.func56 rfl (by kernel_rfl) ?_
 refine (kD i hi).u ?_
 refine⟨fun h=>absurd hr h,fun _=>?_⟩
 refine⟨fun ZY=>?_,fun ZY=>?_⟩
 ·have hc:bC i.form=1:=by rw[show i.form=46 from ZY]; rfl
  rw[xk hc]
  refine⟨fun h=>?_,fun h=>?_⟩
  ·rw[if_neg (show ¬ t from h)]
   exact ao (And.intro rfl (And.intro rfl trivial))
  ·rw[if_pos (Classical.not_not.1 (show ¬ ¬ t from h))]
   exact ao (And.intro rfl (And.intro rfl trivial))
 refine⟨fun ZZ=>?_,fun ZZ=>?_⟩
 ·have hc:bC i.form=1:=by rw[show i.form=99 from ZZ]; rfl
  rw[xk hc]
  refine⟨fun h=>?_,fun h=>?_⟩
  ·rw[if_neg (show ¬ t from h)]
   exact ao (And.intro rfl (And.intro rfl trivial))
  ·rw[if_pos (Classical.not_not.1 (show ¬ ¬ t from h))]
   exact ao (And.intro rfl (And.intro rfl trivial))
 refine⟨fun Z0=>?_,fun Z0=>?_⟩
 ·have hc:bC i.form=2:=by rw[show i.form=47 from Z0]; rfl
  rw[oZ hc]
  exact ao (And.intro rfl (And.intro rfl trivial))
 refine⟨fun Bz=>?_,fun Bz=>?_⟩
 ·have hc:bC i.form=2:=by rw[show i.form=100 from Bz]; rfl
  rw[oZ hc]
  exact ao (And.intro rfl (And.intro rfl trivial))
 refine⟨fun Z1=>?_,fun Z1=>?_⟩
 ·have hc:bC i.form=2:=by rw[show i.form=31 from Z1]; rfl
  rw[oZ hc]
  exact ao (And.intro rfl (And.intro rfl trivial))
 refine⟨fun Eg=>?_,fun Eg=>?_⟩
 ·have hc:bC i.form=3:=by rw[show i.form=32 from Eg]; rfl
  rw[eO hc]
  exact ao (And.intro rfl (And.intro rfl trivial))
 refine⟨fun Nr=>?_,fun Nr=>?_⟩
 ·have hc:bC i.form=3:=by rw[show i.form=34 from Nr]; rfl
  rw[eO hc]
  exact ao (And.intro rfl (And.intro rfl trivial))
 refine⟨fun Nt=>?_,fun Nt=>?_⟩
 ·have hc:bC i.form=3:=by rw[show i.form=36 from Nt]; rfl
  rw[eO hc]
  exact ao (And.intro rfl (And.intro rfl trivial))
 refine⟨fun Nx=>?_,fun Nx=>?_⟩
 ·have hc:bC i.form=3:=by rw[show i.form=38 from Nx]; rfl
  rw[eO hc]
  exact ao (And.intro rfl (And.intro rfl trivial))
 refine⟨fun Nv=>?_,fun Nv=>?_⟩
 ·have hc:bC i.form=3:=by rw[show i.form=85 from Nv]; rfl
  rw[eO hc]
  exact ao (And.intro rfl (And.intro rfl trivial))
 refine⟨fun Nz=>?_,fun Nz=>?_⟩
 ·have hc:bC i.form=3:=by rw[show i.form=87 from Nz]; rfl
  rw[eO hc]
  exact ao (And.intro rfl (And.intro rfl trivial))
 refine⟨fun Ns=>?_,fun Ns=>?_⟩
 ·have hc:bC i.form=3:=by rw[show i.form=33 from Ns]; rfl
  rw[eO hc]
  exact ao (And.intro rfl (And.intro rfl trivial))
 refine⟨fun Nu=>?_,fun Nu=>?_⟩
 ·have hc:bC i.form=3:=by rw[show i.form=35 from Nu]; rfl
  rw[eO hc]
  exact ao (And.intro rfl (And.intro rfl trivial))
 refine⟨fun Ny=>?_,fun Ny=>?_⟩
 ·have hc:bC i.form=3:=by rw[show i.form=37 from Ny]; rfl
  rw[eO hc]
  exact ao (And.intro rfl (And.intro rfl trivial))
 refine⟨fun Nw=>?_,fun Nw=>?_⟩
 ·have hc:bC i.form=3:=by rw[show i.form=84 from Nw]; rfl
  rw[eO hc]
  exact ao (And.intro rfl (And.intro rfl trivial))
 refine⟨fun NA=>?_,fun NA=>?_⟩
 ·have hc:bC i.form=3:=by rw[show i.form=86 from NA]; rfl
  rw[eO hc]
  exact ao (And.intro rfl (And.intro rfl trivial))
 refine⟨fun ZV=>?_,fun ZV=>?_⟩
 ·have hc:bC i.form=3:=by rw[show i.form=93 from ZV]; rfl
  rw[eO hc]
  exact ao (And.intro rfl (And.intro rfl trivial))
 refine⟨fun ZW=>?_,fun ZW=>?_⟩
 ·have hc:bC i.form=3:=by rw[show i.form=94 from ZW]; rfl
  rw[eO hc]
  exact ao (And.intro rfl (And.intro rfl trivial))
 refine⟨fun vf=>?_,fun vf=>?_⟩
 ·have hc:bC i.form=4:=by rw[show i.form=42 from vf]; rfl
  rw[xl hc]
  refine (tv i h0 h1).u ?_
  exact ao (And.intro rfl (And.intro rfl trivial))
 refine⟨fun F2=>?_,fun F2=>?_⟩
 ·have hc:bC i.form=4:=by rw[show i.form=43 from F2]; rfl
  rw[xl hc]
  refine (tv i h0 h1).u ?_
  exact ao (And.intro rfl (And.intro rfl trivial))
 refine⟨fun ZX=>?_,fun ZX=>?_⟩
 ·have hc:bC i.form=5:=by rw[show i.form=97 from ZX]; rfl
  rw[Dr hc]
  refine (Fl a b ha hb).u ?_
  exact ao (And.intro rfl (And.intro rfl trivial))
 ·have hc:bC i.form=0:=by unfold bC; rw[if_neg (by omega),if_neg (by omega),if_neg (by omega),if_neg (by omega),if_neg (by omega)]
  rw[xj hc]
  exact ao (And.intro rfl (And.intro rfl trivial))
def cW (a:Int):Int:=a / 16
def NG (full:Prop) (line:Int):PV:=.agg [.bool full,.int .u32 line]
theorem BC (n:Int):ah gT 102 [.int .i64 n] (.bool (n=2\/n=4)):=by
 refine Spec.enter ar P102 100 Tryz.func102 rfl (by kernel_rfl) ?_
 refine⟨fun h=>?_,fun h=>?_⟩
 ·exact ao (show n=2\/n=4 from .inl h)
 ·exact ao (show n=4↔(n=2\/n=4) from ⟨.inr,fun q=>q.elim (fun e=>absurd e h) id⟩)
theorem vg (a:Int) (ha:aP a):ah gT 104 [.int .u32 a] (.int .u32 (cW a)):=by
 refine Spec.enter ar P104 100 Tryz.func104 rfl (by kernel_rfl) ?_
 refine And.intro (show (16:Int)≠0 by decide) (.inl ⟨ha.1,show a<=4294967295 from ha.2,show (0:Int) < 16 by decide,?_⟩)
 exact ao rfl
def eP (full:Prop) [Decidable full] (line l:Int):Int:=if full/\line=l then 0 else 1
theorem vh (full:Prop) [Decidable full] (line l:Int):ah gT 103 [NG full line,.int .u32 l] (.tup [NG True l,.int .i64 (eP full line l)]):=by
 refine Spec.enter ar P103 100 Tryz.func103 rfl (by kernel_rfl) ?_
 refine⟨fun h=>?_,fun h=>?_⟩
 ·refine⟨fun hl=>?_,fun hl=>?_⟩
  ·have e:eP full line l=0:=by unfold eP; rw[if_pos ⟨h,hl⟩]
   rw[e]
   exact ao (And.intro (And.intro (iff_true_intro h) (And.intro hl trivial)) (And.intro rfl trivial))
  ·have e:eP full line l=1:=by unfold eP; rw[if_neg (fun q=>hl q.2)]
   rw[e]
   exact ao (And.intro (And.intro trivial (And.intro rfl trivial)) (And.intro rfl trivial))
 ·have e:eP full line l=1:=by unfold eP; rw[if_neg (fun q=>h q.1)]
  rw[e]
  exact ao (And.intro (And.intro trivial (And.intro rfl trivial)) (And.intro rfl trivial))
def o1 (at_ n:Int):Int:=if n=2 then cW at_ else cW (IntKind.u32.wrap (at_+2))
def m7 (full:Prop) [Decidable full] (line at_ n:Int):Int:=if n=2 then eP full line (cW at_) else eP full line (cW at_)+eP True (cW at_) (cW (IntKind.u32.wrap (at_+2)))
theorem o4 (full:Prop) [Decidable full] (line l:Int):0<=eP full line l/\eP full line l<=1:=by unfold eP; split<;>omega
theorem BD (full:Prop) [Decidable full] (line at_ n:Int) (ha:aP at_) (hn:n=2\/n=4):ah gT 57 [NG full line,.int .u32 at_,.int .i64 n] (.tup [NG True (o1 at_ n),.int .i64 (m7 full line at_ n)]):=by
 have b1:=o4 full line (cW at_)
 have b2:=o4 True (cW at_) (cW (IntKind.u32.wrap (at_+2)))
 refine Spec.enter ar P57 100 Tryz.func57 rfl (by kernel_rfl) ?_
 refine (BC n).u ?_
 refine⟨fun h=>absurd hn h,fun _=>?_⟩
 refine (vg at_ ha).u ?_
 refine (vh full line (cW at_)).u ?_
 refine⟨fun h=>?_,fun h=>?_⟩
 ·have e1:o1 at_ n=cW at_:=by unfold o1; rw[if_pos h]
  have e2:m7 full line at_ n=eP full line (cW at_):=by unfold m7; rw[if_pos h]
  rw[e1,e2]
  exact rA
 ·have e1:o1 at_ n=cW (IntKind.u32.wrap (at_+2)):=by unfold o1; rw[if_neg h]
  have e2:m7 full line at_ n=eP full line (cW at_)+eP True (cW at_) (cW (IntKind.u32.wrap (at_+2))):=by unfold m7; rw[if_neg h]
  rw[e1,e2]
  refine .inr ?_
  refine (vg (IntKind.u32.wrap (at_+2)) (wrap_u32 _)).u ?_
  refine (vh True (cW at_) (cW (IntKind.u32.wrap (at_+2)))).u ?_
  refine li ?_
  exact rA
theorem NH:∀ s:Fin 35,(cU (s.1:Int)).an=0\/(cU (s.1:Int)).an=16639\/(cU (s.1:Int)).an=33023:=by decide
theorem Fo (f:Int):0<=ae f/\ae f<=34:=by
 unfold ae
 split
 ·have key:∀ n:Fin 101,0<=Kc.getD n.1 0/\Kc.getD n.1 0<=34:=by decide
  exact key ⟨f.toNat,by omega⟩
 ·decide
theorem ju {i:IN} (h:bQ i) (hi:tR i):0<=i.an/\i.an<=65535:=by
 obtain⟨hf,h1,h2,h3,h4,h5,_⟩:=h
 have hb:=Fo i.form
 have hr:=NH ⟨(ae i.form).toNat,by omega⟩
 rw[show (((⟨(ae i.form).toNat,by omega⟩:Fin 35).1:Nat):Int)=ae i.form by simp only[]; omega] at hr
 have hI:=hi i.an (by simp[lW])
 rcases h5 with ⟨_,e⟩|⟨hn,h0,ha⟩
 ·omega
 ·rcases hr with e|e|e
  ·exact absurd e hn
  ·rw[e] at ha
   have:=mB 14 (by decide) (by decide) i.an 16639 (by decide) h0 hI.2 ha
   omega
  ·rw[e] at ha
   have:=mB 15 (by decide) (by decide) i.an 33023 (by decide) h0 hI.2 ha
   omega
theorem Fp {i:IN} (h:bQ i) (hs:ae i.form=21\/ae i.form=22\/ae i.form=23):0<=i.kind/\i.kind<=3/\0<=i.bG/\i.bG<=255:=by
 obtain⟨hf,h1,h2,h3,h4,h5,h6,h7,h8,h9,cY⟩:=h
 have hk:(cU (ae i.form)).kind=true:=by rcases hs with e|e|e<;>rw[e]<;>rfl
 rcases h9 with ⟨_,hb⟩|⟨hn,_⟩
 ·unfold bM at hb; omega
 ·exact absurd hk hn
theorem Fq {f:Int} (h:1<=f/\f<=3):ae f=1:=by
 rcases (show f=1\/f=2\/f=3 by omega) with rfl|rfl|rfl<;>decide
theorem Fs {i:IN} (h:bQ i) (hf:1<=i.form/\i.form<=3):0<=i.av/\i.av<=32:=by
 obtain⟨_,h1,h2,h3,h4,h5,h6,h7,h8,h9,cY⟩:=h
 rw[Fq hf] at h7
 have e0:(cU 1).i0=0:=rfl
 have e1:(cU 1).i1=32:=rfl
 rcases h7 with ⟨_,e⟩|⟨_,a,b,_⟩<;>omega
theorem Ft {i:IN} (h:bQ i) (hf:i.form=86\/i.form=87):0<=i.bG/\i.bG<=3:=by
 obtain⟨_,h1,h2,h3,h4,h5,h6,h7,h8,h9,cY⟩:=h
 have hs:ae i.form=26:=by rcases hf with e|e<;>rw[e]<;>decide
 rw[hs] at h9
 have e0:(cU 26).b0=0:=rfl
 have e1:(cU 26).b1=3:=rfl
 rcases h9 with ⟨hk,_⟩|⟨_,_,⟨_,e⟩|⟨_,a,b,_⟩⟩
 ·exact absurd hk (by decide)
 ·omega
 ·omega
structure qL (s:RS):Prop where
 r:∀ k,aP (s.R k)
 n:0<=s.N/\s.N<=1
 z:0<=s.Z/\s.Z<=1
 c:0<=s.C/\s.C<=1
 v:0<=s.V/\s.V<=1
def cD (s:RS) (i:IN):XS:=⟨i,{ s with R:=s_ s.R 15 (IntKind.u32.wrap (s.R 15+IntKind.u32.wrap (dN i.form))) },s.R 15,False,0,0,0,0,0,0⟩
theorem pS {R:Nat->Int} {i v:Int} (h:∀ k,aP (R k)) (hv:aP v):∀ k,aP (s_ R i v k):=fun k=>by
 unfold s_; split
 ·exact hv
 ·exact h k
theorem j7 {s:RS} {i:IN} (hs:qL s) (h:bQ i) (hi:tR i):iX (cD s i) where
 rd:=⟨(ik h.2.1).1,by have:=(ik h.2.1).2; show _<=(15:Int); exact Int.le_of_lt this⟩
 rn:=⟨(ik h.2.2.1).1,by have:=(ik h.2.2.1).2; show _<=(15:Int); exact Int.le_of_lt this⟩
 rm:=⟨(ik h.2.2.2.1).1,by have:=(ik h.2.2.2.1).2; show _<=(15:Int); exact Int.le_of_lt this⟩
 ra:=⟨(ik h.2.2.2.2.1).1,by have:=(ik h.2.2.2.2.1).2; show _<=(15:Int); exact Int.le_of_lt this⟩
 av:=hi i.av (by simp[lW])
 bar:=Fp h
 low:=Fs h
 idx:=Ft h
 an:=ju h hi
 r:=pS hs.r (wrap_u32 _)
 n:=hs.n
 z:=hs.z
 c:=hs.c
 v:=hs.v
instance (h:Int):Decidable (cL h):=by unfold cL; infer_instance
def gF (fl:List Int) (a:Int):Int:=fx fl a*65536+fx fl (IntKind.u32.wrap (a+2))
noncomputable def fp (fl:List Int) (a:Int):Int :=
 if jr fl a≠0 then jr fl a else if ¬ cL (fx fl a) then sZ (fx fl a) False else if jr fl (IntKind.u32.wrap (a+2))≠0 then jr fl (IntKind.u32.wrap (a+2)) else sZ (gF fl a) True
noncomputable def cE (fl:List Int) (a:Int):IN :=
 if jr fl a≠0 then iZ else if ¬ cL (fx fl a) then ri (fx fl a) False else if jr fl (IntKind.u32.wrap (a+2))≠0 then iZ else ri (gF fl a) True
theorem nP {fl:List Int} (hb:w9 fl) (a:Int):0<=fx fl a/\fx fl a<=65535:=by
 unfold fx
 split
 ·decide
 ·split
  ·exact Iv hb _
  ·decide
theorem zP {fl:List Int} (hb:w9 fl) (a:Int):bits .or .u32 (fx fl a*65536) (fx fl (IntKind.u32.wrap (a+2)))=gF fl a:=by
 have b1:=nP hb a
 have b2:=nP hb (IntKind.u32.wrap (a+2))
 exact (fR (fx fl (IntKind.u32.wrap (a+2))) (fx fl a) 16 (by decide) (show 0<=_/\_ < (65536:Int) by omega) (show 0<=fx fl a/\fx fl a*65536<=_ by omega)).2
theorem zQ {fl:List Int} (hb:w9 fl) (a:Int):aP (gF fl a):=by
 have b1:=nP hb a
 have b2:=nP hb (IntKind.u32.wrap (a+2))
 unfold gF aP; omega
theorem Jl (m:MS) (a:Int) (hm:BA m) (ha:aP a):Spec gT 52 [.ptr 2 0,.int .u32 a] (stM m) [] fun y S'=>y = .tup [bX (cE m.fl a),.int .i64 (fp m.fl a)]/\S'=stM m:=by
 have bh:=nP hm.fl a
 have uh:aP (fx m.fl a):=⟨bh.1,by omega⟩
 have kE:fp m.fl a=if jr m.fl a≠0 then jr m.fl a else if ¬ cL (fx m.fl a) then sZ (fx m.fl a) False else if jr m.fl (IntKind.u32.wrap (a+2))≠0 then jr m.fl (IntKind.u32.wrap (a+2)) else sZ (gF m.fl a) True:=rfl
 have kI:cE m.fl a=if jr m.fl a≠0 then iZ else if ¬ cL (fx m.fl a) then ri (fx m.fl a) False else if jr m.fl (IntKind.u32.wrap (a+2))≠0 then iZ else ri (gF m.fl a) True:=rfl
 refine Spec.kB (Spec.enter ar P52 100 Tryz.func52 rfl (by kernel_rfl) ?_)
 refine (Da m.w m.fl a ha hm.fl hm.len).e ?_
 refine⟨fun h=>?_,fun h=>?_⟩
 ·have h':jr m.fl a≠0:=h
  rw[if_pos h'] at kE kI
  rw[kE,kI]
  exact rS
 rw[if_neg (show ¬ jr m.fl a≠0 from h)] at kE kI
 refine (zo (fx m.fl a) uh).u ?_
 refine⟨fun h1=>?_,fun h1=>?_⟩
 ·rw[if_pos (show ¬ cL (fx m.fl a) from h1)] at kE kI
  rw[kE,kI]
  refine⟨[],aT,(C1 (fx m.fl a) False uh).use (And.intro rfl (And.intro not_false trivial)) rfl rfl ?_⟩
  exact rS
 rw[if_neg (show ¬ ¬ cL (fx m.fl a) from h1)] at kE kI
 refine .inr ?_
 refine (Da m.w m.fl (IntKind.u32.wrap (a+2)) (wrap_u32 _) hm.fl hm.len).e ?_
 refine⟨fun h=>?_,fun h=>?_⟩
 ·rw[if_pos (show jr m.fl (IntKind.u32.wrap (a+2))≠0 from h)] at kE kI
  rw[kE,kI]
  exact rS
 rw[if_neg (show ¬ jr m.fl (IntKind.u32.wrap (a+2))≠0 from h)] at kE kI
 have hw:=C1 (gF m.fl a) True (zQ hm.fl a)
 rw[← zP hm.fl a] at hw
 rw[kE,kI,← zP hm.fl a]
 refine⟨by decide,.inl ⟨af (show 0<=fx m.fl a*65536/\fx m.fl a*65536<=_ by omega),?_⟩⟩
 refine hw.u ?_
 exact rS
def nQ (m:MS) (e:Int):MS:={ m with kind:=3,code:=e }
def Z3 (a d w c n:Int):PV:=.agg [.int .u32 a,.int .u32 d,.int .i64 w,.int .i64 c,.int .i64 n]
theorem zR (m:MS) (e:Int):Spec gT 53 [.ptr 2 0,.int .i64 e] (stM m) [] fun y S'=>y = .tup [Z3 0 0 0 0 0,.int .i64 10]/\S'=stM (nQ m e):=by
 refine Spec.kB (Spec.enter ar P53 100 Tryz.func53 rfl (by kernel_rfl) ?_)
 exact rS
end Go.Proofs.YtnbngokbamifbaaGreatDoor.Pw

/- What this claim is proved with: no condition. -/
import Derived.Test.YtlgkljpgagfndaaGreatDoorNv29
import Derived.Test.YtlgkljpgagfndaaGreatDoorNv24
set_option maxRecDepth 100000
set_option maxHeartbeats 16000000
set_option linter.unusedVariables false
set_option linter.unusedSimpArgs false
namespace Go.Proofs.YtlgkljpgagfndaaGreatDoor.Pw
open Go Go.RowKit
open Classical in
noncomputable def cH (k n v0 v1 v2 v3:Int):Int :=
 if k=1 then n else if k=7 then bits .and .u32 v0 v1 else if k=8 then bits .or .u32 v0 v1 else if k=9 then bits .xor .u32 v0 v1 else if k=10 then (v0+v1) % 4294967296 else if k=11 then (v0 - v1) % 4294967296 else if k=12 then v0*v1 % 4294967296 else if k=13 then gP 0 v0 (v1 % 256) else if k=14 then gP 1 v0 (v1 % 256) else if k=15 then gP 3 v0 (v1 % 256) else if k=16 then 4294967295 - v0 else if k=17 then (-v0) % 4294967296 else if k=18 then gP 0 v0 (n % 256) else if k=19 then gP 1 v0 (n % 256) else if k=20 then gP 3 v0 (n % 256) else if k=21 then (if v0 < v1 then 1 else 0) else if k=22 then (if v0=v1 then 1 else 0) else if k=23 then (v1*4294967296+v0+(v3*4294967296+v2)) % 18446744073709551616 else if k=24 then (v1*4294967296+v0 - (v3*4294967296+v2)) % 18446744073709551616 else if k=25 then (if v1*4294967296+v0 < v3*4294967296+v2 then 1 else 0) else if k=26 then v0*v1 else if k=27 then (-(v0 % 2)) % 4294967296 else if k=28 then (if 0 < v1 then v0 / v1 else 0) else if k=29 then (v0 - v1*v2 % 4294967296) % 4294967296 else 0
theorem yg {a b:Int} (ha:a_ a) (hb:a_ b):0<=a*b/\a*b<=18446744065119617025:=by
 unfold a_ at ha hb
 refine⟨Int.mul_nonneg ha.1 hb.1,?_⟩
 have:=Int.mul_le_mul ha.2 hb.2 hb.1 (by decide)
 exact this
def vD (f:Int) (s:RS):Int:=if 0<=f then s.R f.toNat else 0
theorem cu {f:Int} {s:RS} (h:0<=f):vD f s=s.R f.toNat:=if_pos h
noncomputable def cU (o:VO) (s:RS):Int:=if o.kind=4 then (s.R 13+o.n) % 4294967296 else cH o.kind o.n (vD o.f0 s) (vD o.f1 s) (vD o.f2 s) (vD o.f3 s)
def gv (o:VO) (s s':RS):Prop:=∀ n:Nat,n < 15->s'.R n=kx (kx s.R o.t0 (cU o s % 4294967296)) o.t1 (cU o s / 4294967296) n
theorem cS {o:VO} {s s':RS} {v:Int} (h:Sets s s' o.t0 v) (e:cU o s=v) (hv:a_ v) (ht:o.t1 = -1):gv o s s':=fun n hn=>by
 unfold a_ at hv
 rw[h n hn,e,ht]
 unfold kx
 rw[if_neg (show ¬ (-1:Int)=(n:Int) by omega)]
 split
 ·omega
 ·rfl
theorem sc {o:VO} {s s':RS} {v:Int} (h:BF s s' o.t0 (v % 4294967296) o.t1 (v / 4294967296)) (e:cU o s=v):gv o s s':=fun n hn=>by
 rw[h n hn,e]
theorem vJ (p:Prop) [Decidable p]:a_ (if p then 1 else 0):=by split<;>(unfold a_; omega)
theorem sd {x y:Int} (hx:a_ x) (hy:a_ y):a_ (if 0 < y then x / y else 0):=by
 unfold a_ at hx hy ⊢
 split
 ·have h1:0<=x / y:=Int.ediv_nonneg hx.1 hy.1
  have h2:x / y<=x:=Int.ediv_le_self _ hx.1
  omega
 ·omega
theorem op_1 (o:VO) (hk:o.kind=1) (hv:aM o) (hp:(ae o.t0 o.f0/\ae o.t0 o.f1/\ae o.t0 o.f2/\ae o.t0 o.f3)/\(ae o.t1 o.f0/\ae o.t1 o.f1/\ae o.t1 o.f2/\ae o.t1 o.f3)) (hn:0<=o.n/\o.n<=4294967295) (s:RS) (hs:eh s):gv o s (dC s (av o)):=by
 obtain⟨_,⟨p0,p1⟩,⟨q0,q1,q2,q3⟩,hd,aZ⟩:=hv
 have b0:=hp.1.1.1
 have b1:=hp.2.1.1
 have c0:=hp.1.1.2.1
 have c1:=hp.1.2.1.2.1
 have c2:=hp.1.2.2.1.2.1
 have c3:=hp.1.2.2.2.2.1
 have d0:=hp.1.1.2.2
 have d1:=hp.1.2.1.2.2
 have d2:=hp.1.2.2.1.2.2
 have d3:=hp.1.2.2.2.2.2
 clear hp
 rw[hk] at p0 p1 q0 q1 q2 q3 hd aZ
 rw[show cz 1=1 by decide] at p0 p1 hd
 rw[show aH 1=0 by decide] at q0 q1 q2 q3
 unfold da at p0 p1 q0 q1 q2 q3
 unfold cC at aZ
 have g0:0<=o.t0/\o.t0 < 15:=by clear aZ hd q0 q1 q2 q3 d0 d1 d2 d3; omega
 have g1:o.t1 = -1:=by clear aZ hd q0 q1 q2 q3 d0 d1 d2 d3; omega
 clear aZ hd p0 p1 q0 q1 q2 q3 b0 b1 c0 c1 c2 c3 d0 d1 d2 d3
 have eL:av o=jk o.t0 o.n:=by unfold av bo aJ aK aL aC; rw[hk]; simp
 have eV:cU o s=o.n:=by
  unfold cU cH
  rw[hk]
  simp only[Int.reduceEq,if_true,if_false,reduceIte]
 rw[eL]
 exact cS (o_1 g0 hn) eV (hn) g1
theorem op_4 (o:VO) (hk:o.kind=4) (hv:aM o) (hp:(ae o.t0 o.f0/\ae o.t0 o.f1/\ae o.t0 o.f2/\ae o.t0 o.f3)/\(ae o.t1 o.f0/\ae o.t1 o.f1/\ae o.t1 o.f2/\ae o.t1 o.f3)) (hn:0<=o.n/\o.n<=4294967295) (s:RS) (hs:eh s):gv o s (dC s (av o)):=by
 obtain⟨_,⟨p0,p1⟩,⟨q0,q1,q2,q3⟩,hd,aZ⟩:=hv
 have b0:=hp.1.1.1
 have b1:=hp.2.1.1
 have c0:=hp.1.1.2.1
 have c1:=hp.1.2.1.2.1
 have c2:=hp.1.2.2.1.2.1
 have c3:=hp.1.2.2.2.2.1
 have d0:=hp.1.1.2.2
 have d1:=hp.1.2.1.2.2
 have d2:=hp.1.2.2.1.2.2
 have d3:=hp.1.2.2.2.2.2
 clear hp
 rw[hk] at p0 p1 q0 q1 q2 q3 hd aZ
 rw[show cz 4=1 by decide] at p0 p1 hd
 rw[show aH 4=0 by decide] at q0 q1 q2 q3
 unfold da at p0 p1 q0 q1 q2 q3
 unfold cC at aZ
 have g0:0<=o.t0/\o.t0 < 15:=by clear aZ hd q0 q1 q2 q3 d0 d1 d2 d3; omega
 have g1:o.t1 = -1:=by clear aZ hd q0 q1 q2 q3 d0 d1 d2 d3; omega
 clear aZ hd p0 p1 q0 q1 q2 q3 b0 b1 c0 c1 c2 c3 d0 d1 d2 d3
 have eL:av o = [iM 39 o.t0 o.n]:=by unfold av bo aJ aK aL aC; rw[hk]; rfl
 have eV:cU o s=(s.R 13+o.n) % 4294967296:=by
  unfold cU cH
  rw[hk]
  simp only[Int.reduceEq,if_true,if_false,reduceIte]
 rw[eL]
 exact cS (f_39 hn) eV (fN _) g1
theorem op_7 (o:VO) (hk:o.kind=7) (hv:aM o) (hp:(ae o.t0 o.f0/\ae o.t0 o.f1/\ae o.t0 o.f2/\ae o.t0 o.f3)/\(ae o.t1 o.f0/\ae o.t1 o.f1/\ae o.t1 o.f2/\ae o.t1 o.f3)) (hn:0<=o.n/\o.n<=4294967295) (s:RS) (hs:eh s):gv o s (dC s (av o)):=by
 obtain⟨_,⟨p0,p1⟩,⟨q0,q1,q2,q3⟩,hd,aZ⟩:=hv
 have b0:=hp.1.1.1
 have b1:=hp.2.1.1
 have c0:=hp.1.1.2.1
 have c1:=hp.1.2.1.2.1
 have c2:=hp.1.2.2.1.2.1
 have c3:=hp.1.2.2.2.2.1
 have d0:=hp.1.1.2.2
 have d1:=hp.1.2.1.2.2
 have d2:=hp.1.2.2.1.2.2
 have d3:=hp.1.2.2.2.2.2
 clear hp
 rw[hk] at p0 p1 q0 q1 q2 q3 hd aZ
 rw[show cz 7=1 by decide] at p0 p1 hd
 rw[show aH 7=2 by decide] at q0 q1 q2 q3
 unfold da at p0 p1 q0 q1 q2 q3
 unfold cC at aZ
 have g0:0<=o.t0/\o.t0 < 15:=by clear aZ hd q0 q1 q2 q3 d0 d1 d2 d3; omega
 have g1:o.t1 = -1:=by clear aZ hd q0 q1 q2 q3 d0 d1 d2 d3; omega
 have r0:0<=o.f0/\o.f0 < 15:=by clear aZ hd p0 p1 d0 d1 d2 d3; omega
 have r1:0<=o.f1/\o.f1 < 15:=by clear aZ hd p0 p1 d0 d1 d2 d3; omega
 clear aZ hd p0 p1 q0 q1 q2 q3 b0 b1 c0 c1 c2 c3 d0 d1 d2 d3
 have eL:av o = [iF 66 o.t0 o.f0 o.f1]:=by unfold av bo aJ aK aL aC; rw[hk]; rfl
 have eV:cU o s=bits .and .u32 (s.R o.f0.toNat) (s.R o.f1.toNat):=by
  unfold cU cH
  rw[hk]
  simp only[Int.reduceEq,if_true,if_false,reduceIte]
  rw[cu r0.1,cu r1.1]
 rw[eL]
 exact cS ((f_66 g0.1 r0 r1 (hs.r _)).1) eV ((dX (hs.r _) (hs.r _)).1) g1
theorem op_8 (o:VO) (hk:o.kind=8) (hv:aM o) (hp:(ae o.t0 o.f0/\ae o.t0 o.f1/\ae o.t0 o.f2/\ae o.t0 o.f3)/\(ae o.t1 o.f0/\ae o.t1 o.f1/\ae o.t1 o.f2/\ae o.t1 o.f3)) (hn:0<=o.n/\o.n<=4294967295) (s:RS) (hs:eh s):gv o s (dC s (av o)):=by
 obtain⟨_,⟨p0,p1⟩,⟨q0,q1,q2,q3⟩,hd,aZ⟩:=hv
 have b0:=hp.1.1.1
 have b1:=hp.2.1.1
 have c0:=hp.1.1.2.1
 have c1:=hp.1.2.1.2.1
 have c2:=hp.1.2.2.1.2.1
 have c3:=hp.1.2.2.2.2.1
 have d0:=hp.1.1.2.2
 have d1:=hp.1.2.1.2.2
 have d2:=hp.1.2.2.1.2.2
 have d3:=hp.1.2.2.2.2.2
 clear hp
 rw[hk] at p0 p1 q0 q1 q2 q3 hd aZ
 rw[show cz 8=1 by decide] at p0 p1 hd
 rw[show aH 8=2 by decide] at q0 q1 q2 q3
 unfold da at p0 p1 q0 q1 q2 q3
 unfold cC at aZ
 have g0:0<=o.t0/\o.t0 < 15:=by clear aZ hd q0 q1 q2 q3 d0 d1 d2 d3; omega
 have g1:o.t1 = -1:=by clear aZ hd q0 q1 q2 q3 d0 d1 d2 d3; omega
 have r0:0<=o.f0/\o.f0 < 15:=by clear aZ hd p0 p1 d0 d1 d2 d3; omega
 have r1:0<=o.f1/\o.f1 < 15:=by clear aZ hd p0 p1 d0 d1 d2 d3; omega
 clear aZ hd p0 p1 q0 q1 q2 q3 b0 b1 c0 c1 c2 c3 d0 d1 d2 d3
 have eL:av o = [iF 68 o.t0 o.f0 o.f1]:=by unfold av bo aJ aK aL aC; rw[hk]; rfl
 have eV:cU o s=bits .or .u32 (s.R o.f0.toNat) (s.R o.f1.toNat):=by
  unfold cU cH
  rw[hk]
  simp only[Int.reduceEq,if_true,if_false,reduceIte]
  rw[cu r0.1,cu r1.1]
 rw[eL]
 exact cS ((f_68 g0.1 r0 r1 (hs.r _)).1) eV ((dX (hs.r _) (hs.r _)).2.1) g1
theorem op_9 (o:VO) (hk:o.kind=9) (hv:aM o) (hp:(ae o.t0 o.f0/\ae o.t0 o.f1/\ae o.t0 o.f2/\ae o.t0 o.f3)/\(ae o.t1 o.f0/\ae o.t1 o.f1/\ae o.t1 o.f2/\ae o.t1 o.f3)) (hn:0<=o.n/\o.n<=4294967295) (s:RS) (hs:eh s):gv o s (dC s (av o)):=by
 obtain⟨_,⟨p0,p1⟩,⟨q0,q1,q2,q3⟩,hd,aZ⟩:=hv
 have b0:=hp.1.1.1
 have b1:=hp.2.1.1
 have c0:=hp.1.1.2.1
 have c1:=hp.1.2.1.2.1
 have c2:=hp.1.2.2.1.2.1
 have c3:=hp.1.2.2.2.2.1
 have d0:=hp.1.1.2.2
 have d1:=hp.1.2.1.2.2
 have d2:=hp.1.2.2.1.2.2
 have d3:=hp.1.2.2.2.2.2
 clear hp
 rw[hk] at p0 p1 q0 q1 q2 q3 hd aZ
 rw[show cz 9=1 by decide] at p0 p1 hd
 rw[show aH 9=2 by decide] at q0 q1 q2 q3
 unfold da at p0 p1 q0 q1 q2 q3
 unfold cC at aZ
 have g0:0<=o.t0/\o.t0 < 15:=by clear aZ hd q0 q1 q2 q3 d0 d1 d2 d3; omega
 have g1:o.t1 = -1:=by clear aZ hd q0 q1 q2 q3 d0 d1 d2 d3; omega
 have r0:0<=o.f0/\o.f0 < 15:=by clear aZ hd p0 p1 d0 d1 d2 d3; omega
 have r1:0<=o.f1/\o.f1 < 15:=by clear aZ hd p0 p1 d0 d1 d2 d3; omega
 clear aZ hd p0 p1 q0 q1 q2 q3 b0 b1 c0 c1 c2 c3 d0 d1 d2 d3
 have eL:av o = [iF 70 o.t0 o.f0 o.f1]:=by unfold av bo aJ aK aL aC; rw[hk]; rfl
 have eV:cU o s=bits .xor .u32 (s.R o.f0.toNat) (s.R o.f1.toNat):=by
  unfold cU cH
  rw[hk]
  simp only[Int.reduceEq,if_true,if_false,reduceIte]
  rw[cu r0.1,cu r1.1]
 rw[eL]
 exact cS ((ZD g0.1 r0 r1 (hs.r _)).1) eV ((dX (hs.r _) (hs.r _)).2.2.1) g1
theorem ZF (o:VO) (hk:o.kind=10) (hv:aM o) (hp:(ae o.t0 o.f0/\ae o.t0 o.f1/\ae o.t0 o.f2/\ae o.t0 o.f3)/\(ae o.t1 o.f0/\ae o.t1 o.f1/\ae o.t1 o.f2/\ae o.t1 o.f3)) (hn:0<=o.n/\o.n<=4294967295) (s:RS) (hs:eh s):gv o s (dC s (av o)):=by
 obtain⟨_,⟨p0,p1⟩,⟨q0,q1,q2,q3⟩,hd,aZ⟩:=hv
 have b0:=hp.1.1.1
 have b1:=hp.2.1.1
 have c0:=hp.1.1.2.1
 have c1:=hp.1.2.1.2.1
 have c2:=hp.1.2.2.1.2.1
 have c3:=hp.1.2.2.2.2.1
 have d0:=hp.1.1.2.2
 have d1:=hp.1.2.1.2.2
 have d2:=hp.1.2.2.1.2.2
 have d3:=hp.1.2.2.2.2.2
 clear hp
 rw[hk] at p0 p1 q0 q1 q2 q3 hd aZ
 rw[show cz 10=1 by decide] at p0 p1 hd
 rw[show aH 10=2 by decide] at q0 q1 q2 q3
 unfold da at p0 p1 q0 q1 q2 q3
 unfold cC at aZ
 have g0:0<=o.t0/\o.t0 < 15:=by clear aZ hd q0 q1 q2 q3 d0 d1 d2 d3; omega
 have g1:o.t1 = -1:=by clear aZ hd q0 q1 q2 q3 d0 d1 d2 d3; omega
 have r0:0<=o.f0/\o.f0 < 15:=by clear aZ hd p0 p1 d0 d1 d2 d3; omega
 have r1:0<=o.f1/\o.f1 < 15:=by clear aZ hd p0 p1 d0 d1 d2 d3; omega
 clear aZ hd p0 p1 q0 q1 q2 q3 b0 b1 c0 c1 c2 c3 d0 d1 d2 d3
 have eL:av o = [iF 4 o.t0 o.f0 o.f1]:=by unfold av bo aJ aK aL aC; rw[hk]; rfl
 have eV:cU o s=(s.R o.f0.toNat+s.R o.f1.toNat) % 4294967296:=by
  unfold cU cH
  rw[hk]
  simp only[Int.reduceEq,if_true,if_false,reduceIte]
  rw[cu r0.1,cu r1.1]
 rw[eL]
 exact cS ((f_4 g0.1 r0 r1).1) eV (fN _) g1
theorem ZG (o:VO) (hk:o.kind=11) (hv:aM o) (hp:(ae o.t0 o.f0/\ae o.t0 o.f1/\ae o.t0 o.f2/\ae o.t0 o.f3)/\(ae o.t1 o.f0/\ae o.t1 o.f1/\ae o.t1 o.f2/\ae o.t1 o.f3)) (hn:0<=o.n/\o.n<=4294967295) (s:RS) (hs:eh s):gv o s (dC s (av o)):=by
 obtain⟨_,⟨p0,p1⟩,⟨q0,q1,q2,q3⟩,hd,aZ⟩:=hv
 have b0:=hp.1.1.1
 have b1:=hp.2.1.1
 have c0:=hp.1.1.2.1
 have c1:=hp.1.2.1.2.1
 have c2:=hp.1.2.2.1.2.1
 have c3:=hp.1.2.2.2.2.1
 have d0:=hp.1.1.2.2
 have d1:=hp.1.2.1.2.2
 have d2:=hp.1.2.2.1.2.2
 have d3:=hp.1.2.2.2.2.2
 clear hp
 rw[hk] at p0 p1 q0 q1 q2 q3 hd aZ
 rw[show cz 11=1 by decide] at p0 p1 hd
 rw[show aH 11=2 by decide] at q0 q1 q2 q3
 unfold da at p0 p1 q0 q1 q2 q3
 unfold cC at aZ
 have g0:0<=o.t0/\o.t0 < 15:=by clear aZ hd q0 q1 q2 q3 d0 d1 d2 d3; omega
 have g1:o.t1 = -1:=by clear aZ hd q0 q1 q2 q3 d0 d1 d2 d3; omega
 have r0:0<=o.f0/\o.f0 < 15:=by clear aZ hd p0 p1 d0 d1 d2 d3; omega
 have r1:0<=o.f1/\o.f1 < 15:=by clear aZ hd p0 p1 d0 d1 d2 d3; omega
 clear aZ hd p0 p1 q0 q1 q2 q3 b0 b1 c0 c1 c2 c3 d0 d1 d2 d3
 have eL:av o = [iF 5 o.t0 o.f0 o.f1]:=by unfold av bo aJ aK aL aC; rw[hk]; rfl
 have eV:cU o s=(s.R o.f0.toNat - s.R o.f1.toNat) % 4294967296:=by
  unfold cU cH
  rw[hk]
  simp only[Int.reduceEq,if_true,if_false,reduceIte]
  rw[cu r0.1,cu r1.1]
 rw[eL]
 exact cS ((f_5 g0.1 r0 r1 (hs.r _) (hs.r _)).1) eV (fN _) g1
theorem ZH (o:VO) (hk:o.kind=12) (hv:aM o) (hp:(ae o.t0 o.f0/\ae o.t0 o.f1/\ae o.t0 o.f2/\ae o.t0 o.f3)/\(ae o.t1 o.f0/\ae o.t1 o.f1/\ae o.t1 o.f2/\ae o.t1 o.f3)) (hn:0<=o.n/\o.n<=4294967295) (s:RS) (hs:eh s):gv o s (dC s (av o)):=by
 obtain⟨_,⟨p0,p1⟩,⟨q0,q1,q2,q3⟩,hd,aZ⟩:=hv
 have b0:=hp.1.1.1
 have b1:=hp.2.1.1
 have c0:=hp.1.1.2.1
 have c1:=hp.1.2.1.2.1
 have c2:=hp.1.2.2.1.2.1
 have c3:=hp.1.2.2.2.2.1
 have d0:=hp.1.1.2.2
 have d1:=hp.1.2.1.2.2
 have d2:=hp.1.2.2.1.2.2
 have d3:=hp.1.2.2.2.2.2
 clear hp
 rw[hk] at p0 p1 q0 q1 q2 q3 hd aZ
 rw[show cz 12=1 by decide] at p0 p1 hd
 rw[show aH 12=2 by decide] at q0 q1 q2 q3
 unfold da at p0 p1 q0 q1 q2 q3
 unfold cC at aZ
 have g0:0<=o.t0/\o.t0 < 15:=by clear aZ hd q0 q1 q2 q3 d0 d1 d2 d3; omega
 have g1:o.t1 = -1:=by clear aZ hd q0 q1 q2 q3 d0 d1 d2 d3; omega
 have r0:0<=o.f0/\o.f0 < 15:=by clear aZ hd p0 p1 d0 d1 d2 d3; omega
 have r1:0<=o.f1/\o.f1 < 15:=by clear aZ hd p0 p1 d0 d1 d2 d3; omega
 clear aZ hd p0 p1 q0 q1 q2 q3 b0 b1 c0 c1 c2 c3 d0 d1 d2 d3
 have eL:av o = [iF 92 o.t0 o.f0 o.f1]:=by unfold av bo aJ aK aL aC; rw[hk]; rfl
 have eV:cU o s=s.R o.f0.toNat*s.R o.f1.toNat % 4294967296:=by
  unfold cU cH
  rw[hk]
  simp only[Int.reduceEq,if_true,if_false,reduceIte]
  rw[cu r0.1,cu r1.1]
 rw[eL]
 exact cS (f_92 r0 r1) eV (fN _) g1
theorem ZI (o:VO) (hk:o.kind=13) (hv:aM o) (hp:(ae o.t0 o.f0/\ae o.t0 o.f1/\ae o.t0 o.f2/\ae o.t0 o.f3)/\(ae o.t1 o.f0/\ae o.t1 o.f1/\ae o.t1 o.f2/\ae o.t1 o.f3)) (hn:0<=o.n/\o.n<=4294967295) (s:RS) (hs:eh s):gv o s (dC s (av o)):=by
 obtain⟨_,⟨p0,p1⟩,⟨q0,q1,q2,q3⟩,hd,aZ⟩:=hv
 have b0:=hp.1.1.1
 have b1:=hp.2.1.1
 have c0:=hp.1.1.2.1
 have c1:=hp.1.2.1.2.1
 have c2:=hp.1.2.2.1.2.1
 have c3:=hp.1.2.2.2.2.1
 have d0:=hp.1.1.2.2
 have d1:=hp.1.2.1.2.2
 have d2:=hp.1.2.2.1.2.2
 have d3:=hp.1.2.2.2.2.2
 clear hp
 rw[hk] at p0 p1 q0 q1 q2 q3 hd aZ
 rw[show cz 13=1 by decide] at p0 p1 hd
 rw[show aH 13=2 by decide] at q0 q1 q2 q3
 unfold da at p0 p1 q0 q1 q2 q3
 unfold cC at aZ
 have g0:0<=o.t0/\o.t0 < 15:=by clear aZ hd q0 q1 q2 q3 d0 d1 d2 d3; omega
 have g1:o.t1 = -1:=by clear aZ hd q0 q1 q2 q3 d0 d1 d2 d3; omega
 have r0:0<=o.f0/\o.f0 < 15:=by clear aZ hd p0 p1 d0 d1 d2 d3; omega
 have r1:0<=o.f1/\o.f1 < 15:=by clear aZ hd p0 p1 d0 d1 d2 d3; omega
 clear aZ hd p0 p1 q0 q1 q2 q3 b0 b1 c0 c1 c2 c3 d0 d1 d2 d3
 have eL:av o = [iF 88 o.t0 o.f0 o.f1]:=by unfold av bo aJ aK aL aC; rw[hk]; rfl
 have eV:cU o s=gP 0 (s.R o.f0.toNat) (s.R o.f1.toNat % 256):=by
  unfold cU cH
  rw[hk]
  simp only[Int.reduceEq,if_true,if_false,reduceIte]
  rw[cu r0.1,cu r1.1]
 rw[eL]
 exact cS (f_88 g0.1 r0 r1 (hs.r _)) eV (jm _ _ _ (hs.r _)) g1
theorem ZJ (o:VO) (hk:o.kind=14) (hv:aM o) (hp:(ae o.t0 o.f0/\ae o.t0 o.f1/\ae o.t0 o.f2/\ae o.t0 o.f3)/\(ae o.t1 o.f0/\ae o.t1 o.f1/\ae o.t1 o.f2/\ae o.t1 o.f3)) (hn:0<=o.n/\o.n<=4294967295) (s:RS) (hs:eh s):gv o s (dC s (av o)):=by
 obtain⟨_,⟨p0,p1⟩,⟨q0,q1,q2,q3⟩,hd,aZ⟩:=hv
 have b0:=hp.1.1.1
 have b1:=hp.2.1.1
 have c0:=hp.1.1.2.1
 have c1:=hp.1.2.1.2.1
 have c2:=hp.1.2.2.1.2.1
 have c3:=hp.1.2.2.2.2.1
 have d0:=hp.1.1.2.2
 have d1:=hp.1.2.1.2.2
 have d2:=hp.1.2.2.1.2.2
 have d3:=hp.1.2.2.2.2.2
 clear hp
 rw[hk] at p0 p1 q0 q1 q2 q3 hd aZ
 rw[show cz 14=1 by decide] at p0 p1 hd
 rw[show aH 14=2 by decide] at q0 q1 q2 q3
 unfold da at p0 p1 q0 q1 q2 q3
 unfold cC at aZ
 have g0:0<=o.t0/\o.t0 < 15:=by clear aZ hd q0 q1 q2 q3 d0 d1 d2 d3; omega
 have g1:o.t1 = -1:=by clear aZ hd q0 q1 q2 q3 d0 d1 d2 d3; omega
 have r0:0<=o.f0/\o.f0 < 15:=by clear aZ hd p0 p1 d0 d1 d2 d3; omega
 have r1:0<=o.f1/\o.f1 < 15:=by clear aZ hd p0 p1 d0 d1 d2 d3; omega
 clear aZ hd p0 p1 q0 q1 q2 q3 b0 b1 c0 c1 c2 c3 d0 d1 d2 d3
 have eL:av o = [iF 89 o.t0 o.f0 o.f1]:=by unfold av bo aJ aK aL aC; rw[hk]; rfl
 have eV:cU o s=gP 1 (s.R o.f0.toNat) (s.R o.f1.toNat % 256):=by
  unfold cU cH
  rw[hk]
  simp only[Int.reduceEq,if_true,if_false,reduceIte]
  rw[cu r0.1,cu r1.1]
 rw[eL]
 exact cS (f_89 g0.1 r0 r1 (hs.r _)) eV (jm _ _ _ (hs.r _)) g1
theorem ZK (o:VO) (hk:o.kind=15) (hv:aM o) (hp:(ae o.t0 o.f0/\ae o.t0 o.f1/\ae o.t0 o.f2/\ae o.t0 o.f3)/\(ae o.t1 o.f0/\ae o.t1 o.f1/\ae o.t1 o.f2/\ae o.t1 o.f3)) (hn:0<=o.n/\o.n<=4294967295) (s:RS) (hs:eh s):gv o s (dC s (av o)):=by
 obtain⟨_,⟨p0,p1⟩,⟨q0,q1,q2,q3⟩,hd,aZ⟩:=hv
 have b0:=hp.1.1.1
 have b1:=hp.2.1.1
 have c0:=hp.1.1.2.1
 have c1:=hp.1.2.1.2.1
 have c2:=hp.1.2.2.1.2.1
 have c3:=hp.1.2.2.2.2.1
 have d0:=hp.1.1.2.2
 have d1:=hp.1.2.1.2.2
 have d2:=hp.1.2.2.1.2.2
 have d3:=hp.1.2.2.2.2.2
 clear hp
 rw[hk] at p0 p1 q0 q1 q2 q3 hd aZ
 rw[show cz 15=1 by decide] at p0 p1 hd
 rw[show aH 15=2 by decide] at q0 q1 q2 q3
 unfold da at p0 p1 q0 q1 q2 q3
 unfold cC at aZ
 have g0:0<=o.t0/\o.t0 < 15:=by clear aZ hd q0 q1 q2 q3 d0 d1 d2 d3; omega
 have g1:o.t1 = -1:=by clear aZ hd q0 q1 q2 q3 d0 d1 d2 d3; omega
 have r0:0<=o.f0/\o.f0 < 15:=by clear aZ hd p0 p1 d0 d1 d2 d3; omega
 have r1:0<=o.f1/\o.f1 < 15:=by clear aZ hd p0 p1 d0 d1 d2 d3; omega
 clear aZ hd p0 p1 q0 q1 q2 q3 b0 b1 c0 c1 c2 c3 d0 d1 d2 d3
 have eL:av o = [iF 91 o.t0 o.f0 o.f1]:=by unfold av bo aJ aK aL aC; rw[hk]; rfl
 have eV:cU o s=gP 3 (s.R o.f0.toNat) (s.R o.f1.toNat % 256):=by
  unfold cU cH
  rw[hk]
  simp only[Int.reduceEq,if_true,if_false,reduceIte]
  rw[cu r0.1,cu r1.1]
 rw[eL]
 exact cS (f_91 g0.1 r0 r1 (hs.r _)) eV (jm _ _ _ (hs.r _)) g1
theorem ZL (o:VO) (hk:o.kind=16) (hv:aM o) (hp:(ae o.t0 o.f0/\ae o.t0 o.f1/\ae o.t0 o.f2/\ae o.t0 o.f3)/\(ae o.t1 o.f0/\ae o.t1 o.f1/\ae o.t1 o.f2/\ae o.t1 o.f3)) (hn:0<=o.n/\o.n<=4294967295) (s:RS) (hs:eh s):gv o s (dC s (av o)):=by
 obtain⟨_,⟨p0,p1⟩,⟨q0,q1,q2,q3⟩,hd,aZ⟩:=hv
 have b0:=hp.1.1.1
 have b1:=hp.2.1.1
 have c0:=hp.1.1.2.1
 have c1:=hp.1.2.1.2.1
 have c2:=hp.1.2.2.1.2.1
 have c3:=hp.1.2.2.2.2.1
 have d0:=hp.1.1.2.2
 have d1:=hp.1.2.1.2.2
 have d2:=hp.1.2.2.1.2.2
 have d3:=hp.1.2.2.2.2.2
 clear hp
 rw[hk] at p0 p1 q0 q1 q2 q3 hd aZ
 rw[show cz 16=1 by decide] at p0 p1 hd
 rw[show aH 16=1 by decide] at q0 q1 q2 q3
 unfold da at p0 p1 q0 q1 q2 q3
 unfold cC at aZ
 have g0:0<=o.t0/\o.t0 < 15:=by clear aZ hd q0 q1 q2 q3 d0 d1 d2 d3; omega
 have g1:o.t1 = -1:=by clear aZ hd q0 q1 q2 q3 d0 d1 d2 d3; omega
 have r0:0<=o.f0/\o.f0 < 15:=by clear aZ hd p0 p1 d0 d1 d2 d3; omega
 clear aZ hd p0 p1 q0 q1 q2 q3 b0 b1 c0 c1 c2 c3 d0 d1 d2 d3
 have eL:av o = [{ iZ with form:=77,rd:=o.t0,rm:=o.f0 }]:=by unfold av bo aJ aK aL aC; rw[hk]; rfl
 have eV:cU o s=4294967295 - s.R o.f0.toNat:=by
  unfold cU cH
  rw[hk]
  simp only[Int.reduceEq,if_true,if_false,reduceIte]
  rw[cu r0.1]
 rw[eL]
 exact cS (f_77 g0.1 r0 (hs.r _)) eV ((by have:=hs.r o.f0.toNat; unfold a_ at this ⊢; omega)) g1
theorem ZM (o:VO) (hk:o.kind=17) (hv:aM o) (hp:(ae o.t0 o.f0/\ae o.t0 o.f1/\ae o.t0 o.f2/\ae o.t0 o.f3)/\(ae o.t1 o.f0/\ae o.t1 o.f1/\ae o.t1 o.f2/\ae o.t1 o.f3)) (hn:0<=o.n/\o.n<=4294967295) (s:RS) (hs:eh s):gv o s (dC s (av o)):=by
 obtain⟨_,⟨p0,p1⟩,⟨q0,q1,q2,q3⟩,hd,aZ⟩:=hv
 have b0:=hp.1.1.1
 have b1:=hp.2.1.1
 have c0:=hp.1.1.2.1
 have c1:=hp.1.2.1.2.1
 have c2:=hp.1.2.2.1.2.1
 have c3:=hp.1.2.2.2.2.1
 have d0:=hp.1.1.2.2
 have d1:=hp.1.2.1.2.2
 have d2:=hp.1.2.2.1.2.2
 have d3:=hp.1.2.2.2.2.2
 clear hp
 rw[hk] at p0 p1 q0 q1 q2 q3 hd aZ
 rw[show cz 17=1 by decide] at p0 p1 hd
 rw[show aH 17=1 by decide] at q0 q1 q2 q3
 unfold da at p0 p1 q0 q1 q2 q3
 unfold cC at aZ
 have g0:0<=o.t0/\o.t0 < 15:=by clear aZ hd q0 q1 q2 q3 d0 d1 d2 d3; omega
 have g1:o.t1 = -1:=by clear aZ hd q0 q1 q2 q3 d0 d1 d2 d3; omega
 have r0:0<=o.f0/\o.f0 < 15:=by clear aZ hd p0 p1 d0 d1 d2 d3; omega
 clear aZ hd p0 p1 q0 q1 q2 q3 b0 b1 c0 c1 c2 c3 d0 d1 d2 d3
 have eL:av o = [{ iZ with form:=59,rd:=o.t0,rn:=o.f0 }]:=by unfold av bo aJ aK aL aC; rw[hk]; rfl
 have eV:cU o s=(-s.R o.f0.toNat) % 4294967296:=by
  unfold cU cH
  rw[hk]
  simp only[Int.reduceEq,if_true,if_false,reduceIte]
  rw[cu r0.1]
 rw[eL]
 exact cS (ZE g0.1 r0 (hs.r _)) eV (fN _) g1
theorem ZN (o:VO) (hk:o.kind=18) (hv:aM o) (hp:(ae o.t0 o.f0/\ae o.t0 o.f1/\ae o.t0 o.f2/\ae o.t0 o.f3)/\(ae o.t1 o.f0/\ae o.t1 o.f1/\ae o.t1 o.f2/\ae o.t1 o.f3)) (hn:0<=o.n/\o.n<=4294967295) (s:RS) (hs:eh s):gv o s (dC s (av o)):=by
 obtain⟨_,⟨p0,p1⟩,⟨q0,q1,q2,q3⟩,hd,aZ⟩:=hv
 have b0:=hp.1.1.1
 have b1:=hp.2.1.1
 have c0:=hp.1.1.2.1
 have c1:=hp.1.2.1.2.1
 have c2:=hp.1.2.2.1.2.1
 have c3:=hp.1.2.2.2.2.1
 have d0:=hp.1.1.2.2
 have d1:=hp.1.2.1.2.2
 have d2:=hp.1.2.2.1.2.2
 have d3:=hp.1.2.2.2.2.2
 clear hp
 rw[hk] at p0 p1 q0 q1 q2 q3 hd aZ
 rw[show cz 18=1 by decide] at p0 p1 hd
 rw[show aH 18=1 by decide] at q0 q1 q2 q3
 unfold da at p0 p1 q0 q1 q2 q3
 unfold cC at aZ
 have g0:0<=o.t0/\o.t0 < 15:=by clear aZ hd q0 q1 q2 q3 d0 d1 d2 d3; omega
 have g1:o.t1 = -1:=by clear aZ hd q0 q1 q2 q3 d0 d1 d2 d3; omega
 have r0:0<=o.f0/\o.f0 < 15:=by clear aZ hd p0 p1 d0 d1 d2 d3; omega
 have ZO:o.n % 256=o.n:=by clear hd p0 p1 q0 q1 q2 q3 d0 d1 d2 d3; omega
 clear aZ hd p0 p1 q0 q1 q2 q3 b0 b1 c0 c1 c2 c3 d0 d1 d2 d3
 have eL:av o = [{ iZ with form:=1,rd:=o.t0,rm:=o.f0,az:=o.n }]:=by unfold av bo aJ aK aL aC; rw[hk]; rfl
 have eV:cU o s=gP 0 (s.R o.f0.toNat) (o.n % 256):=by
  unfold cU cH
  rw[hk]
  simp only[Int.reduceEq,if_true,if_false,reduceIte]
  rw[cu r0.1]
 rw[eL]
 exact cS ((f_1 g0.1 r0).to (show gP 0 (s.R o.f0.toNat) o.n=gP 0 (s.R o.f0.toNat) (o.n % 256) by rw[ZO])) eV (jm _ _ _ (hs.r _)) g1
theorem ZP (o:VO) (hk:o.kind=19) (hv:aM o) (hp:(ae o.t0 o.f0/\ae o.t0 o.f1/\ae o.t0 o.f2/\ae o.t0 o.f3)/\(ae o.t1 o.f0/\ae o.t1 o.f1/\ae o.t1 o.f2/\ae o.t1 o.f3)) (hn:0<=o.n/\o.n<=4294967295) (s:RS) (hs:eh s):gv o s (dC s (av o)):=by
 obtain⟨_,⟨p0,p1⟩,⟨q0,q1,q2,q3⟩,hd,aZ⟩:=hv
 have b0:=hp.1.1.1
 have b1:=hp.2.1.1
 have c0:=hp.1.1.2.1
 have c1:=hp.1.2.1.2.1
 have c2:=hp.1.2.2.1.2.1
 have c3:=hp.1.2.2.2.2.1
 have d0:=hp.1.1.2.2
 have d1:=hp.1.2.1.2.2
 have d2:=hp.1.2.2.1.2.2
 have d3:=hp.1.2.2.2.2.2
 clear hp
 rw[hk] at p0 p1 q0 q1 q2 q3 hd aZ
 rw[show cz 19=1 by decide] at p0 p1 hd
 rw[show aH 19=1 by decide] at q0 q1 q2 q3
 unfold da at p0 p1 q0 q1 q2 q3
 unfold cC at aZ
 have g0:0<=o.t0/\o.t0 < 15:=by clear aZ hd q0 q1 q2 q3 d0 d1 d2 d3; omega
 have g1:o.t1 = -1:=by clear aZ hd q0 q1 q2 q3 d0 d1 d2 d3; omega
 have r0:0<=o.f0/\o.f0 < 15:=by clear aZ hd p0 p1 d0 d1 d2 d3; omega
 have ZO:o.n % 256=o.n:=by clear hd p0 p1 q0 q1 q2 q3 d0 d1 d2 d3; omega
 clear aZ hd p0 p1 q0 q1 q2 q3 b0 b1 c0 c1 c2 c3 d0 d1 d2 d3
 have eL:av o = [{ iZ with form:=2,rd:=o.t0,rm:=o.f0,az:=o.n }]:=by unfold av bo aJ aK aL aC; rw[hk]; rfl
 have eV:cU o s=gP 1 (s.R o.f0.toNat) (o.n % 256):=by
  unfold cU cH
  rw[hk]
  simp only[Int.reduceEq,if_true,if_false,reduceIte]
  rw[cu r0.1]
 rw[eL]
 exact cS ((f_2 g0.1 r0).to (show gP 1 (s.R o.f0.toNat) o.n=gP 1 (s.R o.f0.toNat) (o.n % 256) by rw[ZO])) eV (jm _ _ _ (hs.r _)) g1
theorem ZQ (o:VO) (hk:o.kind=20) (hv:aM o) (hp:(ae o.t0 o.f0/\ae o.t0 o.f1/\ae o.t0 o.f2/\ae o.t0 o.f3)/\(ae o.t1 o.f0/\ae o.t1 o.f1/\ae o.t1 o.f2/\ae o.t1 o.f3)) (hn:0<=o.n/\o.n<=4294967295) (s:RS) (hs:eh s):gv o s (dC s (av o)):=by
 obtain⟨_,⟨p0,p1⟩,⟨q0,q1,q2,q3⟩,hd,aZ⟩:=hv
 have b0:=hp.1.1.1
 have b1:=hp.2.1.1
 have c0:=hp.1.1.2.1
 have c1:=hp.1.2.1.2.1
 have c2:=hp.1.2.2.1.2.1
 have c3:=hp.1.2.2.2.2.1
 have d0:=hp.1.1.2.2
 have d1:=hp.1.2.1.2.2
 have d2:=hp.1.2.2.1.2.2
 have d3:=hp.1.2.2.2.2.2
 clear hp
 rw[hk] at p0 p1 q0 q1 q2 q3 hd aZ
 rw[show cz 20=1 by decide] at p0 p1 hd
 rw[show aH 20=1 by decide] at q0 q1 q2 q3
 unfold da at p0 p1 q0 q1 q2 q3
 unfold cC at aZ
 have g0:0<=o.t0/\o.t0 < 15:=by clear aZ hd q0 q1 q2 q3 d0 d1 d2 d3; omega
 have g1:o.t1 = -1:=by clear aZ hd q0 q1 q2 q3 d0 d1 d2 d3; omega
 have r0:0<=o.f0/\o.f0 < 15:=by clear aZ hd p0 p1 d0 d1 d2 d3; omega
 have ZO:o.n % 256=o.n:=by clear hd p0 p1 q0 q1 q2 q3 d0 d1 d2 d3; omega
 clear aZ hd p0 p1 q0 q1 q2 q3 b0 b1 c0 c1 c2 c3 d0 d1 d2 d3
 have eL:av o = [{ iZ with form:=76,rd:=o.t0,rm:=o.f0,kind:=3,bG:=o.n }]:=by unfold av bo aJ aK aL aC; rw[hk]; rfl
 have eV:cU o s=gP 3 (s.R o.f0.toNat) (o.n % 256):=by
  unfold cU cH
  rw[hk]
  simp only[Int.reduceEq,if_true,if_false,reduceIte]
  rw[cu r0.1]
 rw[eL]
 exact cS ((f_76 g0.1 r0).to (show gP 3 (s.R o.f0.toNat) o.n=gP 3 (s.R o.f0.toNat) (o.n % 256) by rw[ZO])) eV (jm _ _ _ (hs.r _)) g1
theorem ZR (o:VO) (hk:o.kind=21) (hv:aM o) (hp:(ae o.t0 o.f0/\ae o.t0 o.f1/\ae o.t0 o.f2/\ae o.t0 o.f3)/\(ae o.t1 o.f0/\ae o.t1 o.f1/\ae o.t1 o.f2/\ae o.t1 o.f3)) (hn:0<=o.n/\o.n<=4294967295) (s:RS) (hs:eh s):gv o s (dC s (av o)):=by
 obtain⟨_,⟨p0,p1⟩,⟨q0,q1,q2,q3⟩,hd,aZ⟩:=hv
 have b0:=hp.1.1.1
 have b1:=hp.2.1.1
 have c0:=hp.1.1.2.1
 have c1:=hp.1.2.1.2.1
 have c2:=hp.1.2.2.1.2.1
 have c3:=hp.1.2.2.2.2.1
 have d0:=hp.1.1.2.2
 have d1:=hp.1.2.1.2.2
 have d2:=hp.1.2.2.1.2.2
 have d3:=hp.1.2.2.2.2.2
 clear hp
 rw[hk] at p0 p1 q0 q1 q2 q3 hd aZ
 rw[show cz 21=1 by decide] at p0 p1 hd
 rw[show aH 21=2 by decide] at q0 q1 q2 q3
 unfold da at p0 p1 q0 q1 q2 q3
 unfold cC at aZ
 have g0:0<=o.t0/\o.t0 < 15:=by clear aZ hd q0 q1 q2 q3 d0 d1 d2 d3; omega
 have g1:o.t1 = -1:=by clear aZ hd q0 q1 q2 q3 d0 d1 d2 d3; omega
 have r0:0<=o.f0/\o.f0 < 15:=by clear aZ hd p0 p1 d0 d1 d2 d3; omega
 have r1:0<=o.f1/\o.f1 < 15:=by clear aZ hd p0 p1 d0 d1 d2 d3; omega
 clear aZ hd p0 p1 q0 q1 q2 q3 b0 b1 c0 c1 c2 c3 d0 d1 d2 d3
 have eL:av o = [iF 5 o.t0 o.f0 o.f1,eu o.t0,fT o.t0]:=by unfold av bo aJ aK aL aC; rw[hk]; rfl
 have eV:cU o s=if s.R o.f0.toNat < s.R o.f1.toNat then 1 else 0:=by
  unfold cU cH
  rw[hk]
  simp only[Int.reduceEq,if_true,if_false,reduceIte]
  rw[cu r0.1,cu r1.1]
 rw[eL]
 exact cS (o_21 hs g0 r0 r1) eV (vJ _) g1
theorem ZS (o:VO) (hk:o.kind=22) (hv:aM o) (hp:(ae o.t0 o.f0/\ae o.t0 o.f1/\ae o.t0 o.f2/\ae o.t0 o.f3)/\(ae o.t1 o.f0/\ae o.t1 o.f1/\ae o.t1 o.f2/\ae o.t1 o.f3)) (hn:0<=o.n/\o.n<=4294967295) (s:RS) (hs:eh s):gv o s (dC s (av o)):=by
 obtain⟨_,⟨p0,p1⟩,⟨q0,q1,q2,q3⟩,hd,aZ⟩:=hv
 have b0:=hp.1.1.1
 have b1:=hp.2.1.1
 have c0:=hp.1.1.2.1
 have c1:=hp.1.2.1.2.1
 have c2:=hp.1.2.2.1.2.1
 have c3:=hp.1.2.2.2.2.1
 have d0:=hp.1.1.2.2
 have d1:=hp.1.2.1.2.2
 have d2:=hp.1.2.2.1.2.2
 have d3:=hp.1.2.2.2.2.2
 clear hp
 rw[hk] at p0 p1 q0 q1 q2 q3 hd aZ
 rw[show cz 22=1 by decide] at p0 p1 hd
 rw[show aH 22=2 by decide] at q0 q1 q2 q3
 unfold da at p0 p1 q0 q1 q2 q3
 unfold cC at aZ
 have g0:0<=o.t0/\o.t0 < 15:=by clear aZ hd q0 q1 q2 q3 d0 d1 d2 d3; omega
 have g1:o.t1 = -1:=by clear aZ hd q0 q1 q2 q3 d0 d1 d2 d3; omega
 have r0:0<=o.f0/\o.f0 < 15:=by clear aZ hd p0 p1 d0 d1 d2 d3; omega
 have r1:0<=o.f1/\o.f1 < 15:=by clear aZ hd p0 p1 d0 d1 d2 d3; omega
 clear aZ hd p0 p1 q0 q1 q2 q3 b0 b1 c0 c1 c2 c3 d0 d1 d2 d3
 have eL:av o = [iF 70 o.t0 o.f0 o.f1,iM 11 o.t0 1,eu o.t0,fT o.t0]:=by unfold av bo aJ aK aL aC; rw[hk]; rfl
 have eV:cU o s=if s.R o.f0.toNat=s.R o.f1.toNat then 1 else 0:=by
  unfold cU cH
  rw[hk]
  simp only[Int.reduceEq,if_true,if_false,reduceIte]
  rw[cu r0.1,cu r1.1]
 rw[eL]
 exact cS (o_22 hs g0 r0 r1) eV (vJ _) g1
theorem ZT (o:VO) (hk:o.kind=23) (hv:aM o) (hp:(ae o.t0 o.f0/\ae o.t0 o.f1/\ae o.t0 o.f2/\ae o.t0 o.f3)/\(ae o.t1 o.f0/\ae o.t1 o.f1/\ae o.t1 o.f2/\ae o.t1 o.f3)) (hn:0<=o.n/\o.n<=4294967295) (s:RS) (hs:eh s):gv o s (dC s (av o)):=by
 obtain⟨_,⟨p0,p1⟩,⟨q0,q1,q2,q3⟩,hd,aZ⟩:=hv
 have b0:=hp.1.1.1
 have b1:=hp.2.1.1
 have c0:=hp.1.1.2.1
 have c1:=hp.1.2.1.2.1
 have c2:=hp.1.2.2.1.2.1
 have c3:=hp.1.2.2.2.2.1
 have d0:=hp.1.1.2.2
 have d1:=hp.1.2.1.2.2
 have d2:=hp.1.2.2.1.2.2
 have d3:=hp.1.2.2.2.2.2
 clear hp
 rw[hk] at p0 p1 q0 q1 q2 q3 hd aZ
 rw[show cz 23=2 by decide] at p0 p1 hd
 rw[show aH 23=4 by decide] at q0 q1 q2 q3
 unfold da at p0 p1 q0 q1 q2 q3
 unfold cC at aZ
 have g0:0<=o.t0/\o.t0 < 15:=by clear aZ hd q0 q1 q2 q3 d0 d1 d2 d3; omega
 have g1:0<=o.t1/\o.t1 < 15:=by clear aZ hd q0 q1 q2 q3 d0 d1 d2 d3; omega
 have r0:0<=o.f0/\o.f0 < 15:=by clear aZ hd p0 p1 d0 d1 d2 d3; omega
 have r1:0<=o.f1/\o.f1 < 15:=by clear aZ hd p0 p1 d0 d1 d2 d3; omega
 have r2:0<=o.f2/\o.f2 < 15:=by clear aZ hd p0 p1 d0 d1 d2 d3; omega
 have r3:0<=o.f3/\o.f3 < 15:=by clear aZ hd p0 p1 d0 d1 d2 d3; omega
 have n1:o.t0≠o.f1:=by clear aZ hd q0 q1 q2 q3 d0 d2 d3; omega
 have n3:o.t0≠o.f3:=by clear aZ hd q0 q1 q2 q3 d0 d1 d2; omega
 clear aZ hd p0 p1 q0 q1 q2 q3 b0 b1 c0 c1 c2 c3 d0 d1 d2 d3
 have eL:av o = [iF 4 o.t0 o.f0 o.f2,iF 72 o.t1 o.f1 o.f3]:=by unfold av bo aJ aK aL aC; rw[hk]; rfl
 have eV:cU o s=(s.R o.f1.toNat*4294967296+s.R o.f0.toNat+(s.R o.f3.toNat*4294967296+s.R o.f2.toNat)) % 18446744073709551616:=by
  unfold cU cH
  rw[hk]
  simp only[Int.reduceEq,if_true,if_false,reduceIte]
  rw[cu r0.1,cu r1.1,cu r2.1,cu r3.1]
 rw[eL]
 exact sc (o_23 hs g0 g1 r0 r1 r2 r3 n1 n3) eV
theorem ZU (o:VO) (hk:o.kind=24) (hv:aM o) (hp:(ae o.t0 o.f0/\ae o.t0 o.f1/\ae o.t0 o.f2/\ae o.t0 o.f3)/\(ae o.t1 o.f0/\ae o.t1 o.f1/\ae o.t1 o.f2/\ae o.t1 o.f3)) (hn:0<=o.n/\o.n<=4294967295) (s:RS) (hs:eh s):gv o s (dC s (av o)):=by
 obtain⟨_,⟨p0,p1⟩,⟨q0,q1,q2,q3⟩,hd,aZ⟩:=hv
 have b0:=hp.1.1.1
 have b1:=hp.2.1.1
 have c0:=hp.1.1.2.1
 have c1:=hp.1.2.1.2.1
 have c2:=hp.1.2.2.1.2.1
 have c3:=hp.1.2.2.2.2.1
 have d0:=hp.1.1.2.2
 have d1:=hp.1.2.1.2.2
 have d2:=hp.1.2.2.1.2.2
 have d3:=hp.1.2.2.2.2.2
 clear hp
 rw[hk] at p0 p1 q0 q1 q2 q3 hd aZ
 rw[show cz 24=2 by decide] at p0 p1 hd
 rw[show aH 24=4 by decide] at q0 q1 q2 q3
 unfold da at p0 p1 q0 q1 q2 q3
 unfold cC at aZ
 have g0:0<=o.t0/\o.t0 < 15:=by clear aZ hd q0 q1 q2 q3 d0 d1 d2 d3; omega
 have g1:0<=o.t1/\o.t1 < 15:=by clear aZ hd q0 q1 q2 q3 d0 d1 d2 d3; omega
 have r0:0<=o.f0/\o.f0 < 15:=by clear aZ hd p0 p1 d0 d1 d2 d3; omega
 have r1:0<=o.f1/\o.f1 < 15:=by clear aZ hd p0 p1 d0 d1 d2 d3; omega
 have r2:0<=o.f2/\o.f2 < 15:=by clear aZ hd p0 p1 d0 d1 d2 d3; omega
 have r3:0<=o.f3/\o.f3 < 15:=by clear aZ hd p0 p1 d0 d1 d2 d3; omega
 have n1:o.t0≠o.f1:=by clear aZ hd q0 q1 q2 q3 d0 d2 d3; omega
 have n3:o.t0≠o.f3:=by clear aZ hd q0 q1 q2 q3 d0 d1 d2; omega
 clear aZ hd p0 p1 q0 q1 q2 q3 b0 b1 c0 c1 c2 c3 d0 d1 d2 d3
 have eL:av o = [iF 5 o.t0 o.f0 o.f2,iF 73 o.t1 o.f1 o.f3]:=by unfold av bo aJ aK aL aC; rw[hk]; rfl
 have eV:cU o s=(s.R o.f1.toNat*4294967296+s.R o.f0.toNat - (s.R o.f3.toNat*4294967296+s.R o.f2.toNat)) % 18446744073709551616:=by
  unfold cU cH
  rw[hk]
  simp only[Int.reduceEq,if_true,if_false,reduceIte]
  rw[cu r0.1,cu r1.1,cu r2.1,cu r3.1]
 rw[eL]
 exact sc (o_24 hs g0 g1 r0 r1 r2 r3 n1 n3) eV
theorem ZV (o:VO) (hk:o.kind=25) (hv:aM o) (hp:(ae o.t0 o.f0/\ae o.t0 o.f1/\ae o.t0 o.f2/\ae o.t0 o.f3)/\(ae o.t1 o.f0/\ae o.t1 o.f1/\ae o.t1 o.f2/\ae o.t1 o.f3)) (hn:0<=o.n/\o.n<=4294967295) (s:RS) (hs:eh s):gv o s (dC s (av o)):=by
 obtain⟨_,⟨p0,p1⟩,⟨q0,q1,q2,q3⟩,hd,aZ⟩:=hv
 have b0:=hp.1.1.1
 have b1:=hp.2.1.1
 have c0:=hp.1.1.2.1
 have c1:=hp.1.2.1.2.1
 have c2:=hp.1.2.2.1.2.1
 have c3:=hp.1.2.2.2.2.1
 have d0:=hp.1.1.2.2
 have d1:=hp.1.2.1.2.2
 have d2:=hp.1.2.2.1.2.2
 have d3:=hp.1.2.2.2.2.2
 clear hp
 rw[hk] at p0 p1 q0 q1 q2 q3 hd aZ
 rw[show cz 25=1 by decide] at p0 p1 hd
 rw[show aH 25=4 by decide] at q0 q1 q2 q3
 unfold da at p0 p1 q0 q1 q2 q3
 unfold cC at aZ
 have g0:0<=o.t0/\o.t0 < 15:=by clear aZ hd q0 q1 q2 q3 d0 d1 d2 d3; omega
 have g1:o.t1 = -1:=by clear aZ hd q0 q1 q2 q3 d0 d1 d2 d3; omega
 have r0:0<=o.f0/\o.f0 < 15:=by clear aZ hd p0 p1 d0 d1 d2 d3; omega
 have r1:0<=o.f1/\o.f1 < 15:=by clear aZ hd p0 p1 d0 d1 d2 d3; omega
 have r2:0<=o.f2/\o.f2 < 15:=by clear aZ hd p0 p1 d0 d1 d2 d3; omega
 have r3:0<=o.f3/\o.f3 < 15:=by clear aZ hd p0 p1 d0 d1 d2 d3; omega
 have n1:o.t0≠o.f1:=by clear aZ hd q0 q1 q2 q3 d0 d2 d3; omega
 have n3:o.t0≠o.f3:=by clear aZ hd q0 q1 q2 q3 d0 d1 d2; omega
 clear aZ hd p0 p1 q0 q1 q2 q3 b0 b1 c0 c1 c2 c3 d0 d1 d2 d3
 have eL:av o = [iF 5 o.t0 o.f0 o.f2,{ iF 73 o.t0 o.f1 o.f3 with set:=1 },eu o.t0,fT o.t0]:=by unfold av bo aJ aK aL aC; rw[hk]; rfl
 have eV:cU o s=if s.R o.f1.toNat*4294967296+s.R o.f0.toNat < s.R o.f3.toNat*4294967296+s.R o.f2.toNat then 1 else 0:=by
  unfold cU cH
  rw[hk]
  simp only[Int.reduceEq,if_true,if_false,reduceIte]
  rw[cu r0.1,cu r1.1,cu r2.1,cu r3.1]
 rw[eL]
 exact cS (o_25 hs g0 r0 r1 r2 r3 n1 n3) eV (vJ _) g1
theorem ZW (o:VO) (hk:o.kind=26) (hv:aM o) (hp:(ae o.t0 o.f0/\ae o.t0 o.f1/\ae o.t0 o.f2/\ae o.t0 o.f3)/\(ae o.t1 o.f0/\ae o.t1 o.f1/\ae o.t1 o.f2/\ae o.t1 o.f3)) (hn:0<=o.n/\o.n<=4294967295) (s:RS) (hs:eh s):gv o s (dC s (av o)):=by
 obtain⟨_,⟨p0,p1⟩,⟨q0,q1,q2,q3⟩,hd,aZ⟩:=hv
 have b0:=hp.1.1.1
 have b1:=hp.2.1.1
 have c0:=hp.1.1.2.1
 have c1:=hp.1.2.1.2.1
 have c2:=hp.1.2.2.1.2.1
 have c3:=hp.1.2.2.2.2.1
 have d0:=hp.1.1.2.2
 have d1:=hp.1.2.1.2.2
 have d2:=hp.1.2.2.1.2.2
 have d3:=hp.1.2.2.2.2.2
 clear hp
 rw[hk] at p0 p1 q0 q1 q2 q3 hd aZ
 rw[show cz 26=2 by decide] at p0 p1 hd
 rw[show aH 26=2 by decide] at q0 q1 q2 q3
 unfold da at p0 p1 q0 q1 q2 q3
 unfold cC at aZ
 have g0:0<=o.t0/\o.t0 < 15:=by clear aZ hd q0 q1 q2 q3 d0 d1 d2 d3; omega
 have g1:0<=o.t1/\o.t1 < 15:=by clear aZ hd q0 q1 q2 q3 d0 d1 d2 d3; omega
 have r0:0<=o.f0/\o.f0 < 15:=by clear aZ hd p0 p1 d0 d1 d2 d3; omega
 have r1:0<=o.f1/\o.f1 < 15:=by clear aZ hd p0 p1 d0 d1 d2 d3; omega
 clear aZ hd p0 p1 q0 q1 q2 q3 b0 b1 c0 c1 c2 c3 d0 d1 d2 d3
 have eL:av o = [{ iF 95 o.t0 o.f0 o.f1 with ra:=o.t1 }]:=by unfold av bo aJ aK aL aC; rw[hk]; rfl
 have eV:cU o s=s.R o.f0.toNat*s.R o.f1.toNat:=by
  unfold cU cH
  rw[hk]
  simp only[Int.reduceEq,if_true,if_false,reduceIte]
  rw[cu r0.1,cu r1.1]
 rw[eL]
 exact sc (f_95 r0 r1) eV
theorem ZX (o:VO) (hk:o.kind=27) (hv:aM o) (hp:(ae o.t0 o.f0/\ae o.t0 o.f1/\ae o.t0 o.f2/\ae o.t0 o.f3)/\(ae o.t1 o.f0/\ae o.t1 o.f1/\ae o.t1 o.f2/\ae o.t1 o.f3)) (hn:0<=o.n/\o.n<=4294967295) (s:RS) (hs:eh s):gv o s (dC s (av o)):=by
 obtain⟨_,⟨p0,p1⟩,⟨q0,q1,q2,q3⟩,hd,aZ⟩:=hv
 have b0:=hp.1.1.1
 have b1:=hp.2.1.1
 have c0:=hp.1.1.2.1
 have c1:=hp.1.2.1.2.1
 have c2:=hp.1.2.2.1.2.1
 have c3:=hp.1.2.2.2.2.1
 have d0:=hp.1.1.2.2
 have d1:=hp.1.2.1.2.2
 have d2:=hp.1.2.2.1.2.2
 have d3:=hp.1.2.2.2.2.2
 clear hp
 rw[hk] at p0 p1 q0 q1 q2 q3 hd aZ
 rw[show cz 27=1 by decide] at p0 p1 hd
 rw[show aH 27=1 by decide] at q0 q1 q2 q3
 unfold da at p0 p1 q0 q1 q2 q3
 unfold cC at aZ
 have g0:0<=o.t0/\o.t0 < 15:=by clear aZ hd q0 q1 q2 q3 d0 d1 d2 d3; omega
 have g1:o.t1 = -1:=by clear aZ hd q0 q1 q2 q3 d0 d1 d2 d3; omega
 have r0:0<=o.f0/\o.f0 < 15:=by clear aZ hd p0 p1 d0 d1 d2 d3; omega
 clear aZ hd p0 p1 q0 q1 q2 q3 b0 b1 c0 c1 c2 c3 d0 d1 d2 d3
 have eL:av o = [{ iZ with form:=50,rd:=o.t0,rn:=o.f0,az:=1 },{ iZ with form:=59,rd:=o.t0,rn:=o.t0 }]:=by unfold av bo aJ aK aL aC; rw[hk]; rfl
 have eV:cU o s=(-(s.R o.f0.toNat % 2)) % 4294967296:=by
  unfold cU cH
  rw[hk]
  simp only[Int.reduceEq,if_true,if_false,reduceIte]
  rw[cu r0.1]
 rw[eL]
 exact cS (o_27 hs g0 r0) eV (fN _) g1
theorem ZY (o:VO) (hk:o.kind=28) (hv:aM o) (hp:(ae o.t0 o.f0/\ae o.t0 o.f1/\ae o.t0 o.f2/\ae o.t0 o.f3)/\(ae o.t1 o.f0/\ae o.t1 o.f1/\ae o.t1 o.f2/\ae o.t1 o.f3)) (hn:0<=o.n/\o.n<=4294967295) (s:RS) (hs:eh s):gv o s (dC s (av o)):=by
 obtain⟨_,⟨p0,p1⟩,⟨q0,q1,q2,q3⟩,hd,aZ⟩:=hv
 have b0:=hp.1.1.1
 have b1:=hp.2.1.1
 have c0:=hp.1.1.2.1
 have c1:=hp.1.2.1.2.1
 have c2:=hp.1.2.2.1.2.1
 have c3:=hp.1.2.2.2.2.1
 have d0:=hp.1.1.2.2
 have d1:=hp.1.2.1.2.2
 have d2:=hp.1.2.2.1.2.2
 have d3:=hp.1.2.2.2.2.2
 clear hp
 rw[hk] at p0 p1 q0 q1 q2 q3 hd aZ
 rw[show cz 28=1 by decide] at p0 p1 hd
 rw[show aH 28=2 by decide] at q0 q1 q2 q3
 unfold da at p0 p1 q0 q1 q2 q3
 unfold cC at aZ
 have g0:0<=o.t0/\o.t0 < 15:=by clear aZ hd q0 q1 q2 q3 d0 d1 d2 d3; omega
 have g1:o.t1 = -1:=by clear aZ hd q0 q1 q2 q3 d0 d1 d2 d3; omega
 have r0:0<=o.f0/\o.f0 < 15:=by clear aZ hd p0 p1 d0 d1 d2 d3; omega
 have r1:0<=o.f1/\o.f1 < 15:=by clear aZ hd p0 p1 d0 d1 d2 d3; omega
 clear aZ hd p0 p1 q0 q1 q2 q3 b0 b1 c0 c1 c2 c3 d0 d1 d2 d3
 have eL:av o = [iF 97 o.t0 o.f0 o.f1]:=by unfold av bo aJ aK aL aC; rw[hk]; rfl
 have eV:cU o s=if 0 < s.R o.f1.toNat then s.R o.f0.toNat / s.R o.f1.toNat else 0:=by
  unfold cU cH
  rw[hk]
  simp only[Int.reduceEq,if_true,if_false,reduceIte]
  rw[cu r0.1,cu r1.1]
 rw[eL]
 exact cS (f_97 r0 r1 (hs.r _) (hs.r _)) eV (sd (hs.r _) (hs.r _)) g1
theorem ZZ (o:VO) (hk:o.kind=29) (hv:aM o) (hp:(ae o.t0 o.f0/\ae o.t0 o.f1/\ae o.t0 o.f2/\ae o.t0 o.f3)/\(ae o.t1 o.f0/\ae o.t1 o.f1/\ae o.t1 o.f2/\ae o.t1 o.f3)) (hn:0<=o.n/\o.n<=4294967295) (s:RS) (hs:eh s):gv o s (dC s (av o)):=by
 obtain⟨_,⟨p0,p1⟩,⟨q0,q1,q2,q3⟩,hd,aZ⟩:=hv
 have b0:=hp.1.1.1
 have b1:=hp.2.1.1
 have c0:=hp.1.1.2.1
 have c1:=hp.1.2.1.2.1
 have c2:=hp.1.2.2.1.2.1
 have c3:=hp.1.2.2.2.2.1
 have d0:=hp.1.1.2.2
 have d1:=hp.1.2.1.2.2
 have d2:=hp.1.2.2.1.2.2
 have d3:=hp.1.2.2.2.2.2
 clear hp
 rw[hk] at p0 p1 q0 q1 q2 q3 hd aZ
 rw[show cz 29=1 by decide] at p0 p1 hd
 rw[show aH 29=3 by decide] at q0 q1 q2 q3
 unfold da at p0 p1 q0 q1 q2 q3
 unfold cC at aZ
 have g0:0<=o.t0/\o.t0 < 15:=by clear aZ hd q0 q1 q2 q3 d0 d1 d2 d3; omega
 have g1:o.t1 = -1:=by clear aZ hd q0 q1 q2 q3 d0 d1 d2 d3; omega
 have r0:0<=o.f0/\o.f0 < 15:=by clear aZ hd p0 p1 d0 d1 d2 d3; omega
 have r1:0<=o.f1/\o.f1 < 15:=by clear aZ hd p0 p1 d0 d1 d2 d3; omega
 have r2:0<=o.f2/\o.f2 < 15:=by clear aZ hd p0 p1 d0 d1 d2 d3; omega
 clear aZ hd p0 p1 q0 q1 q2 q3 b0 b1 c0 c1 c2 c3 d0 d1 d2 d3
 have eL:av o = [{ iF 94 o.t0 o.f1 o.f2 with ra:=o.f0 }]:=by unfold av bo aJ aK aL aC; rw[hk]; rfl
 have eV:cU o s=(s.R o.f0.toNat - s.R o.f1.toNat*s.R o.f2.toNat % 4294967296) % 4294967296:=by
  unfold cU cH
  rw[hk]
  simp only[Int.reduceEq,if_true,if_false,reduceIte]
  rw[cu r0.1,cu r1.1,cu r2.1]
 rw[eL]
 exact cS (f_94 r1 r2 r0) eV (fN _) g1
theorem UF (o:VO) (h:aM o/\dM o) (hn:0<=o.n/\o.n<=4294967295) (h2:o.kind≠2) (h3:o.kind≠3) (h5:o.kind≠5) (h6:o.kind≠6) (HM:o.kind≠30) (HV:o.kind≠31) (s:RS) (hs:eh s):gv o s (dC s (av o)):=by
 have hp:=(iG o h.1).1 h
 have hv:=h.1
 rcases kinds hv.1 with hk|hk|hk|hk|hk|hk|hk|hk|hk|hk|hk|hk|hk|hk|hk|hk|hk|hk|hk|hk|hk|hk|hk|hk|hk|hk|hk|hk|hk|hk|hk
 ·exact op_1 o hk hv hp hn s hs
 ·exact absurd hk h2
 ·exact absurd hk h3
 ·exact op_4 o hk hv hp hn s hs
 ·exact absurd hk h5
 ·exact absurd hk h6
 ·exact op_7 o hk hv hp hn s hs
 ·exact op_8 o hk hv hp hn s hs
 ·exact op_9 o hk hv hp hn s hs
 ·exact ZF o hk hv hp hn s hs
 ·exact ZG o hk hv hp hn s hs
 ·exact ZH o hk hv hp hn s hs
 ·exact ZI o hk hv hp hn s hs
 ·exact ZJ o hk hv hp hn s hs
 ·exact ZK o hk hv hp hn s hs
 ·exact ZL o hk hv hp hn s hs
 ·exact ZM o hk hv hp hn s hs
 ·exact ZN o hk hv hp hn s hs
 ·exact ZP o hk hv hp hn s hs
 ·exact ZQ o hk hv hp hn s hs
 ·exact ZR o hk hv hp hn s hs
 ·exact ZS o hk hv hp hn s hs
 ·exact ZT o hk hv hp hn s hs
 ·exact ZU o hk hv hp hn s hs
 ·exact ZV o hk hv hp hn s hs
 ·exact ZW o hk hv hp hn s hs
 ·exact ZX o hk hv hp hn s hs
 ·exact ZY o hk hv hp hn s hs
 ·exact ZZ o hk hv hp hn s hs
 ·exact absurd hk HM
 ·exact absurd hk HV
theorem lp (p:Prop):ai gT 40 [.bool p] (.int .u64 (open Classical in if p then 1 else 0)):=by
 refine Spec.enter al P40 100 Tryz.func40 rfl (by kernel_rfl) ?_
 refine⟨fun h=>?_,fun h=>?_⟩
 ·exact aw (show (1:Int)=_ from (if_pos h).symm)
 ·exact aw (show (0:Int)=_ from (if_neg h).symm)
theorem fw (k x n:Int) (uQ:0<=k) (B_:k<=3) (hx:a_ x) (hn:a_ n):ai gT 71 [.int .i64 k,.int .u32 x,.int .u32 n] (.int .u64 (gP k x (n % 256))):=by
 have hb:=jm k x (n % 256) hx
 unfold a_ at hn hb
 refine Spec.enter al P71 100 Tryz.func71 rfl (by kernel_rfl) ?_
 refine And.intro (show (256:Int)≠0 by decide) (.inl ⟨hn.1,show (0:Int) < 256 by decide,?_⟩)
 refine li ?_ (show _<=n % 256/\n % 256<=_ by omega)
 refine (vq k x (n % 256) 0 uQ B_ (by omega) (by omega) hx (by decide)).u ?_
 refine .inl ⟨aF (show _<=gP k x (n % 256)/\gP k x (n % 256)<=_ by omega),?_⟩
 exact rA
theorem wrap64 (n:Int):IntKind.u64.wrap n=n % 18446744073709551616:=by simp[IntKind.wrap,IntKind.bits,IntKind.signed]
open Classical in
theorem zX (o:VO) (hk:1<=o.kind/\o.kind<=29) (hn:a_ o.n) (v0 v1 v2 v3:Int) (h0:a_ v0) (h1:a_ v1) (h2:a_ v2) (h3:a_ v3):ai gT 42 [gS o,.agg [.int .u32 v0,.int .u32 v1,.int .u32 v2,.int .u32 v3]] (.int .u64 (cH o.kind o.n v0 v1 v2 v3)):=by
 have hm:=yg h0 h1
 have b0:=h0; have b1:=h1; have b2:=h2; have b3:=h3
 unfold a_ at b0 b1 b2 b3
 have ca:0<=bits .and .u32 v0 v1/\bits .and .u32 v0 v1<=18446744073709551615:=by have:=(dX h0 h1).1; unfold a_ at this; omega
 have co:0<=bits .or .u32 v0 v1/\bits .or .u32 v0 v1<=18446744073709551615:=by have:=(dX h0 h1).2.1; unfold a_ at this; omega
 have cx:0<=bits .xor .u32 v0 v1/\bits .xor .u32 v0 v1<=18446744073709551615:=by have:=(dX h0 h1).2.2.1; unfold a_ at this; omega
 have cw:∀ z,0<=IntKind.u32.wrap z/\IntKind.u32.wrap z<=18446744073709551615:=fun z=>by have:=wrap_u32 z; unfold a_ at this; omega
 have cn:0<=o.n/\o.n<=18446744073709551615:=by unfold a_ at hn; omega
 have c0:0<=v0/\v0<=18446744073709551615:=by omega
 have c1:0<=v1/\v1<=18446744073709551615:=by omega
 have cm:0<=v0*v1/\v0*v1<=18446744073709551615:=by omega
 have s1:=fw 0 v0 v1 (by decide) (by decide) h0 h1
 have s2:=fw 1 v0 v1 (by decide) (by decide) h0 h1
 have s3:=fw 3 v0 v1 (by decide) (by decide) h0 h1
 have s4:=fw 0 v0 o.n (by decide) (by decide) h0 hn
 have s5:=fw 1 v0 o.n (by decide) (by decide) h0 hn
 have s6:=fw 3 v0 o.n (by decide) (by decide) h0 hn
 have s7:=lp (v0 < v1)
 have s8:=lp (v0=v1)
 have s9:=lp (v1*4294967296+v0 < v3*4294967296+v2)
 refine Spec.enter al P42 100 Tryz.func42 rfl (by kernel_rfl) ?_
 refine .inl ⟨aF (show _<=v1/\v1<=_ by omega),?_⟩
 refine .inl ⟨aF (show _<=v1*4294967296/\v1*4294967296<=_ by omega),?_⟩
 refine .inl ⟨aF (show _<=v0/\v0<=_ by omega),?_⟩
 refine .inl ⟨aF (show _<=v1*4294967296+v0/\v1*4294967296+v0<=_ by omega),?_⟩
 refine .inl ⟨aF (show _<=v3/\v3<=_ by omega),?_⟩
 refine .inl ⟨aF (show _<=v3*4294967296/\v3*4294967296<=_ by omega),?_⟩
 refine .inl ⟨aF (show _<=v2/\v2<=_ by omega),?_⟩
 refine .inl ⟨aF (show _<=v3*4294967296+v2/\v3*4294967296+v2<=_ by omega),?_⟩
 have UG:∀ q:Int,(q=if 0 < v1 then v0 / v1 else 0)->cH o.kind o.n v0 v1 v2 v3=(if o.kind=28 then q else cH o.kind o.n v0 v1 v2 v3):=fun q e=>by
  by_cases hk:o.kind=28
  ·rw[if_pos hk,e]; unfold cH; rw[hk]; simp only[Int.reduceEq,if_true,if_false,reduceIte]
  ·rw[if_neg hk]
 refine And.intro ?a ?b
 case' a =>
  intro hq
  refine And.intro (show v1≠0 from fun e=>absurd (show (0:Int) < v1 from hq) (by omega)) (.inl ⟨b0.1,b0.2,hq,?_⟩)
  have hv:=UG (v0 / v1) (if_pos hq).symm
  have cq:0<=v0 / v1/\v0 / v1<=18446744073709551615:=by
   have:=sd h0 h1
   rw[if_pos (show 0 < v1 from hq)] at this
   unfold a_ at this; omega
  rw[hv]
  clear hv
  generalize v0 / v1=q at cq ⊢
 case' b =>
  intro hq
  have hv:=UG 0 (if_neg hq).symm
  have cq:(0:Int)<=0/\(0:Int)<=18446744073709551615:=by decide
  rw[hv]
  clear hv
 all_goals
  generalize oc:v1*4294967296+v0=wa at s9 ⊢
  generalize oe:v3*4294967296+v2=wb at s9 ⊢
  repeat (first
   | refine Or.inl (And.intro (aF ca) ?_)
   | refine Or.inl (And.intro (aF co) ?_)
   | refine Or.inl (And.intro (aF cx) ?_)
   | refine Or.inl (And.intro (aF cm) ?_)
   | refine Or.inl (And.intro (aF c0) ?_)
   | refine Or.inl (And.intro (aF c1) ?_)
   | refine Or.inl (And.intro (aF cn) ?_)
   | refine Or.inl (And.intro (aF cq) ?_)
   | refine Or.inl (And.intro (aF (cw _)) ?_)
   | refine Or.inr ?_
   | refine And.intro (show (2:Int)≠0 by decide) (Or.inl ⟨b0.1,show (0:Int) < 2 by decide,?_⟩))
  refine s1.u ?_
  refine s2.u ?_
  refine s3.u ?_
  refine s4.u ?_
  refine s5.u ?_
  refine s6.u ?_
  refine s7.u ?_
  refine s8.u ?_
  refine s9.u ?_
  iterate 9 (refine And.intro ?_ ?_; rotate_left; focus (repeat' (first|refine⟨[],bn,s1.use (And.intro rfl (And.intro rfl (And.intro rfl trivial))) rfl rfl ?_⟩|refine⟨[],bn,s2.use (And.intro rfl (And.intro rfl (And.intro rfl trivial))) rfl rfl ?_⟩|refine⟨[],bn,s3.use (And.intro rfl (And.intro rfl (And.intro rfl trivial))) rfl rfl ?_⟩|refine⟨[],bn,s4.use (And.intro rfl (And.intro rfl (And.intro rfl trivial))) rfl rfl ?_⟩|refine⟨[],bn,s5.use (And.intro rfl (And.intro rfl (And.intro rfl trivial))) rfl rfl ?_⟩|refine⟨[],bn,s6.use (And.intro rfl (And.intro rfl (And.intro rfl trivial))) rfl rfl ?_⟩|refine⟨[],bn,s7.use (And.intro Iff.rfl trivial) rfl rfl ?_⟩|refine⟨[],bn,s8.use (And.intro Iff.rfl trivial) rfl rfl ?_⟩|refine⟨[],bn,s9.use (And.intro Iff.rfl trivial) rfl rfl ?_⟩|exact trivial|exact rfl|refine And.intro ?_ ?_)))
  refine⟨show (0:Int)<=o.kind by omega,show o.kind < ((30:Nat):Int) by omega,?_⟩
  clear UG s1 s2 s3 s4 s5 s6 s7 s8 s9
  rcases (show o.kind=1\/o.kind=2\/o.kind=3\/o.kind=4\/o.kind=5\/o.kind=6\/o.kind=7\/o.kind=8\/o.kind=9\/o.kind=10\/o.kind=11\/o.kind=12\/o.kind=13\/o.kind=14\/o.kind=15\/o.kind=16\/o.kind=17\/o.kind=18\/o.kind=19\/o.kind=20\/o.kind=21\/o.kind=22\/o.kind=23\/o.kind=24\/o.kind=25\/o.kind=26\/o.kind=27\/o.kind=28\/o.kind=29 by omega) with hk|hk|hk|hk|hk|hk|hk|hk|hk|hk|hk|hk|hk|hk|hk|hk|hk|hk|hk|hk|hk|hk|hk|hk|hk|hk|hk|hk|hk
  ·refine Or.inl ⟨1,hk,?_⟩
   refine aw ?_
   show (_:Int)=_
   rw[hk]
   clear hk
   unfold cH
   simp only[Int.reduceEq,if_true,if_false,reduceIte,IntKind.wrap_u32',wrap64,oc,oe,Int.zero_sub]
   try omega
  ·refine Or.inl ⟨2,hk,?_⟩
   refine aw ?_
   show (_:Int)=_
   rw[hk]
   clear hk
   unfold cH
   simp only[Int.reduceEq,if_true,if_false,reduceIte,IntKind.wrap_u32',wrap64,oc,oe,Int.zero_sub]
   try omega
  ·refine Or.inl ⟨3,hk,?_⟩
   refine aw ?_
   show (_:Int)=_
   rw[hk]
   clear hk
   unfold cH
   simp only[Int.reduceEq,if_true,if_false,reduceIte,IntKind.wrap_u32',wrap64,oc,oe,Int.zero_sub]
   try omega
  ·refine Or.inl ⟨4,hk,?_⟩
   refine aw ?_
   show (_:Int)=_
   rw[hk]
   clear hk
   unfold cH
   simp only[Int.reduceEq,if_true,if_false,reduceIte,IntKind.wrap_u32',wrap64,oc,oe,Int.zero_sub]
   try omega
  ·refine Or.inl ⟨5,hk,?_⟩
   refine aw ?_
   show (_:Int)=_
   rw[hk]
   clear hk
   unfold cH
   simp only[Int.reduceEq,if_true,if_false,reduceIte,IntKind.wrap_u32',wrap64,oc,oe,Int.zero_sub]
   try omega
  ·refine Or.inl ⟨6,hk,?_⟩
   refine aw ?_
   show (_:Int)=_
   rw[hk]
   clear hk
   unfold cH
   simp only[Int.reduceEq,if_true,if_false,reduceIte,IntKind.wrap_u32',wrap64,oc,oe,Int.zero_sub]
   try omega
  ·refine Or.inl ⟨7,hk,?_⟩
   refine aw ?_
   show (_:Int)=_
   rw[hk]
   clear hk
   unfold cH
   simp only[Int.reduceEq,if_true,if_false,reduceIte,IntKind.wrap_u32',wrap64,oc,oe,Int.zero_sub]
   try omega
  ·refine Or.inl ⟨8,hk,?_⟩
   refine aw ?_
   show (_:Int)=_
   rw[hk]
   clear hk
   unfold cH
   simp only[Int.reduceEq,if_true,if_false,reduceIte,IntKind.wrap_u32',wrap64,oc,oe,Int.zero_sub]
   try omega
  ·refine Or.inl ⟨9,hk,?_⟩
   refine aw ?_
   show (_:Int)=_
   rw[hk]
   clear hk
   unfold cH
   simp only[Int.reduceEq,if_true,if_false,reduceIte,IntKind.wrap_u32',wrap64,oc,oe,Int.zero_sub]
   try omega
  ·refine Or.inl ⟨10,hk,?_⟩
   refine aw ?_
   show (_:Int)=_
   rw[hk]
   clear hk
   unfold cH
   simp only[Int.reduceEq,if_true,if_false,reduceIte,IntKind.wrap_u32',wrap64,oc,oe,Int.zero_sub]
   try omega
  ·refine Or.inl ⟨11,hk,?_⟩
   refine aw ?_
   show (_:Int)=_
   rw[hk]
   clear hk
   unfold cH
   simp only[Int.reduceEq,if_true,if_false,reduceIte,IntKind.wrap_u32',wrap64,oc,oe,Int.zero_sub]
   try omega
  ·refine Or.inl ⟨12,hk,?_⟩
   refine aw ?_
   show (_:Int)=_
   rw[hk]
   clear hk
   unfold cH
   simp only[Int.reduceEq,if_true,if_false,reduceIte,IntKind.wrap_u32',wrap64,oc,oe,Int.zero_sub]
   try omega
  ·refine Or.inl ⟨13,hk,?_⟩
   refine aw ?_
   show (_:Int)=_
   rw[hk]
   clear hk
   unfold cH
   simp only[Int.reduceEq,if_true,if_false,reduceIte,IntKind.wrap_u32',wrap64,oc,oe,Int.zero_sub]
   try omega
  ·refine Or.inl ⟨14,hk,?_⟩
   refine aw ?_
   show (_:Int)=_
   rw[hk]
   clear hk
   unfold cH
   simp only[Int.reduceEq,if_true,if_false,reduceIte,IntKind.wrap_u32',wrap64,oc,oe,Int.zero_sub]
   try omega
  ·refine Or.inl ⟨15,hk,?_⟩
   refine aw ?_
   show (_:Int)=_
   rw[hk]
   clear hk
   unfold cH
   simp only[Int.reduceEq,if_true,if_false,reduceIte,IntKind.wrap_u32',wrap64,oc,oe,Int.zero_sub]
   try omega
  ·refine Or.inl ⟨16,hk,?_⟩
   refine aw ?_
   show (_:Int)=_
   rw[hk]
   clear hk
   unfold cH
   simp only[Int.reduceEq,if_true,if_false,reduceIte,IntKind.wrap_u32',wrap64,oc,oe,Int.zero_sub]
   try omega
  ·refine Or.inl ⟨17,hk,?_⟩
   refine aw ?_
   show (_:Int)=_
   rw[hk]
   clear hk
   unfold cH
   simp only[Int.reduceEq,if_true,if_false,reduceIte,IntKind.wrap_u32',wrap64,oc,oe,Int.zero_sub]
   try omega
  ·refine Or.inl ⟨18,hk,?_⟩
   refine aw ?_
   show (_:Int)=_
   rw[hk]
   clear hk
   unfold cH
   simp only[Int.reduceEq,if_true,if_false,reduceIte,IntKind.wrap_u32',wrap64,oc,oe,Int.zero_sub]
   try omega
  ·refine Or.inl ⟨19,hk,?_⟩
   refine aw ?_
   show (_:Int)=_
   rw[hk]
   clear hk
   unfold cH
   simp only[Int.reduceEq,if_true,if_false,reduceIte,IntKind.wrap_u32',wrap64,oc,oe,Int.zero_sub]
   try omega
  ·refine Or.inl ⟨20,hk,?_⟩
   refine aw ?_
   show (_:Int)=_
   rw[hk]
   clear hk
   unfold cH
   simp only[Int.reduceEq,if_true,if_false,reduceIte,IntKind.wrap_u32',wrap64,oc,oe,Int.zero_sub]
   try omega
  ·refine Or.inl ⟨21,hk,?_⟩
   refine aw ?_
   show (_:Int)=_
   rw[hk]
   clear hk
   unfold cH
   simp only[Int.reduceEq,if_true,if_false,reduceIte,IntKind.wrap_u32',wrap64,oc,oe,Int.zero_sub]
   try omega
  ·refine Or.inl ⟨22,hk,?_⟩
   refine aw ?_
   show (_:Int)=_
   rw[hk]
   clear hk
   unfold cH
   simp only[Int.reduceEq,if_true,if_false,reduceIte,IntKind.wrap_u32',wrap64,oc,oe,Int.zero_sub]
   try omega
  ·refine Or.inl ⟨23,hk,?_⟩
   refine aw ?_
   show (_:Int)=_
   rw[hk]
   clear hk
   unfold cH
   simp only[Int.reduceEq,if_true,if_false,reduceIte,IntKind.wrap_u32',wrap64,oc,oe,Int.zero_sub]
   try omega
  ·refine Or.inl ⟨24,hk,?_⟩
   refine aw ?_
   show (_:Int)=_
   rw[hk]
   clear hk
   unfold cH
   simp only[Int.reduceEq,if_true,if_false,reduceIte,IntKind.wrap_u32',wrap64,oc,oe,Int.zero_sub]
   try omega
  ·refine Or.inl ⟨25,hk,?_⟩
   refine aw ?_
   show (_:Int)=_
   rw[hk]
   clear hk
   unfold cH
   simp only[Int.reduceEq,if_true,if_false,reduceIte,IntKind.wrap_u32',wrap64,oc,oe,Int.zero_sub]
   try omega
  ·refine Or.inl ⟨26,hk,?_⟩
   refine aw ?_
   show (_:Int)=_
   rw[hk]
   clear hk
   unfold cH
   simp only[Int.reduceEq,if_true,if_false,reduceIte,IntKind.wrap_u32',wrap64,oc,oe,Int.zero_sub]
   try omega
  ·refine Or.inl ⟨27,hk,?_⟩
   refine aw ?_
   show (_:Int)=_
   rw[hk]
   clear hk
   unfold cH
   simp only[Int.reduceEq,if_true,if_false,reduceIte,IntKind.wrap_u32',wrap64,oc,oe,Int.zero_sub]
   try omega
  ·refine Or.inl ⟨28,hk,?_⟩
   refine aw ?_
   show (_:Int)=_
   rw[hk]
   clear hk
   unfold cH
   simp only[Int.reduceEq,if_true,if_false,reduceIte,IntKind.wrap_u32',wrap64,oc,oe,Int.zero_sub]
   try omega
  ·refine Or.inl ⟨29,hk,?_⟩
   refine aw ?_
   show (_:Int)=_
   rw[hk]
   clear hk
   unfold cH
   simp only[Int.reduceEq,if_true,if_false,reduceIte,IntKind.wrap_u32',wrap64,oc,oe,Int.zero_sub]
   try omega
  skip
def mP (fl:List Int) (L:List (Int × Int)):PV:=.agg [.sl 1 (gz fl),.sl 2 (L.map wP)]
theorem Z0 (a:Int):ai gT 39 [.int .u32 a] (.bool (dH a)):=by
 refine Spec.enter al P39 100 Tryz.func39 rfl (by kernel_rfl) ?_
 refine⟨fun h=>?_,fun h=>?_⟩
 ·have h':536870912<=a:=h
  exact aw (show a<=536936444↔dH a by unfold dH; omega)
 ·have h':¬ 536870912<=a:=h
  exact aw (fD (show ¬ dH a by unfold dH; omega))
def hasB (fl:List Int) (a:Int):Prop:=134217728<=a/\a - 134217728 < fl.length
instance (fl:List Int) (a:Int):Decidable (hasB fl a):=by unfold hasB; infer_instance
theorem II (fl:List Int) (L:List (Int × Int)) (a:Int) (ha:a_ a) (h:¬ hasB fl a):ai gT 70 [mP fl L,.int .u32 a] (.tup [.int .u32 0,.ff]):=by
 have el:(gz fl).length=fl.length:=List.length_map ..
 obtain⟨a0,a1⟩:=ha
 unfold hasB at h
 refine Spec.enter al P70 100 Tryz.func70 rfl (by kernel_rfl) ?_
 refine⟨fun h1=>?_,fun h1=>?_⟩
 ·exact rA
 have qw:¬ a < 134217728:=h1
 refine lu ?_ (show 0<=a - 134217728/\a - 134217728<=4294967295 by omega)
 refine li ?_ (show _<=a - 134217728/\a - 134217728<=_ by omega)
 refine fun _=>?_
 refine⟨fun h2=>?_,fun h2=>absurd (show ((gz fl).length:Int)<=a - 134217728 by rw[el]; omega) h2⟩
 exact rA
theorem D2 (fl:List Int) (L:List (Int × Int)) (a:Int) (ha:a_ a) (hb:Bg fl) (h:hasB fl a):ai gT 70 [mP fl L,.int .u32 a] (.tup [.int .u32 (fl.getD (c8 a) 0),.tt]):=by
 have el:(gz fl).length=fl.length:=List.length_map ..
 have hg:=e8 hb (c8 a)
 obtain⟨a0,a1⟩:=ha
 obtain⟨b0,b1⟩:=h
 refine Spec.enter al P70 100 Tryz.func70 rfl (by kernel_rfl) ?_
 refine⟨fun h1=>absurd h1 (show ¬ a < 134217728 by omega),fun h1=>?_⟩
 refine lu ?_ (show 0<=a - 134217728/\a - 134217728<=4294967295 by omega)
 refine li ?_ (show _<=a - 134217728/\a - 134217728<=_ by omega)
 refine fun _=>?_
 refine⟨fun h2=>absurd (show ((gz fl).length:Int)<=a - 134217728 from h2) (by rw[el]; omega),fun h2=>?_⟩
 refine lu ?_ (show 0<=a - 134217728/\a - 134217728<=4294967295 by omega)
 refine⟨Int,fl,PV.int .u8,rfl,show (0:Int)<=a - 134217728 by omega,show a - 134217728 < (fl.length:Int) by omega,fun z hz=>?_⟩
 have e:fl.getD (c8 a) 0=z:=getD_some (by unfold c8; exact hz)
 rw[e] at hg ⊢
 refine lu ?_ (show 0<=z/\z<=4294967295 by omega)
 exact rA
end Go.Proofs.YtlgkljpgagfndaaGreatDoor.Pw

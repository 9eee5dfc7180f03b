/- What this claim is proved with: no condition. -/
import Derived.Test.YtlgkljpgagfndaaGreatDoorNs24
import Derived.Test.YtlgkljpgagfndaaGreatDoorNs26
import Derived.Test.YtlgkljpgagfndaaGreatDoorNs23
import Derived.Test.YtlgkljpgagfndaaGreatDoorNs20
set_option linter.unusedVariables false
set_option linter.unusedSimpArgs false
namespace Go.Proofs.YtlgkljpgagfndaaGreatDoor.Pw
open Go Go.RowKit
def al (f:Int):Prop:=f=46\/f=47\/f=99\/f=100\/f=31
def E4 (n:Int):Prop:=0<=Rm.ofM n\/0<=Rm.ofM (4294967295 - n)
noncomputable def bL (o:VO):Int:=open Classical in if o.kind=1 then (if 65536<=o.n/\¬ E4 o.n then 2 else 1) else if o.kind=21 then 3 else if o.kind=22\/o.kind=25 then 4 else if o.kind=23\/o.kind=24\/o.kind=27 then 2 else 1
theorem ll (x:Int) (hx:0<=x/\x<=4294967295) (h:Rm.kx x=0):Rm.c_ (Rm.nI x)=0/\0<=Rm.nI x/\Rm.nI x<=4095:=by
 unfold Rm.kx at h
 unfold Rm.nI
 cases hd:Rm.dec x.toNat with
 | none=>rw[hd] at h; simp at h
 | some n =>
  obtain⟨h1,h2⟩:=Rm.KX x.toNat n (by omega) hd
  simp only[Option.getD_some]
  refine⟨?_,by omega,by omega⟩
  unfold Rm.c_
  rw[if_neg (by omega),Int.toNat_natCast,h1]; rfl
open Classical in
theorem YE (o:VO) (hk:o.kind=1) (hv:bg o) (hp:(aj o.t0 o.f0/\aj o.t0 o.f1/\aj o.t0 o.f2/\aj o.t0 o.f3)/\(aj o.t1 o.f0/\aj o.t1 o.f1/\aj o.t1 o.f2/\aj o.t1 o.f3)) (hn:0<=o.n/\o.n<=4294967295):(∀ i∈aC o,aq i/\¬ al i.form)/\((aC o).length:Int)=bL o:=by
 obtain⟨_,⟨p0,p1⟩,⟨q0,q1,q2,q3⟩,hd,cW⟩:=hv
 have b0:=hp.1.1.1
 have b1:=hp.2.1.1
 have c0:=hp.1.1.2.1
 have c1:=hp.1.2.1.2.1
 have c2:=hp.1.2.2.1.2.1
 have c3:=hp.1.2.2.2.2.1
 clear hp
 rw[hk] at p0 p1 q0 q1 q2 q3 hd cW
 rw[show cF 1=1 by decide] at p0 p1 hd
 rw[show aM 1=0 by decide] at q0 q1 q2 q3
 unfold dR at p0 p1 q0 q1 q2 q3
 unfold dv at cW
 have eL:aC o=ia o.t0 o.n:=by unfold aC aZ aG aH aI aw; rw[hk]; simp
 have eN:bL o=if 65536<=o.n/\¬ E4 o.n then 2 else 1:=by unfold bL; rw[hk]; rfl
 rw[eL,eN]
 have i1:=n_ o.n
 have j1:=n_ (4294967295 - o.n)
 unfold ia E4
 by_cases h1:o.n<=255
 ·rw[if_pos h1,if_neg (by omega)]
  refine⟨fun i hi=>?_,rfl⟩
  simp only[List.mem_cons,List.not_mem_nil,or_false] at hi
  subst hi
  exact⟨Ym _ _ (by omega) (by omega),(show ¬ al 8 by unfold al; decide)⟩
 rw[if_neg h1]
 by_cases h2:Rm.kx o.n=0
 ·have w:=ll o.n hn h2
  rw[if_pos h2,if_neg (fun e=>e.2 (.inl (i1.1.2 h2)))]
  refine⟨fun i hi=>?_,rfl⟩
  simp only[List.mem_cons,List.not_mem_nil,or_false] at hi
  subst hi
  exact⟨UH _ _ (by omega) w.2 w.1,(show ¬ al 60 by unfold al; decide)⟩
 rw[if_neg h2]
 by_cases h3:Rm.kx (4294967295 - o.n)=0
 ·have w:=ll (4294967295 - o.n) (by omega) h3
  rw[if_pos h3,if_neg (fun e=>e.2 (.inr (j1.1.2 h3)))]
  refine⟨fun i hi=>?_,rfl⟩
  simp only[List.mem_cons,List.not_mem_nil,or_false] at hi
  subst hi
  exact⟨UI _ _ (by omega) w.2 w.1,(show ¬ al 61 by unfold al; decide)⟩
 rw[if_neg h3]
 by_cases h4:o.n / 65536≠0
 ·rw[if_pos h4,if_pos ⟨by omega,fun e=>e.elim (fun e=>h2 (i1.1.1 e)) (fun e=>h3 (j1.1.1 e))⟩]
  refine⟨fun i hi=>?_,rfl⟩
  simp only[List.mem_cons,List.not_mem_nil,or_false] at hi
  rcases hi with rfl|rfl
  ·exact⟨J0 _ _ (by omega) (by omega),(show ¬ al 48 by unfold al; decide)⟩
  ·exact⟨UJ _ _ (by omega) (by omega),(show ¬ al 49 by unfold al; decide)⟩
 ·rw[if_neg h4,if_neg (by omega)]
  refine⟨fun i hi=>?_,rfl⟩
  simp only[List.mem_cons,List.not_mem_nil,or_false] at hi
  subst hi
  exact⟨J0 _ _ (by omega) (by omega),(show ¬ al 48 by unfold al; decide)⟩
theorem YF (o:VO) (hk:o.kind=2) (hv:bg o) (hp:(aj o.t0 o.f0/\aj o.t0 o.f1/\aj o.t0 o.f2/\aj o.t0 o.f3)/\(aj o.t1 o.f0/\aj o.t1 o.f1/\aj o.t1 o.f2/\aj o.t1 o.f3)) (hn:0<=o.n/\o.n<=4294967295):(∀ i∈aC o,aq i/\¬ al i.form)/\((aC o).length:Int)=bL o:=by
 obtain⟨_,⟨p0,p1⟩,⟨q0,q1,q2,q3⟩,hd,cW⟩:=hv
 have b0:=hp.1.1.1
 have b1:=hp.2.1.1
 have c0:=hp.1.1.2.1
 have c1:=hp.1.2.1.2.1
 have c2:=hp.1.2.2.1.2.1
 have c3:=hp.1.2.2.2.2.1
 clear hp
 rw[hk] at p0 p1 q0 q1 q2 q3 hd cW
 rw[show cF 2=1 by decide] at p0 p1 hd
 rw[show aM 2=0 by decide] at q0 q1 q2 q3
 unfold dR at p0 p1 q0 q1 q2 q3
 unfold dv at cW
 have eL:aC o = [iM 38 o.t0 o.n]:=by unfold aC aZ aG aH aI aw; rw[hk]; rfl
 have eN:bL o=1:=by unfold bL; rw[hk]; rfl
 rw[eL,eN]
 refine⟨fun i hi=>?_,rfl⟩
 simp only[List.mem_cons,List.not_mem_nil,or_false] at hi
 subst hi
 exact⟨UA _ _ (by omega) (by omega),(show ¬ al 38 by unfold al; decide)⟩
theorem YG (o:VO) (hk:o.kind=3) (hv:bg o) (hp:(aj o.t0 o.f0/\aj o.t0 o.f1/\aj o.t0 o.f2/\aj o.t0 o.f3)/\(aj o.t1 o.f0/\aj o.t1 o.f1/\aj o.t1 o.f2/\aj o.t1 o.f3)) (hn:0<=o.n/\o.n<=4294967295):(∀ i∈aC o,aq i/\¬ al i.form)/\((aC o).length:Int)=bL o:=by
 obtain⟨_,⟨p0,p1⟩,⟨q0,q1,q2,q3⟩,hd,cW⟩:=hv
 have b0:=hp.1.1.1
 have b1:=hp.2.1.1
 have c0:=hp.1.1.2.1
 have c1:=hp.1.2.1.2.1
 have c2:=hp.1.2.2.1.2.1
 have c3:=hp.1.2.2.2.2.1
 clear hp
 rw[hk] at p0 p1 q0 q1 q2 q3 hd cW
 rw[show cF 3=0 by decide] at p0 p1 hd
 rw[show aM 3=1 by decide] at q0 q1 q2 q3
 unfold dR at p0 p1 q0 q1 q2 q3
 unfold dv at cW
 have eL:aC o = [iM 37 o.f0 o.n]:=by unfold aC aZ aG aH aI aw; rw[hk]; rfl
 have eN:bL o=1:=by unfold bL; rw[hk]; rfl
 rw[eL,eN]
 refine⟨fun i hi=>?_,rfl⟩
 simp only[List.mem_cons,List.not_mem_nil,or_false] at hi
 subst hi
 exact⟨Uz _ _ (by omega) (by omega),(show ¬ al 37 by unfold al; decide)⟩
theorem YH (o:VO) (hk:o.kind=4) (hv:bg o) (hp:(aj o.t0 o.f0/\aj o.t0 o.f1/\aj o.t0 o.f2/\aj o.t0 o.f3)/\(aj o.t1 o.f0/\aj o.t1 o.f1/\aj o.t1 o.f2/\aj o.t1 o.f3)) (hn:0<=o.n/\o.n<=4294967295):(∀ i∈aC o,aq i/\¬ al i.form)/\((aC o).length:Int)=bL o:=by
 obtain⟨_,⟨p0,p1⟩,⟨q0,q1,q2,q3⟩,hd,cW⟩:=hv
 have b0:=hp.1.1.1
 have b1:=hp.2.1.1
 have c0:=hp.1.1.2.1
 have c1:=hp.1.2.1.2.1
 have c2:=hp.1.2.2.1.2.1
 have c3:=hp.1.2.2.2.2.1
 clear hp
 rw[hk] at p0 p1 q0 q1 q2 q3 hd cW
 rw[show cF 4=1 by decide] at p0 p1 hd
 rw[show aM 4=0 by decide] at q0 q1 q2 q3
 unfold dR at p0 p1 q0 q1 q2 q3
 unfold dv at cW
 have eL:aC o = [iM 39 o.t0 o.n]:=by unfold aC aZ aG aH aI aw; rw[hk]; rfl
 have eN:bL o=1:=by unfold bL; rw[hk]; rfl
 rw[eL,eN]
 refine⟨fun i hi=>?_,rfl⟩
 simp only[List.mem_cons,List.not_mem_nil,or_false] at hi
 subst hi
 exact⟨UB _ _ (by omega) (by omega),(show ¬ al 39 by unfold al; decide)⟩
theorem YI (o:VO) (hk:o.kind=5) (hv:bg o) (hp:(aj o.t0 o.f0/\aj o.t0 o.f1/\aj o.t0 o.f2/\aj o.t0 o.f3)/\(aj o.t1 o.f0/\aj o.t1 o.f1/\aj o.t1 o.f2/\aj o.t1 o.f3)) (hn:0<=o.n/\o.n<=4294967295):(∀ i∈aC o,aq i/\¬ al i.form)/\((aC o).length:Int)=bL o:=by
 obtain⟨_,⟨p0,p1⟩,⟨q0,q1,q2,q3⟩,hd,cW⟩:=hv
 have b0:=hp.1.1.1
 have b1:=hp.2.1.1
 have c0:=hp.1.1.2.1
 have c1:=hp.1.2.1.2.1
 have c2:=hp.1.2.2.1.2.1
 have c3:=hp.1.2.2.2.2.1
 clear hp
 rw[hk] at p0 p1 q0 q1 q2 q3 hd cW
 rw[show cF 5=1 by decide] at p0 p1 hd
 rw[show aM 5=2 by decide] at q0 q1 q2 q3
 unfold dR at p0 p1 q0 q1 q2 q3
 unfold dv at cW
 have eL:aC o = [{ iF 87 o.t0 o.f0 o.f1 with bC:=2 }]:=by unfold aC aZ aG aH aI aw; rw[hk]; rfl
 have eN:bL o=1:=by unfold bL; rw[hk]; rfl
 rw[eL,eN]
 refine⟨fun i hi=>?_,rfl⟩
 simp only[List.mem_cons,List.not_mem_nil,or_false] at hi
 subst hi
 exact⟨UD o.t0 o.f0 o.f1 (by omega) (by omega) (by omega),(show ¬ al 87 by unfold al; decide)⟩
theorem YJ (o:VO) (hk:o.kind=6) (hv:bg o) (hp:(aj o.t0 o.f0/\aj o.t0 o.f1/\aj o.t0 o.f2/\aj o.t0 o.f3)/\(aj o.t1 o.f0/\aj o.t1 o.f1/\aj o.t1 o.f2/\aj o.t1 o.f3)) (hn:0<=o.n/\o.n<=4294967295):(∀ i∈aC o,aq i/\¬ al i.form)/\((aC o).length:Int)=bL o:=by
 obtain⟨_,⟨p0,p1⟩,⟨q0,q1,q2,q3⟩,hd,cW⟩:=hv
 have b0:=hp.1.1.1
 have b1:=hp.2.1.1
 have c0:=hp.1.1.2.1
 have c1:=hp.1.2.1.2.1
 have c2:=hp.1.2.2.1.2.1
 have c3:=hp.1.2.2.2.2.1
 clear hp
 rw[hk] at p0 p1 q0 q1 q2 q3 hd cW
 rw[show cF 6=0 by decide] at p0 p1 hd
 rw[show aM 6=3 by decide] at q0 q1 q2 q3
 unfold dR at p0 p1 q0 q1 q2 q3
 unfold dv at cW
 have eL:aC o = [{ iF 86 o.f2 o.f0 o.f1 with bC:=2 }]:=by unfold aC aZ aG aH aI aw; rw[hk]; rfl
 have eN:bL o=1:=by unfold bL; rw[hk]; rfl
 rw[eL,eN]
 refine⟨fun i hi=>?_,rfl⟩
 simp only[List.mem_cons,List.not_mem_nil,or_false] at hi
 subst hi
 exact⟨UC o.f2 o.f0 o.f1 (by omega) (by omega) (by omega),(show ¬ al 86 by unfold al; decide)⟩
theorem YK (o:VO) (hk:o.kind=7) (hv:bg o) (hp:(aj o.t0 o.f0/\aj o.t0 o.f1/\aj o.t0 o.f2/\aj o.t0 o.f3)/\(aj o.t1 o.f0/\aj o.t1 o.f1/\aj o.t1 o.f2/\aj o.t1 o.f3)) (hn:0<=o.n/\o.n<=4294967295):(∀ i∈aC o,aq i/\¬ al i.form)/\((aC o).length:Int)=bL o:=by
 obtain⟨_,⟨p0,p1⟩,⟨q0,q1,q2,q3⟩,hd,cW⟩:=hv
 have b0:=hp.1.1.1
 have b1:=hp.2.1.1
 have c0:=hp.1.1.2.1
 have c1:=hp.1.2.1.2.1
 have c2:=hp.1.2.2.1.2.1
 have c3:=hp.1.2.2.2.2.1
 clear hp
 rw[hk] at p0 p1 q0 q1 q2 q3 hd cW
 rw[show cF 7=1 by decide] at p0 p1 hd
 rw[show aM 7=2 by decide] at q0 q1 q2 q3
 unfold dR at p0 p1 q0 q1 q2 q3
 unfold dv at cW
 have eL:aC o = [iF 66 o.t0 o.f0 o.f1]:=by unfold aC aZ aG aH aI aw; rw[hk]; rfl
 have eN:bL o=1:=by unfold bL; rw[hk]; rfl
 rw[eL,eN]
 refine⟨fun i hi=>?_,rfl⟩
 simp only[List.mem_cons,List.not_mem_nil,or_false] at hi
 subst hi
 exact⟨Uq _ _ _ (by omega) (by omega) (by omega),(show ¬ al 66 by unfold al; decide)⟩
theorem YL (o:VO) (hk:o.kind=8) (hv:bg o) (hp:(aj o.t0 o.f0/\aj o.t0 o.f1/\aj o.t0 o.f2/\aj o.t0 o.f3)/\(aj o.t1 o.f0/\aj o.t1 o.f1/\aj o.t1 o.f2/\aj o.t1 o.f3)) (hn:0<=o.n/\o.n<=4294967295):(∀ i∈aC o,aq i/\¬ al i.form)/\((aC o).length:Int)=bL o:=by
 obtain⟨_,⟨p0,p1⟩,⟨q0,q1,q2,q3⟩,hd,cW⟩:=hv
 have b0:=hp.1.1.1
 have b1:=hp.2.1.1
 have c0:=hp.1.1.2.1
 have c1:=hp.1.2.1.2.1
 have c2:=hp.1.2.2.1.2.1
 have c3:=hp.1.2.2.2.2.1
 clear hp
 rw[hk] at p0 p1 q0 q1 q2 q3 hd cW
 rw[show cF 8=1 by decide] at p0 p1 hd
 rw[show aM 8=2 by decide] at q0 q1 q2 q3
 unfold dR at p0 p1 q0 q1 q2 q3
 unfold dv at cW
 have eL:aC o = [iF 68 o.t0 o.f0 o.f1]:=by unfold aC aZ aG aH aI aw; rw[hk]; rfl
 have eN:bL o=1:=by unfold bL; rw[hk]; rfl
 rw[eL,eN]
 refine⟨fun i hi=>?_,rfl⟩
 simp only[List.mem_cons,List.not_mem_nil,or_false] at hi
 subst hi
 exact⟨Ur _ _ _ (by omega) (by omega) (by omega),(show ¬ al 68 by unfold al; decide)⟩
theorem YM (o:VO) (hk:o.kind=9) (hv:bg o) (hp:(aj o.t0 o.f0/\aj o.t0 o.f1/\aj o.t0 o.f2/\aj o.t0 o.f3)/\(aj o.t1 o.f0/\aj o.t1 o.f1/\aj o.t1 o.f2/\aj o.t1 o.f3)) (hn:0<=o.n/\o.n<=4294967295):(∀ i∈aC o,aq i/\¬ al i.form)/\((aC o).length:Int)=bL o:=by
 obtain⟨_,⟨p0,p1⟩,⟨q0,q1,q2,q3⟩,hd,cW⟩:=hv
 have b0:=hp.1.1.1
 have b1:=hp.2.1.1
 have c0:=hp.1.1.2.1
 have c1:=hp.1.2.1.2.1
 have c2:=hp.1.2.2.1.2.1
 have c3:=hp.1.2.2.2.2.1
 clear hp
 rw[hk] at p0 p1 q0 q1 q2 q3 hd cW
 rw[show cF 9=1 by decide] at p0 p1 hd
 rw[show aM 9=2 by decide] at q0 q1 q2 q3
 unfold dR at p0 p1 q0 q1 q2 q3
 unfold dv at cW
 have eL:aC o = [iF 70 o.t0 o.f0 o.f1]:=by unfold aC aZ aG aH aI aw; rw[hk]; rfl
 have eN:bL o=1:=by unfold bL; rw[hk]; rfl
 rw[eL,eN]
 refine⟨fun i hi=>?_,rfl⟩
 simp only[List.mem_cons,List.not_mem_nil,or_false] at hi
 subst hi
 exact⟨JZ _ _ _ (by omega) (by omega) (by omega),(show ¬ al 70 by unfold al; decide)⟩
theorem UQ (o:VO) (hk:o.kind=10) (hv:bg o) (hp:(aj o.t0 o.f0/\aj o.t0 o.f1/\aj o.t0 o.f2/\aj o.t0 o.f3)/\(aj o.t1 o.f0/\aj o.t1 o.f1/\aj o.t1 o.f2/\aj o.t1 o.f3)) (hn:0<=o.n/\o.n<=4294967295):(∀ i∈aC o,aq i/\¬ al i.form)/\((aC o).length:Int)=bL o:=by
 obtain⟨_,⟨p0,p1⟩,⟨q0,q1,q2,q3⟩,hd,cW⟩:=hv
 have b0:=hp.1.1.1
 have b1:=hp.2.1.1
 have c0:=hp.1.1.2.1
 have c1:=hp.1.2.1.2.1
 have c2:=hp.1.2.2.1.2.1
 have c3:=hp.1.2.2.2.2.1
 clear hp
 rw[hk] at p0 p1 q0 q1 q2 q3 hd cW
 rw[show cF 10=1 by decide] at p0 p1 hd
 rw[show aM 10=2 by decide] at q0 q1 q2 q3
 unfold dR at p0 p1 q0 q1 q2 q3
 unfold dv at cW
 have eL:aC o = [iF 4 o.t0 o.f0 o.f1]:=by unfold aC aZ aG aH aI aw; rw[hk]; rfl
 have eN:bL o=1:=by unfold bL; rw[hk]; rfl
 rw[eL,eN]
 refine⟨fun i hi=>?_,rfl⟩
 simp only[List.mem_cons,List.not_mem_nil,or_false] at hi
 subst hi
 exact⟨Ut _ _ _ (by omega) (by omega) (by omega),(show ¬ al 4 by unfold al; decide)⟩
theorem UR (o:VO) (hk:o.kind=11) (hv:bg o) (hp:(aj o.t0 o.f0/\aj o.t0 o.f1/\aj o.t0 o.f2/\aj o.t0 o.f3)/\(aj o.t1 o.f0/\aj o.t1 o.f1/\aj o.t1 o.f2/\aj o.t1 o.f3)) (hn:0<=o.n/\o.n<=4294967295):(∀ i∈aC o,aq i/\¬ al i.form)/\((aC o).length:Int)=bL o:=by
 obtain⟨_,⟨p0,p1⟩,⟨q0,q1,q2,q3⟩,hd,cW⟩:=hv
 have b0:=hp.1.1.1
 have b1:=hp.2.1.1
 have c0:=hp.1.1.2.1
 have c1:=hp.1.2.1.2.1
 have c2:=hp.1.2.2.1.2.1
 have c3:=hp.1.2.2.2.2.1
 clear hp
 rw[hk] at p0 p1 q0 q1 q2 q3 hd cW
 rw[show cF 11=1 by decide] at p0 p1 hd
 rw[show aM 11=2 by decide] at q0 q1 q2 q3
 unfold dR at p0 p1 q0 q1 q2 q3
 unfold dv at cW
 have eL:aC o = [iF 5 o.t0 o.f0 o.f1]:=by unfold aC aZ aG aH aI aw; rw[hk]; rfl
 have eN:bL o=1:=by unfold bL; rw[hk]; rfl
 rw[eL,eN]
 refine⟨fun i hi=>?_,rfl⟩
 simp only[List.mem_cons,List.not_mem_nil,or_false] at hi
 subst hi
 exact⟨IC _ _ _ (by omega) (by omega) (by omega),(show ¬ al 5 by unfold al; decide)⟩
theorem US (o:VO) (hk:o.kind=12) (hv:bg o) (hp:(aj o.t0 o.f0/\aj o.t0 o.f1/\aj o.t0 o.f2/\aj o.t0 o.f3)/\(aj o.t1 o.f0/\aj o.t1 o.f1/\aj o.t1 o.f2/\aj o.t1 o.f3)) (hn:0<=o.n/\o.n<=4294967295):(∀ i∈aC o,aq i/\¬ al i.form)/\((aC o).length:Int)=bL o:=by
 obtain⟨_,⟨p0,p1⟩,⟨q0,q1,q2,q3⟩,hd,cW⟩:=hv
 have b0:=hp.1.1.1
 have b1:=hp.2.1.1
 have c0:=hp.1.1.2.1
 have c1:=hp.1.2.1.2.1
 have c2:=hp.1.2.2.1.2.1
 have c3:=hp.1.2.2.2.2.1
 clear hp
 rw[hk] at p0 p1 q0 q1 q2 q3 hd cW
 rw[show cF 12=1 by decide] at p0 p1 hd
 rw[show aM 12=2 by decide] at q0 q1 q2 q3
 unfold dR at p0 p1 q0 q1 q2 q3
 unfold dv at cW
 have eL:aC o = [iF 92 o.t0 o.f0 o.f1]:=by unfold aC aZ aG aH aI aw; rw[hk]; rfl
 have eN:bL o=1:=by unfold bL; rw[hk]; rfl
 rw[eL,eN]
 refine⟨fun i hi=>?_,rfl⟩
 simp only[List.mem_cons,List.not_mem_nil,or_false] at hi
 subst hi
 exact⟨Uu _ _ _ (by omega) (by omega) (by omega),(show ¬ al 92 by unfold al; decide)⟩
theorem UT (o:VO) (hk:o.kind=13) (hv:bg o) (hp:(aj o.t0 o.f0/\aj o.t0 o.f1/\aj o.t0 o.f2/\aj o.t0 o.f3)/\(aj o.t1 o.f0/\aj o.t1 o.f1/\aj o.t1 o.f2/\aj o.t1 o.f3)) (hn:0<=o.n/\o.n<=4294967295):(∀ i∈aC o,aq i/\¬ al i.form)/\((aC o).length:Int)=bL o:=by
 obtain⟨_,⟨p0,p1⟩,⟨q0,q1,q2,q3⟩,hd,cW⟩:=hv
 have b0:=hp.1.1.1
 have b1:=hp.2.1.1
 have c0:=hp.1.1.2.1
 have c1:=hp.1.2.1.2.1
 have c2:=hp.1.2.2.1.2.1
 have c3:=hp.1.2.2.2.2.1
 clear hp
 rw[hk] at p0 p1 q0 q1 q2 q3 hd cW
 rw[show cF 13=1 by decide] at p0 p1 hd
 rw[show aM 13=2 by decide] at q0 q1 q2 q3
 unfold dR at p0 p1 q0 q1 q2 q3
 unfold dv at cW
 have eL:aC o = [iF 88 o.t0 o.f0 o.f1]:=by unfold aC aZ aG aH aI aw; rw[hk]; rfl
 have eN:bL o=1:=by unfold bL; rw[hk]; rfl
 rw[eL,eN]
 refine⟨fun i hi=>?_,rfl⟩
 simp only[List.mem_cons,List.not_mem_nil,or_false] at hi
 subst hi
 exact⟨Uw _ _ _ (by omega) (by omega) (by omega),(show ¬ al 88 by unfold al; decide)⟩
theorem UU (o:VO) (hk:o.kind=14) (hv:bg o) (hp:(aj o.t0 o.f0/\aj o.t0 o.f1/\aj o.t0 o.f2/\aj o.t0 o.f3)/\(aj o.t1 o.f0/\aj o.t1 o.f1/\aj o.t1 o.f2/\aj o.t1 o.f3)) (hn:0<=o.n/\o.n<=4294967295):(∀ i∈aC o,aq i/\¬ al i.form)/\((aC o).length:Int)=bL o:=by
 obtain⟨_,⟨p0,p1⟩,⟨q0,q1,q2,q3⟩,hd,cW⟩:=hv
 have b0:=hp.1.1.1
 have b1:=hp.2.1.1
 have c0:=hp.1.1.2.1
 have c1:=hp.1.2.1.2.1
 have c2:=hp.1.2.2.1.2.1
 have c3:=hp.1.2.2.2.2.1
 clear hp
 rw[hk] at p0 p1 q0 q1 q2 q3 hd cW
 rw[show cF 14=1 by decide] at p0 p1 hd
 rw[show aM 14=2 by decide] at q0 q1 q2 q3
 unfold dR at p0 p1 q0 q1 q2 q3
 unfold dv at cW
 have eL:aC o = [iF 89 o.t0 o.f0 o.f1]:=by unfold aC aZ aG aH aI aw; rw[hk]; rfl
 have eN:bL o=1:=by unfold bL; rw[hk]; rfl
 rw[eL,eN]
 refine⟨fun i hi=>?_,rfl⟩
 simp only[List.mem_cons,List.not_mem_nil,or_false] at hi
 subst hi
 exact⟨Ux _ _ _ (by omega) (by omega) (by omega),(show ¬ al 89 by unfold al; decide)⟩
theorem UW (o:VO) (hk:o.kind=15) (hv:bg o) (hp:(aj o.t0 o.f0/\aj o.t0 o.f1/\aj o.t0 o.f2/\aj o.t0 o.f3)/\(aj o.t1 o.f0/\aj o.t1 o.f1/\aj o.t1 o.f2/\aj o.t1 o.f3)) (hn:0<=o.n/\o.n<=4294967295):(∀ i∈aC o,aq i/\¬ al i.form)/\((aC o).length:Int)=bL o:=by
 obtain⟨_,⟨p0,p1⟩,⟨q0,q1,q2,q3⟩,hd,cW⟩:=hv
 have b0:=hp.1.1.1
 have b1:=hp.2.1.1
 have c0:=hp.1.1.2.1
 have c1:=hp.1.2.1.2.1
 have c2:=hp.1.2.2.1.2.1
 have c3:=hp.1.2.2.2.2.1
 clear hp
 rw[hk] at p0 p1 q0 q1 q2 q3 hd cW
 rw[show cF 15=1 by decide] at p0 p1 hd
 rw[show aM 15=2 by decide] at q0 q1 q2 q3
 unfold dR at p0 p1 q0 q1 q2 q3
 unfold dv at cW
 have eL:aC o = [iF 91 o.t0 o.f0 o.f1]:=by unfold aC aZ aG aH aI aw; rw[hk]; rfl
 have eN:bL o=1:=by unfold bL; rw[hk]; rfl
 rw[eL,eN]
 refine⟨fun i hi=>?_,rfl⟩
 simp only[List.mem_cons,List.not_mem_nil,or_false] at hi
 subst hi
 exact⟨Uy _ _ _ (by omega) (by omega) (by omega),(show ¬ al 91 by unfold al; decide)⟩
theorem UX (o:VO) (hk:o.kind=16) (hv:bg o) (hp:(aj o.t0 o.f0/\aj o.t0 o.f1/\aj o.t0 o.f2/\aj o.t0 o.f3)/\(aj o.t1 o.f0/\aj o.t1 o.f1/\aj o.t1 o.f2/\aj o.t1 o.f3)) (hn:0<=o.n/\o.n<=4294967295):(∀ i∈aC o,aq i/\¬ al i.form)/\((aC o).length:Int)=bL o:=by
 obtain⟨_,⟨p0,p1⟩,⟨q0,q1,q2,q3⟩,hd,cW⟩:=hv
 have b0:=hp.1.1.1
 have b1:=hp.2.1.1
 have c0:=hp.1.1.2.1
 have c1:=hp.1.2.1.2.1
 have c2:=hp.1.2.2.1.2.1
 have c3:=hp.1.2.2.2.2.1
 clear hp
 rw[hk] at p0 p1 q0 q1 q2 q3 hd cW
 rw[show cF 16=1 by decide] at p0 p1 hd
 rw[show aM 16=1 by decide] at q0 q1 q2 q3
 unfold dR at p0 p1 q0 q1 q2 q3
 unfold dv at cW
 have eL:aC o = [{ iZ with form:=77,rd:=o.t0,rm:=o.f0 }]:=by unfold aC aZ aG aH aI aw; rw[hk]; rfl
 have eN:bL o=1:=by unfold bL; rw[hk]; rfl
 rw[eL,eN]
 refine⟨fun i hi=>?_,rfl⟩
 simp only[List.mem_cons,List.not_mem_nil,or_false] at hi
 subst hi
 exact⟨UK _ _ (by omega) (by omega),(show ¬ al 77 by unfold al; decide)⟩
theorem UY (o:VO) (hk:o.kind=17) (hv:bg o) (hp:(aj o.t0 o.f0/\aj o.t0 o.f1/\aj o.t0 o.f2/\aj o.t0 o.f3)/\(aj o.t1 o.f0/\aj o.t1 o.f1/\aj o.t1 o.f2/\aj o.t1 o.f3)) (hn:0<=o.n/\o.n<=4294967295):(∀ i∈aC o,aq i/\¬ al i.form)/\((aC o).length:Int)=bL o:=by
 obtain⟨_,⟨p0,p1⟩,⟨q0,q1,q2,q3⟩,hd,cW⟩:=hv
 have b0:=hp.1.1.1
 have b1:=hp.2.1.1
 have c0:=hp.1.1.2.1
 have c1:=hp.1.2.1.2.1
 have c2:=hp.1.2.2.1.2.1
 have c3:=hp.1.2.2.2.2.1
 clear hp
 rw[hk] at p0 p1 q0 q1 q2 q3 hd cW
 rw[show cF 17=1 by decide] at p0 p1 hd
 rw[show aM 17=1 by decide] at q0 q1 q2 q3
 unfold dR at p0 p1 q0 q1 q2 q3
 unfold dv at cW
 have eL:aC o = [{ iZ with form:=59,rd:=o.t0,rn:=o.f0 }]:=by unfold aC aZ aG aH aI aw; rw[hk]; rfl
 have eN:bL o=1:=by unfold bL; rw[hk]; rfl
 have w0:Rm.c_ 0=0:=by decide +kernel
 rw[eL,eN]
 refine⟨fun i hi=>?_,rfl⟩
 simp only[List.mem_cons,List.not_mem_nil,or_false] at hi
 subst hi
 exact⟨J1 _ _ _ (by omega) (by omega) (by decide) w0,(show ¬ al 59 by unfold al; decide)⟩
theorem UZ (o:VO) (hk:o.kind=18) (hv:bg o) (hp:(aj o.t0 o.f0/\aj o.t0 o.f1/\aj o.t0 o.f2/\aj o.t0 o.f3)/\(aj o.t1 o.f0/\aj o.t1 o.f1/\aj o.t1 o.f2/\aj o.t1 o.f3)) (hn:0<=o.n/\o.n<=4294967295):(∀ i∈aC o,aq i/\¬ al i.form)/\((aC o).length:Int)=bL o:=by
 obtain⟨_,⟨p0,p1⟩,⟨q0,q1,q2,q3⟩,hd,cW⟩:=hv
 have b0:=hp.1.1.1
 have b1:=hp.2.1.1
 have c0:=hp.1.1.2.1
 have c1:=hp.1.2.1.2.1
 have c2:=hp.1.2.2.1.2.1
 have c3:=hp.1.2.2.2.2.1
 clear hp
 rw[hk] at p0 p1 q0 q1 q2 q3 hd cW
 rw[show cF 18=1 by decide] at p0 p1 hd
 rw[show aM 18=1 by decide] at q0 q1 q2 q3
 unfold dR at p0 p1 q0 q1 q2 q3
 unfold dv at cW
 have eL:aC o = [{ iZ with form:=1,rd:=o.t0,rm:=o.f0,az:=o.n }]:=by unfold aC aZ aG aH aI aw; rw[hk]; rfl
 have eN:bL o=1:=by unfold bL; rw[hk]; rfl
 rw[eL,eN]
 refine⟨fun i hi=>?_,rfl⟩
 simp only[List.mem_cons,List.not_mem_nil,or_false] at hi
 subst hi
 exact⟨Yl _ _ _ (by omega) (by omega) (by omega),(show ¬ al 1 by unfold al; decide)⟩
theorem U0 (o:VO) (hk:o.kind=19) (hv:bg o) (hp:(aj o.t0 o.f0/\aj o.t0 o.f1/\aj o.t0 o.f2/\aj o.t0 o.f3)/\(aj o.t1 o.f0/\aj o.t1 o.f1/\aj o.t1 o.f2/\aj o.t1 o.f3)) (hn:0<=o.n/\o.n<=4294967295):(∀ i∈aC o,aq i/\¬ al i.form)/\((aC o).length:Int)=bL o:=by
 obtain⟨_,⟨p0,p1⟩,⟨q0,q1,q2,q3⟩,hd,cW⟩:=hv
 have b0:=hp.1.1.1
 have b1:=hp.2.1.1
 have c0:=hp.1.1.2.1
 have c1:=hp.1.2.1.2.1
 have c2:=hp.1.2.2.1.2.1
 have c3:=hp.1.2.2.2.2.1
 clear hp
 rw[hk] at p0 p1 q0 q1 q2 q3 hd cW
 rw[show cF 19=1 by decide] at p0 p1 hd
 rw[show aM 19=1 by decide] at q0 q1 q2 q3
 unfold dR at p0 p1 q0 q1 q2 q3
 unfold dv at cW
 have eL:aC o = [{ iZ with form:=2,rd:=o.t0,rm:=o.f0,az:=o.n }]:=by unfold aC aZ aG aH aI aw; rw[hk]; rfl
 have eN:bL o=1:=by unfold bL; rw[hk]; rfl
 rw[eL,eN]
 refine⟨fun i hi=>?_,rfl⟩
 simp only[List.mem_cons,List.not_mem_nil,or_false] at hi
 subst hi
 exact⟨ID _ _ _ (by omega) (by omega) (by omega),(show ¬ al 2 by unfold al; decide)⟩
theorem U1 (o:VO) (hk:o.kind=20) (hv:bg o) (hp:(aj o.t0 o.f0/\aj o.t0 o.f1/\aj o.t0 o.f2/\aj o.t0 o.f3)/\(aj o.t1 o.f0/\aj o.t1 o.f1/\aj o.t1 o.f2/\aj o.t1 o.f3)) (hn:0<=o.n/\o.n<=4294967295):(∀ i∈aC o,aq i/\¬ al i.form)/\((aC o).length:Int)=bL o:=by
 obtain⟨_,⟨p0,p1⟩,⟨q0,q1,q2,q3⟩,hd,cW⟩:=hv
 have b0:=hp.1.1.1
 have b1:=hp.2.1.1
 have c0:=hp.1.1.2.1
 have c1:=hp.1.2.1.2.1
 have c2:=hp.1.2.2.1.2.1
 have c3:=hp.1.2.2.2.2.1
 clear hp
 rw[hk] at p0 p1 q0 q1 q2 q3 hd cW
 rw[show cF 20=1 by decide] at p0 p1 hd
 rw[show aM 20=1 by decide] at q0 q1 q2 q3
 unfold dR at p0 p1 q0 q1 q2 q3
 unfold dv at cW
 have eL:aC o = [{ iZ with form:=76,rd:=o.t0,rm:=o.f0,kind:=3,bC:=o.n }]:=by unfold aC aZ aG aH aI aw; rw[hk]; rfl
 have eN:bL o=1:=by unfold bL; rw[hk]; rfl
 rw[eL,eN]
 refine⟨fun i hi=>?_,rfl⟩
 simp only[List.mem_cons,List.not_mem_nil,or_false] at hi
 subst hi
 exact⟨UL _ _ _ (by omega) (by omega) (by omega),(show ¬ al 76 by unfold al; decide)⟩
theorem U2 (o:VO) (hk:o.kind=21) (hv:bg o) (hp:(aj o.t0 o.f0/\aj o.t0 o.f1/\aj o.t0 o.f2/\aj o.t0 o.f3)/\(aj o.t1 o.f0/\aj o.t1 o.f1/\aj o.t1 o.f2/\aj o.t1 o.f3)) (hn:0<=o.n/\o.n<=4294967295):(∀ i∈aC o,aq i/\¬ al i.form)/\((aC o).length:Int)=bL o:=by
 obtain⟨_,⟨p0,p1⟩,⟨q0,q1,q2,q3⟩,hd,cW⟩:=hv
 have b0:=hp.1.1.1
 have b1:=hp.2.1.1
 have c0:=hp.1.1.2.1
 have c1:=hp.1.2.1.2.1
 have c2:=hp.1.2.2.1.2.1
 have c3:=hp.1.2.2.2.2.1
 clear hp
 rw[hk] at p0 p1 q0 q1 q2 q3 hd cW
 rw[show cF 21=1 by decide] at p0 p1 hd
 rw[show aM 21=2 by decide] at q0 q1 q2 q3
 unfold dR at p0 p1 q0 q1 q2 q3
 unfold dv at cW
 have eL:aC o = [iF 5 o.t0 o.f0 o.f1,i_ o.t0,lg o.t0]:=by unfold aC aZ aG aH aI aw; rw[hk]; rfl
 have eN:bL o=3:=by unfold bL; rw[hk]; rfl
 rw[eL,eN]
 refine⟨fun i hi=>?_,rfl⟩
 simp only[List.mem_cons,List.not_mem_nil,or_false] at hi
 rcases hi with rfl|rfl|rfl
 ·exact⟨IC _ _ _ (by omega) (by omega) (by omega),(show ¬ al 5 by unfold al; decide)⟩
 ·exact⟨yG _ _ _ (by omega) (by omega) (by omega),(show ¬ al 73 by unfold al; decide)⟩
 ·exact⟨ID _ _ _ (by omega) (by omega) (by omega),(show ¬ al 2 by unfold al; decide)⟩
theorem U3 (o:VO) (hk:o.kind=22) (hv:bg o) (hp:(aj o.t0 o.f0/\aj o.t0 o.f1/\aj o.t0 o.f2/\aj o.t0 o.f3)/\(aj o.t1 o.f0/\aj o.t1 o.f1/\aj o.t1 o.f2/\aj o.t1 o.f3)) (hn:0<=o.n/\o.n<=4294967295):(∀ i∈aC o,aq i/\¬ al i.form)/\((aC o).length:Int)=bL o:=by
 obtain⟨_,⟨p0,p1⟩,⟨q0,q1,q2,q3⟩,hd,cW⟩:=hv
 have b0:=hp.1.1.1
 have b1:=hp.2.1.1
 have c0:=hp.1.1.2.1
 have c1:=hp.1.2.1.2.1
 have c2:=hp.1.2.2.1.2.1
 have c3:=hp.1.2.2.2.2.1
 clear hp
 rw[hk] at p0 p1 q0 q1 q2 q3 hd cW
 rw[show cF 22=1 by decide] at p0 p1 hd
 rw[show aM 22=2 by decide] at q0 q1 q2 q3
 unfold dR at p0 p1 q0 q1 q2 q3
 unfold dv at cW
 have eL:aC o = [iF 70 o.t0 o.f0 o.f1,iM 11 o.t0 1,i_ o.t0,lg o.t0]:=by unfold aC aZ aG aH aI aw; rw[hk]; rfl
 have eN:bL o=4:=by unfold bL; rw[hk]; rfl
 rw[eL,eN]
 refine⟨fun i hi=>?_,rfl⟩
 simp only[List.mem_cons,List.not_mem_nil,or_false] at hi
 rcases hi with rfl|rfl|rfl|rfl
 ·exact⟨JZ _ _ _ (by omega) (by omega) (by omega),(show ¬ al 70 by unfold al; decide)⟩
 ·exact⟨UG _ _ (by omega) (by omega),(show ¬ al 11 by unfold al; decide)⟩
 ·exact⟨yG _ _ _ (by omega) (by omega) (by omega),(show ¬ al 73 by unfold al; decide)⟩
 ·exact⟨ID _ _ _ (by omega) (by omega) (by omega),(show ¬ al 2 by unfold al; decide)⟩
theorem U4 (o:VO) (hk:o.kind=23) (hv:bg o) (hp:(aj o.t0 o.f0/\aj o.t0 o.f1/\aj o.t0 o.f2/\aj o.t0 o.f3)/\(aj o.t1 o.f0/\aj o.t1 o.f1/\aj o.t1 o.f2/\aj o.t1 o.f3)) (hn:0<=o.n/\o.n<=4294967295):(∀ i∈aC o,aq i/\¬ al i.form)/\((aC o).length:Int)=bL o:=by
 obtain⟨_,⟨p0,p1⟩,⟨q0,q1,q2,q3⟩,hd,cW⟩:=hv
 have b0:=hp.1.1.1
 have b1:=hp.2.1.1
 have c0:=hp.1.1.2.1
 have c1:=hp.1.2.1.2.1
 have c2:=hp.1.2.2.1.2.1
 have c3:=hp.1.2.2.2.2.1
 clear hp
 rw[hk] at p0 p1 q0 q1 q2 q3 hd cW
 rw[show cF 23=2 by decide] at p0 p1 hd
 rw[show aM 23=4 by decide] at q0 q1 q2 q3
 unfold dR at p0 p1 q0 q1 q2 q3
 unfold dv at cW
 have eL:aC o = [iF 4 o.t0 o.f0 o.f2,iF 72 o.t1 o.f1 o.f3]:=by unfold aC aZ aG aH aI aw; rw[hk]; rfl
 have eN:bL o=2:=by unfold bL; rw[hk]; rfl
 rw[eL,eN]
 refine⟨fun i hi=>?_,rfl⟩
 simp only[List.mem_cons,List.not_mem_nil,or_false] at hi
 rcases hi with rfl|rfl
 ·exact⟨Ut _ _ _ (by omega) (by omega) (by omega),(show ¬ al 4 by unfold al; decide)⟩
 ·exact⟨Us _ _ _ (by omega) (by omega) (by omega),(show ¬ al 72 by unfold al; decide)⟩
theorem U5 (o:VO) (hk:o.kind=24) (hv:bg o) (hp:(aj o.t0 o.f0/\aj o.t0 o.f1/\aj o.t0 o.f2/\aj o.t0 o.f3)/\(aj o.t1 o.f0/\aj o.t1 o.f1/\aj o.t1 o.f2/\aj o.t1 o.f3)) (hn:0<=o.n/\o.n<=4294967295):(∀ i∈aC o,aq i/\¬ al i.form)/\((aC o).length:Int)=bL o:=by
 obtain⟨_,⟨p0,p1⟩,⟨q0,q1,q2,q3⟩,hd,cW⟩:=hv
 have b0:=hp.1.1.1
 have b1:=hp.2.1.1
 have c0:=hp.1.1.2.1
 have c1:=hp.1.2.1.2.1
 have c2:=hp.1.2.2.1.2.1
 have c3:=hp.1.2.2.2.2.1
 clear hp
 rw[hk] at p0 p1 q0 q1 q2 q3 hd cW
 rw[show cF 24=2 by decide] at p0 p1 hd
 rw[show aM 24=4 by decide] at q0 q1 q2 q3
 unfold dR at p0 p1 q0 q1 q2 q3
 unfold dv at cW
 have eL:aC o = [iF 5 o.t0 o.f0 o.f2,iF 73 o.t1 o.f1 o.f3]:=by unfold aC aZ aG aH aI aw; rw[hk]; rfl
 have eN:bL o=2:=by unfold bL; rw[hk]; rfl
 rw[eL,eN]
 refine⟨fun i hi=>?_,rfl⟩
 simp only[List.mem_cons,List.not_mem_nil,or_false] at hi
 rcases hi with rfl|rfl
 ·exact⟨IC _ _ _ (by omega) (by omega) (by omega),(show ¬ al 5 by unfold al; decide)⟩
 ·exact⟨yG _ _ _ (by omega) (by omega) (by omega),(show ¬ al 73 by unfold al; decide)⟩
theorem U6 (o:VO) (hk:o.kind=25) (hv:bg o) (hp:(aj o.t0 o.f0/\aj o.t0 o.f1/\aj o.t0 o.f2/\aj o.t0 o.f3)/\(aj o.t1 o.f0/\aj o.t1 o.f1/\aj o.t1 o.f2/\aj o.t1 o.f3)) (hn:0<=o.n/\o.n<=4294967295):(∀ i∈aC o,aq i/\¬ al i.form)/\((aC o).length:Int)=bL o:=by
 obtain⟨_,⟨p0,p1⟩,⟨q0,q1,q2,q3⟩,hd,cW⟩:=hv
 have b0:=hp.1.1.1
 have b1:=hp.2.1.1
 have c0:=hp.1.1.2.1
 have c1:=hp.1.2.1.2.1
 have c2:=hp.1.2.2.1.2.1
 have c3:=hp.1.2.2.2.2.1
 clear hp
 rw[hk] at p0 p1 q0 q1 q2 q3 hd cW
 rw[show cF 25=1 by decide] at p0 p1 hd
 rw[show aM 25=4 by decide] at q0 q1 q2 q3
 unfold dR at p0 p1 q0 q1 q2 q3
 unfold dv at cW
 have eL:aC o = [iF 5 o.t0 o.f0 o.f2,{ iF 73 o.t0 o.f1 o.f3 with set:=1 },i_ o.t0,lg o.t0]:=by unfold aC aZ aG aH aI aw; rw[hk]; rfl
 have eN:bL o=4:=by unfold bL; rw[hk]; rfl
 rw[eL,eN]
 refine⟨fun i hi=>?_,rfl⟩
 simp only[List.mem_cons,List.not_mem_nil,or_false] at hi
 rcases hi with rfl|rfl|rfl|rfl
 ·exact⟨IC _ _ _ (by omega) (by omega) (by omega),(show ¬ al 5 by unfold al; decide)⟩
 ·exact⟨Qg o.t0 o.f1 o.f3 (by omega) (by omega) (by omega),(show ¬ al 73 by unfold al; decide)⟩
 ·exact⟨yG _ _ _ (by omega) (by omega) (by omega),(show ¬ al 73 by unfold al; decide)⟩
 ·exact⟨ID _ _ _ (by omega) (by omega) (by omega),(show ¬ al 2 by unfold al; decide)⟩
theorem U7 (o:VO) (hk:o.kind=26) (hv:bg o) (hp:(aj o.t0 o.f0/\aj o.t0 o.f1/\aj o.t0 o.f2/\aj o.t0 o.f3)/\(aj o.t1 o.f0/\aj o.t1 o.f1/\aj o.t1 o.f2/\aj o.t1 o.f3)) (hn:0<=o.n/\o.n<=4294967295):(∀ i∈aC o,aq i/\¬ al i.form)/\((aC o).length:Int)=bL o:=by
 obtain⟨_,⟨p0,p1⟩,⟨q0,q1,q2,q3⟩,hd,cW⟩:=hv
 have b0:=hp.1.1.1
 have b1:=hp.2.1.1
 have c0:=hp.1.1.2.1
 have c1:=hp.1.2.1.2.1
 have c2:=hp.1.2.2.1.2.1
 have c3:=hp.1.2.2.2.2.1
 clear hp
 rw[hk] at p0 p1 q0 q1 q2 q3 hd cW
 rw[show cF 26=2 by decide] at p0 p1 hd
 rw[show aM 26=2 by decide] at q0 q1 q2 q3
 unfold dR at p0 p1 q0 q1 q2 q3
 unfold dv at cW
 have eL:aC o = [{ iF 95 o.t0 o.f0 o.f1 with ra:=o.t1 }]:=by unfold aC aZ aG aH aI aw; rw[hk]; rfl
 have eN:bL o=1:=by unfold bL; rw[hk]; rfl
 rw[eL,eN]
 refine⟨fun i hi=>?_,rfl⟩
 simp only[List.mem_cons,List.not_mem_nil,or_false] at hi
 subst hi
 exact⟨UE o.t0 o.f0 o.f1 o.t1 (by omega) (by omega) (by omega) (by omega) (by omega),(show ¬ al 95 by unfold al; decide)⟩
theorem U8 (o:VO) (hk:o.kind=27) (hv:bg o) (hp:(aj o.t0 o.f0/\aj o.t0 o.f1/\aj o.t0 o.f2/\aj o.t0 o.f3)/\(aj o.t1 o.f0/\aj o.t1 o.f1/\aj o.t1 o.f2/\aj o.t1 o.f3)) (hn:0<=o.n/\o.n<=4294967295):(∀ i∈aC o,aq i/\¬ al i.form)/\((aC o).length:Int)=bL o:=by
 obtain⟨_,⟨p0,p1⟩,⟨q0,q1,q2,q3⟩,hd,cW⟩:=hv
 have b0:=hp.1.1.1
 have b1:=hp.2.1.1
 have c0:=hp.1.1.2.1
 have c1:=hp.1.2.1.2.1
 have c2:=hp.1.2.2.1.2.1
 have c3:=hp.1.2.2.2.2.1
 clear hp
 rw[hk] at p0 p1 q0 q1 q2 q3 hd cW
 rw[show cF 27=1 by decide] at p0 p1 hd
 rw[show aM 27=1 by decide] at q0 q1 q2 q3
 unfold dR at p0 p1 q0 q1 q2 q3
 unfold dv at cW
 have eL:aC o = [{ iZ with form:=50,rd:=o.t0,rn:=o.f0,az:=1 },{ iZ with form:=59,rd:=o.t0,rn:=o.t0 }]:=by unfold aC aZ aG aH aI aw; rw[hk]; rfl
 have eN:bL o=2:=by unfold bL; rw[hk]; rfl
 have w0:Rm.c_ 0=0:=by decide +kernel
 have w1:Rm.c_ 1=0:=by decide +kernel
 rw[eL,eN]
 refine⟨fun i hi=>?_,rfl⟩
 simp only[List.mem_cons,List.not_mem_nil,or_false] at hi
 rcases hi with rfl|rfl
 ·exact⟨UM _ _ _ (by omega) (by omega) (by omega) w1,(show ¬ al 50 by unfold al; decide)⟩
 ·exact⟨J1 _ _ _ (by omega) (by omega) (by decide) w0,(show ¬ al 59 by unfold al; decide)⟩
theorem U9 (o:VO) (hk:o.kind=28) (hv:bg o) (hp:(aj o.t0 o.f0/\aj o.t0 o.f1/\aj o.t0 o.f2/\aj o.t0 o.f3)/\(aj o.t1 o.f0/\aj o.t1 o.f1/\aj o.t1 o.f2/\aj o.t1 o.f3)) (hn:0<=o.n/\o.n<=4294967295):(∀ i∈aC o,aq i/\¬ al i.form)/\((aC o).length:Int)=bL o:=by
 obtain⟨_,⟨p0,p1⟩,⟨q0,q1,q2,q3⟩,hd,cW⟩:=hv
 have b0:=hp.1.1.1
 have b1:=hp.2.1.1
 have c0:=hp.1.1.2.1
 have c1:=hp.1.2.1.2.1
 have c2:=hp.1.2.2.1.2.1
 have c3:=hp.1.2.2.2.2.1
 clear hp
 rw[hk] at p0 p1 q0 q1 q2 q3 hd cW
 rw[show cF 28=1 by decide] at p0 p1 hd
 rw[show aM 28=2 by decide] at q0 q1 q2 q3
 unfold dR at p0 p1 q0 q1 q2 q3
 unfold dv at cW
 have eL:aC o = [iF 97 o.t0 o.f0 o.f1]:=by unfold aC aZ aG aH aI aw; rw[hk]; rfl
 have eN:bL o=1:=by unfold bL; rw[hk]; rfl
 rw[eL,eN]
 refine⟨fun i hi=>?_,rfl⟩
 simp only[List.mem_cons,List.not_mem_nil,or_false] at hi
 subst hi
 exact⟨Uv _ _ _ (by omega) (by omega) (by omega),(show ¬ al 97 by unfold al; decide)⟩
theorem U' (o:VO) (hk:o.kind=29) (hv:bg o) (hp:(aj o.t0 o.f0/\aj o.t0 o.f1/\aj o.t0 o.f2/\aj o.t0 o.f3)/\(aj o.t1 o.f0/\aj o.t1 o.f1/\aj o.t1 o.f2/\aj o.t1 o.f3)) (hn:0<=o.n/\o.n<=4294967295):(∀ i∈aC o,aq i/\¬ al i.form)/\((aC o).length:Int)=bL o:=by
 obtain⟨_,⟨p0,p1⟩,⟨q0,q1,q2,q3⟩,hd,cW⟩:=hv
 have b0:=hp.1.1.1
 have b1:=hp.2.1.1
 have c0:=hp.1.1.2.1
 have c1:=hp.1.2.1.2.1
 have c2:=hp.1.2.2.1.2.1
 have c3:=hp.1.2.2.2.2.1
 clear hp
 rw[hk] at p0 p1 q0 q1 q2 q3 hd cW
 rw[show cF 29=1 by decide] at p0 p1 hd
 rw[show aM 29=3 by decide] at q0 q1 q2 q3
 unfold dR at p0 p1 q0 q1 q2 q3
 unfold dv at cW
 have eL:aC o = [{ iF 94 o.t0 o.f1 o.f2 with ra:=o.f0 }]:=by unfold aC aZ aG aH aI aw; rw[hk]; rfl
 have eN:bL o=1:=by unfold bL; rw[hk]; rfl
 rw[eL,eN]
 refine⟨fun i hi=>?_,rfl⟩
 simp only[List.mem_cons,List.not_mem_nil,or_false] at hi
 subst hi
 exact⟨UN o.t0 o.f1 o.f2 o.f0 (by omega) (by omega) (by omega) (by omega),(show ¬ al 94 by unfold al; decide)⟩
theorem U_ (o:VO) (hk:o.kind=30) (hv:bg o) (hp:(aj o.t0 o.f0/\aj o.t0 o.f1/\aj o.t0 o.f2/\aj o.t0 o.f3)/\(aj o.t1 o.f0/\aj o.t1 o.f1/\aj o.t1 o.f2/\aj o.t1 o.f3)) (hn:0<=o.n/\o.n<=4294967295):(∀ i∈aC o,aq i/\¬ al i.form)/\((aC o).length:Int)=bL o:=by
 obtain⟨_,⟨p0,p1⟩,⟨q0,q1,q2,q3⟩,hd,cW⟩:=hv
 have b0:=hp.1.1.1
 have b1:=hp.2.1.1
 have c0:=hp.1.1.2.1
 have c1:=hp.1.2.1.2.1
 have c2:=hp.1.2.2.1.2.1
 have c3:=hp.1.2.2.2.2.1
 clear hp
 rw[hk] at p0 p1 q0 q1 q2 q3 hd cW
 rw[show cF 30=0 by decide] at p0 p1 hd
 rw[show aM 30=1 by decide] at q0 q1 q2 q3
 unfold dR at p0 p1 q0 q1 q2 q3
 unfold dv at cW
 have eL:aC o=if o.n<=255 then [iM 9 o.f0 o.n] else [{ iZ with form:=65,rn:=o.f0,az:=Rm.nI o.n }]:=by unfold aC aZ aG aH aI aw; rw[hk]; simp
 have eN:bL o=1:=by unfold bL; rw[hk]; rfl
 rw[eL,eN]
 by_cases h1:o.n<=255
 ·rw[if_pos h1]
  refine⟨fun i hi=>?_,rfl⟩
  simp only[List.mem_cons,List.not_mem_nil,or_false] at hi
  subst hi
  exact⟨UF _ _ (by omega) (by first|omega|decide),(show ¬ al 9 by unfold al; decide)⟩
 ·rw[if_neg h1]
  have e:=E3 o.n (by omega) (by omega) (by omega)
  have i1:=n_ o.n
  have w:=ll o.n hn (i1.1.1 (by rw[e]; exact Int.natCast_nonneg _))
  refine⟨fun i hi=>?_,rfl⟩
  simp only[List.mem_cons,List.not_mem_nil,or_false] at hi
  subst hi
  exact⟨UO _ _ (by omega) w.2 w.1,(show ¬ al 65 by unfold al; decide)⟩
theorem Va (o:VO) (hk:o.kind=31) (hv:bg o) (hp:(aj o.t0 o.f0/\aj o.t0 o.f1/\aj o.t0 o.f2/\aj o.t0 o.f3)/\(aj o.t1 o.f0/\aj o.t1 o.f1/\aj o.t1 o.f2/\aj o.t1 o.f3)) (hn:0<=o.n/\o.n<=4294967295):(∀ i∈aC o,aq i/\¬ al i.form)/\((aC o).length:Int)=bL o:=by
 obtain⟨_,⟨p0,p1⟩,⟨q0,q1,q2,q3⟩,hd,cW⟩:=hv
 have b0:=hp.1.1.1
 have b1:=hp.2.1.1
 have c0:=hp.1.1.2.1
 have c1:=hp.1.2.1.2.1
 have c2:=hp.1.2.2.1.2.1
 have c3:=hp.1.2.2.2.2.1
 clear hp
 rw[hk] at p0 p1 q0 q1 q2 q3 hd cW
 rw[show cF 31=0 by decide] at p0 p1 hd
 rw[show aM 31=1 by decide] at q0 q1 q2 q3
 unfold dR at p0 p1 q0 q1 q2 q3
 unfold dv at cW
 have eL:aC o = [{ iZ with form:=9,rd:=o.f0 }]:=by unfold aC aZ aG aH aI aw; rw[hk]; rfl
 have eN:bL o=1:=by unfold bL; rw[hk]; rfl
 rw[eL,eN]
 refine⟨fun i hi=>?_,rfl⟩
 simp only[List.mem_cons,List.not_mem_nil,or_false] at hi
 subst hi
 exact⟨UF _ _ (by omega) (by first|omega|decide),(show ¬ al 9 by unfold al; decide)⟩
theorem I9 (o:VO) (h:bg o/\fu o) (hn:0<=o.n/\o.n<=4294967295):(∀ i∈aC o,aq i/\¬ al i.form)/\((aC o).length:Int)=bL o:=by
 have hp:=(lj o h.1).1 h
 have hv:=h.1
 rcases kinds hv.1 with hk|hk|hk|hk|hk|hk|hk|hk|hk|hk|hk|hk|hk|hk|hk|hk|hk|hk|hk|hk|hk|hk|hk|hk|hk|hk|hk|hk|hk|hk|hk
 ·exact YE o hk hv hp hn
 ·exact YF o hk hv hp hn
 ·exact YG o hk hv hp hn
 ·exact YH o hk hv hp hn
 ·exact YI o hk hv hp hn
 ·exact YJ o hk hv hp hn
 ·exact YK o hk hv hp hn
 ·exact YL o hk hv hp hn
 ·exact YM o hk hv hp hn
 ·exact UQ o hk hv hp hn
 ·exact UR o hk hv hp hn
 ·exact US o hk hv hp hn
 ·exact UT o hk hv hp hn
 ·exact UU o hk hv hp hn
 ·exact UW o hk hv hp hn
 ·exact UX o hk hv hp hn
 ·exact UY o hk hv hp hn
 ·exact UZ o hk hv hp hn
 ·exact U0 o hk hv hp hn
 ·exact U1 o hk hv hp hn
 ·exact U2 o hk hv hp hn
 ·exact U3 o hk hv hp hn
 ·exact U4 o hk hv hp hn
 ·exact U5 o hk hv hp hn
 ·exact U6 o hk hv hp hn
 ·exact U7 o hk hv hp hn
 ·exact U8 o hk hv hp hn
 ·exact U9 o hk hv hp hn
 ·exact U' o hk hv hp hn
 ·exact U_ o hk hv hp hn
 ·exact Va o hk hv hp hn
 
def YN (f:Int):Bool:=decide ((cp f=0/\f≠42/\f≠43)/\bR f=0/\bm f≠5/\bm f≠4)
theorem Qv {f:Int} (h:YN f=true):Up f/\bm f≠5/\bm f≠4:=by
 have h:=of_decide_eq_true h
 exact⟨⟨h.1,h.2.1⟩,h.2.2⟩
def stB (f:Int):Bool:=decide (cp f=0/\f≠42/\f≠43)
theorem Qw (t n:Int):(ia t n).all (fun i=>YN i.form)=true:=by
 unfold ia
 repeat' split
 all_goals rfl
set_option maxHeartbeats 4000000 in
theorem Qx (o:VO) (h:bg o) (h2:o.kind≠2) (h3:o.kind≠3) (h5:o.kind≠5) (h6:o.kind≠6) (ki:o.kind≠28):(aC o).all (fun i=>YN i.form)=true:=by
 rcases kinds h.1 with hk|hk|hk|hk|hk|hk|hk|hk|hk|hk|hk|hk|hk|hk|hk|hk|hk|hk|hk|hk|hk|hk|hk|hk|hk|hk|hk|hk|hk|hk|hk
 ·have e:aC o=ia o.t0 o.n:=by unfold aC aZ aG aH aI aw; rw[hk]; simp
  rw[e]; exact Qw _ _
 ·first|exact absurd hk h2|exact absurd hk h3|exact absurd hk h5|exact absurd hk h6|exact absurd hk ki|(unfold aC aZ aG aH aI aw; rw[hk]; rfl)
 ·first|exact absurd hk h2|exact absurd hk h3|exact absurd hk h5|exact absurd hk h6|exact absurd hk ki|(unfold aC aZ aG aH aI aw; rw[hk]; rfl)
 ·first|exact absurd hk h2|exact absurd hk h3|exact absurd hk h5|exact absurd hk h6|exact absurd hk ki|(unfold aC aZ aG aH aI aw; rw[hk]; rfl)
 ·first|exact absurd hk h2|exact absurd hk h3|exact absurd hk h5|exact absurd hk h6|exact absurd hk ki|(unfold aC aZ aG aH aI aw; rw[hk]; rfl)
 ·first|exact absurd hk h2|exact absurd hk h3|exact absurd hk h5|exact absurd hk h6|exact absurd hk ki|(unfold aC aZ aG aH aI aw; rw[hk]; rfl)
 ·first|exact absurd hk h2|exact absurd hk h3|exact absurd hk h5|exact absurd hk h6|exact absurd hk ki|(unfold aC aZ aG aH aI aw; rw[hk]; rfl)
 ·first|exact absurd hk h2|exact absurd hk h3|exact absurd hk h5|exact absurd hk h6|exact absurd hk ki|(unfold aC aZ aG aH aI aw; rw[hk]; rfl)
 ·first|exact absurd hk h2|exact absurd hk h3|exact absurd hk h5|exact absurd hk h6|exact absurd hk ki|(unfold aC aZ aG aH aI aw; rw[hk]; rfl)
 ·first|exact absurd hk h2|exact absurd hk h3|exact absurd hk h5|exact absurd hk h6|exact absurd hk ki|(unfold aC aZ aG aH aI aw; rw[hk]; rfl)
 ·first|exact absurd hk h2|exact absurd hk h3|exact absurd hk h5|exact absurd hk h6|exact absurd hk ki|(unfold aC aZ aG aH aI aw; rw[hk]; rfl)
 ·first|exact absurd hk h2|exact absurd hk h3|exact absurd hk h5|exact absurd hk h6|exact absurd hk ki|(unfold aC aZ aG aH aI aw; rw[hk]; rfl)
 ·first|exact absurd hk h2|exact absurd hk h3|exact absurd hk h5|exact absurd hk h6|exact absurd hk ki|(unfold aC aZ aG aH aI aw; rw[hk]; rfl)
 ·first|exact absurd hk h2|exact absurd hk h3|exact absurd hk h5|exact absurd hk h6|exact absurd hk ki|(unfold aC aZ aG aH aI aw; rw[hk]; rfl)
 ·first|exact absurd hk h2|exact absurd hk h3|exact absurd hk h5|exact absurd hk h6|exact absurd hk ki|(unfold aC aZ aG aH aI aw; rw[hk]; rfl)
 ·first|exact absurd hk h2|exact absurd hk h3|exact absurd hk h5|exact absurd hk h6|exact absurd hk ki|(unfold aC aZ aG aH aI aw; rw[hk]; rfl)
 ·first|exact absurd hk h2|exact absurd hk h3|exact absurd hk h5|exact absurd hk h6|exact absurd hk ki|(unfold aC aZ aG aH aI aw; rw[hk]; rfl)
 ·first|exact absurd hk h2|exact absurd hk h3|exact absurd hk h5|exact absurd hk h6|exact absurd hk ki|(unfold aC aZ aG aH aI aw; rw[hk]; rfl)
 ·first|exact absurd hk h2|exact absurd hk h3|exact absurd hk h5|exact absurd hk h6|exact absurd hk ki|(unfold aC aZ aG aH aI aw; rw[hk]; rfl)
 ·first|exact absurd hk h2|exact absurd hk h3|exact absurd hk h5|exact absurd hk h6|exact absurd hk ki|(unfold aC aZ aG aH aI aw; rw[hk]; rfl)
 ·first|exact absurd hk h2|exact absurd hk h3|exact absurd hk h5|exact absurd hk h6|exact absurd hk ki|(unfold aC aZ aG aH aI aw; rw[hk]; rfl)
 ·first|exact absurd hk h2|exact absurd hk h3|exact absurd hk h5|exact absurd hk h6|exact absurd hk ki|(unfold aC aZ aG aH aI aw; rw[hk]; rfl)
 ·first|exact absurd hk h2|exact absurd hk h3|exact absurd hk h5|exact absurd hk h6|exact absurd hk ki|(unfold aC aZ aG aH aI aw; rw[hk]; rfl)
 ·first|exact absurd hk h2|exact absurd hk h3|exact absurd hk h5|exact absurd hk h6|exact absurd hk ki|(unfold aC aZ aG aH aI aw; rw[hk]; rfl)
 ·first|exact absurd hk h2|exact absurd hk h3|exact absurd hk h5|exact absurd hk h6|exact absurd hk ki|(unfold aC aZ aG aH aI aw; rw[hk]; rfl)
 ·first|exact absurd hk h2|exact absurd hk h3|exact absurd hk h5|exact absurd hk h6|exact absurd hk ki|(unfold aC aZ aG aH aI aw; rw[hk]; rfl)
 ·first|exact absurd hk h2|exact absurd hk h3|exact absurd hk h5|exact absurd hk h6|exact absurd hk ki|(unfold aC aZ aG aH aI aw; rw[hk]; rfl)
 ·first|exact absurd hk h2|exact absurd hk h3|exact absurd hk h5|exact absurd hk h6|exact absurd hk ki|(unfold aC aZ aG aH aI aw; rw[hk]; rfl)
 ·first|exact absurd hk h2|exact absurd hk h3|exact absurd hk h5|exact absurd hk h6|exact absurd hk ki|(unfold aC aZ aG aH aI aw; rw[hk]; rfl)
 ·have e:aC o=if o.n<=255 then [iM 9 o.f0 o.n] else [{ iZ with form:=65,rn:=o.f0,az:=Rm.nI o.n }]:=by unfold aC aZ aG aH aI aw; rw[hk]; simp
  rw[e]
  split<;>rfl
 ·unfold aC aZ aG aH aI aw; rw[hk]; rfl
set_option maxHeartbeats 4000000 in
theorem Qy (o:VO) (h:bg o):(aC o).all (fun i=>stB i.form && decide (i.ao=0))=true:=by
 have YO:∀ t n,(ia t n).all (fun i=>stB i.form && decide (i.ao=0))=true:=fun t n=>by
  unfold ia
  repeat' split
  all_goals rfl
 rcases kinds h.1 with hk|hk|hk|hk|hk|hk|hk|hk|hk|hk|hk|hk|hk|hk|hk|hk|hk|hk|hk|hk|hk|hk|hk|hk|hk|hk|hk|hk|hk|hk|hk
 ·have e:aC o=ia o.t0 o.n:=by unfold aC aZ aG aH aI aw; rw[hk]; simp
  rw[e]; exact YO _ _
 ·unfold aC aZ aG aH aI aw; rw[hk]; rfl
 ·unfold aC aZ aG aH aI aw; rw[hk]; rfl
 ·unfold aC aZ aG aH aI aw; rw[hk]; rfl
 ·unfold aC aZ aG aH aI aw; rw[hk]; rfl
 ·unfold aC aZ aG aH aI aw; rw[hk]; rfl
 ·unfold aC aZ aG aH aI aw; rw[hk]; rfl
 ·unfold aC aZ aG aH aI aw; rw[hk]; rfl
 ·unfold aC aZ aG aH aI aw; rw[hk]; rfl
 ·unfold aC aZ aG aH aI aw; rw[hk]; rfl
 ·unfold aC aZ aG aH aI aw; rw[hk]; rfl
 ·unfold aC aZ aG aH aI aw; rw[hk]; rfl
 ·unfold aC aZ aG aH aI aw; rw[hk]; rfl
 ·unfold aC aZ aG aH aI aw; rw[hk]; rfl
 ·unfold aC aZ aG aH aI aw; rw[hk]; rfl
 ·unfold aC aZ aG aH aI aw; rw[hk]; rfl
 ·unfold aC aZ aG aH aI aw; rw[hk]; rfl
 ·unfold aC aZ aG aH aI aw; rw[hk]; rfl
 ·unfold aC aZ aG aH aI aw; rw[hk]; rfl
 ·unfold aC aZ aG aH aI aw; rw[hk]; rfl
 ·unfold aC aZ aG aH aI aw; rw[hk]; rfl
 ·unfold aC aZ aG aH aI aw; rw[hk]; rfl
 ·unfold aC aZ aG aH aI aw; rw[hk]; rfl
 ·unfold aC aZ aG aH aI aw; rw[hk]; rfl
 ·unfold aC aZ aG aH aI aw; rw[hk]; rfl
 ·unfold aC aZ aG aH aI aw; rw[hk]; rfl
 ·unfold aC aZ aG aH aI aw; rw[hk]; rfl
 ·unfold aC aZ aG aH aI aw; rw[hk]; rfl
 ·unfold aC aZ aG aH aI aw; rw[hk]; rfl
 ·have e:aC o=if o.n<=255 then [iM 9 o.f0 o.n] else [{ iZ with form:=65,rn:=o.f0,az:=Rm.nI o.n }]:=by unfold aC aZ aG aH aI aw; rw[hk]; simp
  rw[e]
  split<;>rfl
 ·unfold aC aZ aG aH aI aw; rw[hk]; rfl
theorem Qz (o:VO) (h:bg o/\fu o) (hn:0<=o.n/\o.n<=4294967295):∀ i∈aC o,aq i/\uA i:=fun i hi=>by
 have h1:=(I9 o h hn).1 i hi
 have h2:=List.all_eq_true.1 (Qy o h.1) i hi
 rw[Bool.and_eq_true] at h2
 exact⟨h1.1,Aq h1.1 (of_decide_eq_true h2.2)⟩
theorem E5 (l:List IN) (wait:Int) (s:RS):Iy (qW l wait s) l 0:=⟨rfl,rfl,rfl⟩
theorem qZ (l:List IN) (wait:Int) (s t:RS):Alike (qW l wait s) (qW l wait t):=⟨rfl,rfl,rfl,rfl,rfl,rfl,rfl⟩
theorem AZ (o:VO):(aC o).length<=100:=by
 unfold aC
 split
 ·simp
 ·have:=EP o
  simp only[List.length_append]; omega
theorem I_ (t n:Int):ia t n≠[]:=by
 unfold ia
 repeat' split
 all_goals simp
theorem Ja (l:List IN) (hl:l≠[]) (hn:l.length<=200) (hi:∀ i∈l,aq i/\uA i) (hs:∀ i∈l,Up i.form/\bm i.form≠5/\bm i.form≠4) {s:RS} (lF:sO s):0 < (qU l.length (qW l 1 s)).gJ:=by
 have hb:=jS l
 have lG:=EJ l 1 lF hn (by decide)
 have hr:=m7 (qZ l 1 s s) (E5 l 1 s) hi (by omega) hs
 have key:∀ k,k<=l.length->sL (qU k (qW l 1 s))/\(k:Int)<=(qU k (qW l 1 s)).gJ/\(qU k (qW l 1 s)).gJ<=34*k:=by
  intro k
  induction k with
  | zero=>intro _; exact⟨lG,Int.le_refl _,Int.le_refl _⟩
  | succ k ih =>
   intro hk
   obtain⟨h1,h2,h3⟩:=ih (by omega)
   obtain⟨hA,_⟩:=hr k (by omega)
   obtain⟨i,tk⟩:∃ i,l[k]?=some i:=⟨_,List.getElem?_eq_getElem (by omega)⟩
   have gu:=List.mem_of_getElem? tk
   obtain⟨f1,f2⟩:=hA.EG hi (by omega) tk
   have he:=(n8 hA.kd f1 f2 (hi i gu).1 (hs i gu).1.1 (n9 (hs i gu).1)).1
   obtain⟨hM,c1,c2,c3,_,_⟩:=yF h1 (by omega)
   have c3:=c3 he
   refine⟨hM,?_,?_⟩
   ·show _<=(jh (qU k (qW l 1 s))).gJ; omega
   ·show (jh (qU k (qW l 1 s))).gJ<=_; omega
 have hp:0 < l.length:=by
  cases l with
  | nil=>exact absurd rfl hl
  | cons=>simp
 have:=(key l.length (Nat.le_refl _)).2.1
 omega
theorem Jb (o:VO) (h:bg o):aC o≠[]:=by
 rcases kinds h.1 with hk|hk|hk|hk|hk|hk|hk|hk|hk|hk|hk|hk|hk|hk|hk|hk|hk|hk|hk|hk|hk|hk|hk|hk|hk|hk|hk|hk|hk|hk|hk
 ·have e:aC o=ia o.t0 o.n:=by unfold aC aZ aG aH aI aw; rw[hk]; simp
  rw[e]; exact I_ _ _
 ·unfold aC aZ aG aH aI aw; rw[hk]; exact fun h=>by cases h
 ·unfold aC aZ aG aH aI aw; rw[hk]; exact fun h=>by cases h
 ·unfold aC aZ aG aH aI aw; rw[hk]; exact fun h=>by cases h
 ·unfold aC aZ aG aH aI aw; rw[hk]; exact fun h=>by cases h
 ·unfold aC aZ aG aH aI aw; rw[hk]; exact fun h=>by cases h
 ·unfold aC aZ aG aH aI aw; rw[hk]; exact fun h=>by cases h
 ·unfold aC aZ aG aH aI aw; rw[hk]; exact fun h=>by cases h
 ·unfold aC aZ aG aH aI aw; rw[hk]; exact fun h=>by cases h
 ·unfold aC aZ aG aH aI aw; rw[hk]; exact fun h=>by cases h
 ·unfold aC aZ aG aH aI aw; rw[hk]; exact fun h=>by cases h
 ·unfold aC aZ aG aH aI aw; rw[hk]; exact fun h=>by cases h
 ·unfold aC aZ aG aH aI aw; rw[hk]; exact fun h=>by cases h
 ·unfold aC aZ aG aH aI aw; rw[hk]; exact fun h=>by cases h
 ·unfold aC aZ aG aH aI aw; rw[hk]; exact fun h=>by cases h
 ·unfold aC aZ aG aH aI aw; rw[hk]; exact fun h=>by cases h
 ·unfold aC aZ aG aH aI aw; rw[hk]; exact fun h=>by cases h
 ·unfold aC aZ aG aH aI aw; rw[hk]; exact fun h=>by cases h
 ·unfold aC aZ aG aH aI aw; rw[hk]; exact fun h=>by cases h
 ·unfold aC aZ aG aH aI aw; rw[hk]; exact fun h=>by cases h
 ·unfold aC aZ aG aH aI aw; rw[hk]; exact fun h=>by cases h
 ·unfold aC aZ aG aH aI aw; rw[hk]; exact fun h=>by cases h
 ·unfold aC aZ aG aH aI aw; rw[hk]; exact fun h=>by cases h
 ·unfold aC aZ aG aH aI aw; rw[hk]; exact fun h=>by cases h
 ·unfold aC aZ aG aH aI aw; rw[hk]; exact fun h=>by cases h
 ·unfold aC aZ aG aH aI aw; rw[hk]; exact fun h=>by cases h
 ·unfold aC aZ aG aH aI aw; rw[hk]; exact fun h=>by cases h
 ·unfold aC aZ aG aH aI aw; rw[hk]; exact fun h=>by cases h
 ·unfold aC aZ aG aH aI aw; rw[hk]; exact fun h=>by cases h
 ·have e:aC o=if o.n<=255 then [iM 9 o.f0 o.n] else [{ iZ with form:=65,rn:=o.f0,az:=Rm.nI o.n }]:=by unfold aC aZ aG aH aI aw; rw[hk]; simp
  rw[e]
  split<;>simp
 ·unfold aC aZ aG aH aI aw; rw[hk]; exact fun h=>by cases h
set_option maxHeartbeats 8000000 in
set_option maxRecDepth 100000 in
theorem m9 (o:VO) (ho:o.Ok) (s t:RS) (hs:sO s) (ht:sO t):ai gT 3 [vn o,ph s,ph t] .tt:=by
 have hn:=ho.n
 refine Spec.enter an P3 100 Tryz.func3 rfl (by kernel_rfl) ?_
 refine⟨[],br,qb.use trivial rfl rfl ?_⟩
 by_cases hf:bg o/\fu o
 ·refine (qY o hn).u ?_
  refine⟨fun h=>absurd hf h,fun _=>?_⟩
  refine⟨fun ki=>?_,fun ki=>?_⟩
  ·exact rA
  refine⟨fun h2=>?_,fun h2=>?_⟩
  ·exact rA
  refine⟨fun h3=>?_,fun h3=>?_⟩
  ·exact rA
  refine⟨fun h5=>?_,fun h5=>?_⟩
  ·exact rA
  refine⟨fun h6=>?_,fun h6=>?_⟩
  ·exact rA
  have hi:=AY o ho hf
  have hle:=AZ o
  have yD:=Qz o hf hn
  have Vr:=Qx o hf.1 h2 h3 h5 h6 ki
  have cZ:=Jb o hf.1
  generalize aC o=L at hi hle yD Vr cZ
  have VB:∀ i∈L,Up i.form/\bm i.form≠5/\bm i.form≠4:=fun i h=>Qv (List.all_eq_true.1 Vr i h)
  have Zg:=jS L
  have ec:(qU L.length (qW L 1 t)).gJ=(qU L.length (qW L 1 s)).gJ:=(m7 (qZ L 1 s t) (E5 L 1 s) yD (by omega) VB L.length (Nat.le_refl _)).2.gJ
  have hp:=Ja L cZ (by omega) yD VB hs
  have c1:=kD L s hs (by omega) yD
  have c2:=kD L t ht (by omega) yD
  rw[ec] at c2
  refine hi.u ?_
  refine⟨fun h=>absurd rfl h,fun _=>?_⟩
  generalize (qU L.length (qW L 1 s)).gJ=n at hp c1 c2
  generalize bI L=P at c1 c2 ⊢
  refine c1.u ?_
  refine c2.u ?_
  refine⟨fun _=>?_,fun h=>absurd rfl h⟩
  refine c1.u ?_
  exact aD hp
 ·refine (qY o hn).u ?_
  refine⟨fun _=>?_,fun h=>(h hf).elim⟩
  exact rA
def Jc (n:Nat) (S:PV->Prop) (x:PV):Prop:=∃ xs:List PV,xs.length=n/\(∀ y∈xs,S y)/\x = .agg xs
theorem ve {w:World} {I:Nat->Prop} {β:aB}:∀ {xs:List PV} {cs:List Value},xs.length=cs.length->(∀ (i:Nat) (y:PV) (c:Value),xs[i]?=some y->cs[i]?=some c->y.Is w I β c)->bB w I xs β cs:=fun {xs cs} hl h =>
 bB.of hl fun i c hc=>by
  have cz:i < cs.length:=by rw[← hl]; exact (List.getElem?_eq_some_iff.1 hc).1
  exact⟨cs[i],List.getElem?_eq_getElem cz,h i c _ hc (List.getElem?_eq_getElem cz)⟩
theorem Vb {P:Program} {t e:TypeId} {S:PV->Prop} {n:Nat} (he:Op P e S) (ht:P.underlying t=some (.array n e)) (RO:P.cellsOf e=1) (hc:P.cellsOf t=n) (h1:∀ y,S y->y.cells = [y]):Op P t (Jc n S):=fun {H} ec w base held fuel cs x h xE=>by
 obtain⟨xs,m,_,rfl,hl,oE,hx⟩:=DataW.trod_array ht h
 rw[hc] at hl
 have each:∀ i,i < n->∃ y,S y/\∃ c,cs[i]?=some c/\y.Is w (In w) no c/\c.oneCell'=true:=fun i hi=>by
  have hxi:=hx i hi
  rw[RO,Nat.mul_one,List.getElem?_eq_getElem (by omega)] at hxi
  obtain⟨y,hS,_,hy,Fa,vC⟩:=he ec w base held m _ _ hxi fun k hk=>xE k (by
   simp only[DataW.weights,ht]
   exact jx (List.mem_map.2 ⟨xs[i],List.getElem_mem _,rfl⟩) hk)
  have VL:i < cs.length:=by omega
  have e1:(cs.drop i).take 1 = [cs[i]]:=by
   rw[List.drop_eq_getElem_cons VL]; rfl
  rw[e1,h1 y hS] at hy
  simp only[bB,and_true] at hy
  exact⟨y,hS,cs[i],List.getElem?_eq_getElem VL,hy,vC _ (by rw[e1]; simp)⟩
 obtain⟨ys,WY,hp⟩:=nn n each
 refine⟨.agg ys,⟨ys,WY,fun y hy=>?_,rfl⟩,nofun,ve (by show ys.length=cs.length; omega) fun i y c hy VL=>?_,by rw[hl,hc],fun c VK=>?_⟩
 ·obtain⟨i,hi⟩:=List.getElem?_of_mem hy
  exact (hp i y hi).1
 ·obtain⟨_,c2,iI,h2,_⟩:=hp i y hy
  rw[VL] at iI; cases iI; exact h2
 ·obtain⟨i,hi⟩:=List.getElem?_of_mem VK
  have cz:i < ys.length:=by have:=(List.getElem?_eq_some_iff.1 hi).1; omega
  obtain⟨_,c2,iI,_,h2⟩:=hp i ys[i] (List.getElem?_eq_getElem cz)
  rw[hi] at iI; cases iI; exact h2
def pI (x:PV):Prop:=∃ s:RS,sO s/\x=ph s
theorem A0 (x:PV) (h:lR [Jc 16 (SInt .u32),SInt .u32,SInt .u32,SInt .u32,SInt .u32] x):pI x:=by
 obtain⟨xs,h,rfl⟩:=h
 obtain⟨_,_,rfl,⟨rs,hr,dE,rfl⟩,Ys⟩:=cB h
 obtain⟨_,_,rfl,⟨n,bn,rfl⟩,Yt⟩:=cB Ys
 obtain⟨_,_,rfl,⟨z,bz,rfl⟩,Yu⟩:=cB Yt
 obtain⟨_,_,rfl,⟨c,bc,rfl⟩,Yv⟩:=cB Yu
 obtain⟨_,_,rfl,⟨v,bv,rfl⟩,h_5⟩:=cB Yv
 obtain rfl:=lS h_5
 obtain⟨zs,hz,rfl⟩:=decode (S:=SInt .u32) (enc:=PV.int .u32) (ok:=bO) (fun x ⟨z,hz,e⟩=>⟨z,jJ hz,e⟩) rs dE
 rw[List.length_map] at hr
 refine⟨⟨fun k=>zs.getD k 0,n,z,c,v⟩,⟨fun k=>?_,(jJ bn).1,(jJ bz).1,(jJ bc).1,(jJ bv).1⟩,?_⟩
 ·show bO (zs.getD k 0)
  rw[List.getD_eq_getElem?_getD]
  cases e:zs[k]? with
  | none=>exact uS
  | some y=>exact hz y (List.mem_of_getElem? e)
 ·match zs,hr with
  | [a0,a1,a2,a3,a4,a5,a6,a7,a8,a9,XP,Z0,Z1,Z2,Z3,Z4],_=>rfl
theorem E6:Op Tryz.prog 29 (lR [Jc 16 (SInt .u32),SInt .u32,SInt .u32,SInt .u32,SInt .u32]) :=
 JE (Ss:=[Jc 16 (SInt .u32),SInt .u32,SInt .u32,SInt .u32,SInt .u32]) Tryz.underlying29
  ⟨rfl,Vb pg Tryz.underlying27 (by kernel_rfl) (by kernel_rfl) SInt.cell,(show _=_ by kernel_rfl),pg,(show _=_ by kernel_rfl),pg,(show _=_ by kernel_rfl),pg,(show _=_ by kernel_rfl),pg,(show _=_ by kernel_rfl)⟩
theorem yI:Op Tryz.prog 29 pI:=E6.F6 A0
theorem nw (y:PV) (h:pI y):∃ xs,y = .agg xs:=by
 obtain⟨s,_,rfl⟩:=h; exact⟨_,rfl⟩
theorem A2 (y:PV) (h:YC y):∃ xs,y = .agg xs:=by
 obtain⟨o,_,rfl⟩:=h
 exact⟨_,rfl⟩
theorem mu (x:PV) (sx:YC x) (y:PV) (sy:pI y) (z:PV) (sz:pI z):ai gT 3 [x,y,z] .tt:=by
 obtain⟨o,ho,rfl⟩:=sx
 obtain⟨s,hs,rfl⟩:=sy
 obtain⟨t,ht,rfl⟩:=sz
 exact m9 o ho s t hs ht
end Go.Proofs.YtlgkljpgagfndaaGreatDoor.Pw

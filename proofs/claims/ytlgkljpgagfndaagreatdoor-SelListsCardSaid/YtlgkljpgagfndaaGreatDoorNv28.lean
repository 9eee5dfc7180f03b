/- What this claim is proved with: no condition. -/
import Derived.Test.YtlgkljpgagfndaaGreatDoorNv25
import Derived.Test.YtlgkljpgagfndaaGreatDoorNv27
import Derived.Test.YtlgkljpgagfndaaGreatDoorNv24
set_option linter.unusedVariables false
set_option linter.unusedSimpArgs false
namespace Go.Proofs.YtlgkljpgagfndaaGreatDoor.Pw
open Go Go.RowKit
def aq (f:Int):Prop:=f=46\/f=47\/f=99\/f=100\/f=31
def IE (n:Int):Prop:=0<=Rm.ofM n\/0<=Rm.ofM (4294967295 - n)
noncomputable def bO (o:VO):Int:=open Classical in if o.kind=1 then (if 65536<=o.n/\¬ IE o.n then 2 else 1) else if o.kind=21 then 3 else if o.kind=22\/o.kind=25 then 4 else if o.kind=23\/o.kind=24\/o.kind=27 then 2 else 1
theorem mS (x:Int) (hx:0<=x/\x<=4294967295) (h:Rm.kv x=0):Rm.dz (Rm.ot x)=0/\0<=Rm.ot x/\Rm.ot x<=4095:=by
 unfold Rm.kv at h
 unfold Rm.ot
 cases hd:Rm.dec x.toNat with
 | none=>rw[hd] at h; simp at h
 | some n =>
  obtain⟨h1,h2⟩:=Rm.FQ x.toNat n (by omega) hd
  simp only[Option.getD_some]
  refine⟨?_,by omega,by omega⟩
  unfold Rm.dz
  rw[if_neg (by omega),Int.toNat_natCast,h1]; rfl
open Classical in
theorem ia_1 (o:VO) (hk:o.kind=1) (hv:aM o) (hp:(ae o.t0 o.f0/\ae o.t0 o.f1/\ae o.t0 o.f2/\ae o.t0 o.f3)/\(ae o.t1 o.f0/\ae o.t1 o.f1/\ae o.t1 o.f2/\ae o.t1 o.f3)) (hn:0<=o.n/\o.n<=4294967295):(∀ i∈av o,au i/\¬ aq i.form)/\((av o).length:Int)=bO o:=by
 obtain⟨_,⟨p0,p1⟩,⟨q0,q1,q2,q3⟩,hd,aZ⟩:=hv
 have b0:=hp.1.1.1
 have b1:=hp.2.1.1
 have c0:=hp.1.1.2.1
 have c1:=hp.1.2.1.2.1
 have c2:=hp.1.2.2.1.2.1
 have c3:=hp.1.2.2.2.2.1
 clear hp
 rw[hk] at p0 p1 q0 q1 q2 q3 hd aZ
 rw[show cz 1=1 by decide] at p0 p1 hd
 rw[show aH 1=0 by decide] at q0 q1 q2 q3
 unfold da at p0 p1 q0 q1 q2 q3
 unfold cC at aZ
 have eL:av o=jk o.t0 o.n:=by unfold av bo aJ aK aL aC; rw[hk]; simp
 have eN:bO o=if 65536<=o.n/\¬ IE o.n then 2 else 1:=by unfold bO; rw[hk]; rfl
 rw[eL,eN]
 have i1:=qe o.n
 have j1:=qe (4294967295 - o.n)
 unfold jk IE
 by_cases h1:o.n<=255
 ·rw[if_pos h1,if_neg (by omega)]
  refine⟨fun i hi=>?_,rfl⟩
  simp only[List.mem_cons,List.not_mem_nil,or_false] at hi
  subst hi
  exact⟨ri_8 _ _ (by omega) (by omega),(show ¬ aq 8 by unfold aq; decide)⟩
 rw[if_neg h1]
 by_cases h2:Rm.kv o.n=0
 ·have w:=mS o.n hn h2
  rw[if_pos h2,if_neg (fun e=>e.2 (.inl (i1.1.2 h2)))]
  refine⟨fun i hi=>?_,rfl⟩
  simp only[List.mem_cons,List.not_mem_nil,or_false] at hi
  subst hi
  exact⟨WI _ _ (by omega) w.2 w.1,(show ¬ aq 60 by unfold aq; decide)⟩
 rw[if_neg h2]
 by_cases h3:Rm.kv (4294967295 - o.n)=0
 ·have w:=mS (4294967295 - o.n) (by omega) h3
  rw[if_pos h3,if_neg (fun e=>e.2 (.inr (j1.1.2 h3)))]
  refine⟨fun i hi=>?_,rfl⟩
  simp only[List.mem_cons,List.not_mem_nil,or_false] at hi
  subst hi
  exact⟨WJ _ _ (by omega) w.2 w.1,(show ¬ aq 61 by unfold aq; decide)⟩
 rw[if_neg h3]
 by_cases h4:o.n / 65536≠0
 ·rw[if_pos h4,if_pos ⟨by omega,fun e=>e.elim (fun e=>h2 (i1.1.1 e)) (fun e=>h3 (j1.1.1 e))⟩]
  refine⟨fun i hi=>?_,rfl⟩
  simp only[List.mem_cons,List.not_mem_nil,or_false] at hi
  rcases hi with rfl|rfl
  ·exact⟨NG _ _ (by omega) (by omega),(show ¬ aq 48 by unfold aq; decide)⟩
  ·exact⟨WK _ _ (by omega) (by omega),(show ¬ aq 49 by unfold aq; decide)⟩
 ·rw[if_neg h4,if_neg (by omega)]
  refine⟨fun i hi=>?_,rfl⟩
  simp only[List.mem_cons,List.not_mem_nil,or_false] at hi
  subst hi
  exact⟨NG _ _ (by omega) (by omega),(show ¬ aq 48 by unfold aq; decide)⟩
theorem ia_2 (o:VO) (hk:o.kind=2) (hv:aM o) (hp:(ae o.t0 o.f0/\ae o.t0 o.f1/\ae o.t0 o.f2/\ae o.t0 o.f3)/\(ae o.t1 o.f0/\ae o.t1 o.f1/\ae o.t1 o.f2/\ae o.t1 o.f3)) (hn:0<=o.n/\o.n<=4294967295):(∀ i∈av o,au i/\¬ aq i.form)/\((av o).length:Int)=bO o:=by
 obtain⟨_,⟨p0,p1⟩,⟨q0,q1,q2,q3⟩,hd,aZ⟩:=hv
 have b0:=hp.1.1.1
 have b1:=hp.2.1.1
 have c0:=hp.1.1.2.1
 have c1:=hp.1.2.1.2.1
 have c2:=hp.1.2.2.1.2.1
 have c3:=hp.1.2.2.2.2.1
 clear hp
 rw[hk] at p0 p1 q0 q1 q2 q3 hd aZ
 rw[show cz 2=1 by decide] at p0 p1 hd
 rw[show aH 2=0 by decide] at q0 q1 q2 q3
 unfold da at p0 p1 q0 q1 q2 q3
 unfold cC at aZ
 have eL:av o = [iM 38 o.t0 o.n]:=by unfold av bo aJ aK aL aC; rw[hk]; rfl
 have eN:bO o=1:=by unfold bO; rw[hk]; rfl
 rw[eL,eN]
 refine⟨fun i hi=>?_,rfl⟩
 simp only[List.mem_cons,List.not_mem_nil,or_false] at hi
 subst hi
 exact⟨Wz _ _ (by omega) (by omega),(show ¬ aq 38 by unfold aq; decide)⟩
theorem ia_3 (o:VO) (hk:o.kind=3) (hv:aM o) (hp:(ae o.t0 o.f0/\ae o.t0 o.f1/\ae o.t0 o.f2/\ae o.t0 o.f3)/\(ae o.t1 o.f0/\ae o.t1 o.f1/\ae o.t1 o.f2/\ae o.t1 o.f3)) (hn:0<=o.n/\o.n<=4294967295):(∀ i∈av o,au i/\¬ aq i.form)/\((av o).length:Int)=bO o:=by
 obtain⟨_,⟨p0,p1⟩,⟨q0,q1,q2,q3⟩,hd,aZ⟩:=hv
 have b0:=hp.1.1.1
 have b1:=hp.2.1.1
 have c0:=hp.1.1.2.1
 have c1:=hp.1.2.1.2.1
 have c2:=hp.1.2.2.1.2.1
 have c3:=hp.1.2.2.2.2.1
 clear hp
 rw[hk] at p0 p1 q0 q1 q2 q3 hd aZ
 rw[show cz 3=0 by decide] at p0 p1 hd
 rw[show aH 3=1 by decide] at q0 q1 q2 q3
 unfold da at p0 p1 q0 q1 q2 q3
 unfold cC at aZ
 have eL:av o = [iM 37 o.f0 o.n]:=by unfold av bo aJ aK aL aC; rw[hk]; rfl
 have eN:bO o=1:=by unfold bO; rw[hk]; rfl
 rw[eL,eN]
 refine⟨fun i hi=>?_,rfl⟩
 simp only[List.mem_cons,List.not_mem_nil,or_false] at hi
 subst hi
 exact⟨Wy _ _ (by omega) (by omega),(show ¬ aq 37 by unfold aq; decide)⟩
theorem ia_4 (o:VO) (hk:o.kind=4) (hv:aM o) (hp:(ae o.t0 o.f0/\ae o.t0 o.f1/\ae o.t0 o.f2/\ae o.t0 o.f3)/\(ae o.t1 o.f0/\ae o.t1 o.f1/\ae o.t1 o.f2/\ae o.t1 o.f3)) (hn:0<=o.n/\o.n<=4294967295):(∀ i∈av o,au i/\¬ aq i.form)/\((av o).length:Int)=bO o:=by
 obtain⟨_,⟨p0,p1⟩,⟨q0,q1,q2,q3⟩,hd,aZ⟩:=hv
 have b0:=hp.1.1.1
 have b1:=hp.2.1.1
 have c0:=hp.1.1.2.1
 have c1:=hp.1.2.1.2.1
 have c2:=hp.1.2.2.1.2.1
 have c3:=hp.1.2.2.2.2.1
 clear hp
 rw[hk] at p0 p1 q0 q1 q2 q3 hd aZ
 rw[show cz 4=1 by decide] at p0 p1 hd
 rw[show aH 4=0 by decide] at q0 q1 q2 q3
 unfold da at p0 p1 q0 q1 q2 q3
 unfold cC at aZ
 have eL:av o = [iM 39 o.t0 o.n]:=by unfold av bo aJ aK aL aC; rw[hk]; rfl
 have eN:bO o=1:=by unfold bO; rw[hk]; rfl
 rw[eL,eN]
 refine⟨fun i hi=>?_,rfl⟩
 simp only[List.mem_cons,List.not_mem_nil,or_false] at hi
 subst hi
 exact⟨WA _ _ (by omega) (by omega),(show ¬ aq 39 by unfold aq; decide)⟩
theorem ia_5 (o:VO) (hk:o.kind=5) (hv:aM o) (hp:(ae o.t0 o.f0/\ae o.t0 o.f1/\ae o.t0 o.f2/\ae o.t0 o.f3)/\(ae o.t1 o.f0/\ae o.t1 o.f1/\ae o.t1 o.f2/\ae o.t1 o.f3)) (hn:0<=o.n/\o.n<=4294967295):(∀ i∈av o,au i/\¬ aq i.form)/\((av o).length:Int)=bO o:=by
 obtain⟨_,⟨p0,p1⟩,⟨q0,q1,q2,q3⟩,hd,aZ⟩:=hv
 have b0:=hp.1.1.1
 have b1:=hp.2.1.1
 have c0:=hp.1.1.2.1
 have c1:=hp.1.2.1.2.1
 have c2:=hp.1.2.2.1.2.1
 have c3:=hp.1.2.2.2.2.1
 clear hp
 rw[hk] at p0 p1 q0 q1 q2 q3 hd aZ
 rw[show cz 5=1 by decide] at p0 p1 hd
 rw[show aH 5=2 by decide] at q0 q1 q2 q3
 unfold da at p0 p1 q0 q1 q2 q3
 unfold cC at aZ
 have eL:av o = [{ iF 87 o.t0 o.f0 o.f1 with bG:=2 }]:=by unfold av bo aJ aK aL aC; rw[hk]; rfl
 have eN:bO o=1:=by unfold bO; rw[hk]; rfl
 rw[eL,eN]
 refine⟨fun i hi=>?_,rfl⟩
 simp only[List.mem_cons,List.not_mem_nil,or_false] at hi
 subst hi
 exact⟨WC o.t0 o.f0 o.f1 (by omega) (by omega) (by omega),(show ¬ aq 87 by unfold aq; decide)⟩
theorem ia_6 (o:VO) (hk:o.kind=6) (hv:aM o) (hp:(ae o.t0 o.f0/\ae o.t0 o.f1/\ae o.t0 o.f2/\ae o.t0 o.f3)/\(ae o.t1 o.f0/\ae o.t1 o.f1/\ae o.t1 o.f2/\ae o.t1 o.f3)) (hn:0<=o.n/\o.n<=4294967295):(∀ i∈av o,au i/\¬ aq i.form)/\((av o).length:Int)=bO o:=by
 obtain⟨_,⟨p0,p1⟩,⟨q0,q1,q2,q3⟩,hd,aZ⟩:=hv
 have b0:=hp.1.1.1
 have b1:=hp.2.1.1
 have c0:=hp.1.1.2.1
 have c1:=hp.1.2.1.2.1
 have c2:=hp.1.2.2.1.2.1
 have c3:=hp.1.2.2.2.2.1
 clear hp
 rw[hk] at p0 p1 q0 q1 q2 q3 hd aZ
 rw[show cz 6=0 by decide] at p0 p1 hd
 rw[show aH 6=3 by decide] at q0 q1 q2 q3
 unfold da at p0 p1 q0 q1 q2 q3
 unfold cC at aZ
 have eL:av o = [{ iF 86 o.f2 o.f0 o.f1 with bG:=2 }]:=by unfold av bo aJ aK aL aC; rw[hk]; rfl
 have eN:bO o=1:=by unfold bO; rw[hk]; rfl
 rw[eL,eN]
 refine⟨fun i hi=>?_,rfl⟩
 simp only[List.mem_cons,List.not_mem_nil,or_false] at hi
 subst hi
 exact⟨WB o.f2 o.f0 o.f1 (by omega) (by omega) (by omega),(show ¬ aq 86 by unfold aq; decide)⟩
theorem ia_7 (o:VO) (hk:o.kind=7) (hv:aM o) (hp:(ae o.t0 o.f0/\ae o.t0 o.f1/\ae o.t0 o.f2/\ae o.t0 o.f3)/\(ae o.t1 o.f0/\ae o.t1 o.f1/\ae o.t1 o.f2/\ae o.t1 o.f3)) (hn:0<=o.n/\o.n<=4294967295):(∀ i∈av o,au i/\¬ aq i.form)/\((av o).length:Int)=bO o:=by
 obtain⟨_,⟨p0,p1⟩,⟨q0,q1,q2,q3⟩,hd,aZ⟩:=hv
 have b0:=hp.1.1.1
 have b1:=hp.2.1.1
 have c0:=hp.1.1.2.1
 have c1:=hp.1.2.1.2.1
 have c2:=hp.1.2.2.1.2.1
 have c3:=hp.1.2.2.2.2.1
 clear hp
 rw[hk] at p0 p1 q0 q1 q2 q3 hd aZ
 rw[show cz 7=1 by decide] at p0 p1 hd
 rw[show aH 7=2 by decide] at q0 q1 q2 q3
 unfold da at p0 p1 q0 q1 q2 q3
 unfold cC at aZ
 have eL:av o = [iF 66 o.t0 o.f0 o.f1]:=by unfold av bo aJ aK aL aC; rw[hk]; rfl
 have eN:bO o=1:=by unfold bO; rw[hk]; rfl
 rw[eL,eN]
 refine⟨fun i hi=>?_,rfl⟩
 simp only[List.mem_cons,List.not_mem_nil,or_false] at hi
 subst hi
 exact⟨Wo _ _ _ (by omega) (by omega) (by omega),(show ¬ aq 66 by unfold aq; decide)⟩
theorem ia_8 (o:VO) (hk:o.kind=8) (hv:aM o) (hp:(ae o.t0 o.f0/\ae o.t0 o.f1/\ae o.t0 o.f2/\ae o.t0 o.f3)/\(ae o.t1 o.f0/\ae o.t1 o.f1/\ae o.t1 o.f2/\ae o.t1 o.f3)) (hn:0<=o.n/\o.n<=4294967295):(∀ i∈av o,au i/\¬ aq i.form)/\((av o).length:Int)=bO o:=by
 obtain⟨_,⟨p0,p1⟩,⟨q0,q1,q2,q3⟩,hd,aZ⟩:=hv
 have b0:=hp.1.1.1
 have b1:=hp.2.1.1
 have c0:=hp.1.1.2.1
 have c1:=hp.1.2.1.2.1
 have c2:=hp.1.2.2.1.2.1
 have c3:=hp.1.2.2.2.2.1
 clear hp
 rw[hk] at p0 p1 q0 q1 q2 q3 hd aZ
 rw[show cz 8=1 by decide] at p0 p1 hd
 rw[show aH 8=2 by decide] at q0 q1 q2 q3
 unfold da at p0 p1 q0 q1 q2 q3
 unfold cC at aZ
 have eL:av o = [iF 68 o.t0 o.f0 o.f1]:=by unfold av bo aJ aK aL aC; rw[hk]; rfl
 have eN:bO o=1:=by unfold bO; rw[hk]; rfl
 rw[eL,eN]
 refine⟨fun i hi=>?_,rfl⟩
 simp only[List.mem_cons,List.not_mem_nil,or_false] at hi
 subst hi
 exact⟨Wp _ _ _ (by omega) (by omega) (by omega),(show ¬ aq 68 by unfold aq; decide)⟩
theorem ia_9 (o:VO) (hk:o.kind=9) (hv:aM o) (hp:(ae o.t0 o.f0/\ae o.t0 o.f1/\ae o.t0 o.f2/\ae o.t0 o.f3)/\(ae o.t1 o.f0/\ae o.t1 o.f1/\ae o.t1 o.f2/\ae o.t1 o.f3)) (hn:0<=o.n/\o.n<=4294967295):(∀ i∈av o,au i/\¬ aq i.form)/\((av o).length:Int)=bO o:=by
 obtain⟨_,⟨p0,p1⟩,⟨q0,q1,q2,q3⟩,hd,aZ⟩:=hv
 have b0:=hp.1.1.1
 have b1:=hp.2.1.1
 have c0:=hp.1.1.2.1
 have c1:=hp.1.2.1.2.1
 have c2:=hp.1.2.2.1.2.1
 have c3:=hp.1.2.2.2.2.1
 clear hp
 rw[hk] at p0 p1 q0 q1 q2 q3 hd aZ
 rw[show cz 9=1 by decide] at p0 p1 hd
 rw[show aH 9=2 by decide] at q0 q1 q2 q3
 unfold da at p0 p1 q0 q1 q2 q3
 unfold cC at aZ
 have eL:av o = [iF 70 o.t0 o.f0 o.f1]:=by unfold av bo aJ aK aL aC; rw[hk]; rfl
 have eN:bO o=1:=by unfold bO; rw[hk]; rfl
 rw[eL,eN]
 refine⟨fun i hi=>?_,rfl⟩
 simp only[List.mem_cons,List.not_mem_nil,or_false] at hi
 subst hi
 exact⟨NF _ _ _ (by omega) (by omega) (by omega),(show ¬ aq 70 by unfold aq; decide)⟩
theorem Zh (o:VO) (hk:o.kind=10) (hv:aM o) (hp:(ae o.t0 o.f0/\ae o.t0 o.f1/\ae o.t0 o.f2/\ae o.t0 o.f3)/\(ae o.t1 o.f0/\ae o.t1 o.f1/\ae o.t1 o.f2/\ae o.t1 o.f3)) (hn:0<=o.n/\o.n<=4294967295):(∀ i∈av o,au i/\¬ aq i.form)/\((av o).length:Int)=bO o:=by
 obtain⟨_,⟨p0,p1⟩,⟨q0,q1,q2,q3⟩,hd,aZ⟩:=hv
 have b0:=hp.1.1.1
 have b1:=hp.2.1.1
 have c0:=hp.1.1.2.1
 have c1:=hp.1.2.1.2.1
 have c2:=hp.1.2.2.1.2.1
 have c3:=hp.1.2.2.2.2.1
 clear hp
 rw[hk] at p0 p1 q0 q1 q2 q3 hd aZ
 rw[show cz 10=1 by decide] at p0 p1 hd
 rw[show aH 10=2 by decide] at q0 q1 q2 q3
 unfold da at p0 p1 q0 q1 q2 q3
 unfold cC at aZ
 have eL:av o = [iF 4 o.t0 o.f0 o.f1]:=by unfold av bo aJ aK aL aC; rw[hk]; rfl
 have eN:bO o=1:=by unfold bO; rw[hk]; rfl
 rw[eL,eN]
 refine⟨fun i hi=>?_,rfl⟩
 simp only[List.mem_cons,List.not_mem_nil,or_false] at hi
 subst hi
 exact⟨Ws _ _ _ (by omega) (by omega) (by omega),(show ¬ aq 4 by unfold aq; decide)⟩
theorem Zi (o:VO) (hk:o.kind=11) (hv:aM o) (hp:(ae o.t0 o.f0/\ae o.t0 o.f1/\ae o.t0 o.f2/\ae o.t0 o.f3)/\(ae o.t1 o.f0/\ae o.t1 o.f1/\ae o.t1 o.f2/\ae o.t1 o.f3)) (hn:0<=o.n/\o.n<=4294967295):(∀ i∈av o,au i/\¬ aq i.form)/\((av o).length:Int)=bO o:=by
 obtain⟨_,⟨p0,p1⟩,⟨q0,q1,q2,q3⟩,hd,aZ⟩:=hv
 have b0:=hp.1.1.1
 have b1:=hp.2.1.1
 have c0:=hp.1.1.2.1
 have c1:=hp.1.2.1.2.1
 have c2:=hp.1.2.2.1.2.1
 have c3:=hp.1.2.2.2.2.1
 clear hp
 rw[hk] at p0 p1 q0 q1 q2 q3 hd aZ
 rw[show cz 11=1 by decide] at p0 p1 hd
 rw[show aH 11=2 by decide] at q0 q1 q2 q3
 unfold da at p0 p1 q0 q1 q2 q3
 unfold cC at aZ
 have eL:av o = [iF 5 o.t0 o.f0 o.f1]:=by unfold av bo aJ aK aL aC; rw[hk]; rfl
 have eN:bO o=1:=by unfold bO; rw[hk]; rfl
 rw[eL,eN]
 refine⟨fun i hi=>?_,rfl⟩
 simp only[List.mem_cons,List.not_mem_nil,or_false] at hi
 subst hi
 exact⟨Ku _ _ _ (by omega) (by omega) (by omega),(show ¬ aq 5 by unfold aq; decide)⟩
theorem Zj (o:VO) (hk:o.kind=12) (hv:aM o) (hp:(ae o.t0 o.f0/\ae o.t0 o.f1/\ae o.t0 o.f2/\ae o.t0 o.f3)/\(ae o.t1 o.f0/\ae o.t1 o.f1/\ae o.t1 o.f2/\ae o.t1 o.f3)) (hn:0<=o.n/\o.n<=4294967295):(∀ i∈av o,au i/\¬ aq i.form)/\((av o).length:Int)=bO o:=by
 obtain⟨_,⟨p0,p1⟩,⟨q0,q1,q2,q3⟩,hd,aZ⟩:=hv
 have b0:=hp.1.1.1
 have b1:=hp.2.1.1
 have c0:=hp.1.1.2.1
 have c1:=hp.1.2.1.2.1
 have c2:=hp.1.2.2.1.2.1
 have c3:=hp.1.2.2.2.2.1
 clear hp
 rw[hk] at p0 p1 q0 q1 q2 q3 hd aZ
 rw[show cz 12=1 by decide] at p0 p1 hd
 rw[show aH 12=2 by decide] at q0 q1 q2 q3
 unfold da at p0 p1 q0 q1 q2 q3
 unfold cC at aZ
 have eL:av o = [iF 92 o.t0 o.f0 o.f1]:=by unfold av bo aJ aK aL aC; rw[hk]; rfl
 have eN:bO o=1:=by unfold bO; rw[hk]; rfl
 rw[eL,eN]
 refine⟨fun i hi=>?_,rfl⟩
 simp only[List.mem_cons,List.not_mem_nil,or_false] at hi
 subst hi
 exact⟨Wt _ _ _ (by omega) (by omega) (by omega),(show ¬ aq 92 by unfold aq; decide)⟩
theorem Zk (o:VO) (hk:o.kind=13) (hv:aM o) (hp:(ae o.t0 o.f0/\ae o.t0 o.f1/\ae o.t0 o.f2/\ae o.t0 o.f3)/\(ae o.t1 o.f0/\ae o.t1 o.f1/\ae o.t1 o.f2/\ae o.t1 o.f3)) (hn:0<=o.n/\o.n<=4294967295):(∀ i∈av o,au i/\¬ aq i.form)/\((av o).length:Int)=bO o:=by
 obtain⟨_,⟨p0,p1⟩,⟨q0,q1,q2,q3⟩,hd,aZ⟩:=hv
 have b0:=hp.1.1.1
 have b1:=hp.2.1.1
 have c0:=hp.1.1.2.1
 have c1:=hp.1.2.1.2.1
 have c2:=hp.1.2.2.1.2.1
 have c3:=hp.1.2.2.2.2.1
 clear hp
 rw[hk] at p0 p1 q0 q1 q2 q3 hd aZ
 rw[show cz 13=1 by decide] at p0 p1 hd
 rw[show aH 13=2 by decide] at q0 q1 q2 q3
 unfold da at p0 p1 q0 q1 q2 q3
 unfold cC at aZ
 have eL:av o = [iF 88 o.t0 o.f0 o.f1]:=by unfold av bo aJ aK aL aC; rw[hk]; rfl
 have eN:bO o=1:=by unfold bO; rw[hk]; rfl
 rw[eL,eN]
 refine⟨fun i hi=>?_,rfl⟩
 simp only[List.mem_cons,List.not_mem_nil,or_false] at hi
 subst hi
 exact⟨Wv _ _ _ (by omega) (by omega) (by omega),(show ¬ aq 88 by unfold aq; decide)⟩
theorem Zl (o:VO) (hk:o.kind=14) (hv:aM o) (hp:(ae o.t0 o.f0/\ae o.t0 o.f1/\ae o.t0 o.f2/\ae o.t0 o.f3)/\(ae o.t1 o.f0/\ae o.t1 o.f1/\ae o.t1 o.f2/\ae o.t1 o.f3)) (hn:0<=o.n/\o.n<=4294967295):(∀ i∈av o,au i/\¬ aq i.form)/\((av o).length:Int)=bO o:=by
 obtain⟨_,⟨p0,p1⟩,⟨q0,q1,q2,q3⟩,hd,aZ⟩:=hv
 have b0:=hp.1.1.1
 have b1:=hp.2.1.1
 have c0:=hp.1.1.2.1
 have c1:=hp.1.2.1.2.1
 have c2:=hp.1.2.2.1.2.1
 have c3:=hp.1.2.2.2.2.1
 clear hp
 rw[hk] at p0 p1 q0 q1 q2 q3 hd aZ
 rw[show cz 14=1 by decide] at p0 p1 hd
 rw[show aH 14=2 by decide] at q0 q1 q2 q3
 unfold da at p0 p1 q0 q1 q2 q3
 unfold cC at aZ
 have eL:av o = [iF 89 o.t0 o.f0 o.f1]:=by unfold av bo aJ aK aL aC; rw[hk]; rfl
 have eN:bO o=1:=by unfold bO; rw[hk]; rfl
 rw[eL,eN]
 refine⟨fun i hi=>?_,rfl⟩
 simp only[List.mem_cons,List.not_mem_nil,or_false] at hi
 subst hi
 exact⟨Ww _ _ _ (by omega) (by omega) (by omega),(show ¬ aq 89 by unfold aq; decide)⟩
theorem Zm (o:VO) (hk:o.kind=15) (hv:aM o) (hp:(ae o.t0 o.f0/\ae o.t0 o.f1/\ae o.t0 o.f2/\ae o.t0 o.f3)/\(ae o.t1 o.f0/\ae o.t1 o.f1/\ae o.t1 o.f2/\ae o.t1 o.f3)) (hn:0<=o.n/\o.n<=4294967295):(∀ i∈av o,au i/\¬ aq i.form)/\((av o).length:Int)=bO o:=by
 obtain⟨_,⟨p0,p1⟩,⟨q0,q1,q2,q3⟩,hd,aZ⟩:=hv
 have b0:=hp.1.1.1
 have b1:=hp.2.1.1
 have c0:=hp.1.1.2.1
 have c1:=hp.1.2.1.2.1
 have c2:=hp.1.2.2.1.2.1
 have c3:=hp.1.2.2.2.2.1
 clear hp
 rw[hk] at p0 p1 q0 q1 q2 q3 hd aZ
 rw[show cz 15=1 by decide] at p0 p1 hd
 rw[show aH 15=2 by decide] at q0 q1 q2 q3
 unfold da at p0 p1 q0 q1 q2 q3
 unfold cC at aZ
 have eL:av o = [iF 91 o.t0 o.f0 o.f1]:=by unfold av bo aJ aK aL aC; rw[hk]; rfl
 have eN:bO o=1:=by unfold bO; rw[hk]; rfl
 rw[eL,eN]
 refine⟨fun i hi=>?_,rfl⟩
 simp only[List.mem_cons,List.not_mem_nil,or_false] at hi
 subst hi
 exact⟨Wx _ _ _ (by omega) (by omega) (by omega),(show ¬ aq 91 by unfold aq; decide)⟩
theorem Zn (o:VO) (hk:o.kind=16) (hv:aM o) (hp:(ae o.t0 o.f0/\ae o.t0 o.f1/\ae o.t0 o.f2/\ae o.t0 o.f3)/\(ae o.t1 o.f0/\ae o.t1 o.f1/\ae o.t1 o.f2/\ae o.t1 o.f3)) (hn:0<=o.n/\o.n<=4294967295):(∀ i∈av o,au i/\¬ aq i.form)/\((av o).length:Int)=bO o:=by
 obtain⟨_,⟨p0,p1⟩,⟨q0,q1,q2,q3⟩,hd,aZ⟩:=hv
 have b0:=hp.1.1.1
 have b1:=hp.2.1.1
 have c0:=hp.1.1.2.1
 have c1:=hp.1.2.1.2.1
 have c2:=hp.1.2.2.1.2.1
 have c3:=hp.1.2.2.2.2.1
 clear hp
 rw[hk] at p0 p1 q0 q1 q2 q3 hd aZ
 rw[show cz 16=1 by decide] at p0 p1 hd
 rw[show aH 16=1 by decide] at q0 q1 q2 q3
 unfold da at p0 p1 q0 q1 q2 q3
 unfold cC at aZ
 have eL:av o = [{ iZ with form:=77,rd:=o.t0,rm:=o.f0 }]:=by unfold av bo aJ aK aL aC; rw[hk]; rfl
 have eN:bO o=1:=by unfold bO; rw[hk]; rfl
 rw[eL,eN]
 refine⟨fun i hi=>?_,rfl⟩
 simp only[List.mem_cons,List.not_mem_nil,or_false] at hi
 subst hi
 exact⟨WL _ _ (by omega) (by omega),(show ¬ aq 77 by unfold aq; decide)⟩
theorem Zo (o:VO) (hk:o.kind=17) (hv:aM o) (hp:(ae o.t0 o.f0/\ae o.t0 o.f1/\ae o.t0 o.f2/\ae o.t0 o.f3)/\(ae o.t1 o.f0/\ae o.t1 o.f1/\ae o.t1 o.f2/\ae o.t1 o.f3)) (hn:0<=o.n/\o.n<=4294967295):(∀ i∈av o,au i/\¬ aq i.form)/\((av o).length:Int)=bO o:=by
 obtain⟨_,⟨p0,p1⟩,⟨q0,q1,q2,q3⟩,hd,aZ⟩:=hv
 have b0:=hp.1.1.1
 have b1:=hp.2.1.1
 have c0:=hp.1.1.2.1
 have c1:=hp.1.2.1.2.1
 have c2:=hp.1.2.2.1.2.1
 have c3:=hp.1.2.2.2.2.1
 clear hp
 rw[hk] at p0 p1 q0 q1 q2 q3 hd aZ
 rw[show cz 17=1 by decide] at p0 p1 hd
 rw[show aH 17=1 by decide] at q0 q1 q2 q3
 unfold da at p0 p1 q0 q1 q2 q3
 unfold cC at aZ
 have eL:av o = [{ iZ with form:=59,rd:=o.t0,rn:=o.f0 }]:=by unfold av bo aJ aK aL aC; rw[hk]; rfl
 have eN:bO o=1:=by unfold bO; rw[hk]; rfl
 have w0:Rm.dz 0=0:=by decide +kernel
 rw[eL,eN]
 refine⟨fun i hi=>?_,rfl⟩
 simp only[List.mem_cons,List.not_mem_nil,or_false] at hi
 subst hi
 exact⟨NH _ _ _ (by omega) (by omega) (by decide) w0,(show ¬ aq 59 by unfold aq; decide)⟩
theorem Zp (o:VO) (hk:o.kind=18) (hv:aM o) (hp:(ae o.t0 o.f0/\ae o.t0 o.f1/\ae o.t0 o.f2/\ae o.t0 o.f3)/\(ae o.t1 o.f0/\ae o.t1 o.f1/\ae o.t1 o.f2/\ae o.t1 o.f3)) (hn:0<=o.n/\o.n<=4294967295):(∀ i∈av o,au i/\¬ aq i.form)/\((av o).length:Int)=bO o:=by
 obtain⟨_,⟨p0,p1⟩,⟨q0,q1,q2,q3⟩,hd,aZ⟩:=hv
 have b0:=hp.1.1.1
 have b1:=hp.2.1.1
 have c0:=hp.1.1.2.1
 have c1:=hp.1.2.1.2.1
 have c2:=hp.1.2.2.1.2.1
 have c3:=hp.1.2.2.2.2.1
 clear hp
 rw[hk] at p0 p1 q0 q1 q2 q3 hd aZ
 rw[show cz 18=1 by decide] at p0 p1 hd
 rw[show aH 18=1 by decide] at q0 q1 q2 q3
 unfold da at p0 p1 q0 q1 q2 q3
 unfold cC at aZ
 have eL:av o = [{ iZ with form:=1,rd:=o.t0,rm:=o.f0,az:=o.n }]:=by unfold av bo aJ aK aL aC; rw[hk]; rfl
 have eN:bO o=1:=by unfold bO; rw[hk]; rfl
 rw[eL,eN]
 refine⟨fun i hi=>?_,rfl⟩
 simp only[List.mem_cons,List.not_mem_nil,or_false] at hi
 subst hi
 exact⟨ri_1 _ _ _ (by omega) (by omega) (by omega),(show ¬ aq 1 by unfold aq; decide)⟩
theorem Zq (o:VO) (hk:o.kind=19) (hv:aM o) (hp:(ae o.t0 o.f0/\ae o.t0 o.f1/\ae o.t0 o.f2/\ae o.t0 o.f3)/\(ae o.t1 o.f0/\ae o.t1 o.f1/\ae o.t1 o.f2/\ae o.t1 o.f3)) (hn:0<=o.n/\o.n<=4294967295):(∀ i∈av o,au i/\¬ aq i.form)/\((av o).length:Int)=bO o:=by
 obtain⟨_,⟨p0,p1⟩,⟨q0,q1,q2,q3⟩,hd,aZ⟩:=hv
 have b0:=hp.1.1.1
 have b1:=hp.2.1.1
 have c0:=hp.1.1.2.1
 have c1:=hp.1.2.1.2.1
 have c2:=hp.1.2.2.1.2.1
 have c3:=hp.1.2.2.2.2.1
 clear hp
 rw[hk] at p0 p1 q0 q1 q2 q3 hd aZ
 rw[show cz 19=1 by decide] at p0 p1 hd
 rw[show aH 19=1 by decide] at q0 q1 q2 q3
 unfold da at p0 p1 q0 q1 q2 q3
 unfold cC at aZ
 have eL:av o = [{ iZ with form:=2,rd:=o.t0,rm:=o.f0,az:=o.n }]:=by unfold av bo aJ aK aL aC; rw[hk]; rfl
 have eN:bO o=1:=by unfold bO; rw[hk]; rfl
 rw[eL,eN]
 refine⟨fun i hi=>?_,rfl⟩
 simp only[List.mem_cons,List.not_mem_nil,or_false] at hi
 subst hi
 exact⟨Kv _ _ _ (by omega) (by omega) (by omega),(show ¬ aq 2 by unfold aq; decide)⟩
theorem Zr (o:VO) (hk:o.kind=20) (hv:aM o) (hp:(ae o.t0 o.f0/\ae o.t0 o.f1/\ae o.t0 o.f2/\ae o.t0 o.f3)/\(ae o.t1 o.f0/\ae o.t1 o.f1/\ae o.t1 o.f2/\ae o.t1 o.f3)) (hn:0<=o.n/\o.n<=4294967295):(∀ i∈av o,au i/\¬ aq i.form)/\((av o).length:Int)=bO o:=by
 obtain⟨_,⟨p0,p1⟩,⟨q0,q1,q2,q3⟩,hd,aZ⟩:=hv
 have b0:=hp.1.1.1
 have b1:=hp.2.1.1
 have c0:=hp.1.1.2.1
 have c1:=hp.1.2.1.2.1
 have c2:=hp.1.2.2.1.2.1
 have c3:=hp.1.2.2.2.2.1
 clear hp
 rw[hk] at p0 p1 q0 q1 q2 q3 hd aZ
 rw[show cz 20=1 by decide] at p0 p1 hd
 rw[show aH 20=1 by decide] at q0 q1 q2 q3
 unfold da at p0 p1 q0 q1 q2 q3
 unfold cC at aZ
 have eL:av o = [{ iZ with form:=76,rd:=o.t0,rm:=o.f0,kind:=3,bG:=o.n }]:=by unfold av bo aJ aK aL aC; rw[hk]; rfl
 have eN:bO o=1:=by unfold bO; rw[hk]; rfl
 rw[eL,eN]
 refine⟨fun i hi=>?_,rfl⟩
 simp only[List.mem_cons,List.not_mem_nil,or_false] at hi
 subst hi
 exact⟨WM _ _ _ (by omega) (by omega) (by omega),(show ¬ aq 76 by unfold aq; decide)⟩
theorem Zs (o:VO) (hk:o.kind=21) (hv:aM o) (hp:(ae o.t0 o.f0/\ae o.t0 o.f1/\ae o.t0 o.f2/\ae o.t0 o.f3)/\(ae o.t1 o.f0/\ae o.t1 o.f1/\ae o.t1 o.f2/\ae o.t1 o.f3)) (hn:0<=o.n/\o.n<=4294967295):(∀ i∈av o,au i/\¬ aq i.form)/\((av o).length:Int)=bO o:=by
 obtain⟨_,⟨p0,p1⟩,⟨q0,q1,q2,q3⟩,hd,aZ⟩:=hv
 have b0:=hp.1.1.1
 have b1:=hp.2.1.1
 have c0:=hp.1.1.2.1
 have c1:=hp.1.2.1.2.1
 have c2:=hp.1.2.2.1.2.1
 have c3:=hp.1.2.2.2.2.1
 clear hp
 rw[hk] at p0 p1 q0 q1 q2 q3 hd aZ
 rw[show cz 21=1 by decide] at p0 p1 hd
 rw[show aH 21=2 by decide] at q0 q1 q2 q3
 unfold da at p0 p1 q0 q1 q2 q3
 unfold cC at aZ
 have eL:av o = [iF 5 o.t0 o.f0 o.f1,eu o.t0,fT o.t0]:=by unfold av bo aJ aK aL aC; rw[hk]; rfl
 have eN:bO o=3:=by unfold bO; rw[hk]; rfl
 rw[eL,eN]
 refine⟨fun i hi=>?_,rfl⟩
 simp only[List.mem_cons,List.not_mem_nil,or_false] at hi
 rcases hi with rfl|rfl|rfl
 ·exact⟨Ku _ _ _ (by omega) (by omega) (by omega),(show ¬ aq 5 by unfold aq; decide)⟩
 ·exact⟨AQ _ _ _ (by omega) (by omega) (by omega),(show ¬ aq 73 by unfold aq; decide)⟩
 ·exact⟨Kv _ _ _ (by omega) (by omega) (by omega),(show ¬ aq 2 by unfold aq; decide)⟩
theorem Zt (o:VO) (hk:o.kind=22) (hv:aM o) (hp:(ae o.t0 o.f0/\ae o.t0 o.f1/\ae o.t0 o.f2/\ae o.t0 o.f3)/\(ae o.t1 o.f0/\ae o.t1 o.f1/\ae o.t1 o.f2/\ae o.t1 o.f3)) (hn:0<=o.n/\o.n<=4294967295):(∀ i∈av o,au i/\¬ aq i.form)/\((av o).length:Int)=bO o:=by
 obtain⟨_,⟨p0,p1⟩,⟨q0,q1,q2,q3⟩,hd,aZ⟩:=hv
 have b0:=hp.1.1.1
 have b1:=hp.2.1.1
 have c0:=hp.1.1.2.1
 have c1:=hp.1.2.1.2.1
 have c2:=hp.1.2.2.1.2.1
 have c3:=hp.1.2.2.2.2.1
 clear hp
 rw[hk] at p0 p1 q0 q1 q2 q3 hd aZ
 rw[show cz 22=1 by decide] at p0 p1 hd
 rw[show aH 22=2 by decide] at q0 q1 q2 q3
 unfold da at p0 p1 q0 q1 q2 q3
 unfold cC at aZ
 have eL:av o = [iF 70 o.t0 o.f0 o.f1,iM 11 o.t0 1,eu o.t0,fT o.t0]:=by unfold av bo aJ aK aL aC; rw[hk]; rfl
 have eN:bO o=4:=by unfold bO; rw[hk]; rfl
 rw[eL,eN]
 refine⟨fun i hi=>?_,rfl⟩
 simp only[List.mem_cons,List.not_mem_nil,or_false] at hi
 rcases hi with rfl|rfl|rfl|rfl
 ·exact⟨NF _ _ _ (by omega) (by omega) (by omega),(show ¬ aq 70 by unfold aq; decide)⟩
 ·exact⟨WH _ _ (by omega) (by omega),(show ¬ aq 11 by unfold aq; decide)⟩
 ·exact⟨AQ _ _ _ (by omega) (by omega) (by omega),(show ¬ aq 73 by unfold aq; decide)⟩
 ·exact⟨Kv _ _ _ (by omega) (by omega) (by omega),(show ¬ aq 2 by unfold aq; decide)⟩
theorem Zu (o:VO) (hk:o.kind=23) (hv:aM o) (hp:(ae o.t0 o.f0/\ae o.t0 o.f1/\ae o.t0 o.f2/\ae o.t0 o.f3)/\(ae o.t1 o.f0/\ae o.t1 o.f1/\ae o.t1 o.f2/\ae o.t1 o.f3)) (hn:0<=o.n/\o.n<=4294967295):(∀ i∈av o,au i/\¬ aq i.form)/\((av o).length:Int)=bO o:=by
 obtain⟨_,⟨p0,p1⟩,⟨q0,q1,q2,q3⟩,hd,aZ⟩:=hv
 have b0:=hp.1.1.1
 have b1:=hp.2.1.1
 have c0:=hp.1.1.2.1
 have c1:=hp.1.2.1.2.1
 have c2:=hp.1.2.2.1.2.1
 have c3:=hp.1.2.2.2.2.1
 clear hp
 rw[hk] at p0 p1 q0 q1 q2 q3 hd aZ
 rw[show cz 23=2 by decide] at p0 p1 hd
 rw[show aH 23=4 by decide] at q0 q1 q2 q3
 unfold da at p0 p1 q0 q1 q2 q3
 unfold cC at aZ
 have eL:av o = [iF 4 o.t0 o.f0 o.f2,iF 72 o.t1 o.f1 o.f3]:=by unfold av bo aJ aK aL aC; rw[hk]; rfl
 have eN:bO o=2:=by unfold bO; rw[hk]; rfl
 rw[eL,eN]
 refine⟨fun i hi=>?_,rfl⟩
 simp only[List.mem_cons,List.not_mem_nil,or_false] at hi
 rcases hi with rfl|rfl
 ·exact⟨Ws _ _ _ (by omega) (by omega) (by omega),(show ¬ aq 4 by unfold aq; decide)⟩
 ·exact⟨Wq _ _ _ (by omega) (by omega) (by omega),(show ¬ aq 72 by unfold aq; decide)⟩
theorem Zv (o:VO) (hk:o.kind=24) (hv:aM o) (hp:(ae o.t0 o.f0/\ae o.t0 o.f1/\ae o.t0 o.f2/\ae o.t0 o.f3)/\(ae o.t1 o.f0/\ae o.t1 o.f1/\ae o.t1 o.f2/\ae o.t1 o.f3)) (hn:0<=o.n/\o.n<=4294967295):(∀ i∈av o,au i/\¬ aq i.form)/\((av o).length:Int)=bO o:=by
 obtain⟨_,⟨p0,p1⟩,⟨q0,q1,q2,q3⟩,hd,aZ⟩:=hv
 have b0:=hp.1.1.1
 have b1:=hp.2.1.1
 have c0:=hp.1.1.2.1
 have c1:=hp.1.2.1.2.1
 have c2:=hp.1.2.2.1.2.1
 have c3:=hp.1.2.2.2.2.1
 clear hp
 rw[hk] at p0 p1 q0 q1 q2 q3 hd aZ
 rw[show cz 24=2 by decide] at p0 p1 hd
 rw[show aH 24=4 by decide] at q0 q1 q2 q3
 unfold da at p0 p1 q0 q1 q2 q3
 unfold cC at aZ
 have eL:av o = [iF 5 o.t0 o.f0 o.f2,iF 73 o.t1 o.f1 o.f3]:=by unfold av bo aJ aK aL aC; rw[hk]; rfl
 have eN:bO o=2:=by unfold bO; rw[hk]; rfl
 rw[eL,eN]
 refine⟨fun i hi=>?_,rfl⟩
 simp only[List.mem_cons,List.not_mem_nil,or_false] at hi
 rcases hi with rfl|rfl
 ·exact⟨Ku _ _ _ (by omega) (by omega) (by omega),(show ¬ aq 5 by unfold aq; decide)⟩
 ·exact⟨AQ _ _ _ (by omega) (by omega) (by omega),(show ¬ aq 73 by unfold aq; decide)⟩
theorem Zw (o:VO) (hk:o.kind=25) (hv:aM o) (hp:(ae o.t0 o.f0/\ae o.t0 o.f1/\ae o.t0 o.f2/\ae o.t0 o.f3)/\(ae o.t1 o.f0/\ae o.t1 o.f1/\ae o.t1 o.f2/\ae o.t1 o.f3)) (hn:0<=o.n/\o.n<=4294967295):(∀ i∈av o,au i/\¬ aq i.form)/\((av o).length:Int)=bO o:=by
 obtain⟨_,⟨p0,p1⟩,⟨q0,q1,q2,q3⟩,hd,aZ⟩:=hv
 have b0:=hp.1.1.1
 have b1:=hp.2.1.1
 have c0:=hp.1.1.2.1
 have c1:=hp.1.2.1.2.1
 have c2:=hp.1.2.2.1.2.1
 have c3:=hp.1.2.2.2.2.1
 clear hp
 rw[hk] at p0 p1 q0 q1 q2 q3 hd aZ
 rw[show cz 25=1 by decide] at p0 p1 hd
 rw[show aH 25=4 by decide] at q0 q1 q2 q3
 unfold da at p0 p1 q0 q1 q2 q3
 unfold cC at aZ
 have eL:av o = [iF 5 o.t0 o.f0 o.f2,{ iF 73 o.t0 o.f1 o.f3 with set:=1 },eu o.t0,fT o.t0]:=by unfold av bo aJ aK aL aC; rw[hk]; rfl
 have eN:bO o=4:=by unfold bO; rw[hk]; rfl
 rw[eL,eN]
 refine⟨fun i hi=>?_,rfl⟩
 simp only[List.mem_cons,List.not_mem_nil,or_false] at hi
 rcases hi with rfl|rfl|rfl|rfl
 ·exact⟨Ku _ _ _ (by omega) (by omega) (by omega),(show ¬ aq 5 by unfold aq; decide)⟩
 ·exact⟨Pd o.t0 o.f1 o.f3 (by omega) (by omega) (by omega),(show ¬ aq 73 by unfold aq; decide)⟩
 ·exact⟨AQ _ _ _ (by omega) (by omega) (by omega),(show ¬ aq 73 by unfold aq; decide)⟩
 ·exact⟨Kv _ _ _ (by omega) (by omega) (by omega),(show ¬ aq 2 by unfold aq; decide)⟩
theorem Zx (o:VO) (hk:o.kind=26) (hv:aM o) (hp:(ae o.t0 o.f0/\ae o.t0 o.f1/\ae o.t0 o.f2/\ae o.t0 o.f3)/\(ae o.t1 o.f0/\ae o.t1 o.f1/\ae o.t1 o.f2/\ae o.t1 o.f3)) (hn:0<=o.n/\o.n<=4294967295):(∀ i∈av o,au i/\¬ aq i.form)/\((av o).length:Int)=bO o:=by
 obtain⟨_,⟨p0,p1⟩,⟨q0,q1,q2,q3⟩,hd,aZ⟩:=hv
 have b0:=hp.1.1.1
 have b1:=hp.2.1.1
 have c0:=hp.1.1.2.1
 have c1:=hp.1.2.1.2.1
 have c2:=hp.1.2.2.1.2.1
 have c3:=hp.1.2.2.2.2.1
 clear hp
 rw[hk] at p0 p1 q0 q1 q2 q3 hd aZ
 rw[show cz 26=2 by decide] at p0 p1 hd
 rw[show aH 26=2 by decide] at q0 q1 q2 q3
 unfold da at p0 p1 q0 q1 q2 q3
 unfold cC at aZ
 have eL:av o = [{ iF 95 o.t0 o.f0 o.f1 with ra:=o.t1 }]:=by unfold av bo aJ aK aL aC; rw[hk]; rfl
 have eN:bO o=1:=by unfold bO; rw[hk]; rfl
 rw[eL,eN]
 refine⟨fun i hi=>?_,rfl⟩
 simp only[List.mem_cons,List.not_mem_nil,or_false] at hi
 subst hi
 exact⟨WD o.t0 o.f0 o.f1 o.t1 (by omega) (by omega) (by omega) (by omega) (by omega),(show ¬ aq 95 by unfold aq; decide)⟩
theorem Zy (o:VO) (hk:o.kind=27) (hv:aM o) (hp:(ae o.t0 o.f0/\ae o.t0 o.f1/\ae o.t0 o.f2/\ae o.t0 o.f3)/\(ae o.t1 o.f0/\ae o.t1 o.f1/\ae o.t1 o.f2/\ae o.t1 o.f3)) (hn:0<=o.n/\o.n<=4294967295):(∀ i∈av o,au i/\¬ aq i.form)/\((av o).length:Int)=bO o:=by
 obtain⟨_,⟨p0,p1⟩,⟨q0,q1,q2,q3⟩,hd,aZ⟩:=hv
 have b0:=hp.1.1.1
 have b1:=hp.2.1.1
 have c0:=hp.1.1.2.1
 have c1:=hp.1.2.1.2.1
 have c2:=hp.1.2.2.1.2.1
 have c3:=hp.1.2.2.2.2.1
 clear hp
 rw[hk] at p0 p1 q0 q1 q2 q3 hd aZ
 rw[show cz 27=1 by decide] at p0 p1 hd
 rw[show aH 27=1 by decide] at q0 q1 q2 q3
 unfold da at p0 p1 q0 q1 q2 q3
 unfold cC at aZ
 have eL:av o = [{ iZ with form:=50,rd:=o.t0,rn:=o.f0,az:=1 },{ iZ with form:=59,rd:=o.t0,rn:=o.t0 }]:=by unfold av bo aJ aK aL aC; rw[hk]; rfl
 have eN:bO o=2:=by unfold bO; rw[hk]; rfl
 have w0:Rm.dz 0=0:=by decide +kernel
 have w1:Rm.dz 1=0:=by decide +kernel
 rw[eL,eN]
 refine⟨fun i hi=>?_,rfl⟩
 simp only[List.mem_cons,List.not_mem_nil,or_false] at hi
 rcases hi with rfl|rfl
 ·exact⟨WN _ _ _ (by omega) (by omega) (by omega) w1,(show ¬ aq 50 by unfold aq; decide)⟩
 ·exact⟨NH _ _ _ (by omega) (by omega) (by decide) w0,(show ¬ aq 59 by unfold aq; decide)⟩
theorem Zz (o:VO) (hk:o.kind=28) (hv:aM o) (hp:(ae o.t0 o.f0/\ae o.t0 o.f1/\ae o.t0 o.f2/\ae o.t0 o.f3)/\(ae o.t1 o.f0/\ae o.t1 o.f1/\ae o.t1 o.f2/\ae o.t1 o.f3)) (hn:0<=o.n/\o.n<=4294967295):(∀ i∈av o,au i/\¬ aq i.form)/\((av o).length:Int)=bO o:=by
 obtain⟨_,⟨p0,p1⟩,⟨q0,q1,q2,q3⟩,hd,aZ⟩:=hv
 have b0:=hp.1.1.1
 have b1:=hp.2.1.1
 have c0:=hp.1.1.2.1
 have c1:=hp.1.2.1.2.1
 have c2:=hp.1.2.2.1.2.1
 have c3:=hp.1.2.2.2.2.1
 clear hp
 rw[hk] at p0 p1 q0 q1 q2 q3 hd aZ
 rw[show cz 28=1 by decide] at p0 p1 hd
 rw[show aH 28=2 by decide] at q0 q1 q2 q3
 unfold da at p0 p1 q0 q1 q2 q3
 unfold cC at aZ
 have eL:av o = [iF 97 o.t0 o.f0 o.f1]:=by unfold av bo aJ aK aL aC; rw[hk]; rfl
 have eN:bO o=1:=by unfold bO; rw[hk]; rfl
 rw[eL,eN]
 refine⟨fun i hi=>?_,rfl⟩
 simp only[List.mem_cons,List.not_mem_nil,or_false] at hi
 subst hi
 exact⟨Wu _ _ _ (by omega) (by omega) (by omega),(show ¬ aq 97 by unfold aq; decide)⟩
theorem ZA (o:VO) (hk:o.kind=29) (hv:aM o) (hp:(ae o.t0 o.f0/\ae o.t0 o.f1/\ae o.t0 o.f2/\ae o.t0 o.f3)/\(ae o.t1 o.f0/\ae o.t1 o.f1/\ae o.t1 o.f2/\ae o.t1 o.f3)) (hn:0<=o.n/\o.n<=4294967295):(∀ i∈av o,au i/\¬ aq i.form)/\((av o).length:Int)=bO o:=by
 obtain⟨_,⟨p0,p1⟩,⟨q0,q1,q2,q3⟩,hd,aZ⟩:=hv
 have b0:=hp.1.1.1
 have b1:=hp.2.1.1
 have c0:=hp.1.1.2.1
 have c1:=hp.1.2.1.2.1
 have c2:=hp.1.2.2.1.2.1
 have c3:=hp.1.2.2.2.2.1
 clear hp
 rw[hk] at p0 p1 q0 q1 q2 q3 hd aZ
 rw[show cz 29=1 by decide] at p0 p1 hd
 rw[show aH 29=3 by decide] at q0 q1 q2 q3
 unfold da at p0 p1 q0 q1 q2 q3
 unfold cC at aZ
 have eL:av o = [{ iF 94 o.t0 o.f1 o.f2 with ra:=o.f0 }]:=by unfold av bo aJ aK aL aC; rw[hk]; rfl
 have eN:bO o=1:=by unfold bO; rw[hk]; rfl
 rw[eL,eN]
 refine⟨fun i hi=>?_,rfl⟩
 simp only[List.mem_cons,List.not_mem_nil,or_false] at hi
 subst hi
 exact⟨WO o.t0 o.f1 o.f2 o.f0 (by omega) (by omega) (by omega) (by omega),(show ¬ aq 94 by unfold aq; decide)⟩
theorem ZB (o:VO) (hk:o.kind=30) (hv:aM o) (hp:(ae o.t0 o.f0/\ae o.t0 o.f1/\ae o.t0 o.f2/\ae o.t0 o.f3)/\(ae o.t1 o.f0/\ae o.t1 o.f1/\ae o.t1 o.f2/\ae o.t1 o.f3)) (hn:0<=o.n/\o.n<=4294967295):(∀ i∈av o,au i/\¬ aq i.form)/\((av o).length:Int)=bO o:=by
 obtain⟨_,⟨p0,p1⟩,⟨q0,q1,q2,q3⟩,hd,aZ⟩:=hv
 have b0:=hp.1.1.1
 have b1:=hp.2.1.1
 have c0:=hp.1.1.2.1
 have c1:=hp.1.2.1.2.1
 have c2:=hp.1.2.2.1.2.1
 have c3:=hp.1.2.2.2.2.1
 clear hp
 rw[hk] at p0 p1 q0 q1 q2 q3 hd aZ
 rw[show cz 30=0 by decide] at p0 p1 hd
 rw[show aH 30=1 by decide] at q0 q1 q2 q3
 unfold da at p0 p1 q0 q1 q2 q3
 unfold cC at aZ
 have eL:av o=if o.n<=255 then [iM 9 o.f0 o.n] else [{ iZ with form:=65,rn:=o.f0,az:=Rm.ot o.n }]:=by unfold av bo aJ aK aL aC; rw[hk]; simp
 have eN:bO o=1:=by unfold bO; rw[hk]; rfl
 rw[eL,eN]
 by_cases h1:o.n<=255
 ·rw[if_pos h1]
  refine⟨fun i hi=>?_,rfl⟩
  simp only[List.mem_cons,List.not_mem_nil,or_false] at hi
  subst hi
  exact⟨WG _ _ (by omega) (by first|omega|decide),(show ¬ aq 9 by unfold aq; decide)⟩
 ·rw[if_neg h1]
  have e:=Gn o.n (by omega) (by omega) (by omega)
  have i1:=qe o.n
  have w:=mS o.n hn (i1.1.1 (by rw[e]; exact Int.natCast_nonneg _))
  refine⟨fun i hi=>?_,rfl⟩
  simp only[List.mem_cons,List.not_mem_nil,or_false] at hi
  subst hi
  exact⟨WQ _ _ (by omega) w.2 w.1,(show ¬ aq 65 by unfold aq; decide)⟩
theorem ZC (o:VO) (hk:o.kind=31) (hv:aM o) (hp:(ae o.t0 o.f0/\ae o.t0 o.f1/\ae o.t0 o.f2/\ae o.t0 o.f3)/\(ae o.t1 o.f0/\ae o.t1 o.f1/\ae o.t1 o.f2/\ae o.t1 o.f3)) (hn:0<=o.n/\o.n<=4294967295):(∀ i∈av o,au i/\¬ aq i.form)/\((av o).length:Int)=bO o:=by
 obtain⟨_,⟨p0,p1⟩,⟨q0,q1,q2,q3⟩,hd,aZ⟩:=hv
 have b0:=hp.1.1.1
 have b1:=hp.2.1.1
 have c0:=hp.1.1.2.1
 have c1:=hp.1.2.1.2.1
 have c2:=hp.1.2.2.1.2.1
 have c3:=hp.1.2.2.2.2.1
 clear hp
 rw[hk] at p0 p1 q0 q1 q2 q3 hd aZ
 rw[show cz 31=0 by decide] at p0 p1 hd
 rw[show aH 31=1 by decide] at q0 q1 q2 q3
 unfold da at p0 p1 q0 q1 q2 q3
 unfold cC at aZ
 have eL:av o = [{ iZ with form:=9,rd:=o.f0 }]:=by unfold av bo aJ aK aL aC; rw[hk]; rfl
 have eN:bO o=1:=by unfold bO; rw[hk]; rfl
 rw[eL,eN]
 refine⟨fun i hi=>?_,rfl⟩
 simp only[List.mem_cons,List.not_mem_nil,or_false] at hi
 subst hi
 exact⟨WG _ _ (by omega) (by first|omega|decide),(show ¬ aq 9 by unfold aq; decide)⟩
theorem BD (o:VO) (h:aM o/\dM o) (hn:0<=o.n/\o.n<=4294967295):(∀ i∈av o,au i/\¬ aq i.form)/\((av o).length:Int)=bO o:=by
 have hp:=(iG o h.1).1 h
 have hv:=h.1
 rcases kinds hv.1 with hk|hk|hk|hk|hk|hk|hk|hk|hk|hk|hk|hk|hk|hk|hk|hk|hk|hk|hk|hk|hk|hk|hk|hk|hk|hk|hk|hk|hk|hk|hk
 ·exact ia_1 o hk hv hp hn
 ·exact ia_2 o hk hv hp hn
 ·exact ia_3 o hk hv hp hn
 ·exact ia_4 o hk hv hp hn
 ·exact ia_5 o hk hv hp hn
 ·exact ia_6 o hk hv hp hn
 ·exact ia_7 o hk hv hp hn
 ·exact ia_8 o hk hv hp hn
 ·exact ia_9 o hk hv hp hn
 ·exact Zh o hk hv hp hn
 ·exact Zi o hk hv hp hn
 ·exact Zj o hk hv hp hn
 ·exact Zk o hk hv hp hn
 ·exact Zl o hk hv hp hn
 ·exact Zm o hk hv hp hn
 ·exact Zn o hk hv hp hn
 ·exact Zo o hk hv hp hn
 ·exact Zp o hk hv hp hn
 ·exact Zq o hk hv hp hn
 ·exact Zr o hk hv hp hn
 ·exact Zs o hk hv hp hn
 ·exact Zt o hk hv hp hn
 ·exact Zu o hk hv hp hn
 ·exact Zv o hk hv hp hn
 ·exact Zw o hk hv hp hn
 ·exact Zx o hk hv hp hn
 ·exact Zy o hk hv hp hn
 ·exact Zz o hk hv hp hn
 ·exact ZA o hk hv hp hn
 ·exact ZB o hk hv hp hn
 ·exact ZC o hk hv hp hn
 
def alB (f:Int):Bool:=decide ((cL f=0/\f≠42/\f≠43)/\bY f=0/\bN f≠5/\bN f≠4)
theorem Uz {f:Int} (h:alB f=true):IC f/\bN f≠5/\bN f≠4:=by
 have h:=of_decide_eq_true h
 exact⟨⟨h.1,h.2.1⟩,h.2.2⟩
def stB (f:Int):Bool:=decide (cL f=0/\f≠42/\f≠43)
theorem UA (t n:Int):(jk t n).all (fun i=>alB i.form)=true:=by
 unfold jk
 repeat' split
 all_goals rfl
set_option maxHeartbeats 4000000 in
theorem UB (o:VO) (h:aM o) (h2:o.kind≠2) (h3:o.kind≠3) (h5:o.kind≠5) (h6:o.kind≠6) (kz:o.kind≠28):(av o).all (fun i=>alB i.form)=true:=by
 rcases kinds h.1 with hk|hk|hk|hk|hk|hk|hk|hk|hk|hk|hk|hk|hk|hk|hk|hk|hk|hk|hk|hk|hk|hk|hk|hk|hk|hk|hk|hk|hk|hk|hk
 ·have e:av o=jk o.t0 o.n:=by unfold av bo aJ aK aL aC; rw[hk]; simp
  rw[e]; exact UA _ _
 ·first|exact absurd hk h2|exact absurd hk h3|exact absurd hk h5|exact absurd hk h6|exact absurd hk kz|(unfold av bo aJ aK aL aC; rw[hk]; rfl)
 ·first|exact absurd hk h2|exact absurd hk h3|exact absurd hk h5|exact absurd hk h6|exact absurd hk kz|(unfold av bo aJ aK aL aC; rw[hk]; rfl)
 ·first|exact absurd hk h2|exact absurd hk h3|exact absurd hk h5|exact absurd hk h6|exact absurd hk kz|(unfold av bo aJ aK aL aC; rw[hk]; rfl)
 ·first|exact absurd hk h2|exact absurd hk h3|exact absurd hk h5|exact absurd hk h6|exact absurd hk kz|(unfold av bo aJ aK aL aC; rw[hk]; rfl)
 ·first|exact absurd hk h2|exact absurd hk h3|exact absurd hk h5|exact absurd hk h6|exact absurd hk kz|(unfold av bo aJ aK aL aC; rw[hk]; rfl)
 ·first|exact absurd hk h2|exact absurd hk h3|exact absurd hk h5|exact absurd hk h6|exact absurd hk kz|(unfold av bo aJ aK aL aC; rw[hk]; rfl)
 ·first|exact absurd hk h2|exact absurd hk h3|exact absurd hk h5|exact absurd hk h6|exact absurd hk kz|(unfold av bo aJ aK aL aC; rw[hk]; rfl)
 ·first|exact absurd hk h2|exact absurd hk h3|exact absurd hk h5|exact absurd hk h6|exact absurd hk kz|(unfold av bo aJ aK aL aC; rw[hk]; rfl)
 ·first|exact absurd hk h2|exact absurd hk h3|exact absurd hk h5|exact absurd hk h6|exact absurd hk kz|(unfold av bo aJ aK aL aC; rw[hk]; rfl)
 ·first|exact absurd hk h2|exact absurd hk h3|exact absurd hk h5|exact absurd hk h6|exact absurd hk kz|(unfold av bo aJ aK aL aC; rw[hk]; rfl)
 ·first|exact absurd hk h2|exact absurd hk h3|exact absurd hk h5|exact absurd hk h6|exact absurd hk kz|(unfold av bo aJ aK aL aC; rw[hk]; rfl)
 ·first|exact absurd hk h2|exact absurd hk h3|exact absurd hk h5|exact absurd hk h6|exact absurd hk kz|(unfold av bo aJ aK aL aC; rw[hk]; rfl)
 ·first|exact absurd hk h2|exact absurd hk h3|exact absurd hk h5|exact absurd hk h6|exact absurd hk kz|(unfold av bo aJ aK aL aC; rw[hk]; rfl)
 ·first|exact absurd hk h2|exact absurd hk h3|exact absurd hk h5|exact absurd hk h6|exact absurd hk kz|(unfold av bo aJ aK aL aC; rw[hk]; rfl)
 ·first|exact absurd hk h2|exact absurd hk h3|exact absurd hk h5|exact absurd hk h6|exact absurd hk kz|(unfold av bo aJ aK aL aC; rw[hk]; rfl)
 ·first|exact absurd hk h2|exact absurd hk h3|exact absurd hk h5|exact absurd hk h6|exact absurd hk kz|(unfold av bo aJ aK aL aC; rw[hk]; rfl)
 ·first|exact absurd hk h2|exact absurd hk h3|exact absurd hk h5|exact absurd hk h6|exact absurd hk kz|(unfold av bo aJ aK aL aC; rw[hk]; rfl)
 ·first|exact absurd hk h2|exact absurd hk h3|exact absurd hk h5|exact absurd hk h6|exact absurd hk kz|(unfold av bo aJ aK aL aC; rw[hk]; rfl)
 ·first|exact absurd hk h2|exact absurd hk h3|exact absurd hk h5|exact absurd hk h6|exact absurd hk kz|(unfold av bo aJ aK aL aC; rw[hk]; rfl)
 ·first|exact absurd hk h2|exact absurd hk h3|exact absurd hk h5|exact absurd hk h6|exact absurd hk kz|(unfold av bo aJ aK aL aC; rw[hk]; rfl)
 ·first|exact absurd hk h2|exact absurd hk h3|exact absurd hk h5|exact absurd hk h6|exact absurd hk kz|(unfold av bo aJ aK aL aC; rw[hk]; rfl)
 ·first|exact absurd hk h2|exact absurd hk h3|exact absurd hk h5|exact absurd hk h6|exact absurd hk kz|(unfold av bo aJ aK aL aC; rw[hk]; rfl)
 ·first|exact absurd hk h2|exact absurd hk h3|exact absurd hk h5|exact absurd hk h6|exact absurd hk kz|(unfold av bo aJ aK aL aC; rw[hk]; rfl)
 ·first|exact absurd hk h2|exact absurd hk h3|exact absurd hk h5|exact absurd hk h6|exact absurd hk kz|(unfold av bo aJ aK aL aC; rw[hk]; rfl)
 ·first|exact absurd hk h2|exact absurd hk h3|exact absurd hk h5|exact absurd hk h6|exact absurd hk kz|(unfold av bo aJ aK aL aC; rw[hk]; rfl)
 ·first|exact absurd hk h2|exact absurd hk h3|exact absurd hk h5|exact absurd hk h6|exact absurd hk kz|(unfold av bo aJ aK aL aC; rw[hk]; rfl)
 ·first|exact absurd hk h2|exact absurd hk h3|exact absurd hk h5|exact absurd hk h6|exact absurd hk kz|(unfold av bo aJ aK aL aC; rw[hk]; rfl)
 ·first|exact absurd hk h2|exact absurd hk h3|exact absurd hk h5|exact absurd hk h6|exact absurd hk kz|(unfold av bo aJ aK aL aC; rw[hk]; rfl)
 ·have e:av o=if o.n<=255 then [iM 9 o.f0 o.n] else [{ iZ with form:=65,rn:=o.f0,az:=Rm.ot o.n }]:=by unfold av bo aJ aK aL aC; rw[hk]; simp
  rw[e]
  split<;>rfl
 ·unfold av bo aJ aK aL aC; rw[hk]; rfl
set_option maxHeartbeats 4000000 in
theorem UC (o:VO) (h:aM o):(av o).all (fun i=>stB i.form && decide (i.ar=0))=true:=by
 have hnum:∀ t n,(jk t n).all (fun i=>stB i.form && decide (i.ar=0))=true:=fun t n=>by
  unfold jk
  repeat' split
  all_goals rfl
 rcases kinds h.1 with hk|hk|hk|hk|hk|hk|hk|hk|hk|hk|hk|hk|hk|hk|hk|hk|hk|hk|hk|hk|hk|hk|hk|hk|hk|hk|hk|hk|hk|hk|hk
 ·have e:av o=jk o.t0 o.n:=by unfold av bo aJ aK aL aC; rw[hk]; simp
  rw[e]; exact hnum _ _
 ·unfold av bo aJ aK aL aC; rw[hk]; rfl
 ·unfold av bo aJ aK aL aC; rw[hk]; rfl
 ·unfold av bo aJ aK aL aC; rw[hk]; rfl
 ·unfold av bo aJ aK aL aC; rw[hk]; rfl
 ·unfold av bo aJ aK aL aC; rw[hk]; rfl
 ·unfold av bo aJ aK aL aC; rw[hk]; rfl
 ·unfold av bo aJ aK aL aC; rw[hk]; rfl
 ·unfold av bo aJ aK aL aC; rw[hk]; rfl
 ·unfold av bo aJ aK aL aC; rw[hk]; rfl
 ·unfold av bo aJ aK aL aC; rw[hk]; rfl
 ·unfold av bo aJ aK aL aC; rw[hk]; rfl
 ·unfold av bo aJ aK aL aC; rw[hk]; rfl
 ·unfold av bo aJ aK aL aC; rw[hk]; rfl
 ·unfold av bo aJ aK aL aC; rw[hk]; rfl
 ·unfold av bo aJ aK aL aC; rw[hk]; rfl
 ·unfold av bo aJ aK aL aC; rw[hk]; rfl
 ·unfold av bo aJ aK aL aC; rw[hk]; rfl
 ·unfold av bo aJ aK aL aC; rw[hk]; rfl
 ·unfold av bo aJ aK aL aC; rw[hk]; rfl
 ·unfold av bo aJ aK aL aC; rw[hk]; rfl
 ·unfold av bo aJ aK aL aC; rw[hk]; rfl
 ·unfold av bo aJ aK aL aC; rw[hk]; rfl
 ·unfold av bo aJ aK aL aC; rw[hk]; rfl
 ·unfold av bo aJ aK aL aC; rw[hk]; rfl
 ·unfold av bo aJ aK aL aC; rw[hk]; rfl
 ·unfold av bo aJ aK aL aC; rw[hk]; rfl
 ·unfold av bo aJ aK aL aC; rw[hk]; rfl
 ·unfold av bo aJ aK aL aC; rw[hk]; rfl
 ·have e:av o=if o.n<=255 then [iM 9 o.f0 o.n] else [{ iZ with form:=65,rn:=o.f0,az:=Rm.ot o.n }]:=by unfold av bo aJ aK aL aC; rw[hk]; simp
  rw[e]
  split<;>rfl
 ·unfold av bo aJ aK aL aC; rw[hk]; rfl
theorem IF (o:VO) (h:aM o/\dM o) (hn:0<=o.n/\o.n<=4294967295):∀ i∈av o,au i/\yw i:=fun i hi=>by
 have h1:=(BD o h hn).1 i hi
 have h2:=List.all_eq_true.1 (UC o h.1) i hi
 rw[Bool.and_eq_true] at h2
 exact⟨h1.1,D1 h1.1 (of_decide_eq_true h2.2)⟩
end Go.Proofs.YtlgkljpgagfndaaGreatDoor.Pw

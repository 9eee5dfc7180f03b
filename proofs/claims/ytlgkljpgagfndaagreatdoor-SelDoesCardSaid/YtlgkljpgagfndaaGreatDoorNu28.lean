/- What this claim is proved with: no condition. -/
import Derived.Test.YtlgkljpgagfndaaGreatDoorNu25
import Derived.Test.YtlgkljpgagfndaaGreatDoorNu27
import Derived.Test.YtlgkljpgagfndaaGreatDoorNu24
set_option linter.unusedVariables false
set_option linter.unusedSimpArgs false
namespace Go.Proofs.YtlgkljpgagfndaaGreatDoor.Pw
open Go Go.RowKit
def au (f:Int):Prop:=f=46\/f=47\/f=99\/f=100\/f=31
def J2 (n:Int):Prop:=0<=Rm.ofM n\/0<=Rm.ofM (4294967295 - n)
noncomputable def bR (o:VO):Int:=open Classical in if o.kind=1 then (if 65536<=o.n/\¬ J2 o.n then 2 else 1) else if o.kind=21 then 3 else if o.kind=22\/o.kind=25 then 4 else if o.kind=23\/o.kind=24\/o.kind=27 then 2 else 1
theorem nw (x:Int) (hx:0<=x/\x<=4294967295) (h:Rm.k_ x=0):Rm.dF (Rm.nz x)=0/\0<=Rm.nz x/\Rm.nz x<=4095:=by
 unfold Rm.k_ at h
 unfold Rm.nz
 cases hd:Rm.dec x.toNat with
 | none=>rw[hd] at h; simp at h
 | some n =>
  obtain⟨h1,h2⟩:=Rm.G7 x.toNat n (by omega) hd
  simp only[Option.getD_some]
  refine⟨?_,by omega,by omega⟩
  unfold Rm.dF
  rw[if_neg (by omega),Int.toNat_natCast,h1]; rfl
open Classical in
theorem ia_1 (o:VO) (hk:o.kind=1) (hv:aO o) (hp:(ae o.t0 o.f0/\ae o.t0 o.f1/\ae o.t0 o.f2/\ae o.t0 o.f3)/\(ae o.t1 o.f0/\ae o.t1 o.f1/\ae o.t1 o.f2/\ae o.t1 o.f3)) (hn:0<=o.n/\o.n<=4294967295):(∀ i∈ar o,aw i/\¬ au i.form)/\((ar o).length:Int)=bR o:=by
 obtain⟨_,⟨p0,p1⟩,⟨q0,q1,q2,q3⟩,hd,a_⟩:=hv
 have b0:=hp.1.1.1
 have b1:=hp.2.1.1
 have c0:=hp.1.1.2.1
 have c1:=hp.1.2.1.2.1
 have c2:=hp.1.2.2.1.2.1
 have c3:=hp.1.2.2.2.2.1
 clear hp
 rw[hk] at p0 p1 q0 q1 q2 q3 hd a_
 rw[show cv 1=1 by decide] at p0 p1 hd
 rw[show aI 1=0 by decide] at q0 q1 q2 q3
 unfold dd at p0 p1 q0 q1 q2 q3
 unfold cC at a_
 have eL:ar o=jN o.t0 o.n:=by unfold ar bp aK aL aM aA; rw[hk]; simp
 have eN:bR o=if 65536<=o.n/\¬ J2 o.n then 2 else 1:=by unfold bR; rw[hk]; rfl
 rw[eL,eN]
 have i1:=qS o.n
 have j1:=qS (4294967295 - o.n)
 unfold jN J2
 by_cases h1:o.n<=255
 ·rw[if_pos h1,if_neg (by omega)]
  refine⟨fun i hi=>?_,rfl⟩
  simp only[List.mem_cons,List.not_mem_nil,or_false] at hi
  subst hi
  exact⟨ri_8 _ _ (by omega) (by omega),(show ¬ au 8 by unfold au; decide)⟩
 rw[if_neg h1]
 by_cases h2:Rm.k_ o.n=0
 ·have w:=nw o.n hn h2
  rw[if_pos h2,if_neg (fun e=>e.2 (.inl (i1.1.2 h2)))]
  refine⟨fun i hi=>?_,rfl⟩
  simp only[List.mem_cons,List.not_mem_nil,or_false] at hi
  subst hi
  exact⟨ri_60 _ _ (by omega) w.2 w.1,(show ¬ au 60 by unfold au; decide)⟩
 rw[if_neg h2]
 by_cases h3:Rm.k_ (4294967295 - o.n)=0
 ·have w:=nw (4294967295 - o.n) (by omega) h3
  rw[if_pos h3,if_neg (fun e=>e.2 (.inr (j1.1.2 h3)))]
  refine⟨fun i hi=>?_,rfl⟩
  simp only[List.mem_cons,List.not_mem_nil,or_false] at hi
  subst hi
  exact⟨ri_61 _ _ (by omega) w.2 w.1,(show ¬ au 61 by unfold au; decide)⟩
 rw[if_neg h3]
 by_cases h4:o.n / 65536≠0
 ·rw[if_pos h4,if_pos ⟨by omega,fun e=>e.elim (fun e=>h2 (i1.1.1 e)) (fun e=>h3 (j1.1.1 e))⟩]
  refine⟨fun i hi=>?_,rfl⟩
  simp only[List.mem_cons,List.not_mem_nil,or_false] at hi
  rcases hi with rfl|rfl
  ·exact⟨Po _ _ (by omega) (by omega),(show ¬ au 48 by unfold au; decide)⟩
  ·exact⟨ri_49 _ _ (by omega) (by omega),(show ¬ au 49 by unfold au; decide)⟩
 ·rw[if_neg h4,if_neg (by omega)]
  refine⟨fun i hi=>?_,rfl⟩
  simp only[List.mem_cons,List.not_mem_nil,or_false] at hi
  subst hi
  exact⟨Po _ _ (by omega) (by omega),(show ¬ au 48 by unfold au; decide)⟩
theorem ia_2 (o:VO) (hk:o.kind=2) (hv:aO o) (hp:(ae o.t0 o.f0/\ae o.t0 o.f1/\ae o.t0 o.f2/\ae o.t0 o.f3)/\(ae o.t1 o.f0/\ae o.t1 o.f1/\ae o.t1 o.f2/\ae o.t1 o.f3)) (hn:0<=o.n/\o.n<=4294967295):(∀ i∈ar o,aw i/\¬ au i.form)/\((ar o).length:Int)=bR o:=by
 obtain⟨_,⟨p0,p1⟩,⟨q0,q1,q2,q3⟩,hd,a_⟩:=hv
 have b0:=hp.1.1.1
 have b1:=hp.2.1.1
 have c0:=hp.1.1.2.1
 have c1:=hp.1.2.1.2.1
 have c2:=hp.1.2.2.1.2.1
 have c3:=hp.1.2.2.2.2.1
 clear hp
 rw[hk] at p0 p1 q0 q1 q2 q3 hd a_
 rw[show cv 2=1 by decide] at p0 p1 hd
 rw[show aI 2=0 by decide] at q0 q1 q2 q3
 unfold dd at p0 p1 q0 q1 q2 q3
 unfold cC at a_
 have eL:ar o = [iM 38 o.t0 o.n]:=by unfold ar bp aK aL aM aA; rw[hk]; rfl
 have eN:bR o=1:=by unfold bR; rw[hk]; rfl
 rw[eL,eN]
 refine⟨fun i hi=>?_,rfl⟩
 simp only[List.mem_cons,List.not_mem_nil,or_false] at hi
 subst hi
 exact⟨ri_38 _ _ (by omega) (by omega),(show ¬ au 38 by unfold au; decide)⟩
theorem ia_3 (o:VO) (hk:o.kind=3) (hv:aO o) (hp:(ae o.t0 o.f0/\ae o.t0 o.f1/\ae o.t0 o.f2/\ae o.t0 o.f3)/\(ae o.t1 o.f0/\ae o.t1 o.f1/\ae o.t1 o.f2/\ae o.t1 o.f3)) (hn:0<=o.n/\o.n<=4294967295):(∀ i∈ar o,aw i/\¬ au i.form)/\((ar o).length:Int)=bR o:=by
 obtain⟨_,⟨p0,p1⟩,⟨q0,q1,q2,q3⟩,hd,a_⟩:=hv
 have b0:=hp.1.1.1
 have b1:=hp.2.1.1
 have c0:=hp.1.1.2.1
 have c1:=hp.1.2.1.2.1
 have c2:=hp.1.2.2.1.2.1
 have c3:=hp.1.2.2.2.2.1
 clear hp
 rw[hk] at p0 p1 q0 q1 q2 q3 hd a_
 rw[show cv 3=0 by decide] at p0 p1 hd
 rw[show aI 3=1 by decide] at q0 q1 q2 q3
 unfold dd at p0 p1 q0 q1 q2 q3
 unfold cC at a_
 have eL:ar o = [iM 37 o.f0 o.n]:=by unfold ar bp aK aL aM aA; rw[hk]; rfl
 have eN:bR o=1:=by unfold bR; rw[hk]; rfl
 rw[eL,eN]
 refine⟨fun i hi=>?_,rfl⟩
 simp only[List.mem_cons,List.not_mem_nil,or_false] at hi
 subst hi
 exact⟨ri_37 _ _ (by omega) (by omega),(show ¬ au 37 by unfold au; decide)⟩
theorem ia_4 (o:VO) (hk:o.kind=4) (hv:aO o) (hp:(ae o.t0 o.f0/\ae o.t0 o.f1/\ae o.t0 o.f2/\ae o.t0 o.f3)/\(ae o.t1 o.f0/\ae o.t1 o.f1/\ae o.t1 o.f2/\ae o.t1 o.f3)) (hn:0<=o.n/\o.n<=4294967295):(∀ i∈ar o,aw i/\¬ au i.form)/\((ar o).length:Int)=bR o:=by
 obtain⟨_,⟨p0,p1⟩,⟨q0,q1,q2,q3⟩,hd,a_⟩:=hv
 have b0:=hp.1.1.1
 have b1:=hp.2.1.1
 have c0:=hp.1.1.2.1
 have c1:=hp.1.2.1.2.1
 have c2:=hp.1.2.2.1.2.1
 have c3:=hp.1.2.2.2.2.1
 clear hp
 rw[hk] at p0 p1 q0 q1 q2 q3 hd a_
 rw[show cv 4=1 by decide] at p0 p1 hd
 rw[show aI 4=0 by decide] at q0 q1 q2 q3
 unfold dd at p0 p1 q0 q1 q2 q3
 unfold cC at a_
 have eL:ar o = [iM 39 o.t0 o.n]:=by unfold ar bp aK aL aM aA; rw[hk]; rfl
 have eN:bR o=1:=by unfold bR; rw[hk]; rfl
 rw[eL,eN]
 refine⟨fun i hi=>?_,rfl⟩
 simp only[List.mem_cons,List.not_mem_nil,or_false] at hi
 subst hi
 exact⟨ri_39 _ _ (by omega) (by omega),(show ¬ au 39 by unfold au; decide)⟩
theorem ia_5 (o:VO) (hk:o.kind=5) (hv:aO o) (hp:(ae o.t0 o.f0/\ae o.t0 o.f1/\ae o.t0 o.f2/\ae o.t0 o.f3)/\(ae o.t1 o.f0/\ae o.t1 o.f1/\ae o.t1 o.f2/\ae o.t1 o.f3)) (hn:0<=o.n/\o.n<=4294967295):(∀ i∈ar o,aw i/\¬ au i.form)/\((ar o).length:Int)=bR o:=by
 obtain⟨_,⟨p0,p1⟩,⟨q0,q1,q2,q3⟩,hd,a_⟩:=hv
 have b0:=hp.1.1.1
 have b1:=hp.2.1.1
 have c0:=hp.1.1.2.1
 have c1:=hp.1.2.1.2.1
 have c2:=hp.1.2.2.1.2.1
 have c3:=hp.1.2.2.2.2.1
 clear hp
 rw[hk] at p0 p1 q0 q1 q2 q3 hd a_
 rw[show cv 5=1 by decide] at p0 p1 hd
 rw[show aI 5=2 by decide] at q0 q1 q2 q3
 unfold dd at p0 p1 q0 q1 q2 q3
 unfold cC at a_
 have eL:ar o = [{ iF 87 o.t0 o.f0 o.f1 with bF:=2 }]:=by unfold ar bp aK aL aM aA; rw[hk]; rfl
 have eN:bR o=1:=by unfold bR; rw[hk]; rfl
 rw[eL,eN]
 refine⟨fun i hi=>?_,rfl⟩
 simp only[List.mem_cons,List.not_mem_nil,or_false] at hi
 subst hi
 exact⟨ri_87 o.t0 o.f0 o.f1 (by omega) (by omega) (by omega),(show ¬ au 87 by unfold au; decide)⟩
theorem ia_6 (o:VO) (hk:o.kind=6) (hv:aO o) (hp:(ae o.t0 o.f0/\ae o.t0 o.f1/\ae o.t0 o.f2/\ae o.t0 o.f3)/\(ae o.t1 o.f0/\ae o.t1 o.f1/\ae o.t1 o.f2/\ae o.t1 o.f3)) (hn:0<=o.n/\o.n<=4294967295):(∀ i∈ar o,aw i/\¬ au i.form)/\((ar o).length:Int)=bR o:=by
 obtain⟨_,⟨p0,p1⟩,⟨q0,q1,q2,q3⟩,hd,a_⟩:=hv
 have b0:=hp.1.1.1
 have b1:=hp.2.1.1
 have c0:=hp.1.1.2.1
 have c1:=hp.1.2.1.2.1
 have c2:=hp.1.2.2.1.2.1
 have c3:=hp.1.2.2.2.2.1
 clear hp
 rw[hk] at p0 p1 q0 q1 q2 q3 hd a_
 rw[show cv 6=0 by decide] at p0 p1 hd
 rw[show aI 6=3 by decide] at q0 q1 q2 q3
 unfold dd at p0 p1 q0 q1 q2 q3
 unfold cC at a_
 have eL:ar o = [{ iF 86 o.f2 o.f0 o.f1 with bF:=2 }]:=by unfold ar bp aK aL aM aA; rw[hk]; rfl
 have eN:bR o=1:=by unfold bR; rw[hk]; rfl
 rw[eL,eN]
 refine⟨fun i hi=>?_,rfl⟩
 simp only[List.mem_cons,List.not_mem_nil,or_false] at hi
 subst hi
 exact⟨ri_86 o.f2 o.f0 o.f1 (by omega) (by omega) (by omega),(show ¬ au 86 by unfold au; decide)⟩
theorem ia_7 (o:VO) (hk:o.kind=7) (hv:aO o) (hp:(ae o.t0 o.f0/\ae o.t0 o.f1/\ae o.t0 o.f2/\ae o.t0 o.f3)/\(ae o.t1 o.f0/\ae o.t1 o.f1/\ae o.t1 o.f2/\ae o.t1 o.f3)) (hn:0<=o.n/\o.n<=4294967295):(∀ i∈ar o,aw i/\¬ au i.form)/\((ar o).length:Int)=bR o:=by
 obtain⟨_,⟨p0,p1⟩,⟨q0,q1,q2,q3⟩,hd,a_⟩:=hv
 have b0:=hp.1.1.1
 have b1:=hp.2.1.1
 have c0:=hp.1.1.2.1
 have c1:=hp.1.2.1.2.1
 have c2:=hp.1.2.2.1.2.1
 have c3:=hp.1.2.2.2.2.1
 clear hp
 rw[hk] at p0 p1 q0 q1 q2 q3 hd a_
 rw[show cv 7=1 by decide] at p0 p1 hd
 rw[show aI 7=2 by decide] at q0 q1 q2 q3
 unfold dd at p0 p1 q0 q1 q2 q3
 unfold cC at a_
 have eL:ar o = [iF 66 o.t0 o.f0 o.f1]:=by unfold ar bp aK aL aM aA; rw[hk]; rfl
 have eN:bR o=1:=by unfold bR; rw[hk]; rfl
 rw[eL,eN]
 refine⟨fun i hi=>?_,rfl⟩
 simp only[List.mem_cons,List.not_mem_nil,or_false] at hi
 subst hi
 exact⟨ri_66 _ _ _ (by omega) (by omega) (by omega),(show ¬ au 66 by unfold au; decide)⟩
theorem ia_8 (o:VO) (hk:o.kind=8) (hv:aO o) (hp:(ae o.t0 o.f0/\ae o.t0 o.f1/\ae o.t0 o.f2/\ae o.t0 o.f3)/\(ae o.t1 o.f0/\ae o.t1 o.f1/\ae o.t1 o.f2/\ae o.t1 o.f3)) (hn:0<=o.n/\o.n<=4294967295):(∀ i∈ar o,aw i/\¬ au i.form)/\((ar o).length:Int)=bR o:=by
 obtain⟨_,⟨p0,p1⟩,⟨q0,q1,q2,q3⟩,hd,a_⟩:=hv
 have b0:=hp.1.1.1
 have b1:=hp.2.1.1
 have c0:=hp.1.1.2.1
 have c1:=hp.1.2.1.2.1
 have c2:=hp.1.2.2.1.2.1
 have c3:=hp.1.2.2.2.2.1
 clear hp
 rw[hk] at p0 p1 q0 q1 q2 q3 hd a_
 rw[show cv 8=1 by decide] at p0 p1 hd
 rw[show aI 8=2 by decide] at q0 q1 q2 q3
 unfold dd at p0 p1 q0 q1 q2 q3
 unfold cC at a_
 have eL:ar o = [iF 68 o.t0 o.f0 o.f1]:=by unfold ar bp aK aL aM aA; rw[hk]; rfl
 have eN:bR o=1:=by unfold bR; rw[hk]; rfl
 rw[eL,eN]
 refine⟨fun i hi=>?_,rfl⟩
 simp only[List.mem_cons,List.not_mem_nil,or_false] at hi
 subst hi
 exact⟨ri_68 _ _ _ (by omega) (by omega) (by omega),(show ¬ au 68 by unfold au; decide)⟩
theorem ia_9 (o:VO) (hk:o.kind=9) (hv:aO o) (hp:(ae o.t0 o.f0/\ae o.t0 o.f1/\ae o.t0 o.f2/\ae o.t0 o.f3)/\(ae o.t1 o.f0/\ae o.t1 o.f1/\ae o.t1 o.f2/\ae o.t1 o.f3)) (hn:0<=o.n/\o.n<=4294967295):(∀ i∈ar o,aw i/\¬ au i.form)/\((ar o).length:Int)=bR o:=by
 obtain⟨_,⟨p0,p1⟩,⟨q0,q1,q2,q3⟩,hd,a_⟩:=hv
 have b0:=hp.1.1.1
 have b1:=hp.2.1.1
 have c0:=hp.1.1.2.1
 have c1:=hp.1.2.1.2.1
 have c2:=hp.1.2.2.1.2.1
 have c3:=hp.1.2.2.2.2.1
 clear hp
 rw[hk] at p0 p1 q0 q1 q2 q3 hd a_
 rw[show cv 9=1 by decide] at p0 p1 hd
 rw[show aI 9=2 by decide] at q0 q1 q2 q3
 unfold dd at p0 p1 q0 q1 q2 q3
 unfold cC at a_
 have eL:ar o = [iF 70 o.t0 o.f0 o.f1]:=by unfold ar bp aK aL aM aA; rw[hk]; rfl
 have eN:bR o=1:=by unfold bR; rw[hk]; rfl
 rw[eL,eN]
 refine⟨fun i hi=>?_,rfl⟩
 simp only[List.mem_cons,List.not_mem_nil,or_false] at hi
 subst hi
 exact⟨Pn _ _ _ (by omega) (by omega) (by omega),(show ¬ au 70 by unfold au; decide)⟩
theorem ia_10 (o:VO) (hk:o.kind=10) (hv:aO o) (hp:(ae o.t0 o.f0/\ae o.t0 o.f1/\ae o.t0 o.f2/\ae o.t0 o.f3)/\(ae o.t1 o.f0/\ae o.t1 o.f1/\ae o.t1 o.f2/\ae o.t1 o.f3)) (hn:0<=o.n/\o.n<=4294967295):(∀ i∈ar o,aw i/\¬ au i.form)/\((ar o).length:Int)=bR o:=by
 obtain⟨_,⟨p0,p1⟩,⟨q0,q1,q2,q3⟩,hd,a_⟩:=hv
 have b0:=hp.1.1.1
 have b1:=hp.2.1.1
 have c0:=hp.1.1.2.1
 have c1:=hp.1.2.1.2.1
 have c2:=hp.1.2.2.1.2.1
 have c3:=hp.1.2.2.2.2.1
 clear hp
 rw[hk] at p0 p1 q0 q1 q2 q3 hd a_
 rw[show cv 10=1 by decide] at p0 p1 hd
 rw[show aI 10=2 by decide] at q0 q1 q2 q3
 unfold dd at p0 p1 q0 q1 q2 q3
 unfold cC at a_
 have eL:ar o = [iF 4 o.t0 o.f0 o.f1]:=by unfold ar bp aK aL aM aA; rw[hk]; rfl
 have eN:bR o=1:=by unfold bR; rw[hk]; rfl
 rw[eL,eN]
 refine⟨fun i hi=>?_,rfl⟩
 simp only[List.mem_cons,List.not_mem_nil,or_false] at hi
 subst hi
 exact⟨ri_4 _ _ _ (by omega) (by omega) (by omega),(show ¬ au 4 by unfold au; decide)⟩
theorem ia_11 (o:VO) (hk:o.kind=11) (hv:aO o) (hp:(ae o.t0 o.f0/\ae o.t0 o.f1/\ae o.t0 o.f2/\ae o.t0 o.f3)/\(ae o.t1 o.f0/\ae o.t1 o.f1/\ae o.t1 o.f2/\ae o.t1 o.f3)) (hn:0<=o.n/\o.n<=4294967295):(∀ i∈ar o,aw i/\¬ au i.form)/\((ar o).length:Int)=bR o:=by
 obtain⟨_,⟨p0,p1⟩,⟨q0,q1,q2,q3⟩,hd,a_⟩:=hv
 have b0:=hp.1.1.1
 have b1:=hp.2.1.1
 have c0:=hp.1.1.2.1
 have c1:=hp.1.2.1.2.1
 have c2:=hp.1.2.2.1.2.1
 have c3:=hp.1.2.2.2.2.1
 clear hp
 rw[hk] at p0 p1 q0 q1 q2 q3 hd a_
 rw[show cv 11=1 by decide] at p0 p1 hd
 rw[show aI 11=2 by decide] at q0 q1 q2 q3
 unfold dd at p0 p1 q0 q1 q2 q3
 unfold cC at a_
 have eL:ar o = [iF 5 o.t0 o.f0 o.f1]:=by unfold ar bp aK aL aM aA; rw[hk]; rfl
 have eN:bR o=1:=by unfold bR; rw[hk]; rfl
 rw[eL,eN]
 refine⟨fun i hi=>?_,rfl⟩
 simp only[List.mem_cons,List.not_mem_nil,or_false] at hi
 subst hi
 exact⟨Nl _ _ _ (by omega) (by omega) (by omega),(show ¬ au 5 by unfold au; decide)⟩
theorem ia_12 (o:VO) (hk:o.kind=12) (hv:aO o) (hp:(ae o.t0 o.f0/\ae o.t0 o.f1/\ae o.t0 o.f2/\ae o.t0 o.f3)/\(ae o.t1 o.f0/\ae o.t1 o.f1/\ae o.t1 o.f2/\ae o.t1 o.f3)) (hn:0<=o.n/\o.n<=4294967295):(∀ i∈ar o,aw i/\¬ au i.form)/\((ar o).length:Int)=bR o:=by
 obtain⟨_,⟨p0,p1⟩,⟨q0,q1,q2,q3⟩,hd,a_⟩:=hv
 have b0:=hp.1.1.1
 have b1:=hp.2.1.1
 have c0:=hp.1.1.2.1
 have c1:=hp.1.2.1.2.1
 have c2:=hp.1.2.2.1.2.1
 have c3:=hp.1.2.2.2.2.1
 clear hp
 rw[hk] at p0 p1 q0 q1 q2 q3 hd a_
 rw[show cv 12=1 by decide] at p0 p1 hd
 rw[show aI 12=2 by decide] at q0 q1 q2 q3
 unfold dd at p0 p1 q0 q1 q2 q3
 unfold cC at a_
 have eL:ar o = [iF 92 o.t0 o.f0 o.f1]:=by unfold ar bp aK aL aM aA; rw[hk]; rfl
 have eN:bR o=1:=by unfold bR; rw[hk]; rfl
 rw[eL,eN]
 refine⟨fun i hi=>?_,rfl⟩
 simp only[List.mem_cons,List.not_mem_nil,or_false] at hi
 subst hi
 exact⟨ri_92 _ _ _ (by omega) (by omega) (by omega),(show ¬ au 92 by unfold au; decide)⟩
theorem ia_13 (o:VO) (hk:o.kind=13) (hv:aO o) (hp:(ae o.t0 o.f0/\ae o.t0 o.f1/\ae o.t0 o.f2/\ae o.t0 o.f3)/\(ae o.t1 o.f0/\ae o.t1 o.f1/\ae o.t1 o.f2/\ae o.t1 o.f3)) (hn:0<=o.n/\o.n<=4294967295):(∀ i∈ar o,aw i/\¬ au i.form)/\((ar o).length:Int)=bR o:=by
 obtain⟨_,⟨p0,p1⟩,⟨q0,q1,q2,q3⟩,hd,a_⟩:=hv
 have b0:=hp.1.1.1
 have b1:=hp.2.1.1
 have c0:=hp.1.1.2.1
 have c1:=hp.1.2.1.2.1
 have c2:=hp.1.2.2.1.2.1
 have c3:=hp.1.2.2.2.2.1
 clear hp
 rw[hk] at p0 p1 q0 q1 q2 q3 hd a_
 rw[show cv 13=1 by decide] at p0 p1 hd
 rw[show aI 13=2 by decide] at q0 q1 q2 q3
 unfold dd at p0 p1 q0 q1 q2 q3
 unfold cC at a_
 have eL:ar o = [iF 88 o.t0 o.f0 o.f1]:=by unfold ar bp aK aL aM aA; rw[hk]; rfl
 have eN:bR o=1:=by unfold bR; rw[hk]; rfl
 rw[eL,eN]
 refine⟨fun i hi=>?_,rfl⟩
 simp only[List.mem_cons,List.not_mem_nil,or_false] at hi
 subst hi
 exact⟨ri_88 _ _ _ (by omega) (by omega) (by omega),(show ¬ au 88 by unfold au; decide)⟩
theorem ia_14 (o:VO) (hk:o.kind=14) (hv:aO o) (hp:(ae o.t0 o.f0/\ae o.t0 o.f1/\ae o.t0 o.f2/\ae o.t0 o.f3)/\(ae o.t1 o.f0/\ae o.t1 o.f1/\ae o.t1 o.f2/\ae o.t1 o.f3)) (hn:0<=o.n/\o.n<=4294967295):(∀ i∈ar o,aw i/\¬ au i.form)/\((ar o).length:Int)=bR o:=by
 obtain⟨_,⟨p0,p1⟩,⟨q0,q1,q2,q3⟩,hd,a_⟩:=hv
 have b0:=hp.1.1.1
 have b1:=hp.2.1.1
 have c0:=hp.1.1.2.1
 have c1:=hp.1.2.1.2.1
 have c2:=hp.1.2.2.1.2.1
 have c3:=hp.1.2.2.2.2.1
 clear hp
 rw[hk] at p0 p1 q0 q1 q2 q3 hd a_
 rw[show cv 14=1 by decide] at p0 p1 hd
 rw[show aI 14=2 by decide] at q0 q1 q2 q3
 unfold dd at p0 p1 q0 q1 q2 q3
 unfold cC at a_
 have eL:ar o = [iF 89 o.t0 o.f0 o.f1]:=by unfold ar bp aK aL aM aA; rw[hk]; rfl
 have eN:bR o=1:=by unfold bR; rw[hk]; rfl
 rw[eL,eN]
 refine⟨fun i hi=>?_,rfl⟩
 simp only[List.mem_cons,List.not_mem_nil,or_false] at hi
 subst hi
 exact⟨ri_89 _ _ _ (by omega) (by omega) (by omega),(show ¬ au 89 by unfold au; decide)⟩
theorem ia_15 (o:VO) (hk:o.kind=15) (hv:aO o) (hp:(ae o.t0 o.f0/\ae o.t0 o.f1/\ae o.t0 o.f2/\ae o.t0 o.f3)/\(ae o.t1 o.f0/\ae o.t1 o.f1/\ae o.t1 o.f2/\ae o.t1 o.f3)) (hn:0<=o.n/\o.n<=4294967295):(∀ i∈ar o,aw i/\¬ au i.form)/\((ar o).length:Int)=bR o:=by
 obtain⟨_,⟨p0,p1⟩,⟨q0,q1,q2,q3⟩,hd,a_⟩:=hv
 have b0:=hp.1.1.1
 have b1:=hp.2.1.1
 have c0:=hp.1.1.2.1
 have c1:=hp.1.2.1.2.1
 have c2:=hp.1.2.2.1.2.1
 have c3:=hp.1.2.2.2.2.1
 clear hp
 rw[hk] at p0 p1 q0 q1 q2 q3 hd a_
 rw[show cv 15=1 by decide] at p0 p1 hd
 rw[show aI 15=2 by decide] at q0 q1 q2 q3
 unfold dd at p0 p1 q0 q1 q2 q3
 unfold cC at a_
 have eL:ar o = [iF 91 o.t0 o.f0 o.f1]:=by unfold ar bp aK aL aM aA; rw[hk]; rfl
 have eN:bR o=1:=by unfold bR; rw[hk]; rfl
 rw[eL,eN]
 refine⟨fun i hi=>?_,rfl⟩
 simp only[List.mem_cons,List.not_mem_nil,or_false] at hi
 subst hi
 exact⟨ri_91 _ _ _ (by omega) (by omega) (by omega),(show ¬ au 91 by unfold au; decide)⟩
theorem ia_16 (o:VO) (hk:o.kind=16) (hv:aO o) (hp:(ae o.t0 o.f0/\ae o.t0 o.f1/\ae o.t0 o.f2/\ae o.t0 o.f3)/\(ae o.t1 o.f0/\ae o.t1 o.f1/\ae o.t1 o.f2/\ae o.t1 o.f3)) (hn:0<=o.n/\o.n<=4294967295):(∀ i∈ar o,aw i/\¬ au i.form)/\((ar o).length:Int)=bR o:=by
 obtain⟨_,⟨p0,p1⟩,⟨q0,q1,q2,q3⟩,hd,a_⟩:=hv
 have b0:=hp.1.1.1
 have b1:=hp.2.1.1
 have c0:=hp.1.1.2.1
 have c1:=hp.1.2.1.2.1
 have c2:=hp.1.2.2.1.2.1
 have c3:=hp.1.2.2.2.2.1
 clear hp
 rw[hk] at p0 p1 q0 q1 q2 q3 hd a_
 rw[show cv 16=1 by decide] at p0 p1 hd
 rw[show aI 16=1 by decide] at q0 q1 q2 q3
 unfold dd at p0 p1 q0 q1 q2 q3
 unfold cC at a_
 have eL:ar o = [{ iZ with form:=77,rd:=o.t0,rm:=o.f0 }]:=by unfold ar bp aK aL aM aA; rw[hk]; rfl
 have eN:bR o=1:=by unfold bR; rw[hk]; rfl
 rw[eL,eN]
 refine⟨fun i hi=>?_,rfl⟩
 simp only[List.mem_cons,List.not_mem_nil,or_false] at hi
 subst hi
 exact⟨ri_77 _ _ (by omega) (by omega),(show ¬ au 77 by unfold au; decide)⟩
theorem ia_17 (o:VO) (hk:o.kind=17) (hv:aO o) (hp:(ae o.t0 o.f0/\ae o.t0 o.f1/\ae o.t0 o.f2/\ae o.t0 o.f3)/\(ae o.t1 o.f0/\ae o.t1 o.f1/\ae o.t1 o.f2/\ae o.t1 o.f3)) (hn:0<=o.n/\o.n<=4294967295):(∀ i∈ar o,aw i/\¬ au i.form)/\((ar o).length:Int)=bR o:=by
 obtain⟨_,⟨p0,p1⟩,⟨q0,q1,q2,q3⟩,hd,a_⟩:=hv
 have b0:=hp.1.1.1
 have b1:=hp.2.1.1
 have c0:=hp.1.1.2.1
 have c1:=hp.1.2.1.2.1
 have c2:=hp.1.2.2.1.2.1
 have c3:=hp.1.2.2.2.2.1
 clear hp
 rw[hk] at p0 p1 q0 q1 q2 q3 hd a_
 rw[show cv 17=1 by decide] at p0 p1 hd
 rw[show aI 17=1 by decide] at q0 q1 q2 q3
 unfold dd at p0 p1 q0 q1 q2 q3
 unfold cC at a_
 have eL:ar o = [{ iZ with form:=59,rd:=o.t0,rn:=o.f0 }]:=by unfold ar bp aK aL aM aA; rw[hk]; rfl
 have eN:bR o=1:=by unfold bR; rw[hk]; rfl
 have w0:Rm.dF 0=0:=by decide +kernel
 rw[eL,eN]
 refine⟨fun i hi=>?_,rfl⟩
 simp only[List.mem_cons,List.not_mem_nil,or_false] at hi
 subst hi
 exact⟨Pp _ _ _ (by omega) (by omega) (by decide) w0,(show ¬ au 59 by unfold au; decide)⟩
theorem ia_18 (o:VO) (hk:o.kind=18) (hv:aO o) (hp:(ae o.t0 o.f0/\ae o.t0 o.f1/\ae o.t0 o.f2/\ae o.t0 o.f3)/\(ae o.t1 o.f0/\ae o.t1 o.f1/\ae o.t1 o.f2/\ae o.t1 o.f3)) (hn:0<=o.n/\o.n<=4294967295):(∀ i∈ar o,aw i/\¬ au i.form)/\((ar o).length:Int)=bR o:=by
 obtain⟨_,⟨p0,p1⟩,⟨q0,q1,q2,q3⟩,hd,a_⟩:=hv
 have b0:=hp.1.1.1
 have b1:=hp.2.1.1
 have c0:=hp.1.1.2.1
 have c1:=hp.1.2.1.2.1
 have c2:=hp.1.2.2.1.2.1
 have c3:=hp.1.2.2.2.2.1
 clear hp
 rw[hk] at p0 p1 q0 q1 q2 q3 hd a_
 rw[show cv 18=1 by decide] at p0 p1 hd
 rw[show aI 18=1 by decide] at q0 q1 q2 q3
 unfold dd at p0 p1 q0 q1 q2 q3
 unfold cC at a_
 have eL:ar o = [{ iZ with form:=1,rd:=o.t0,rm:=o.f0,ay:=o.n }]:=by unfold ar bp aK aL aM aA; rw[hk]; rfl
 have eN:bR o=1:=by unfold bR; rw[hk]; rfl
 rw[eL,eN]
 refine⟨fun i hi=>?_,rfl⟩
 simp only[List.mem_cons,List.not_mem_nil,or_false] at hi
 subst hi
 exact⟨ri_1 _ _ _ (by omega) (by omega) (by omega),(show ¬ au 1 by unfold au; decide)⟩
theorem ia_19 (o:VO) (hk:o.kind=19) (hv:aO o) (hp:(ae o.t0 o.f0/\ae o.t0 o.f1/\ae o.t0 o.f2/\ae o.t0 o.f3)/\(ae o.t1 o.f0/\ae o.t1 o.f1/\ae o.t1 o.f2/\ae o.t1 o.f3)) (hn:0<=o.n/\o.n<=4294967295):(∀ i∈ar o,aw i/\¬ au i.form)/\((ar o).length:Int)=bR o:=by
 obtain⟨_,⟨p0,p1⟩,⟨q0,q1,q2,q3⟩,hd,a_⟩:=hv
 have b0:=hp.1.1.1
 have b1:=hp.2.1.1
 have c0:=hp.1.1.2.1
 have c1:=hp.1.2.1.2.1
 have c2:=hp.1.2.2.1.2.1
 have c3:=hp.1.2.2.2.2.1
 clear hp
 rw[hk] at p0 p1 q0 q1 q2 q3 hd a_
 rw[show cv 19=1 by decide] at p0 p1 hd
 rw[show aI 19=1 by decide] at q0 q1 q2 q3
 unfold dd at p0 p1 q0 q1 q2 q3
 unfold cC at a_
 have eL:ar o = [{ iZ with form:=2,rd:=o.t0,rm:=o.f0,ay:=o.n }]:=by unfold ar bp aK aL aM aA; rw[hk]; rfl
 have eN:bR o=1:=by unfold bR; rw[hk]; rfl
 rw[eL,eN]
 refine⟨fun i hi=>?_,rfl⟩
 simp only[List.mem_cons,List.not_mem_nil,or_false] at hi
 subst hi
 exact⟨Nm _ _ _ (by omega) (by omega) (by omega),(show ¬ au 2 by unfold au; decide)⟩
theorem ia_20 (o:VO) (hk:o.kind=20) (hv:aO o) (hp:(ae o.t0 o.f0/\ae o.t0 o.f1/\ae o.t0 o.f2/\ae o.t0 o.f3)/\(ae o.t1 o.f0/\ae o.t1 o.f1/\ae o.t1 o.f2/\ae o.t1 o.f3)) (hn:0<=o.n/\o.n<=4294967295):(∀ i∈ar o,aw i/\¬ au i.form)/\((ar o).length:Int)=bR o:=by
 obtain⟨_,⟨p0,p1⟩,⟨q0,q1,q2,q3⟩,hd,a_⟩:=hv
 have b0:=hp.1.1.1
 have b1:=hp.2.1.1
 have c0:=hp.1.1.2.1
 have c1:=hp.1.2.1.2.1
 have c2:=hp.1.2.2.1.2.1
 have c3:=hp.1.2.2.2.2.1
 clear hp
 rw[hk] at p0 p1 q0 q1 q2 q3 hd a_
 rw[show cv 20=1 by decide] at p0 p1 hd
 rw[show aI 20=1 by decide] at q0 q1 q2 q3
 unfold dd at p0 p1 q0 q1 q2 q3
 unfold cC at a_
 have eL:ar o = [{ iZ with form:=76,rd:=o.t0,rm:=o.f0,kind:=3,bF:=o.n }]:=by unfold ar bp aK aL aM aA; rw[hk]; rfl
 have eN:bR o=1:=by unfold bR; rw[hk]; rfl
 rw[eL,eN]
 refine⟨fun i hi=>?_,rfl⟩
 simp only[List.mem_cons,List.not_mem_nil,or_false] at hi
 subst hi
 exact⟨ri_76 _ _ _ (by omega) (by omega) (by omega),(show ¬ au 76 by unfold au; decide)⟩
theorem ia_21 (o:VO) (hk:o.kind=21) (hv:aO o) (hp:(ae o.t0 o.f0/\ae o.t0 o.f1/\ae o.t0 o.f2/\ae o.t0 o.f3)/\(ae o.t1 o.f0/\ae o.t1 o.f1/\ae o.t1 o.f2/\ae o.t1 o.f3)) (hn:0<=o.n/\o.n<=4294967295):(∀ i∈ar o,aw i/\¬ au i.form)/\((ar o).length:Int)=bR o:=by
 obtain⟨_,⟨p0,p1⟩,⟨q0,q1,q2,q3⟩,hd,a_⟩:=hv
 have b0:=hp.1.1.1
 have b1:=hp.2.1.1
 have c0:=hp.1.1.2.1
 have c1:=hp.1.2.1.2.1
 have c2:=hp.1.2.2.1.2.1
 have c3:=hp.1.2.2.2.2.1
 clear hp
 rw[hk] at p0 p1 q0 q1 q2 q3 hd a_
 rw[show cv 21=1 by decide] at p0 p1 hd
 rw[show aI 21=2 by decide] at q0 q1 q2 q3
 unfold dd at p0 p1 q0 q1 q2 q3
 unfold cC at a_
 have eL:ar o = [iF 5 o.t0 o.f0 o.f1,eH o.t0,gj o.t0]:=by unfold ar bp aK aL aM aA; rw[hk]; rfl
 have eN:bR o=3:=by unfold bR; rw[hk]; rfl
 rw[eL,eN]
 refine⟨fun i hi=>?_,rfl⟩
 simp only[List.mem_cons,List.not_mem_nil,or_false] at hi
 rcases hi with rfl|rfl|rfl
 ·exact⟨Nl _ _ _ (by omega) (by omega) (by omega),(show ¬ au 5 by unfold au; decide)⟩
 ·exact⟨Cy _ _ _ (by omega) (by omega) (by omega),(show ¬ au 73 by unfold au; decide)⟩
 ·exact⟨Nm _ _ _ (by omega) (by omega) (by omega),(show ¬ au 2 by unfold au; decide)⟩
theorem ia_22 (o:VO) (hk:o.kind=22) (hv:aO o) (hp:(ae o.t0 o.f0/\ae o.t0 o.f1/\ae o.t0 o.f2/\ae o.t0 o.f3)/\(ae o.t1 o.f0/\ae o.t1 o.f1/\ae o.t1 o.f2/\ae o.t1 o.f3)) (hn:0<=o.n/\o.n<=4294967295):(∀ i∈ar o,aw i/\¬ au i.form)/\((ar o).length:Int)=bR o:=by
 obtain⟨_,⟨p0,p1⟩,⟨q0,q1,q2,q3⟩,hd,a_⟩:=hv
 have b0:=hp.1.1.1
 have b1:=hp.2.1.1
 have c0:=hp.1.1.2.1
 have c1:=hp.1.2.1.2.1
 have c2:=hp.1.2.2.1.2.1
 have c3:=hp.1.2.2.2.2.1
 clear hp
 rw[hk] at p0 p1 q0 q1 q2 q3 hd a_
 rw[show cv 22=1 by decide] at p0 p1 hd
 rw[show aI 22=2 by decide] at q0 q1 q2 q3
 unfold dd at p0 p1 q0 q1 q2 q3
 unfold cC at a_
 have eL:ar o = [iF 70 o.t0 o.f0 o.f1,iM 11 o.t0 1,eH o.t0,gj o.t0]:=by unfold ar bp aK aL aM aA; rw[hk]; rfl
 have eN:bR o=4:=by unfold bR; rw[hk]; rfl
 rw[eL,eN]
 refine⟨fun i hi=>?_,rfl⟩
 simp only[List.mem_cons,List.not_mem_nil,or_false] at hi
 rcases hi with rfl|rfl|rfl|rfl
 ·exact⟨Pn _ _ _ (by omega) (by omega) (by omega),(show ¬ au 70 by unfold au; decide)⟩
 ·exact⟨ri_11 _ _ (by omega) (by omega),(show ¬ au 11 by unfold au; decide)⟩
 ·exact⟨Cy _ _ _ (by omega) (by omega) (by omega),(show ¬ au 73 by unfold au; decide)⟩
 ·exact⟨Nm _ _ _ (by omega) (by omega) (by omega),(show ¬ au 2 by unfold au; decide)⟩
theorem ia_23 (o:VO) (hk:o.kind=23) (hv:aO o) (hp:(ae o.t0 o.f0/\ae o.t0 o.f1/\ae o.t0 o.f2/\ae o.t0 o.f3)/\(ae o.t1 o.f0/\ae o.t1 o.f1/\ae o.t1 o.f2/\ae o.t1 o.f3)) (hn:0<=o.n/\o.n<=4294967295):(∀ i∈ar o,aw i/\¬ au i.form)/\((ar o).length:Int)=bR o:=by
 obtain⟨_,⟨p0,p1⟩,⟨q0,q1,q2,q3⟩,hd,a_⟩:=hv
 have b0:=hp.1.1.1
 have b1:=hp.2.1.1
 have c0:=hp.1.1.2.1
 have c1:=hp.1.2.1.2.1
 have c2:=hp.1.2.2.1.2.1
 have c3:=hp.1.2.2.2.2.1
 clear hp
 rw[hk] at p0 p1 q0 q1 q2 q3 hd a_
 rw[show cv 23=2 by decide] at p0 p1 hd
 rw[show aI 23=4 by decide] at q0 q1 q2 q3
 unfold dd at p0 p1 q0 q1 q2 q3
 unfold cC at a_
 have eL:ar o = [iF 4 o.t0 o.f0 o.f2,iF 72 o.t1 o.f1 o.f3]:=by unfold ar bp aK aL aM aA; rw[hk]; rfl
 have eN:bR o=2:=by unfold bR; rw[hk]; rfl
 rw[eL,eN]
 refine⟨fun i hi=>?_,rfl⟩
 simp only[List.mem_cons,List.not_mem_nil,or_false] at hi
 rcases hi with rfl|rfl
 ·exact⟨ri_4 _ _ _ (by omega) (by omega) (by omega),(show ¬ au 4 by unfold au; decide)⟩
 ·exact⟨ri_72 _ _ _ (by omega) (by omega) (by omega),(show ¬ au 72 by unfold au; decide)⟩
theorem ia_24 (o:VO) (hk:o.kind=24) (hv:aO o) (hp:(ae o.t0 o.f0/\ae o.t0 o.f1/\ae o.t0 o.f2/\ae o.t0 o.f3)/\(ae o.t1 o.f0/\ae o.t1 o.f1/\ae o.t1 o.f2/\ae o.t1 o.f3)) (hn:0<=o.n/\o.n<=4294967295):(∀ i∈ar o,aw i/\¬ au i.form)/\((ar o).length:Int)=bR o:=by
 obtain⟨_,⟨p0,p1⟩,⟨q0,q1,q2,q3⟩,hd,a_⟩:=hv
 have b0:=hp.1.1.1
 have b1:=hp.2.1.1
 have c0:=hp.1.1.2.1
 have c1:=hp.1.2.1.2.1
 have c2:=hp.1.2.2.1.2.1
 have c3:=hp.1.2.2.2.2.1
 clear hp
 rw[hk] at p0 p1 q0 q1 q2 q3 hd a_
 rw[show cv 24=2 by decide] at p0 p1 hd
 rw[show aI 24=4 by decide] at q0 q1 q2 q3
 unfold dd at p0 p1 q0 q1 q2 q3
 unfold cC at a_
 have eL:ar o = [iF 5 o.t0 o.f0 o.f2,iF 73 o.t1 o.f1 o.f3]:=by unfold ar bp aK aL aM aA; rw[hk]; rfl
 have eN:bR o=2:=by unfold bR; rw[hk]; rfl
 rw[eL,eN]
 refine⟨fun i hi=>?_,rfl⟩
 simp only[List.mem_cons,List.not_mem_nil,or_false] at hi
 rcases hi with rfl|rfl
 ·exact⟨Nl _ _ _ (by omega) (by omega) (by omega),(show ¬ au 5 by unfold au; decide)⟩
 ·exact⟨Cy _ _ _ (by omega) (by omega) (by omega),(show ¬ au 73 by unfold au; decide)⟩
theorem ia_25 (o:VO) (hk:o.kind=25) (hv:aO o) (hp:(ae o.t0 o.f0/\ae o.t0 o.f1/\ae o.t0 o.f2/\ae o.t0 o.f3)/\(ae o.t1 o.f0/\ae o.t1 o.f1/\ae o.t1 o.f2/\ae o.t1 o.f3)) (hn:0<=o.n/\o.n<=4294967295):(∀ i∈ar o,aw i/\¬ au i.form)/\((ar o).length:Int)=bR o:=by
 obtain⟨_,⟨p0,p1⟩,⟨q0,q1,q2,q3⟩,hd,a_⟩:=hv
 have b0:=hp.1.1.1
 have b1:=hp.2.1.1
 have c0:=hp.1.1.2.1
 have c1:=hp.1.2.1.2.1
 have c2:=hp.1.2.2.1.2.1
 have c3:=hp.1.2.2.2.2.1
 clear hp
 rw[hk] at p0 p1 q0 q1 q2 q3 hd a_
 rw[show cv 25=1 by decide] at p0 p1 hd
 rw[show aI 25=4 by decide] at q0 q1 q2 q3
 unfold dd at p0 p1 q0 q1 q2 q3
 unfold cC at a_
 have eL:ar o = [iF 5 o.t0 o.f0 o.f2,{ iF 73 o.t0 o.f1 o.f3 with set:=1 },eH o.t0,gj o.t0]:=by unfold ar bp aK aL aM aA; rw[hk]; rfl
 have eN:bR o=4:=by unfold bR; rw[hk]; rfl
 rw[eL,eN]
 refine⟨fun i hi=>?_,rfl⟩
 simp only[List.mem_cons,List.not_mem_nil,or_false] at hi
 rcases hi with rfl|rfl|rfl|rfl
 ·exact⟨Nl _ _ _ (by omega) (by omega) (by omega),(show ¬ au 5 by unfold au; decide)⟩
 ·exact⟨VE o.t0 o.f1 o.f3 (by omega) (by omega) (by omega),(show ¬ au 73 by unfold au; decide)⟩
 ·exact⟨Cy _ _ _ (by omega) (by omega) (by omega),(show ¬ au 73 by unfold au; decide)⟩
 ·exact⟨Nm _ _ _ (by omega) (by omega) (by omega),(show ¬ au 2 by unfold au; decide)⟩
theorem ia_26 (o:VO) (hk:o.kind=26) (hv:aO o) (hp:(ae o.t0 o.f0/\ae o.t0 o.f1/\ae o.t0 o.f2/\ae o.t0 o.f3)/\(ae o.t1 o.f0/\ae o.t1 o.f1/\ae o.t1 o.f2/\ae o.t1 o.f3)) (hn:0<=o.n/\o.n<=4294967295):(∀ i∈ar o,aw i/\¬ au i.form)/\((ar o).length:Int)=bR o:=by
 obtain⟨_,⟨p0,p1⟩,⟨q0,q1,q2,q3⟩,hd,a_⟩:=hv
 have b0:=hp.1.1.1
 have b1:=hp.2.1.1
 have c0:=hp.1.1.2.1
 have c1:=hp.1.2.1.2.1
 have c2:=hp.1.2.2.1.2.1
 have c3:=hp.1.2.2.2.2.1
 clear hp
 rw[hk] at p0 p1 q0 q1 q2 q3 hd a_
 rw[show cv 26=2 by decide] at p0 p1 hd
 rw[show aI 26=2 by decide] at q0 q1 q2 q3
 unfold dd at p0 p1 q0 q1 q2 q3
 unfold cC at a_
 have eL:ar o = [{ iF 95 o.t0 o.f0 o.f1 with ra:=o.t1 }]:=by unfold ar bp aK aL aM aA; rw[hk]; rfl
 have eN:bR o=1:=by unfold bR; rw[hk]; rfl
 rw[eL,eN]
 refine⟨fun i hi=>?_,rfl⟩
 simp only[List.mem_cons,List.not_mem_nil,or_false] at hi
 subst hi
 exact⟨ri_95 o.t0 o.f0 o.f1 o.t1 (by omega) (by omega) (by omega) (by omega) (by omega),(show ¬ au 95 by unfold au; decide)⟩
theorem ia_27 (o:VO) (hk:o.kind=27) (hv:aO o) (hp:(ae o.t0 o.f0/\ae o.t0 o.f1/\ae o.t0 o.f2/\ae o.t0 o.f3)/\(ae o.t1 o.f0/\ae o.t1 o.f1/\ae o.t1 o.f2/\ae o.t1 o.f3)) (hn:0<=o.n/\o.n<=4294967295):(∀ i∈ar o,aw i/\¬ au i.form)/\((ar o).length:Int)=bR o:=by
 obtain⟨_,⟨p0,p1⟩,⟨q0,q1,q2,q3⟩,hd,a_⟩:=hv
 have b0:=hp.1.1.1
 have b1:=hp.2.1.1
 have c0:=hp.1.1.2.1
 have c1:=hp.1.2.1.2.1
 have c2:=hp.1.2.2.1.2.1
 have c3:=hp.1.2.2.2.2.1
 clear hp
 rw[hk] at p0 p1 q0 q1 q2 q3 hd a_
 rw[show cv 27=1 by decide] at p0 p1 hd
 rw[show aI 27=1 by decide] at q0 q1 q2 q3
 unfold dd at p0 p1 q0 q1 q2 q3
 unfold cC at a_
 have eL:ar o = [{ iZ with form:=50,rd:=o.t0,rn:=o.f0,ay:=1 },{ iZ with form:=59,rd:=o.t0,rn:=o.t0 }]:=by unfold ar bp aK aL aM aA; rw[hk]; rfl
 have eN:bR o=2:=by unfold bR; rw[hk]; rfl
 have w0:Rm.dF 0=0:=by decide +kernel
 have w1:Rm.dF 1=0:=by decide +kernel
 rw[eL,eN]
 refine⟨fun i hi=>?_,rfl⟩
 simp only[List.mem_cons,List.not_mem_nil,or_false] at hi
 rcases hi with rfl|rfl
 ·exact⟨ri_50 _ _ _ (by omega) (by omega) (by omega) w1,(show ¬ au 50 by unfold au; decide)⟩
 ·exact⟨Pp _ _ _ (by omega) (by omega) (by decide) w0,(show ¬ au 59 by unfold au; decide)⟩
theorem ia_28 (o:VO) (hk:o.kind=28) (hv:aO o) (hp:(ae o.t0 o.f0/\ae o.t0 o.f1/\ae o.t0 o.f2/\ae o.t0 o.f3)/\(ae o.t1 o.f0/\ae o.t1 o.f1/\ae o.t1 o.f2/\ae o.t1 o.f3)) (hn:0<=o.n/\o.n<=4294967295):(∀ i∈ar o,aw i/\¬ au i.form)/\((ar o).length:Int)=bR o:=by
 obtain⟨_,⟨p0,p1⟩,⟨q0,q1,q2,q3⟩,hd,a_⟩:=hv
 have b0:=hp.1.1.1
 have b1:=hp.2.1.1
 have c0:=hp.1.1.2.1
 have c1:=hp.1.2.1.2.1
 have c2:=hp.1.2.2.1.2.1
 have c3:=hp.1.2.2.2.2.1
 clear hp
 rw[hk] at p0 p1 q0 q1 q2 q3 hd a_
 rw[show cv 28=1 by decide] at p0 p1 hd
 rw[show aI 28=2 by decide] at q0 q1 q2 q3
 unfold dd at p0 p1 q0 q1 q2 q3
 unfold cC at a_
 have eL:ar o = [iF 97 o.t0 o.f0 o.f1]:=by unfold ar bp aK aL aM aA; rw[hk]; rfl
 have eN:bR o=1:=by unfold bR; rw[hk]; rfl
 rw[eL,eN]
 refine⟨fun i hi=>?_,rfl⟩
 simp only[List.mem_cons,List.not_mem_nil,or_false] at hi
 subst hi
 exact⟨ri_97 _ _ _ (by omega) (by omega) (by omega),(show ¬ au 97 by unfold au; decide)⟩
theorem ia_29 (o:VO) (hk:o.kind=29) (hv:aO o) (hp:(ae o.t0 o.f0/\ae o.t0 o.f1/\ae o.t0 o.f2/\ae o.t0 o.f3)/\(ae o.t1 o.f0/\ae o.t1 o.f1/\ae o.t1 o.f2/\ae o.t1 o.f3)) (hn:0<=o.n/\o.n<=4294967295):(∀ i∈ar o,aw i/\¬ au i.form)/\((ar o).length:Int)=bR o:=by
 obtain⟨_,⟨p0,p1⟩,⟨q0,q1,q2,q3⟩,hd,a_⟩:=hv
 have b0:=hp.1.1.1
 have b1:=hp.2.1.1
 have c0:=hp.1.1.2.1
 have c1:=hp.1.2.1.2.1
 have c2:=hp.1.2.2.1.2.1
 have c3:=hp.1.2.2.2.2.1
 clear hp
 rw[hk] at p0 p1 q0 q1 q2 q3 hd a_
 rw[show cv 29=1 by decide] at p0 p1 hd
 rw[show aI 29=3 by decide] at q0 q1 q2 q3
 unfold dd at p0 p1 q0 q1 q2 q3
 unfold cC at a_
 have eL:ar o = [{ iF 94 o.t0 o.f1 o.f2 with ra:=o.f0 }]:=by unfold ar bp aK aL aM aA; rw[hk]; rfl
 have eN:bR o=1:=by unfold bR; rw[hk]; rfl
 rw[eL,eN]
 refine⟨fun i hi=>?_,rfl⟩
 simp only[List.mem_cons,List.not_mem_nil,or_false] at hi
 subst hi
 exact⟨ri_94 o.t0 o.f1 o.f2 o.f0 (by omega) (by omega) (by omega) (by omega),(show ¬ au 94 by unfold au; decide)⟩
theorem ia_30 (o:VO) (hk:o.kind=30) (hv:aO o) (hp:(ae o.t0 o.f0/\ae o.t0 o.f1/\ae o.t0 o.f2/\ae o.t0 o.f3)/\(ae o.t1 o.f0/\ae o.t1 o.f1/\ae o.t1 o.f2/\ae o.t1 o.f3)) (hn:0<=o.n/\o.n<=4294967295):(∀ i∈ar o,aw i/\¬ au i.form)/\((ar o).length:Int)=bR o:=by
 obtain⟨_,⟨p0,p1⟩,⟨q0,q1,q2,q3⟩,hd,a_⟩:=hv
 have b0:=hp.1.1.1
 have b1:=hp.2.1.1
 have c0:=hp.1.1.2.1
 have c1:=hp.1.2.1.2.1
 have c2:=hp.1.2.2.1.2.1
 have c3:=hp.1.2.2.2.2.1
 clear hp
 rw[hk] at p0 p1 q0 q1 q2 q3 hd a_
 rw[show cv 30=0 by decide] at p0 p1 hd
 rw[show aI 30=1 by decide] at q0 q1 q2 q3
 unfold dd at p0 p1 q0 q1 q2 q3
 unfold cC at a_
 have eL:ar o=if o.n<=255 then [iM 9 o.f0 o.n] else [{ iZ with form:=65,rn:=o.f0,ay:=Rm.nz o.n }]:=by unfold ar bp aK aL aM aA; rw[hk]; simp
 have eN:bR o=1:=by unfold bR; rw[hk]; rfl
 rw[eL,eN]
 by_cases h1:o.n<=255
 ·rw[if_pos h1]
  refine⟨fun i hi=>?_,rfl⟩
  simp only[List.mem_cons,List.not_mem_nil,or_false] at hi
  subst hi
  exact⟨ri_9 _ _ (by omega) (by first|omega|decide),(show ¬ au 9 by unfold au; decide)⟩
 ·rw[if_neg h1]
  have e:=JK o.n (by omega) (by omega) (by omega)
  have i1:=qS o.n
  have w:=nw o.n hn (i1.1.1 (by rw[e]; exact Int.natCast_nonneg _))
  refine⟨fun i hi=>?_,rfl⟩
  simp only[List.mem_cons,List.not_mem_nil,or_false] at hi
  subst hi
  exact⟨ri_65 _ _ (by omega) w.2 w.1,(show ¬ au 65 by unfold au; decide)⟩
theorem ia_31 (o:VO) (hk:o.kind=31) (hv:aO o) (hp:(ae o.t0 o.f0/\ae o.t0 o.f1/\ae o.t0 o.f2/\ae o.t0 o.f3)/\(ae o.t1 o.f0/\ae o.t1 o.f1/\ae o.t1 o.f2/\ae o.t1 o.f3)) (hn:0<=o.n/\o.n<=4294967295):(∀ i∈ar o,aw i/\¬ au i.form)/\((ar o).length:Int)=bR o:=by
 obtain⟨_,⟨p0,p1⟩,⟨q0,q1,q2,q3⟩,hd,a_⟩:=hv
 have b0:=hp.1.1.1
 have b1:=hp.2.1.1
 have c0:=hp.1.1.2.1
 have c1:=hp.1.2.1.2.1
 have c2:=hp.1.2.2.1.2.1
 have c3:=hp.1.2.2.2.2.1
 clear hp
 rw[hk] at p0 p1 q0 q1 q2 q3 hd a_
 rw[show cv 31=0 by decide] at p0 p1 hd
 rw[show aI 31=1 by decide] at q0 q1 q2 q3
 unfold dd at p0 p1 q0 q1 q2 q3
 unfold cC at a_
 have eL:ar o = [{ iZ with form:=9,rd:=o.f0 }]:=by unfold ar bp aK aL aM aA; rw[hk]; rfl
 have eN:bR o=1:=by unfold bR; rw[hk]; rfl
 rw[eL,eN]
 refine⟨fun i hi=>?_,rfl⟩
 simp only[List.mem_cons,List.not_mem_nil,or_false] at hi
 subst hi
 exact⟨ri_9 _ _ (by omega) (by first|omega|decide),(show ¬ au 9 by unfold au; decide)⟩
theorem N7 (o:VO) (h:aO o/\dQ o) (hn:0<=o.n/\o.n<=4294967295):(∀ i∈ar o,aw i/\¬ au i.form)/\((ar o).length:Int)=bR o:=by
 have hp:=(jg o h.1).1 h
 have hv:=h.1
 rcases kinds hv.1 with hk|hk|hk|hk|hk|hk|hk|hk|hk|hk|hk|hk|hk|hk|hk|hk|hk|hk|hk|hk|hk|hk|hk|hk|hk|hk|hk|hk|hk|hk|hk
 ·exact ia_1 o hk hv hp hn
 ·exact ia_2 o hk hv hp hn
 ·exact ia_3 o hk hv hp hn
 ·exact ia_4 o hk hv hp hn
 ·exact ia_5 o hk hv hp hn
 ·exact ia_6 o hk hv hp hn
 ·exact ia_7 o hk hv hp hn
 ·exact ia_8 o hk hv hp hn
 ·exact ia_9 o hk hv hp hn
 ·exact ia_10 o hk hv hp hn
 ·exact ia_11 o hk hv hp hn
 ·exact ia_12 o hk hv hp hn
 ·exact ia_13 o hk hv hp hn
 ·exact ia_14 o hk hv hp hn
 ·exact ia_15 o hk hv hp hn
 ·exact ia_16 o hk hv hp hn
 ·exact ia_17 o hk hv hp hn
 ·exact ia_18 o hk hv hp hn
 ·exact ia_19 o hk hv hp hn
 ·exact ia_20 o hk hv hp hn
 ·exact ia_21 o hk hv hp hn
 ·exact ia_22 o hk hv hp hn
 ·exact ia_23 o hk hv hp hn
 ·exact ia_24 o hk hv hp hn
 ·exact ia_25 o hk hv hp hn
 ·exact ia_26 o hk hv hp hn
 ·exact ia_27 o hk hv hp hn
 ·exact ia_28 o hk hv hp hn
 ·exact ia_29 o hk hv hp hn
 ·exact ia_30 o hk hv hp hn
 ·exact ia_31 o hk hv hp hn
 
def alB (f:Int):Bool:=decide ((cM f=0/\f≠42/\f≠43)/\bw f=0/\bN f≠5/\bN f≠4)
theorem V7 {f:Int} (h:alB f=true):KC f/\bN f≠5/\bN f≠4:=by
 have h:=of_decide_eq_true h
 exact⟨⟨h.1,h.2.1⟩,h.2.2⟩
def stB (f:Int):Bool:=decide (cM f=0/\f≠42/\f≠43)
theorem V8 (t n:Int):(jN t n).all (fun i=>alB i.form)=true:=by
 unfold jN
 repeat' split
 all_goals rfl
set_option maxHeartbeats 4000000 in
theorem V9 (o:VO) (h:aO o) (h2:o.kind≠2) (h3:o.kind≠3) (h5:o.kind≠5) (h6:o.kind≠6) (lp:o.kind≠28):(ar o).all (fun i=>alB i.form)=true:=by
 rcases kinds h.1 with hk|hk|hk|hk|hk|hk|hk|hk|hk|hk|hk|hk|hk|hk|hk|hk|hk|hk|hk|hk|hk|hk|hk|hk|hk|hk|hk|hk|hk|hk|hk
 ·have e:ar o=jN o.t0 o.n:=by unfold ar bp aK aL aM aA; rw[hk]; simp
  rw[e]; exact V8 _ _
 ·first|exact absurd hk h2|exact absurd hk h3|exact absurd hk h5|exact absurd hk h6|exact absurd hk lp|(unfold ar bp aK aL aM aA; rw[hk]; rfl)
 ·first|exact absurd hk h2|exact absurd hk h3|exact absurd hk h5|exact absurd hk h6|exact absurd hk lp|(unfold ar bp aK aL aM aA; rw[hk]; rfl)
 ·first|exact absurd hk h2|exact absurd hk h3|exact absurd hk h5|exact absurd hk h6|exact absurd hk lp|(unfold ar bp aK aL aM aA; rw[hk]; rfl)
 ·first|exact absurd hk h2|exact absurd hk h3|exact absurd hk h5|exact absurd hk h6|exact absurd hk lp|(unfold ar bp aK aL aM aA; rw[hk]; rfl)
 ·first|exact absurd hk h2|exact absurd hk h3|exact absurd hk h5|exact absurd hk h6|exact absurd hk lp|(unfold ar bp aK aL aM aA; rw[hk]; rfl)
 ·first|exact absurd hk h2|exact absurd hk h3|exact absurd hk h5|exact absurd hk h6|exact absurd hk lp|(unfold ar bp aK aL aM aA; rw[hk]; rfl)
 ·first|exact absurd hk h2|exact absurd hk h3|exact absurd hk h5|exact absurd hk h6|exact absurd hk lp|(unfold ar bp aK aL aM aA; rw[hk]; rfl)
 ·first|exact absurd hk h2|exact absurd hk h3|exact absurd hk h5|exact absurd hk h6|exact absurd hk lp|(unfold ar bp aK aL aM aA; rw[hk]; rfl)
 ·first|exact absurd hk h2|exact absurd hk h3|exact absurd hk h5|exact absurd hk h6|exact absurd hk lp|(unfold ar bp aK aL aM aA; rw[hk]; rfl)
 ·first|exact absurd hk h2|exact absurd hk h3|exact absurd hk h5|exact absurd hk h6|exact absurd hk lp|(unfold ar bp aK aL aM aA; rw[hk]; rfl)
 ·first|exact absurd hk h2|exact absurd hk h3|exact absurd hk h5|exact absurd hk h6|exact absurd hk lp|(unfold ar bp aK aL aM aA; rw[hk]; rfl)
 ·first|exact absurd hk h2|exact absurd hk h3|exact absurd hk h5|exact absurd hk h6|exact absurd hk lp|(unfold ar bp aK aL aM aA; rw[hk]; rfl)
 ·first|exact absurd hk h2|exact absurd hk h3|exact absurd hk h5|exact absurd hk h6|exact absurd hk lp|(unfold ar bp aK aL aM aA; rw[hk]; rfl)
 ·first|exact absurd hk h2|exact absurd hk h3|exact absurd hk h5|exact absurd hk h6|exact absurd hk lp|(unfold ar bp aK aL aM aA; rw[hk]; rfl)
 ·first|exact absurd hk h2|exact absurd hk h3|exact absurd hk h5|exact absurd hk h6|exact absurd hk lp|(unfold ar bp aK aL aM aA; rw[hk]; rfl)
 ·first|exact absurd hk h2|exact absurd hk h3|exact absurd hk h5|exact absurd hk h6|exact absurd hk lp|(unfold ar bp aK aL aM aA; rw[hk]; rfl)
 ·first|exact absurd hk h2|exact absurd hk h3|exact absurd hk h5|exact absurd hk h6|exact absurd hk lp|(unfold ar bp aK aL aM aA; rw[hk]; rfl)
 ·first|exact absurd hk h2|exact absurd hk h3|exact absurd hk h5|exact absurd hk h6|exact absurd hk lp|(unfold ar bp aK aL aM aA; rw[hk]; rfl)
 ·first|exact absurd hk h2|exact absurd hk h3|exact absurd hk h5|exact absurd hk h6|exact absurd hk lp|(unfold ar bp aK aL aM aA; rw[hk]; rfl)
 ·first|exact absurd hk h2|exact absurd hk h3|exact absurd hk h5|exact absurd hk h6|exact absurd hk lp|(unfold ar bp aK aL aM aA; rw[hk]; rfl)
 ·first|exact absurd hk h2|exact absurd hk h3|exact absurd hk h5|exact absurd hk h6|exact absurd hk lp|(unfold ar bp aK aL aM aA; rw[hk]; rfl)
 ·first|exact absurd hk h2|exact absurd hk h3|exact absurd hk h5|exact absurd hk h6|exact absurd hk lp|(unfold ar bp aK aL aM aA; rw[hk]; rfl)
 ·first|exact absurd hk h2|exact absurd hk h3|exact absurd hk h5|exact absurd hk h6|exact absurd hk lp|(unfold ar bp aK aL aM aA; rw[hk]; rfl)
 ·first|exact absurd hk h2|exact absurd hk h3|exact absurd hk h5|exact absurd hk h6|exact absurd hk lp|(unfold ar bp aK aL aM aA; rw[hk]; rfl)
 ·first|exact absurd hk h2|exact absurd hk h3|exact absurd hk h5|exact absurd hk h6|exact absurd hk lp|(unfold ar bp aK aL aM aA; rw[hk]; rfl)
 ·first|exact absurd hk h2|exact absurd hk h3|exact absurd hk h5|exact absurd hk h6|exact absurd hk lp|(unfold ar bp aK aL aM aA; rw[hk]; rfl)
 ·first|exact absurd hk h2|exact absurd hk h3|exact absurd hk h5|exact absurd hk h6|exact absurd hk lp|(unfold ar bp aK aL aM aA; rw[hk]; rfl)
 ·first|exact absurd hk h2|exact absurd hk h3|exact absurd hk h5|exact absurd hk h6|exact absurd hk lp|(unfold ar bp aK aL aM aA; rw[hk]; rfl)
 ·have e:ar o=if o.n<=255 then [iM 9 o.f0 o.n] else [{ iZ with form:=65,rn:=o.f0,ay:=Rm.nz o.n }]:=by unfold ar bp aK aL aM aA; rw[hk]; simp
  rw[e]
  split<;>rfl
 ·unfold ar bp aK aL aM aA; rw[hk]; rfl
set_option maxHeartbeats 4000000 in
theorem V' (o:VO) (h:aO o):(ar o).all (fun i=>stB i.form && decide (i.av=0))=true:=by
 have hnum:∀ t n,(jN t n).all (fun i=>stB i.form && decide (i.av=0))=true:=fun t n=>by
  unfold jN
  repeat' split
  all_goals rfl
 rcases kinds h.1 with hk|hk|hk|hk|hk|hk|hk|hk|hk|hk|hk|hk|hk|hk|hk|hk|hk|hk|hk|hk|hk|hk|hk|hk|hk|hk|hk|hk|hk|hk|hk
 ·have e:ar o=jN o.t0 o.n:=by unfold ar bp aK aL aM aA; rw[hk]; simp
  rw[e]; exact hnum _ _
 ·unfold ar bp aK aL aM aA; rw[hk]; rfl
 ·unfold ar bp aK aL aM aA; rw[hk]; rfl
 ·unfold ar bp aK aL aM aA; rw[hk]; rfl
 ·unfold ar bp aK aL aM aA; rw[hk]; rfl
 ·unfold ar bp aK aL aM aA; rw[hk]; rfl
 ·unfold ar bp aK aL aM aA; rw[hk]; rfl
 ·unfold ar bp aK aL aM aA; rw[hk]; rfl
 ·unfold ar bp aK aL aM aA; rw[hk]; rfl
 ·unfold ar bp aK aL aM aA; rw[hk]; rfl
 ·unfold ar bp aK aL aM aA; rw[hk]; rfl
 ·unfold ar bp aK aL aM aA; rw[hk]; rfl
 ·unfold ar bp aK aL aM aA; rw[hk]; rfl
 ·unfold ar bp aK aL aM aA; rw[hk]; rfl
 ·unfold ar bp aK aL aM aA; rw[hk]; rfl
 ·unfold ar bp aK aL aM aA; rw[hk]; rfl
 ·unfold ar bp aK aL aM aA; rw[hk]; rfl
 ·unfold ar bp aK aL aM aA; rw[hk]; rfl
 ·unfold ar bp aK aL aM aA; rw[hk]; rfl
 ·unfold ar bp aK aL aM aA; rw[hk]; rfl
 ·unfold ar bp aK aL aM aA; rw[hk]; rfl
 ·unfold ar bp aK aL aM aA; rw[hk]; rfl
 ·unfold ar bp aK aL aM aA; rw[hk]; rfl
 ·unfold ar bp aK aL aM aA; rw[hk]; rfl
 ·unfold ar bp aK aL aM aA; rw[hk]; rfl
 ·unfold ar bp aK aL aM aA; rw[hk]; rfl
 ·unfold ar bp aK aL aM aA; rw[hk]; rfl
 ·unfold ar bp aK aL aM aA; rw[hk]; rfl
 ·unfold ar bp aK aL aM aA; rw[hk]; rfl
 ·have e:ar o=if o.n<=255 then [iM 9 o.f0 o.n] else [{ iZ with form:=65,rn:=o.f0,ay:=Rm.nz o.n }]:=by unfold ar bp aK aL aM aA; rw[hk]; simp
  rw[e]
  split<;>rfl
 ·unfold ar bp aK aL aM aA; rw[hk]; rfl
theorem tj (o:VO) (h:aO o/\dQ o) (hn:0<=o.n/\o.n<=4294967295):∀ i∈ar o,aw i/\B5 i:=fun i hi=>by
 have h1:=(N7 o h hn).1 i hi
 have h2:=List.all_eq_true.1 (V' o h.1) i hi
 rw[Bool.and_eq_true] at h2
 exact⟨h1.1,E6 h1.1 (of_decide_eq_true h2.2)⟩
end Go.Proofs.YtlgkljpgagfndaaGreatDoor.Pw

/- What this claim is proved with: no condition. -/
import Derived.Test.YtlgkljpgagfndaaGreatDoorNv28
set_option linter.unusedVariables false
set_option linter.unusedSimpArgs false
namespace Go.Proofs.YtlgkljpgagfndaaGreatDoor.Pw
open Go Go.RowKit
def cb (s:RS) (i:IN):RS:=(eO (ax s i)).s
def dC (s:RS) (l:List IN):RS:=l.foldl cb s
theorem UD {m:MS} {s:RS} {i:IN} (h:IC i.form):kA m (ax s i)=eO (ax s i):=by
 unfold kA
 rw[if_neg (fun e=>e h.2),if_neg (show ¬ (ax s i).i.form=42 from h.1.2.1),if_neg (show ¬ (ax s i).i.form=43 from h.1.2.2)]
theorem aP {s:RS} {i:IN} {r:Int} (h0:0<=r) (h1:r < 15):an (ax s i) r=s.R r.toNat:=by
 unfold an
 rw[if_neg (by omega)]
 show kx s.R 15 _ r.toNat=_
 unfold kx
 rw[if_neg (by omega)]
def Sets (s s':RS) (d v:Int):Prop:=∀ n:Nat,n < 15->s'.R n=kx s.R d v n
theorem gn {s:RS} {i:IN} {n:Nat} (h:n < 15):(ax s i).s.R n=s.R n:=by
 show kx s.R 15 _ n=_
 unfold kx
 rw[if_neg (by omega)]
theorem gQ {s:RS} {i:IN} {x:XS} {d v:Int} (hx:∀ n:Nat,n < 15->x.s.R n=s.R n):Sets s (cG x d v).s d v:=fun n h=>by
 show kx x.s.R d v n=_
 unfold kx
 rw[hx n h]
theorem jO {s:RS} {i:IN} {d v w c:Int} (hd:0<=d):Sets s (fB (ax s i) d v w c).s d (Rm.fh v w c):=by
 unfold fB
 rw[if_pos hd]
 refine gQ (i:=i) fun n h=>?_
 split
 ·exact gn h
 ·exact gn h
theorem cQ {s:RS} {i:IN} {d v c:Int} (hd:0<=d):Sets s (bX (ax s i) d v c).s d v:=by
 unfold bX
 rw[if_pos hd]
 refine gQ (i:=i) fun n h=>?_
 split
 ·exact gn h
 ·exact gn h
theorem BE {x:XS} {d v w c:Int} (h:ee x):(fB x d v w c).s.C=Rm.iR v w c/\(fB x d v w c).s.Z=if Rm.fh v w c=0 then 1 else 0:=by
 unfold fB
 rw[if_pos h]
 split<;>exact⟨rfl,rfl⟩
theorem r_ {x:XS} (h:¬ (aa x.i.form=18\/aa x.i.form=19\/aa x.i.form=21\/aa x.i.form=22\/aa x.i.form=27)):ee x:=fun k=>absurd k h
theorem Sets.get {s s':RS} {d v:Int} (h:Sets s s' d v) {n:Nat} (hn:n < 15) (hd:d≠(n:Int)):s'.R n=s.R n:=by
 rw[h n hn]
 unfold kx
 rw[if_neg hd]
theorem Sets.at {s s':RS} {d v:Int} (h:Sets s s' d v) (h0:0<=d) (h1:d < 15):s'.R d.toNat=v:=by
 rw[h d.toNat (by omega)]
 unfold kx
 rw[if_pos (by omega)]
theorem Sets.again {s s' t:RS} {d v w:Int} (h:Sets s s' d v) (g:Sets s' t d w):Sets s t d w:=fun n hn=>by
 rw[g n hn]
 unfold kx
 split
 ·rfl
 ·rw[h n hn]
  unfold kx
  rw[if_neg (by assumption)]
theorem Sets.to {s s':RS} {d v w:Int} (h:Sets s s' d v) (e:v=w):Sets s s' d w:=e ▸ h
theorem NW:Rm.ke 0=0:=rfl
theorem ye:Rm.ke 1=1:=rfl
theorem IG {c:Int} (h:0<=c/\c<=1):Rm.ke c=c:=by unfold Rm.ke; omega
theorem sa {k x:Int} (h:0<=x):gP k x 0=x:=by
 show ((x.toNat:Nat):Int)=x
 omega
theorem f_4 {s:RS} {t a b:Int} (ht:0<=t) (ha:0<=a/\a < 15) (hb:0<=b/\b < 15):Sets s (cb s (iF 4 t a b)) t ((s.R a.toNat+s.R b.toNat) % 4294967296)/\(cb s (iF 4 t a b)).C=(s.R a.toNat+s.R b.toNat) / 4294967296:=by
 have e:cb s (iF 4 t a b)=(fB (ax s (iF 4 t a b)) t (an (ax s (iF 4 t a b)) a) (an (ax s (iF 4 t a b)) b) 0).s:=rfl
 have hc:=(BE (x:=ax s (iF 4 t a b)) (d:=t) (v:=an (ax s (iF 4 t a b)) a) (w:=an (ax s (iF 4 t a b)) b) (c:=0) (r_ (show ¬ (aa 4=18\/aa 4=19\/aa 4=21\/aa 4=22\/aa 4=27) by decide))).1
 rw[← e,aP ha.1 ha.2,aP hb.1 hb.2] at hc
 rw[aP ha.1 ha.2,aP hb.1 hb.2] at e
 refine⟨?_,?_⟩
 ·rw[e]
  refine (jO ht).to ?_
  unfold Rm.fh
  rw[NW,Int.add_zero]
 ·rw[hc]
  unfold Rm.iR
  rw[NW,Int.add_zero]
theorem f_5 {s:RS} {t a b:Int} (ht:0<=t) (ha:0<=a/\a < 15) (hb:0<=b/\b < 15) (hA:a_ (s.R a.toNat)) (hB:a_ (s.R b.toNat)):Sets s (cb s (iF 5 t a b)) t ((s.R a.toNat - s.R b.toNat) % 4294967296)/\(cb s (iF 5 t a b)).C=if s.R a.toNat < s.R b.toNat then 0 else 1:=by
 have e:cb s (iF 5 t a b)=(fB (ax s (iF 5 t a b)) t (an (ax s (iF 5 t a b)) a) (dA (an (ax s (iF 5 t a b)) b)) 1).s:=rfl
 have hc:=(BE (x:=ax s (iF 5 t a b)) (d:=t) (v:=an (ax s (iF 5 t a b)) a) (w:=dA (an (ax s (iF 5 t a b)) b)) (c:=1) (r_ (show ¬ (aa 5=18\/aa 5=19\/aa 5=21\/aa 5=22\/aa 5=27) by decide))).1
 rw[← e,aP ha.1 ha.2,aP hb.1 hb.2,ij hB] at hc
 rw[aP ha.1 ha.2,aP hb.1 hb.2,ij hB] at e
 unfold a_ at hA hB
 refine⟨?_,?_⟩
 ·rw[e]
  refine (jO ht).to ?_
  unfold Rm.fh
  rw[ye]; omega
 ·rw[hc]
  unfold Rm.iR
  rw[ye]
  split<;>omega
theorem f_72 {s:RS} {t a b:Int} (ht:0<=t) (ha:0<=a/\a < 15) (hb:0<=b/\b < 15) (hB:a_ (s.R b.toNat)) (hc:0<=s.C/\s.C<=1):Sets s (cb s (iF 72 t a b)) t ((s.R a.toNat+s.R b.toNat+s.C) % 4294967296):=by
 have e:cb s (iF 72 t a b)=(fB (ax s (iF 72 t a b)) t (an (ax s (iF 72 t a b)) a) (gP 0 (an (ax s (iF 72 t a b)) b) 0) s.C).s:=rfl
 rw[aP ha.1 ha.2,aP hb.1 hb.2,sa hB.1] at e
 rw[e]
 refine (jO ht).to ?_
 unfold Rm.fh
 rw[IG hc]
theorem UE {s:RS} {t a b:Int} (st:Int) (ht:0<=t) (ha:0<=a/\a < 15) (hb:0<=b/\b < 15) (hA:a_ (s.R a.toNat)) (hB:a_ (s.R b.toNat)) (hc:0<=s.C/\s.C<=1):Sets s (cb s { iF 73 t a b with set:=st }) t ((s.R a.toNat - s.R b.toNat - 1+s.C) % 4294967296)/\(st=1->(cb s { iF 73 t a b with set:=st }).C=if s.R a.toNat+s.C < s.R b.toNat+1 then 0 else 1):=by
 have e:cb s { iF 73 t a b with set:=st }=(fB (ax s { iF 73 t a b with set:=st }) t (an (ax s { iF 73 t a b with set:=st }) a) (dA (gP 0 (an (ax s { iF 73 t a b with set:=st }) b) 0)) s.C).s:=rfl
 have jq:=fun h=>(BE (x:=ax s { iF 73 t a b with set:=st }) (d:=t) (v:=an (ax s { iF 73 t a b with set:=st }) a) (w:=dA (gP 0 (an (ax s { iF 73 t a b with set:=st }) b) 0)) (c:=s.C) h).1
 rw[← e,aP ha.1 ha.2,aP hb.1 hb.2,sa hB.1,ij hB] at jq
 rw[aP ha.1 ha.2,aP hb.1 hb.2,sa hB.1,ij hB] at e
 unfold a_ at hA hB
 refine⟨?_,fun h=>?_⟩
 ·rw[e]
  refine (jO ht).to ?_
  unfold Rm.fh
  rw[IG hc]; omega
 ·rw[jq (fun _=>h)]
  unfold Rm.iR
  rw[IG hc]
  split<;>omega
theorem IH {s:RS} {t:Int} (ht:0<=t/\t < 15) (hT:a_ (s.R t.toNat)) (hc:0<=s.C/\s.C<=1):Sets s (cb s (eu t)) t (if s.C=0 then 4294967295 else 0):=by
 refine (UE (s:=s) (t:=t) (a:=t) (b:=t) 0 ht.1 ht ht hT hT hc).1.to ?_
 split<;>omega
theorem NX:∀ (n x:Nat),Rm.qc 1 n x=x / 2 ^ n
 | 0,x=>by rw[Nat.pow_zero,Nat.div_one]; rfl
 | n+1,x=>by
  rw[Rm.qc,NX n x]
  show (Rm.mC 1 (x / 2 ^ n))=_
  rw[Nat.pow_succ,← Nat.div_div_eq_div_mul]
  rfl
theorem f_2 {s:RS} {t a n:Int} (ht:0<=t) (ha:0<=a/\a < 15):Sets s (cb s { iZ with form:=2,rd:=t,rm:=a,az:=n }) t (gP 1 (s.R a.toNat) n):=by
 have e:cb s { iZ with form:=2,rd:=t,rm:=a,az:=n }=(bX (ax s { iZ with form:=2,rd:=t,rm:=a,az:=n }) t (gP 1 (an (ax s { iZ with form:=2,rd:=t,rm:=a,az:=n }) a) n) (sV 1 (an (ax s { iZ with form:=2,rd:=t,rm:=a,az:=n }) a) n s.C)).s:=rfl
 rw[aP ha.1 ha.2] at e
 rw[e]
 exact cQ ht
theorem MM {s:RS} {t:Int} (ht:0<=t/\t < 15) (hT:0<=s.R t.toNat):Sets s (cb s (fT t)) t (s.R t.toNat / 2147483648):=by
 refine (f_2 (s:=s) (t:=t) (a:=t) (n:=31) ht.1 ht).to ?_
 unfold gP
 rw[show (31:Int).toNat=31 from rfl,NX]
 omega
theorem vH {s:RS} {t:Int} (ht:0<=t/\t < 15) (hT:a_ (s.R t.toNat)) (hc:0<=s.C/\s.C<=1):Sets s (dC s [eu t,fT t]) t (1 - s.C):=by
 have h1:=IH ht hT hc
 have e1:=h1.at ht.1 ht.2
 have h2:=MM (s:=cb s (eu t)) ht (by rw[e1]; split<;>decide)
 refine (h1.again h2).to ?_
 rw[e1]
 split<;>omega
theorem f_66 {s:RS} {t a b:Int} (ht:0<=t) (ha:0<=a/\a < 15) (hb:0<=b/\b < 15) (hB:a_ (s.R b.toNat)):Sets s (cb s (iF 66 t a b)) t (bits .and .u32 (s.R a.toNat) (s.R b.toNat))/\(cb s (iF 66 t a b)).C=s.C:=by
 have e:cb s (iF 66 t a b)=(bX (ax s (iF 66 t a b)) t (bits .and .u32 (an (ax s (iF 66 t a b)) a) (gP 0 (an (ax s (iF 66 t a b)) b) 0)) (sV 0 (an (ax s (iF 66 t a b)) b) 0 s.C)).s:=rfl
 rw[aP ha.1 ha.2,aP hb.1 hb.2,sa hB.1] at e
 rw[e]
 exact⟨cQ ht,by unfold bX; rw[if_pos ht]; rfl⟩
theorem f_68 {s:RS} {t a b:Int} (ht:0<=t) (ha:0<=a/\a < 15) (hb:0<=b/\b < 15) (hB:a_ (s.R b.toNat)):Sets s (cb s (iF 68 t a b)) t (bits .or .u32 (s.R a.toNat) (s.R b.toNat))/\(cb s (iF 68 t a b)).C=s.C:=by
 have e:cb s (iF 68 t a b)=(bX (ax s (iF 68 t a b)) t (bits .or .u32 (an (ax s (iF 68 t a b)) a) (gP 0 (an (ax s (iF 68 t a b)) b) 0)) (sV 0 (an (ax s (iF 68 t a b)) b) 0 s.C)).s:=rfl
 rw[aP ha.1 ha.2,aP hb.1 hb.2,sa hB.1] at e
 rw[e]
 exact⟨cQ ht,by unfold bX; rw[if_pos ht]; rfl⟩
theorem ZD {s:RS} {t a b:Int} (ht:0<=t) (ha:0<=a/\a < 15) (hb:0<=b/\b < 15) (hB:a_ (s.R b.toNat)):Sets s (cb s (iF 70 t a b)) t (bits .xor .u32 (s.R a.toNat) (s.R b.toNat))/\(cb s (iF 70 t a b)).C=s.C:=by
 have e:cb s (iF 70 t a b)=(bX (ax s (iF 70 t a b)) t (bits .xor .u32 (an (ax s (iF 70 t a b)) a) (gP 0 (an (ax s (iF 70 t a b)) b) 0)) (sV 0 (an (ax s (iF 70 t a b)) b) 0 s.C)).s:=rfl
 rw[aP ha.1 ha.2,aP hb.1 hb.2,sa hB.1] at e
 rw[e]
 exact⟨cQ ht,by unfold bX; rw[if_pos ht]; rfl⟩
theorem f_92 {s:RS} {t a b:Int} (ha:0<=a/\a < 15) (hb:0<=b/\b < 15):Sets s (cb s (iF 92 t a b)) t (s.R a.toNat*s.R b.toNat % 4294967296):=by
 have e:cb s (iF 92 t a b)=(cG (ax s (iF 92 t a b)) t (an (ax s (iF 92 t a b)) a*an (ax s (iF 92 t a b)) b % 4294967296)).s:=rfl
 rw[aP ha.1 ha.2,aP hb.1 hb.2] at e
 rw[e]
 exact gQ (i:=iF 92 t a b) fun n h=>gn h
theorem f_95 {s:RS} {t a b h:Int} (ha:0<=a/\a < 15) (hb:0<=b/\b < 15):∀ n:Nat,n < 15->(cb s { iF 95 t a b with ra:=h }).R n=kx (kx s.R t (s.R a.toNat*s.R b.toNat % 4294967296)) h (s.R a.toNat*s.R b.toNat / 4294967296) n:=fun n hn=>by
 have e:cb s { iF 95 t a b with ra:=h }=(cG (cG (ax s { iF 95 t a b with ra:=h }) t (an (ax s { iF 95 t a b with ra:=h }) a*an (ax s { iF 95 t a b with ra:=h }) b % 4294967296)) h (an (ax s { iF 95 t a b with ra:=h }) a*an (ax s { iF 95 t a b with ra:=h }) b / 4294967296)).s:=rfl
 rw[aP ha.1 ha.2,aP hb.1 hb.2] at e
 rw[e]
 show kx (kx (ax s { iF 95 t a b with ra:=h }).s.R t _) h _ n=_
 unfold kx
 rw[gn hn]
theorem f_97 {s:RS} {t a b:Int} (ha:0<=a/\a < 15) (hb:0<=b/\b < 15) (hA:a_ (s.R a.toNat)) (hB:a_ (s.R b.toNat)):Sets s (cb s (iF 97 t a b)) t (if 0 < s.R b.toNat then s.R a.toNat / s.R b.toNat else 0):=by
 have e:cb s (iF 97 t a b)=(cG { ax s (iF 97 t a b) with a:=an (ax s (iF 97 t a b)) a,b:=an (ax s (iF 97 t a b)) b } t (IntKind.u32.wrap (an (ax s (iF 97 t a b)) a / max (an (ax s (iF 97 t a b)) b) 1*min (an (ax s (iF 97 t a b)) b) 1))).s:=rfl
 rw[aP ha.1 ha.2,aP hb.1 hb.2] at e
 rw[e]
 refine (gQ (i:=iF 97 t a b) fun n h=>gn h).to ?_
 unfold a_ at hA hB
 generalize s.R a.toNat=A at *
 generalize s.R b.toNat=B at *
 rw[IntKind.wrap_u32']
 by_cases h:0 < B
 ·rw[if_pos h,Int.max_eq_left (by omega),Int.min_eq_right (by omega),Int.mul_one]
  have h1:0<=A / B:=Int.ediv_nonneg hA.1 hB.1
  have h2:A / B<=A:=Int.ediv_le_self _ hA.1
  omega
 ·rw[if_neg h,show B=0 by omega]
  show A / 1*0 % 4294967296=0
  omega
theorem f_94 {s:RS} {t a b c:Int} (ha:0<=a/\a < 15) (hb:0<=b/\b < 15) (hc:0<=c/\c < 15):Sets s (cb s { iF 94 t a b with ra:=c }) t ((s.R c.toNat - s.R a.toNat*s.R b.toNat % 4294967296) % 4294967296):=by
 have e:cb s { iF 94 t a b with ra:=c }=(cG (ax s { iF 94 t a b with ra:=c }) t (IntKind.u32.wrap (an (ax s { iF 94 t a b with ra:=c }) c - (an (ax s { iF 94 t a b with ra:=c }) a*an (ax s { iF 94 t a b with ra:=c }) b % 4294967296)))).s:=rfl
 rw[aP ha.1 ha.2,aP hb.1 hb.2,aP hc.1 hc.2,IntKind.wrap_u32'] at e
 rw[e]
 exact gQ (i:=iF 97 t a b) fun n h=>gn h
theorem vI {x:Int} (h:a_ x):bits .and .u32 x 255=x % 256:=by
 unfold a_ at h
 rw[u32_and x 255 h.1 (by omega) (by omega) (by omega)]
 have e:x.toNat &&& (255:Int).toNat=x.toNat % 256:=Nat.and_two_pow_sub_one_eq_mod x.toNat 8
 rw[e]; omega
theorem f_88 {s:RS} {t a b:Int} (ht:0<=t) (ha:0<=a/\a < 15) (hb:0<=b/\b < 15) (hB:a_ (s.R b.toNat)):Sets s (cb s (iF 88 t a b)) t (gP 0 (s.R a.toNat) (s.R b.toNat % 256)):=by
 have e:cb s (iF 88 t a b)=(bX (ax s (iF 88 t a b)) t (gP 0 (an (ax s (iF 88 t a b)) a) (bits .and .u32 (an (ax s (iF 88 t a b)) b) 255)) (sV 0 (an (ax s (iF 88 t a b)) a) (bits .and .u32 (an (ax s (iF 88 t a b)) b) 255) s.C)).s:=rfl
 rw[aP ha.1 ha.2,aP hb.1 hb.2,vI hB] at e
 rw[e]
 exact cQ ht
theorem f_89 {s:RS} {t a b:Int} (ht:0<=t) (ha:0<=a/\a < 15) (hb:0<=b/\b < 15) (hB:a_ (s.R b.toNat)):Sets s (cb s (iF 89 t a b)) t (gP 1 (s.R a.toNat) (s.R b.toNat % 256)):=by
 have e:cb s (iF 89 t a b)=(bX (ax s (iF 89 t a b)) t (gP 1 (an (ax s (iF 89 t a b)) a) (bits .and .u32 (an (ax s (iF 89 t a b)) b) 255)) (sV 1 (an (ax s (iF 89 t a b)) a) (bits .and .u32 (an (ax s (iF 89 t a b)) b) 255) s.C)).s:=rfl
 rw[aP ha.1 ha.2,aP hb.1 hb.2,vI hB] at e
 rw[e]
 exact cQ ht
theorem f_91 {s:RS} {t a b:Int} (ht:0<=t) (ha:0<=a/\a < 15) (hb:0<=b/\b < 15) (hB:a_ (s.R b.toNat)):Sets s (cb s (iF 91 t a b)) t (gP 3 (s.R a.toNat) (s.R b.toNat % 256)):=by
 have e:cb s (iF 91 t a b)=(bX (ax s (iF 91 t a b)) t (gP 3 (an (ax s (iF 91 t a b)) a) (bits .and .u32 (an (ax s (iF 91 t a b)) b) 255)) (sV 3 (an (ax s (iF 91 t a b)) a) (bits .and .u32 (an (ax s (iF 91 t a b)) b) 255) s.C)).s:=rfl
 rw[aP ha.1 ha.2,aP hb.1 hb.2,vI hB] at e
 rw[e]
 exact cQ ht
theorem f_77 {s:RS} {t a:Int} (ht:0<=t) (ha:0<=a/\a < 15) (hA:a_ (s.R a.toNat)):Sets s (cb s { iZ with form:=77,rd:=t,rm:=a }) t (4294967295 - s.R a.toNat):=by
 have e:cb s { iZ with form:=77,rd:=t,rm:=a }=(bX (ax s { iZ with form:=77,rd:=t,rm:=a }) t (dA (gP 0 (an (ax s { iZ with form:=77,rd:=t,rm:=a }) a) 0)) (sV 0 (an (ax s { iZ with form:=77,rd:=t,rm:=a }) a) 0 s.C)).s:=rfl
 rw[aP ha.1 ha.2,sa hA.1,ij hA] at e
 rw[e]
 exact cQ ht
theorem f_1 {s:RS} {t a n:Int} (ht:0<=t) (ha:0<=a/\a < 15):Sets s (cb s { iZ with form:=1,rd:=t,rm:=a,az:=n }) t (gP 0 (s.R a.toNat) n):=by
 have e:cb s { iZ with form:=1,rd:=t,rm:=a,az:=n }=(bX (ax s { iZ with form:=1,rd:=t,rm:=a,az:=n }) t (gP 0 (an (ax s { iZ with form:=1,rd:=t,rm:=a,az:=n }) a) n) (sV 0 (an (ax s { iZ with form:=1,rd:=t,rm:=a,az:=n }) a) n s.C)).s:=rfl
 rw[aP ha.1 ha.2] at e
 rw[e]
 exact cQ ht
theorem f_76 {s:RS} {t a n:Int} (ht:0<=t) (ha:0<=a/\a < 15):Sets s (cb s { iZ with form:=76,rd:=t,rm:=a,kind:=3,bG:=n }) t (gP 3 (s.R a.toNat) n):=by
 have e:cb s { iZ with form:=76,rd:=t,rm:=a,kind:=3,bG:=n }=(bX (ax s { iZ with form:=76,rd:=t,rm:=a,kind:=3,bG:=n }) t (gP 3 (an (ax s { iZ with form:=76,rd:=t,rm:=a,kind:=3,bG:=n }) a) n) (sV 3 (an (ax s { iZ with form:=76,rd:=t,rm:=a,kind:=3,bG:=n }) a) n s.C)).s:=rfl
 rw[aP ha.1 ha.2] at e
 rw[e]
 exact cQ ht
theorem MN:Rm.eG 0=0:=by decide +kernel
theorem MO:Rm.eG 1=1:=by decide +kernel
theorem ZE {s:RS} {t a:Int} (ht:0<=t) (ha:0<=a/\a < 15) (hA:a_ (s.R a.toNat)):Sets s (cb s { iZ with form:=59,rd:=t,rn:=a }) t ((-s.R a.toNat) % 4294967296):=by
 have e:cb s { iZ with form:=59,rd:=t,rn:=a }=(fB (ax s { iZ with form:=59,rd:=t,rn:=a }) t (Rm.eG 0) (dA (an (ax s { iZ with form:=59,rd:=t,rn:=a }) a)) 1).s:=rfl
 rw[aP ha.1 ha.2,ij hA,MN] at e
 rw[e]
 refine (jO ht).to ?_
 unfold Rm.fh
 rw[ye]; omega
theorem f_50 {s:RS} {t a:Int} (ht:0<=t) (ha:0<=a/\a < 15) (hA:a_ (s.R a.toNat)):Sets s (cb s { iZ with form:=50,rd:=t,rn:=a,az:=1 }) t (s.R a.toNat % 2):=by
 have e:cb s { iZ with form:=50,rd:=t,rn:=a,az:=1 }=(bX (ax s { iZ with form:=50,rd:=t,rn:=a,az:=1 }) t (bits .and .u32 (an (ax s { iZ with form:=50,rd:=t,rn:=a,az:=1 }) a) (Rm.eG 1)) (Rm.fR 1 s.C)).s:=rfl
 rw[aP ha.1 ha.2,MO] at e
 rw[e]
 refine (cQ ht).to ?_
 unfold a_ at hA
 rw[u32_and _ 1 hA.1 (by omega) (by omega) (by omega)]
 have e:(s.R a.toNat).toNat &&& (1:Int).toNat=(s.R a.toNat).toNat % 2:=Nat.and_two_pow_sub_one_eq_mod _ 1
 rw[e]; omega
theorem f_11 {s:RS} {t:Int} (ht:0<=t/\t < 15) (hT:a_ (s.R t.toNat)):Sets s (cb s (iM 11 t 1)) t ((s.R t.toNat - 1) % 4294967296)/\(cb s (iM 11 t 1)).C=if s.R t.toNat=0 then 0 else 1:=by
 have e:cb s (iM 11 t 1)=(fB (ax s (iM 11 t 1)) t (an (ax s (iM 11 t 1)) t) (dA (IntKind.u32.wrap 1)) 1).s:=rfl
 have hc:=(BE (x:=ax s (iM 11 t 1)) (d:=t) (v:=an (ax s (iM 11 t 1)) t) (w:=dA (IntKind.u32.wrap 1)) (c:=1) (r_ (show ¬ (aa 11=18\/aa 11=19\/aa 11=21\/aa 11=22\/aa 11=27) by decide))).1
 have e1:dA (IntKind.u32.wrap 1)=4294967294:=ij (w:=1) ⟨by decide,by decide⟩
 rw[← e,aP ht.1 ht.2,e1] at hc
 rw[aP ht.1 ht.2,e1] at e
 unfold a_ at hT
 refine⟨?_,?_⟩
 ·rw[e]
  refine (jO ht.1).to ?_
  unfold Rm.fh
  rw[ye]; omega
 ·rw[hc]
  unfold Rm.iR
  rw[ye]
  split<;>omega
theorem f_39 {s:RS} {t n:Int} (hn:0<=n/\n<=4294967295):Sets s (cb s (iM 39 t n)) t ((s.R 13+n) % 4294967296):=by
 have e:cb s (iM 39 t n)=(cG (ax s (iM 39 t n)) t (IntKind.u32.wrap (an (ax s (iM 39 t n)) 13+IntKind.u32.wrap n))).s:=rfl
 rw[aP (by decide) (by decide),IntKind.wrap_u32',IntKind.wrap_u32'] at e
 rw[e]
 refine (gQ (i:=iM 39 t n) fun n h=>gn h).to ?_
 show (s.R 13+n % 4294967296) % 4294967296=_
 omega
theorem f_8 {s:RS} {t n:Int} (ht:0<=t) (hn:0<=n/\n<=4294967295):Sets s (cb s (iM 8 t n)) t n:=by
 have e:cb s (iM 8 t n)=(bX (ax s (iM 8 t n)) t (IntKind.u32.wrap n) s.C).s:=rfl
 rw[e,IntKind.wrap_u32',show n % 4294967296=n by omega]
 exact cQ ht
theorem f_60 {s:RS} {t n:Int} (ht:0<=t):Sets s (cb s (iM 60 t n)) t (Rm.eG n):=by
 have e:cb s (iM 60 t n)=(bX (ax s (iM 60 t n)) t (Rm.eG n) (Rm.fR n s.C)).s:=rfl
 rw[e]
 exact cQ ht
theorem f_61 {s:RS} {t n:Int} (ht:0<=t):Sets s (cb s (iM 61 t n)) t (4294967295 - Rm.eG n):=by
 have e:cb s (iM 61 t n)=(bX (ax s (iM 61 t n)) t (dA (Rm.eG n)) (Rm.fR n s.C)).s:=rfl
 rw[ij (Rm.nH n)] at e
 rw[e]
 exact cQ ht
theorem f_48 {s:RS} {t n:Int} (hn:0<=n/\n<=4294967295):Sets s (cb s (iM 48 t n)) t n:=by
 have e:cb s (iM 48 t n)=(cG (ax s (iM 48 t n)) t (IntKind.u32.wrap n)).s:=rfl
 rw[e,IntKind.wrap_u32',show n % 4294967296=n by omega]
 exact gQ (i:=iM 48 t n) fun n h=>gn h
theorem f_49 {s:RS} {t n:Int} (ht:0<=t/\t < 15) (hn:0<=n/\n<=65535) (hT:a_ (s.R t.toNat)):Sets s (cb s (iM 49 t n)) t (s.R t.toNat % 65536+n*65536):=by
 have e:cb s (iM 49 t n)=(cG (ax s (iM 49 t n)) t (bits .or .u32 (bits .and .u32 (an (ax s (iM 49 t n)) t) 65535) (IntKind.u32.wrap (IntKind.u32.wrap n*Ev.aV .u32 16)))).s:=rfl
 rw[aP ht.1 ht.2] at e
 rw[e]
 refine (gQ (i:=iM 49 t n) fun n h=>gn h).to ?_
 unfold a_ at hT
 rw[show Ev.aV .u32 16=65536 by decide,IntKind.wrap_u32',IntKind.wrap_u32']
 rw[u32_and _ 65535 hT.1 (by omega) (by omega) (by omega)]
 have e1:(s.R t.toNat).toNat &&& (65535:Int).toNat=(s.R t.toNat).toNat % 65536:=Nat.and_two_pow_sub_one_eq_mod _ 16
 rw[e1,show n % 4294967296*65536 % 4294967296=n*65536 by omega]
 rw[u32_or _ _ (by omega) (by omega) (by omega) (by omega)]
 have e2:((((s.R t.toNat).toNat % 65536:Nat):Int)).toNat ||| (n*65536).toNat=n.toNat*65536+(s.R t.toNat).toNat % 65536:=by
  have:=Nat.two_pow_add_eq_or_of_lt (i:=16) (b:=(s.R t.toNat).toNat % 65536) (by omega) n.toNat
  rw[Nat.or_comm,show (n*65536).toNat=2 ^ 16*n.toNat by omega,Int.toNat_natCast,← this]
  omega
 rw[e2]
 omega
theorem a_.get {s:RS} (h:eh s) (n:Nat):a_ (s.R n):=h.r n
theorem fN (x:Int):a_ (x % 4294967296):=by unfold a_; omega
theorem yf {x:Int} (hx:0<=x/\x<=4294967295) (h:Rm.kv x=0):Rm.eG (Rm.ot x)=x:=by
 unfold Rm.kv at h
 unfold Rm.ot
 cases hd:Rm.dec x.toNat with
 | none=>rw[hd] at h; simp at h
 | some n =>
  obtain⟨h1,h2⟩:=Rm.FQ x.toNat n (by omega) hd
  simp only[Option.getD_some]
  rw[Rm.gD _ x.toNat (by omega) (by omega) (by rw[Int.toNat_natCast]; exact h1)]
  omega
theorem o_1 {s:RS} {t n:Int} (ht:0<=t/\t < 15) (hn:0<=n/\n<=4294967295):Sets s (dC s (jk t n)) t n:=by
 unfold jk
 by_cases h1:n<=255
 ·rw[if_pos h1]
  exact f_8 ht.1 hn
 rw[if_neg h1]
 by_cases h2:Rm.kv n=0
 ·rw[if_pos h2]
  exact (f_60 (s:=s) (n:=Rm.ot n) ht.1).to (yf hn h2)
 rw[if_neg h2]
 by_cases h3:Rm.kv (4294967295 - n)=0
 ·rw[if_pos h3]
  refine (f_61 (s:=s) (n:=Rm.ot (4294967295 - n)) ht.1).to ?_
  rw[yf (by omega) h3]; omega
 rw[if_neg h3]
 have g:=f_48 (s:=s) (t:=t) (n:=n % 65536) (by omega)
 by_cases h4:n / 65536≠0
 ·rw[if_pos h4]
  have e:=g.at ht.1 ht.2
  have h:=f_49 (s:=cb s (iM 48 t (n % 65536))) (t:=t) (n:=n / 65536) ht (by omega) (by rw[e]; unfold a_; omega)
  refine (g.again h).to ?_
  rw[e]; omega
 ·rw[if_neg h4]
  exact g.to (by omega)
theorem o_21 {s:RS} (hs:eh s) {t a b:Int} (ht:0<=t/\t < 15) (ha:0<=a/\a < 15) (hb:0<=b/\b < 15):Sets s (dC s [iF 5 t a b,eu t,fT t]) t (if s.R a.toNat < s.R b.toNat then 1 else 0):=by
 obtain⟨g,hc⟩:=f_5 (s:=s) (t:=t) ht.1 ha hb (hs.r _) (hs.r _)
 have e:=g.at ht.1 ht.2
 have h:=vH (s:=cb s (iF 5 t a b)) ht (by rw[e]; exact fN _) (by rw[hc]; split<;>decide)
 refine (g.again h).to ?_
 rw[hc]
 split<;>rfl
theorem xor_zero {x y:Int} (hx:a_ x) (hy:a_ y):a_ (bits .xor .u32 x y)/\(bits .xor .u32 x y=0↔x=y):=by
 refine⟨(dX hx hy).2.2.1,?_⟩
 unfold a_ at hx hy
 rw[u32_xor x y hx.1 (by omega) hy.1 (by omega)]
 refine⟨fun h=>?_,fun h=>by rw[h,Nat.xor_self]; rfl⟩
 have h:x.toNat ^^^ y.toNat=0:=by omega
 have:x.toNat=(x.toNat ^^^ y.toNat) ^^^ y.toNat:=by rw[Nat.xor_assoc,Nat.xor_self,Nat.xor_zero]
 rw[h,Nat.zero_xor] at this
 omega
theorem o_22 {s:RS} (hs:eh s) {t a b:Int} (ht:0<=t/\t < 15) (ha:0<=a/\a < 15) (hb:0<=b/\b < 15):Sets s (dC s [iF 70 t a b,iM 11 t 1,eu t,fT t]) t (if s.R a.toNat=s.R b.toNat then 1 else 0):=by
 obtain⟨g,_⟩:=ZD (s:=s) (t:=t) ht.1 ha hb (hs.r _)
 obtain⟨hu,hz⟩:=xor_zero (hs.r a.toNat) (hs.r b.toNat)
 have e:=g.at ht.1 ht.2
 obtain⟨h,hc⟩:=f_11 (s:=cb s (iF 70 t a b)) ht (by rw[e]; exact hu)
 have g2:=g.again h
 have e2:=g2.at ht.1 ht.2
 have h3:=vH (s:=cb (cb s (iF 70 t a b)) (iM 11 t 1)) ht (by rw[e2]; exact fN _) (by rw[hc]; split<;>decide)
 refine (g2.again h3).to ?_
 rw[hc,e]
 by_cases hq:s.R a.toNat=s.R b.toNat
 ·rw[if_pos hq,if_pos (hz.2 hq)]; rfl
 ·rw[if_neg hq,if_neg (fun k=>hq (hz.1 k))]; rfl
def BF (s s':RS) (d v e w:Int):Prop:=∀ n:Nat,n < 15->s'.R n=kx (kx s.R d v) e w n
theorem Sets.two {s s' t:RS} {d v e w:Int} (h:Sets s s' d v) (g:Sets s' t e w):BF s t d v e w:=fun n hn=>by
 rw[g n hn]
 unfold kx
 split
 ·rfl
 ·exact h n hn
theorem o_23 {s:RS} (hs:eh s) {t u a b c d:Int} (ht:0<=t/\t < 15) (hu:0<=u/\u < 15) (ha:0<=a/\a < 15) (hb:0<=b/\b < 15) (hc:0<=c/\c < 15) (hd:0<=d/\d < 15) (h1:t≠b) (h2:t≠d):BF s (dC s [iF 4 t a c,iF 72 u b d]) t ((s.R b.toNat*4294967296+s.R a.toNat+(s.R d.toNat*4294967296+s.R c.toNat)) % 18446744073709551616 % 4294967296) u ((s.R b.toNat*4294967296+s.R a.toNat+(s.R d.toNat*4294967296+s.R c.toNat)) % 18446744073709551616 / 4294967296):=by
 obtain⟨g,gc⟩:=f_4 (s:=s) (t:=t) ht.1 ha hc
 have eb:(cb s (iF 4 t a c)).R b.toNat=s.R b.toNat:=g.get (by omega) (by omega)
 have ed:(cb s (iF 4 t a c)).R d.toNat=s.R d.toNat:=g.get (by omega) (by omega)
 have A:=hs.r a.toNat; have B:=hs.r b.toNat; have C:=hs.r c.toNat; have D:=hs.r d.toNat
 unfold a_ at A B C D
 have h:=f_72 (s:=cb s (iF 4 t a c)) (t:=u) hu.1 hb hd (by rw[ed]; exact hs.r _) (by rw[gc]; omega)
 rw[eb,ed,gc] at h
 have:=(g.to (w:=(s.R b.toNat*4294967296+s.R a.toNat+(s.R d.toNat*4294967296+s.R c.toNat)) % 18446744073709551616 % 4294967296) (by omega)).two (h.to (w:=(s.R b.toNat*4294967296+s.R a.toNat+(s.R d.toNat*4294967296+s.R c.toNat)) % 18446744073709551616 / 4294967296) (by omega))
 exact this
theorem o_24 {s:RS} (hs:eh s) {t u a b c d:Int} (ht:0<=t/\t < 15) (hu:0<=u/\u < 15) (ha:0<=a/\a < 15) (hb:0<=b/\b < 15) (hc:0<=c/\c < 15) (hd:0<=d/\d < 15) (h1:t≠b) (h2:t≠d):BF s (dC s [iF 5 t a c,iF 73 u b d]) t ((s.R b.toNat*4294967296+s.R a.toNat - (s.R d.toNat*4294967296+s.R c.toNat)) % 18446744073709551616 % 4294967296) u ((s.R b.toNat*4294967296+s.R a.toNat - (s.R d.toNat*4294967296+s.R c.toNat)) % 18446744073709551616 / 4294967296):=by
 obtain⟨g,gc⟩:=f_5 (s:=s) (t:=t) ht.1 ha hc (hs.r _) (hs.r _)
 have eb:(cb s (iF 5 t a c)).R b.toNat=s.R b.toNat:=g.get (by omega) (by omega)
 have ed:(cb s (iF 5 t a c)).R d.toNat=s.R d.toNat:=g.get (by omega) (by omega)
 have A:=hs.r a.toNat; have B:=hs.r b.toNat; have C:=hs.r c.toNat; have D:=hs.r d.toNat
 unfold a_ at A B C D
 have h:=(UE (s:=cb s (iF 5 t a c)) (t:=u) 0 hu.1 hb hd (by rw[eb]; exact hs.r _) (by rw[ed]; exact hs.r _) (by rw[gc]; split<;>decide)).1
 rw[eb,ed,gc] at h
 exact (g.to (w:=(s.R b.toNat*4294967296+s.R a.toNat - (s.R d.toNat*4294967296+s.R c.toNat)) % 18446744073709551616 % 4294967296) (by omega)).two (h.to (w:=(s.R b.toNat*4294967296+s.R a.toNat - (s.R d.toNat*4294967296+s.R c.toNat)) % 18446744073709551616 / 4294967296) (by split<;>omega))
theorem o_25 {s:RS} (hs:eh s) {t a b c d:Int} (ht:0<=t/\t < 15) (ha:0<=a/\a < 15) (hb:0<=b/\b < 15) (hc:0<=c/\c < 15) (hd:0<=d/\d < 15) (h1:t≠b) (h2:t≠d):Sets s (dC s [iF 5 t a c,{ iF 73 t b d with set:=1 },eu t,fT t]) t (if s.R b.toNat*4294967296+s.R a.toNat < s.R d.toNat*4294967296+s.R c.toNat then 1 else 0):=by
 obtain⟨g,gc⟩:=f_5 (s:=s) (t:=t) ht.1 ha hc (hs.r _) (hs.r _)
 have eb:(cb s (iF 5 t a c)).R b.toNat=s.R b.toNat:=g.get (by omega) (by omega)
 have ed:(cb s (iF 5 t a c)).R d.toNat=s.R d.toNat:=g.get (by omega) (by omega)
 have A:=hs.r a.toNat; have B:=hs.r b.toNat; have C:=hs.r c.toNat; have D:=hs.r d.toNat
 unfold a_ at A B C D
 obtain⟨h,jq⟩:=UE (s:=cb s (iF 5 t a c)) (t:=t) 1 ht.1 hb hd (by rw[eb]; exact hs.r _) (by rw[ed]; exact hs.r _) (by rw[gc]; split<;>decide)
 have jq:=jq rfl
 rw[eb,ed,gc] at jq
 have g2:=g.again h
 have e2:=g2.at ht.1 ht.2
 have h3:=vH (s:=cb (cb s (iF 5 t a c)) { iF 73 t b d with set:=1 }) ht (by rw[e2]; exact fN _) (by rw[jq]; (repeat' split)<;>omega)
 refine (g2.again h3).to ?_
 rw[jq]
 by_cases hq:s.R a.toNat < s.R c.toNat
 ·rw[if_pos hq]
  split<;>split<;>omega
 ·rw[if_neg hq]
  split<;>split<;>omega
theorem o_27 {s:RS} (hs:eh s) {t a:Int} (ht:0<=t/\t < 15) (ha:0<=a/\a < 15):Sets s (dC s [{ iZ with form:=50,rd:=t,rn:=a,az:=1 },{ iZ with form:=59,rd:=t,rn:=t }]) t ((-(s.R a.toNat % 2)) % 4294967296):=by
 have g:=f_50 (s:=s) (t:=t) ht.1 ha (hs.r _)
 have e:=g.at ht.1 ht.2
 have h:=ZE (s:=cb s { iZ with form:=50,rd:=t,rn:=a,az:=1 }) (t:=t) (a:=t) ht.1 ht (by rw[e]; unfold a_; omega)
 refine (g.again h).to ?_
 rw[e]
end Go.Proofs.YtlgkljpgagfndaaGreatDoor.Pw

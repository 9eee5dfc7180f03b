/- What this claim is proved with: no condition. -/
import Derived.Test.YtlgkljpgagfndaaGreatDoorNu28
set_option linter.unusedVariables false
set_option linter.unusedSimpArgs false
namespace Go.Proofs.YtlgkljpgagfndaaGreatDoor.Pw
open Go Go.RowKit
def bY (s:RS) (i:IN):RS:=(eZ (ak s i)).s
def ez (s:RS) (l:List IN):RS:=l.foldl bY s
theorem V_ {m:MS} {s:RS} {i:IN} (h:KC i.form):kU m (ak s i)=eZ (ak s i):=by
 unfold kU
 rw[if_neg (fun e=>e h.2),if_neg (show ¬ (ak s i).i.form=42 from h.1.2.1),if_neg (show ¬ (ak s i).i.form=43 from h.1.2.2)]
theorem aH {s:RS} {i:IN} {r:Int} (h0:0<=r) (h1:r < 15):ao (ak s i) r=s.R r.toNat:=by
 unfold ao
 rw[if_neg (by omega)]
 show kS s.R 15 _ r.toNat=_
 unfold kS
 rw[if_neg (by omega)]
def Sets (s s':RS) (d v:Int):Prop:=∀ n:Nat,n < 15->s'.R n=kS s.R d v n
theorem e9 {s:RS} {i:IN} {n:Nat} (h:n < 15):(ak s i).s.R n=s.R n:=by
 show kS s.R 15 _ n=_
 unfold kS
 rw[if_neg (by omega)]
theorem im {s:RS} {i:IN} {x:XS} {d v:Int} (hx:∀ n:Nat,n < 15->x.s.R n=s.R n):Sets s (cI x d v).s d v:=fun n h=>by
 show kS x.s.R d v n=_
 unfold kS
 rw[hx n h]
theorem kg {s:RS} {i:IN} {d v w c:Int} (hd:0<=d):Sets s (fm (ak s i) d v w c).s d (Rm.fj v w c):=by
 unfold fm
 rw[if_pos hd]
 refine im (i:=i) fun n h=>?_
 split
 ·exact e9 h
 ·exact e9 h
theorem cR {s:RS} {i:IN} {d v c:Int} (hd:0<=d):Sets s (bZ (ak s i) d v c).s d v:=by
 unfold bZ
 rw[if_pos hd]
 refine im (i:=i) fun n h=>?_
 split
 ·exact e9 h
 ·exact e9 h
theorem zh {s:RS} {i:IN} {v w c:Int}:∀ n:Nat,n < 15->(fm (ak s i) (-1) v w c).s.R n=s.R n:=fun n h=>by
 unfold fm
 rw[if_neg (by decide)]
 split
 ·exact e9 h
 ·exact e9 h
theorem vc {x:XS} {d v w c:Int} (h:en x):(fm x d v w c).s.C=Rm.iG v w c/\(fm x d v w c).s.Z=if Rm.fj v w c=0 then 1 else 0:=by
 unfold fm
 rw[if_pos h]
 split<;>exact⟨rfl,rfl⟩
theorem lZ {x:XS} (h:¬ (aa x.i.form=18\/aa x.i.form=19\/aa x.i.form=21\/aa x.i.form=22\/aa x.i.form=27)):en x:=fun k=>absurd k h
theorem Sets.get {s s':RS} {d v:Int} (h:Sets s s' d v) {n:Nat} (hn:n < 15) (hd:d≠(n:Int)):s'.R n=s.R n:=by
 rw[h n hn]
 unfold kS
 rw[if_neg hd]
theorem Sets.at {s s':RS} {d v:Int} (h:Sets s s' d v) (h0:0<=d) (h1:d < 15):s'.R d.toNat=v:=by
 rw[h d.toNat (by omega)]
 unfold kS
 rw[if_pos (by omega)]
theorem Sets.again {s s' t:RS} {d v w:Int} (h:Sets s s' d v) (g:Sets s' t d w):Sets s t d w:=fun n hn=>by
 rw[g n hn]
 unfold kS
 split
 ·rfl
 ·rw[h n hn]
  unfold kS
  rw[if_neg (by assumption)]
theorem Sets.to {s s':RS} {d v w:Int} (h:Sets s s' d v) (e:v=w):Sets s s' d w:=e ▸ h
theorem Ps:Rm.kR 0=0:=rfl
theorem qg:Rm.kR 1=1:=rfl
theorem J3 {c:Int} (h:0<=c/\c<=1):Rm.kR c=c:=by unfold Rm.kR; omega
theorem tk {k x:Int} (h:0<=x):il k x 0=x:=by
 show ((x.toNat:Nat):Int)=x
 omega
theorem f_4 {s:RS} {t a b:Int} (ht:0<=t) (ha:0<=a/\a < 15) (hb:0<=b/\b < 15):Sets s (bY s (iF 4 t a b)) t ((s.R a.toNat+s.R b.toNat) % 4294967296)/\(bY s (iF 4 t a b)).C=(s.R a.toNat+s.R b.toNat) / 4294967296:=by
 have e:bY s (iF 4 t a b)=(fm (ak s (iF 4 t a b)) t (ao (ak s (iF 4 t a b)) a) (ao (ak s (iF 4 t a b)) b) 0).s:=rfl
 have hc:=(vc (x:=ak s (iF 4 t a b)) (d:=t) (v:=ao (ak s (iF 4 t a b)) a) (w:=ao (ak s (iF 4 t a b)) b) (c:=0) (lZ (show ¬ (aa 4=18\/aa 4=19\/aa 4=21\/aa 4=22\/aa 4=27) by decide))).1
 rw[← e,aH ha.1 ha.2,aH hb.1 hb.2] at hc
 rw[aH ha.1 ha.2,aH hb.1 hb.2] at e
 refine⟨?_,?_⟩
 ·rw[e]
  refine (kg ht).to ?_
  unfold Rm.fj
  rw[Ps,Int.add_zero]
 ·rw[hc]
  unfold Rm.iG
  rw[Ps,Int.add_zero]
theorem f_5 {s:RS} {t a b:Int} (ht:0<=t) (ha:0<=a/\a < 15) (hb:0<=b/\b < 15) (hA:aY (s.R a.toNat)) (hB:aY (s.R b.toNat)):Sets s (bY s (iF 5 t a b)) t ((s.R a.toNat - s.R b.toNat) % 4294967296)/\(bY s (iF 5 t a b)).C=if s.R a.toNat < s.R b.toNat then 0 else 1:=by
 have e:bY s (iF 5 t a b)=(fm (ak s (iF 5 t a b)) t (ao (ak s (iF 5 t a b)) a) (dt (ao (ak s (iF 5 t a b)) b)) 1).s:=rfl
 have hc:=(vc (x:=ak s (iF 5 t a b)) (d:=t) (v:=ao (ak s (iF 5 t a b)) a) (w:=dt (ao (ak s (iF 5 t a b)) b)) (c:=1) (lZ (show ¬ (aa 5=18\/aa 5=19\/aa 5=21\/aa 5=22\/aa 5=27) by decide))).1
 rw[← e,aH ha.1 ha.2,aH hb.1 hb.2,gH hB] at hc
 rw[aH ha.1 ha.2,aH hb.1 hb.2,gH hB] at e
 unfold aY at hA hB
 refine⟨?_,?_⟩
 ·rw[e]
  refine (kg ht).to ?_
  unfold Rm.fj
  rw[qg]; omega
 ·rw[hc]
  unfold Rm.iG
  rw[qg]
  split<;>omega
theorem f_72 {s:RS} {t a b:Int} (ht:0<=t) (ha:0<=a/\a < 15) (hb:0<=b/\b < 15) (hB:aY (s.R b.toNat)) (hc:0<=s.C/\s.C<=1):Sets s (bY s (iF 72 t a b)) t ((s.R a.toNat+s.R b.toNat+s.C) % 4294967296):=by
 have e:bY s (iF 72 t a b)=(fm (ak s (iF 72 t a b)) t (ao (ak s (iF 72 t a b)) a) (il 0 (ao (ak s (iF 72 t a b)) b) 0) s.C).s:=rfl
 rw[aH ha.1 ha.2,aH hb.1 hb.2,tk hB.1] at e
 rw[e]
 refine (kg ht).to ?_
 unfold Rm.fj
 rw[J3 hc]
theorem Wb {s:RS} {t a b:Int} (st:Int) (ht:0<=t) (ha:0<=a/\a < 15) (hb:0<=b/\b < 15) (hA:aY (s.R a.toNat)) (hB:aY (s.R b.toNat)) (hc:0<=s.C/\s.C<=1):Sets s (bY s { iF 73 t a b with set:=st }) t ((s.R a.toNat - s.R b.toNat - 1+s.C) % 4294967296)/\(st=1->(bY s { iF 73 t a b with set:=st }).C=if s.R a.toNat+s.C < s.R b.toNat+1 then 0 else 1):=by
 have e:bY s { iF 73 t a b with set:=st }=(fm (ak s { iF 73 t a b with set:=st }) t (ao (ak s { iF 73 t a b with set:=st }) a) (dt (il 0 (ao (ak s { iF 73 t a b with set:=st }) b) 0)) s.C).s:=rfl
 have iP:=fun h=>(vc (x:=ak s { iF 73 t a b with set:=st }) (d:=t) (v:=ao (ak s { iF 73 t a b with set:=st }) a) (w:=dt (il 0 (ao (ak s { iF 73 t a b with set:=st }) b) 0)) (c:=s.C) h).1
 rw[← e,aH ha.1 ha.2,aH hb.1 hb.2,tk hB.1,gH hB] at iP
 rw[aH ha.1 ha.2,aH hb.1 hb.2,tk hB.1,gH hB] at e
 unfold aY at hA hB
 refine⟨?_,fun h=>?_⟩
 ·rw[e]
  refine (kg ht).to ?_
  unfold Rm.fj
  rw[J3 hc]; omega
 ·rw[iP (fun _=>h)]
  unfold Rm.iG
  rw[J3 hc]
  split<;>omega
theorem J4 {s:RS} {t:Int} (ht:0<=t/\t < 15) (hT:aY (s.R t.toNat)) (hc:0<=s.C/\s.C<=1):Sets s (bY s (eH t)) t (if s.C=0 then 4294967295 else 0):=by
 refine (Wb (s:=s) (t:=t) (a:=t) (b:=t) 0 ht.1 ht ht hT hT hc).1.to ?_
 split<;>omega
theorem Pt:∀ (n x:Nat),Rm.qO 1 n x=x / 2 ^ n
 | 0,x=>by rw[Nat.pow_zero,Nat.div_one]; rfl
 | n+1,x=>by
  rw[Rm.qO,Pt n x]
  show (Rm.nc 1 (x / 2 ^ n))=_
  rw[Nat.pow_succ,← Nat.div_div_eq_div_mul]
  rfl
theorem f_2 {s:RS} {t a n:Int} (ht:0<=t) (ha:0<=a/\a < 15):Sets s (bY s { iZ with form:=2,rd:=t,rm:=a,ay:=n }) t (il 1 (s.R a.toNat) n):=by
 have e:bY s { iZ with form:=2,rd:=t,rm:=a,ay:=n }=(bZ (ak s { iZ with form:=2,rd:=t,rm:=a,ay:=n }) t (il 1 (ao (ak s { iZ with form:=2,rd:=t,rm:=a,ay:=n }) a) n) (tW 1 (ao (ak s { iZ with form:=2,rd:=t,rm:=a,ay:=n }) a) n s.C)).s:=rfl
 rw[aH ha.1 ha.2] at e
 rw[e]
 exact cR ht
theorem N8 {s:RS} {t:Int} (ht:0<=t/\t < 15) (hT:0<=s.R t.toNat):Sets s (bY s (gj t)) t (s.R t.toNat / 2147483648):=by
 refine (f_2 (s:=s) (t:=t) (a:=t) (n:=31) ht.1 ht).to ?_
 unfold il
 rw[show (31:Int).toNat=31 from rfl,Pt]
 omega
theorem wU {s:RS} {t:Int} (ht:0<=t/\t < 15) (hT:aY (s.R t.toNat)) (hc:0<=s.C/\s.C<=1):Sets s (ez s [eH t,gj t]) t (1 - s.C):=by
 have h1:=J4 ht hT hc
 have e1:=h1.at ht.1 ht.2
 have h2:=N8 (s:=bY s (eH t)) ht (by rw[e1]; split<;>decide)
 refine (h1.again h2).to ?_
 rw[e1]
 split<;>omega
theorem f_66 {s:RS} {t a b:Int} (ht:0<=t) (ha:0<=a/\a < 15) (hb:0<=b/\b < 15) (hB:aY (s.R b.toNat)):Sets s (bY s (iF 66 t a b)) t (bits .and .u32 (s.R a.toNat) (s.R b.toNat))/\(bY s (iF 66 t a b)).C=s.C:=by
 have e:bY s (iF 66 t a b)=(bZ (ak s (iF 66 t a b)) t (bits .and .u32 (ao (ak s (iF 66 t a b)) a) (il 0 (ao (ak s (iF 66 t a b)) b) 0)) (tW 0 (ao (ak s (iF 66 t a b)) b) 0 s.C)).s:=rfl
 rw[aH ha.1 ha.2,aH hb.1 hb.2,tk hB.1] at e
 rw[e]
 exact⟨cR ht,by unfold bZ; rw[if_pos ht]; rfl⟩
theorem f_68 {s:RS} {t a b:Int} (ht:0<=t) (ha:0<=a/\a < 15) (hb:0<=b/\b < 15) (hB:aY (s.R b.toNat)):Sets s (bY s (iF 68 t a b)) t (bits .or .u32 (s.R a.toNat) (s.R b.toNat))/\(bY s (iF 68 t a b)).C=s.C:=by
 have e:bY s (iF 68 t a b)=(bZ (ak s (iF 68 t a b)) t (bits .or .u32 (ao (ak s (iF 68 t a b)) a) (il 0 (ao (ak s (iF 68 t a b)) b) 0)) (tW 0 (ao (ak s (iF 68 t a b)) b) 0 s.C)).s:=rfl
 rw[aH ha.1 ha.2,aH hb.1 hb.2,tk hB.1] at e
 rw[e]
 exact⟨cR ht,by unfold bZ; rw[if_pos ht]; rfl⟩
theorem f_70 {s:RS} {t a b:Int} (ht:0<=t) (ha:0<=a/\a < 15) (hb:0<=b/\b < 15) (hB:aY (s.R b.toNat)):Sets s (bY s (iF 70 t a b)) t (bits .xor .u32 (s.R a.toNat) (s.R b.toNat))/\(bY s (iF 70 t a b)).C=s.C:=by
 have e:bY s (iF 70 t a b)=(bZ (ak s (iF 70 t a b)) t (bits .xor .u32 (ao (ak s (iF 70 t a b)) a) (il 0 (ao (ak s (iF 70 t a b)) b) 0)) (tW 0 (ao (ak s (iF 70 t a b)) b) 0 s.C)).s:=rfl
 rw[aH ha.1 ha.2,aH hb.1 hb.2,tk hB.1] at e
 rw[e]
 exact⟨cR ht,by unfold bZ; rw[if_pos ht]; rfl⟩
theorem f_92 {s:RS} {t a b:Int} (ha:0<=a/\a < 15) (hb:0<=b/\b < 15):Sets s (bY s (iF 92 t a b)) t (s.R a.toNat*s.R b.toNat % 4294967296):=by
 have e:bY s (iF 92 t a b)=(cI (ak s (iF 92 t a b)) t (ao (ak s (iF 92 t a b)) a*ao (ak s (iF 92 t a b)) b % 4294967296)).s:=rfl
 rw[aH ha.1 ha.2,aH hb.1 hb.2] at e
 rw[e]
 exact im (i:=iF 92 t a b) fun n h=>e9 h
theorem f_95 {s:RS} {t a b h:Int} (ha:0<=a/\a < 15) (hb:0<=b/\b < 15):∀ n:Nat,n < 15->(bY s { iF 95 t a b with ra:=h }).R n=kS (kS s.R t (s.R a.toNat*s.R b.toNat % 4294967296)) h (s.R a.toNat*s.R b.toNat / 4294967296) n:=fun n hn=>by
 have e:bY s { iF 95 t a b with ra:=h }=(cI (cI (ak s { iF 95 t a b with ra:=h }) t (ao (ak s { iF 95 t a b with ra:=h }) a*ao (ak s { iF 95 t a b with ra:=h }) b % 4294967296)) h (ao (ak s { iF 95 t a b with ra:=h }) a*ao (ak s { iF 95 t a b with ra:=h }) b / 4294967296)).s:=rfl
 rw[aH ha.1 ha.2,aH hb.1 hb.2] at e
 rw[e]
 show kS (kS (ak s { iF 95 t a b with ra:=h }).s.R t _) h _ n=_
 unfold kS
 rw[e9 hn]
theorem f_97 {s:RS} {t a b:Int} (ha:0<=a/\a < 15) (hb:0<=b/\b < 15) (hA:aY (s.R a.toNat)) (hB:aY (s.R b.toNat)):Sets s (bY s (iF 97 t a b)) t (if 0 < s.R b.toNat then s.R a.toNat / s.R b.toNat else 0):=by
 have e:bY s (iF 97 t a b)=(cI { ak s (iF 97 t a b) with a:=ao (ak s (iF 97 t a b)) a,b:=ao (ak s (iF 97 t a b)) b } t (IntKind.u32.wrap (ao (ak s (iF 97 t a b)) a / max (ao (ak s (iF 97 t a b)) b) 1*min (ao (ak s (iF 97 t a b)) b) 1))).s:=rfl
 rw[aH ha.1 ha.2,aH hb.1 hb.2] at e
 rw[e]
 refine (im (i:=iF 97 t a b) fun n h=>e9 h).to ?_
 unfold aY at hA hB
 generalize s.R a.toNat=A at *
 generalize s.R b.toNat=B at *
 rw[IntKind.wrap_u32']
 by_cases h:0 < B
 ·rw[if_pos h,Int.max_eq_left (by omega),Int.min_eq_right (by omega),Int.mul_one]
  have h1:0<=A / B:=Int.ediv_nonneg hA.1 hB.1
  have h2:A / B<=A:=Int.ediv_le_self _ hA.1
  omega
 ·rw[if_neg h,show B=0 by omega]
  show A / 1*0 % 4294967296=0
  omega
theorem f_94 {s:RS} {t a b c:Int} (ha:0<=a/\a < 15) (hb:0<=b/\b < 15) (hc:0<=c/\c < 15):Sets s (bY s { iF 94 t a b with ra:=c }) t ((s.R c.toNat - s.R a.toNat*s.R b.toNat % 4294967296) % 4294967296):=by
 have e:bY s { iF 94 t a b with ra:=c }=(cI (ak s { iF 94 t a b with ra:=c }) t (IntKind.u32.wrap (ao (ak s { iF 94 t a b with ra:=c }) c - (ao (ak s { iF 94 t a b with ra:=c }) a*ao (ak s { iF 94 t a b with ra:=c }) b % 4294967296)))).s:=rfl
 rw[aH ha.1 ha.2,aH hb.1 hb.2,aH hc.1 hc.2,IntKind.wrap_u32'] at e
 rw[e]
 exact im (i:=iF 97 t a b) fun n h=>e9 h
theorem wV {x:Int} (h:aY x):bits .and .u32 x 255=x % 256:=by
 unfold aY at h
 rw[u32_and x 255 h.1 (by omega) (by omega) (by omega)]
 have e:x.toNat &&& (255:Int).toNat=x.toNat % 256:=Nat.and_two_pow_sub_one_eq_mod x.toNat 8
 rw[e]; omega
theorem f_88 {s:RS} {t a b:Int} (ht:0<=t) (ha:0<=a/\a < 15) (hb:0<=b/\b < 15) (hB:aY (s.R b.toNat)):Sets s (bY s (iF 88 t a b)) t (il 0 (s.R a.toNat) (s.R b.toNat % 256)):=by
 have e:bY s (iF 88 t a b)=(bZ (ak s (iF 88 t a b)) t (il 0 (ao (ak s (iF 88 t a b)) a) (bits .and .u32 (ao (ak s (iF 88 t a b)) b) 255)) (tW 0 (ao (ak s (iF 88 t a b)) a) (bits .and .u32 (ao (ak s (iF 88 t a b)) b) 255) s.C)).s:=rfl
 rw[aH ha.1 ha.2,aH hb.1 hb.2,wV hB] at e
 rw[e]
 exact cR ht
theorem f_89 {s:RS} {t a b:Int} (ht:0<=t) (ha:0<=a/\a < 15) (hb:0<=b/\b < 15) (hB:aY (s.R b.toNat)):Sets s (bY s (iF 89 t a b)) t (il 1 (s.R a.toNat) (s.R b.toNat % 256)):=by
 have e:bY s (iF 89 t a b)=(bZ (ak s (iF 89 t a b)) t (il 1 (ao (ak s (iF 89 t a b)) a) (bits .and .u32 (ao (ak s (iF 89 t a b)) b) 255)) (tW 1 (ao (ak s (iF 89 t a b)) a) (bits .and .u32 (ao (ak s (iF 89 t a b)) b) 255) s.C)).s:=rfl
 rw[aH ha.1 ha.2,aH hb.1 hb.2,wV hB] at e
 rw[e]
 exact cR ht
theorem f_91 {s:RS} {t a b:Int} (ht:0<=t) (ha:0<=a/\a < 15) (hb:0<=b/\b < 15) (hB:aY (s.R b.toNat)):Sets s (bY s (iF 91 t a b)) t (il 3 (s.R a.toNat) (s.R b.toNat % 256)):=by
 have e:bY s (iF 91 t a b)=(bZ (ak s (iF 91 t a b)) t (il 3 (ao (ak s (iF 91 t a b)) a) (bits .and .u32 (ao (ak s (iF 91 t a b)) b) 255)) (tW 3 (ao (ak s (iF 91 t a b)) a) (bits .and .u32 (ao (ak s (iF 91 t a b)) b) 255) s.C)).s:=rfl
 rw[aH ha.1 ha.2,aH hb.1 hb.2,wV hB] at e
 rw[e]
 exact cR ht
theorem f_77 {s:RS} {t a:Int} (ht:0<=t) (ha:0<=a/\a < 15) (hA:aY (s.R a.toNat)):Sets s (bY s { iZ with form:=77,rd:=t,rm:=a }) t (4294967295 - s.R a.toNat):=by
 have e:bY s { iZ with form:=77,rd:=t,rm:=a }=(bZ (ak s { iZ with form:=77,rd:=t,rm:=a }) t (dt (il 0 (ao (ak s { iZ with form:=77,rd:=t,rm:=a }) a) 0)) (tW 0 (ao (ak s { iZ with form:=77,rd:=t,rm:=a }) a) 0 s.C)).s:=rfl
 rw[aH ha.1 ha.2,tk hA.1,gH hA] at e
 rw[e]
 exact cR ht
theorem f_1 {s:RS} {t a n:Int} (ht:0<=t) (ha:0<=a/\a < 15):Sets s (bY s { iZ with form:=1,rd:=t,rm:=a,ay:=n }) t (il 0 (s.R a.toNat) n):=by
 have e:bY s { iZ with form:=1,rd:=t,rm:=a,ay:=n }=(bZ (ak s { iZ with form:=1,rd:=t,rm:=a,ay:=n }) t (il 0 (ao (ak s { iZ with form:=1,rd:=t,rm:=a,ay:=n }) a) n) (tW 0 (ao (ak s { iZ with form:=1,rd:=t,rm:=a,ay:=n }) a) n s.C)).s:=rfl
 rw[aH ha.1 ha.2] at e
 rw[e]
 exact cR ht
theorem f_76 {s:RS} {t a n:Int} (ht:0<=t) (ha:0<=a/\a < 15):Sets s (bY s { iZ with form:=76,rd:=t,rm:=a,kind:=3,bF:=n }) t (il 3 (s.R a.toNat) n):=by
 have e:bY s { iZ with form:=76,rd:=t,rm:=a,kind:=3,bF:=n }=(bZ (ak s { iZ with form:=76,rd:=t,rm:=a,kind:=3,bF:=n }) t (il 3 (ao (ak s { iZ with form:=76,rd:=t,rm:=a,kind:=3,bF:=n }) a) n) (tW 3 (ao (ak s { iZ with form:=76,rd:=t,rm:=a,kind:=3,bF:=n }) a) n s.C)).s:=rfl
 rw[aH ha.1 ha.2] at e
 rw[e]
 exact cR ht
theorem N9:Rm.dD 0=0:=by decide +kernel
theorem N':Rm.dD 1=1:=by decide +kernel
theorem f_59 {s:RS} {t a:Int} (ht:0<=t) (ha:0<=a/\a < 15) (hA:aY (s.R a.toNat)):Sets s (bY s { iZ with form:=59,rd:=t,rn:=a }) t ((-s.R a.toNat) % 4294967296):=by
 have e:bY s { iZ with form:=59,rd:=t,rn:=a }=(fm (ak s { iZ with form:=59,rd:=t,rn:=a }) t (Rm.dD 0) (dt (ao (ak s { iZ with form:=59,rd:=t,rn:=a }) a)) 1).s:=rfl
 rw[aH ha.1 ha.2,gH hA,N9] at e
 rw[e]
 refine (kg ht).to ?_
 unfold Rm.fj
 rw[qg]; omega
theorem f_50 {s:RS} {t a:Int} (ht:0<=t) (ha:0<=a/\a < 15) (hA:aY (s.R a.toNat)):Sets s (bY s { iZ with form:=50,rd:=t,rn:=a,ay:=1 }) t (s.R a.toNat % 2):=by
 have e:bY s { iZ with form:=50,rd:=t,rn:=a,ay:=1 }=(bZ (ak s { iZ with form:=50,rd:=t,rn:=a,ay:=1 }) t (bits .and .u32 (ao (ak s { iZ with form:=50,rd:=t,rn:=a,ay:=1 }) a) (Rm.dD 1)) (Rm.gg 1 s.C)).s:=rfl
 rw[aH ha.1 ha.2,N'] at e
 rw[e]
 refine (cR ht).to ?_
 unfold aY at hA
 rw[u32_and _ 1 hA.1 (by omega) (by omega) (by omega)]
 have e:(s.R a.toNat).toNat &&& (1:Int).toNat=(s.R a.toNat).toNat % 2:=Nat.and_two_pow_sub_one_eq_mod _ 1
 rw[e]; omega
theorem f_11 {s:RS} {t:Int} (ht:0<=t/\t < 15) (hT:aY (s.R t.toNat)):Sets s (bY s (iM 11 t 1)) t ((s.R t.toNat - 1) % 4294967296)/\(bY s (iM 11 t 1)).C=if s.R t.toNat=0 then 0 else 1:=by
 have e:bY s (iM 11 t 1)=(fm (ak s (iM 11 t 1)) t (ao (ak s (iM 11 t 1)) t) (dt (IntKind.u32.wrap 1)) 1).s:=rfl
 have hc:=(vc (x:=ak s (iM 11 t 1)) (d:=t) (v:=ao (ak s (iM 11 t 1)) t) (w:=dt (IntKind.u32.wrap 1)) (c:=1) (lZ (show ¬ (aa 11=18\/aa 11=19\/aa 11=21\/aa 11=22\/aa 11=27) by decide))).1
 have e1:dt (IntKind.u32.wrap 1)=4294967294:=gH (w:=1) ⟨by decide,by decide⟩
 rw[← e,aH ht.1 ht.2,e1] at hc
 rw[aH ht.1 ht.2,e1] at e
 unfold aY at hT
 refine⟨?_,?_⟩
 ·rw[e]
  refine (kg ht.1).to ?_
  unfold Rm.fj
  rw[qg]; omega
 ·rw[hc]
  unfold Rm.iG
  rw[qg]
  split<;>omega
theorem f_39 {s:RS} {t n:Int} (hn:0<=n/\n<=4294967295):Sets s (bY s (iM 39 t n)) t ((s.R 13+n) % 4294967296):=by
 have e:bY s (iM 39 t n)=(cI (ak s (iM 39 t n)) t (IntKind.u32.wrap (ao (ak s (iM 39 t n)) 13+IntKind.u32.wrap n))).s:=rfl
 rw[aH (by decide) (by decide),IntKind.wrap_u32',IntKind.wrap_u32'] at e
 rw[e]
 refine (im (i:=iM 39 t n) fun n h=>e9 h).to ?_
 show (s.R 13+n % 4294967296) % 4294967296=_
 omega
theorem f_8 {s:RS} {t n:Int} (ht:0<=t) (hn:0<=n/\n<=4294967295):Sets s (bY s (iM 8 t n)) t n:=by
 have e:bY s (iM 8 t n)=(bZ (ak s (iM 8 t n)) t (IntKind.u32.wrap n) s.C).s:=rfl
 rw[e,IntKind.wrap_u32',show n % 4294967296=n by omega]
 exact cR ht
theorem f_60 {s:RS} {t n:Int} (ht:0<=t):Sets s (bY s (iM 60 t n)) t (Rm.dD n):=by
 have e:bY s (iM 60 t n)=(bZ (ak s (iM 60 t n)) t (Rm.dD n) (Rm.gg n s.C)).s:=rfl
 rw[e]
 exact cR ht
theorem f_61 {s:RS} {t n:Int} (ht:0<=t):Sets s (bY s (iM 61 t n)) t (4294967295 - Rm.dD n):=by
 have e:bY s (iM 61 t n)=(bZ (ak s (iM 61 t n)) t (dt (Rm.dD n)) (Rm.gg n s.C)).s:=rfl
 rw[gH (Rm.lM n)] at e
 rw[e]
 exact cR ht
theorem f_48 {s:RS} {t n:Int} (hn:0<=n/\n<=4294967295):Sets s (bY s (iM 48 t n)) t n:=by
 have e:bY s (iM 48 t n)=(cI (ak s (iM 48 t n)) t (IntKind.u32.wrap n)).s:=rfl
 rw[e,IntKind.wrap_u32',show n % 4294967296=n by omega]
 exact im (i:=iM 48 t n) fun n h=>e9 h
theorem f_49 {s:RS} {t n:Int} (ht:0<=t/\t < 15) (hn:0<=n/\n<=65535) (hT:aY (s.R t.toNat)):Sets s (bY s (iM 49 t n)) t (s.R t.toNat % 65536+n*65536):=by
 have e:bY s (iM 49 t n)=(cI (ak s (iM 49 t n)) t (bits .or .u32 (bits .and .u32 (ao (ak s (iM 49 t n)) t) 65535) (IntKind.u32.wrap (IntKind.u32.wrap n*Ev.aV .u32 16)))).s:=rfl
 rw[aH ht.1 ht.2] at e
 rw[e]
 refine (im (i:=iM 49 t n) fun n h=>e9 h).to ?_
 unfold aY at hT
 rw[show Ev.aV .u32 16=65536 by decide,IntKind.wrap_u32',IntKind.wrap_u32']
 rw[u32_and _ 65535 hT.1 (by omega) (by omega) (by omega)]
 have e1:(s.R t.toNat).toNat &&& (65535:Int).toNat=(s.R t.toNat).toNat % 65536:=Nat.and_two_pow_sub_one_eq_mod _ 16
 rw[e1,show n % 4294967296*65536 % 4294967296=n*65536 by omega]
 rw[u32_or _ _ (by omega) (by omega) (by omega) (by omega)]
 have e2:((((s.R t.toNat).toNat % 65536:Nat):Int)).toNat ||| (n*65536).toNat=n.toNat*65536+(s.R t.toNat).toNat % 65536:=by
  have:=Nat.two_pow_add_eq_or_of_lt (i:=16) (b:=(s.R t.toNat).toNat % 65536) (by omega) n.toNat
  rw[Nat.or_comm,show (n*65536).toNat=2 ^ 16*n.toNat by omega,Int.toNat_natCast,← this]
  omega
 rw[e2]
 omega
theorem f_9 {s:RS} {a n:Int} (ha:0<=a/\a < 15) (hn:0<=n/\n<=255) (hA:aY (s.R a.toNat)):(∀ k:Nat,k < 15->(bY s (iM 9 a n)).R k=s.R k)/\((bY s (iM 9 a n)).C=if n<=s.R a.toNat then 1 else 0)/\(bY s (iM 9 a n)).Z=if s.R a.toNat=n then 1 else 0:=by
 have e:bY s (iM 9 a n)=(fm (ak s (iM 9 a n)) (-1) (ao (ak s (iM 9 a n)) a) (dt (IntKind.u32.wrap n)) 1).s:=rfl
 have hc:=vc (x:=ak s (iM 9 a n)) (d:=-1) (v:=ao (ak s (iM 9 a n)) a) (w:=dt (IntKind.u32.wrap n)) (c:=1) (lZ (show ¬ (aa 9=18\/aa 9=19\/aa 9=21\/aa 9=22\/aa 9=27) by decide))
 have e0:IntKind.u32.wrap n=n:=by rw[IntKind.wrap_u32']; omega
 rw[← e,aH ha.1 ha.2,e0,gH (w:=n) ⟨by omega,by omega⟩] at hc
 unfold aY at hA
 refine⟨fun k hk=>by rw[e]; exact zh k hk,?_,?_⟩
 ·rw[hc.1]
  unfold Rm.iG
  rw[qg]
  split<;>omega
 ·rw[hc.2]
  unfold Rm.fj
  rw[qg]
  split<;>split<;>omega
theorem f_65 {s:RS} {a n m:Int} (ha:0<=a/\a < 15) (hm:Rm.dD m=n) (hA:aY (s.R a.toNat)):(∀ k:Nat,k < 15->(bY s { iZ with form:=65,rn:=a,ay:=m }).R k=s.R k)/\((bY s { iZ with form:=65,rn:=a,ay:=m }).C=if n<=s.R a.toNat then 1 else 0):=by
 have e:bY s { iZ with form:=65,rn:=a,ay:=m }=(fm (ak s { iZ with form:=65,rn:=a,ay:=m }) (-1) (ao (ak s { iZ with form:=65,rn:=a,ay:=m }) a) (dt (Rm.dD m)) 1).s:=rfl
 have hc:=(vc (x:=ak s { iZ with form:=65,rn:=a,ay:=m }) (d:=-1) (v:=ao (ak s { iZ with form:=65,rn:=a,ay:=m }) a) (w:=dt (Rm.dD m)) (c:=1) (lZ (show ¬ (aa 65=18\/aa 65=19\/aa 65=21\/aa 65=22\/aa 65=27) by decide))).1
 have hb:=Rm.lM m
 rw[hm] at hb
 rw[← e,aH ha.1 ha.2,hm,gH hb] at hc
 unfold aY at hA
 refine⟨fun k hk=>by rw[e]; exact zh k hk,?_⟩
 rw[hc]
 unfold Rm.iG
 rw[qg]
 split<;>omega
theorem aY.get {s:RS} (h:ee s) (n:Nat):aY (s.R n):=h.r n
theorem ia (x:Int):aY (x % 4294967296):=by unfold aY; omega
theorem tl {x:Int} (hx:0<=x/\x<=4294967295) (h:Rm.k_ x=0):Rm.dD (Rm.nz x)=x:=by
 unfold Rm.k_ at h
 unfold Rm.nz
 cases hd:Rm.dec x.toNat with
 | none=>rw[hd] at h; simp at h
 | some n =>
  obtain⟨h1,h2⟩:=Rm.G7 x.toNat n (by omega) hd
  simp only[Option.getD_some]
  rw[Rm.gR _ x.toNat (by omega) (by omega) (by rw[Int.toNat_natCast]; exact h1)]
  omega
theorem o_1 {s:RS} {t n:Int} (ht:0<=t/\t < 15) (hn:0<=n/\n<=4294967295):Sets s (ez s (jN t n)) t n:=by
 unfold jN
 by_cases h1:n<=255
 ·rw[if_pos h1]
  exact f_8 ht.1 hn
 rw[if_neg h1]
 by_cases h2:Rm.k_ n=0
 ·rw[if_pos h2]
  exact (f_60 (s:=s) (n:=Rm.nz n) ht.1).to (tl hn h2)
 rw[if_neg h2]
 by_cases h3:Rm.k_ (4294967295 - n)=0
 ·rw[if_pos h3]
  refine (f_61 (s:=s) (n:=Rm.nz (4294967295 - n)) ht.1).to ?_
  rw[tl (by omega) h3]; omega
 rw[if_neg h3]
 have g:=f_48 (s:=s) (t:=t) (n:=n % 65536) (by omega)
 by_cases h4:n / 65536≠0
 ·rw[if_pos h4]
  have e:=g.at ht.1 ht.2
  have h:=f_49 (s:=bY s (iM 48 t (n % 65536))) (t:=t) (n:=n / 65536) ht (by omega) (by rw[e]; unfold aY; omega)
  refine (g.again h).to ?_
  rw[e]; omega
 ·rw[if_neg h4]
  exact g.to (by omega)
theorem o_21 {s:RS} (hs:ee s) {t a b:Int} (ht:0<=t/\t < 15) (ha:0<=a/\a < 15) (hb:0<=b/\b < 15):Sets s (ez s [iF 5 t a b,eH t,gj t]) t (if s.R a.toNat < s.R b.toNat then 1 else 0):=by
 obtain⟨g,hc⟩:=f_5 (s:=s) (t:=t) ht.1 ha hb (hs.r _) (hs.r _)
 have e:=g.at ht.1 ht.2
 have h:=wU (s:=bY s (iF 5 t a b)) ht (by rw[e]; exact ia _) (by rw[hc]; split<;>decide)
 refine (g.again h).to ?_
 rw[hc]
 split<;>rfl
theorem xor_zero {x y:Int} (hx:aY x) (hy:aY y):aY (bits .xor .u32 x y)/\(bits .xor .u32 x y=0↔x=y):=by
 refine⟨(dG hx hy).2.2.1,?_⟩
 unfold aY at hx hy
 rw[u32_xor x y hx.1 (by omega) hy.1 (by omega)]
 refine⟨fun h=>?_,fun h=>by rw[h,Nat.xor_self]; rfl⟩
 have h:x.toNat ^^^ y.toNat=0:=by omega
 have:x.toNat=(x.toNat ^^^ y.toNat) ^^^ y.toNat:=by rw[Nat.xor_assoc,Nat.xor_self,Nat.xor_zero]
 rw[h,Nat.zero_xor] at this
 omega
theorem o_22 {s:RS} (hs:ee s) {t a b:Int} (ht:0<=t/\t < 15) (ha:0<=a/\a < 15) (hb:0<=b/\b < 15):Sets s (ez s [iF 70 t a b,iM 11 t 1,eH t,gj t]) t (if s.R a.toNat=s.R b.toNat then 1 else 0):=by
 obtain⟨g,_⟩:=f_70 (s:=s) (t:=t) ht.1 ha hb (hs.r _)
 obtain⟨hu,hz⟩:=xor_zero (hs.r a.toNat) (hs.r b.toNat)
 have e:=g.at ht.1 ht.2
 obtain⟨h,hc⟩:=f_11 (s:=bY s (iF 70 t a b)) ht (by rw[e]; exact hu)
 have g2:=g.again h
 have e2:=g2.at ht.1 ht.2
 have h3:=wU (s:=bY (bY s (iF 70 t a b)) (iM 11 t 1)) ht (by rw[e2]; exact ia _) (by rw[hc]; split<;>decide)
 refine (g2.again h3).to ?_
 rw[hc,e]
 by_cases hq:s.R a.toNat=s.R b.toNat
 ·rw[if_pos hq,if_pos (hz.2 hq)]; rfl
 ·rw[if_neg hq,if_neg (fun k=>hq (hz.1 k))]; rfl
def CH (s s':RS) (d v e w:Int):Prop:=∀ n:Nat,n < 15->s'.R n=kS (kS s.R d v) e w n
theorem Sets.two {s s' t:RS} {d v e w:Int} (h:Sets s s' d v) (g:Sets s' t e w):CH s t d v e w:=fun n hn=>by
 rw[g n hn]
 unfold kS
 split
 ·rfl
 ·exact h n hn
theorem o_23 {s:RS} (hs:ee s) {t u a b c d:Int} (ht:0<=t/\t < 15) (hu:0<=u/\u < 15) (ha:0<=a/\a < 15) (hb:0<=b/\b < 15) (hc:0<=c/\c < 15) (hd:0<=d/\d < 15) (h1:t≠b) (h2:t≠d):CH s (ez s [iF 4 t a c,iF 72 u b d]) t ((s.R b.toNat*4294967296+s.R a.toNat+(s.R d.toNat*4294967296+s.R c.toNat)) % 18446744073709551616 % 4294967296) u ((s.R b.toNat*4294967296+s.R a.toNat+(s.R d.toNat*4294967296+s.R c.toNat)) % 18446744073709551616 / 4294967296):=by
 obtain⟨g,gc⟩:=f_4 (s:=s) (t:=t) ht.1 ha hc
 have eb:(bY s (iF 4 t a c)).R b.toNat=s.R b.toNat:=g.get (by omega) (by omega)
 have ed:(bY s (iF 4 t a c)).R d.toNat=s.R d.toNat:=g.get (by omega) (by omega)
 have A:=hs.r a.toNat; have B:=hs.r b.toNat; have C:=hs.r c.toNat; have D:=hs.r d.toNat
 unfold aY at A B C D
 have h:=f_72 (s:=bY s (iF 4 t a c)) (t:=u) hu.1 hb hd (by rw[ed]; exact hs.r _) (by rw[gc]; omega)
 rw[eb,ed,gc] at h
 have:=(g.to (w:=(s.R b.toNat*4294967296+s.R a.toNat+(s.R d.toNat*4294967296+s.R c.toNat)) % 18446744073709551616 % 4294967296) (by omega)).two (h.to (w:=(s.R b.toNat*4294967296+s.R a.toNat+(s.R d.toNat*4294967296+s.R c.toNat)) % 18446744073709551616 / 4294967296) (by omega))
 exact this
theorem o_24 {s:RS} (hs:ee s) {t u a b c d:Int} (ht:0<=t/\t < 15) (hu:0<=u/\u < 15) (ha:0<=a/\a < 15) (hb:0<=b/\b < 15) (hc:0<=c/\c < 15) (hd:0<=d/\d < 15) (h1:t≠b) (h2:t≠d):CH s (ez s [iF 5 t a c,iF 73 u b d]) t ((s.R b.toNat*4294967296+s.R a.toNat - (s.R d.toNat*4294967296+s.R c.toNat)) % 18446744073709551616 % 4294967296) u ((s.R b.toNat*4294967296+s.R a.toNat - (s.R d.toNat*4294967296+s.R c.toNat)) % 18446744073709551616 / 4294967296):=by
 obtain⟨g,gc⟩:=f_5 (s:=s) (t:=t) ht.1 ha hc (hs.r _) (hs.r _)
 have eb:(bY s (iF 5 t a c)).R b.toNat=s.R b.toNat:=g.get (by omega) (by omega)
 have ed:(bY s (iF 5 t a c)).R d.toNat=s.R d.toNat:=g.get (by omega) (by omega)
 have A:=hs.r a.toNat; have B:=hs.r b.toNat; have C:=hs.r c.toNat; have D:=hs.r d.toNat
 unfold aY at A B C D
 have h:=(Wb (s:=bY s (iF 5 t a c)) (t:=u) 0 hu.1 hb hd (by rw[eb]; exact hs.r _) (by rw[ed]; exact hs.r _) (by rw[gc]; split<;>decide)).1
 rw[eb,ed,gc] at h
 exact (g.to (w:=(s.R b.toNat*4294967296+s.R a.toNat - (s.R d.toNat*4294967296+s.R c.toNat)) % 18446744073709551616 % 4294967296) (by omega)).two (h.to (w:=(s.R b.toNat*4294967296+s.R a.toNat - (s.R d.toNat*4294967296+s.R c.toNat)) % 18446744073709551616 / 4294967296) (by split<;>omega))
theorem o_25 {s:RS} (hs:ee s) {t a b c d:Int} (ht:0<=t/\t < 15) (ha:0<=a/\a < 15) (hb:0<=b/\b < 15) (hc:0<=c/\c < 15) (hd:0<=d/\d < 15) (h1:t≠b) (h2:t≠d):Sets s (ez s [iF 5 t a c,{ iF 73 t b d with set:=1 },eH t,gj t]) t (if s.R b.toNat*4294967296+s.R a.toNat < s.R d.toNat*4294967296+s.R c.toNat then 1 else 0):=by
 obtain⟨g,gc⟩:=f_5 (s:=s) (t:=t) ht.1 ha hc (hs.r _) (hs.r _)
 have eb:(bY s (iF 5 t a c)).R b.toNat=s.R b.toNat:=g.get (by omega) (by omega)
 have ed:(bY s (iF 5 t a c)).R d.toNat=s.R d.toNat:=g.get (by omega) (by omega)
 have A:=hs.r a.toNat; have B:=hs.r b.toNat; have C:=hs.r c.toNat; have D:=hs.r d.toNat
 unfold aY at A B C D
 obtain⟨h,iP⟩:=Wb (s:=bY s (iF 5 t a c)) (t:=t) 1 ht.1 hb hd (by rw[eb]; exact hs.r _) (by rw[ed]; exact hs.r _) (by rw[gc]; split<;>decide)
 have iP:=iP rfl
 rw[eb,ed,gc] at iP
 have g2:=g.again h
 have e2:=g2.at ht.1 ht.2
 have h3:=wU (s:=bY (bY s (iF 5 t a c)) { iF 73 t b d with set:=1 }) ht (by rw[e2]; exact ia _) (by rw[iP]; (repeat' split)<;>omega)
 refine (g2.again h3).to ?_
 rw[iP]
 by_cases hq:s.R a.toNat < s.R c.toNat
 ·rw[if_pos hq]
  split<;>split<;>omega
 ·rw[if_neg hq]
  split<;>split<;>omega
theorem o_27 {s:RS} (hs:ee s) {t a:Int} (ht:0<=t/\t < 15) (ha:0<=a/\a < 15):Sets s (ez s [{ iZ with form:=50,rd:=t,rn:=a,ay:=1 },{ iZ with form:=59,rd:=t,rn:=t }]) t ((-(s.R a.toNat % 2)) % 4294967296):=by
 have g:=f_50 (s:=s) (t:=t) ht.1 ha (hs.r _)
 have e:=g.at ht.1 ht.2
 have h:=f_59 (s:=bY s { iZ with form:=50,rd:=t,rn:=a,ay:=1 }) (t:=t) (a:=t) ht.1 ht (by rw[e]; unfold aY; omega)
 refine (g.again h).to ?_
 rw[e]
end Go.Proofs.YtlgkljpgagfndaaGreatDoor.Pw

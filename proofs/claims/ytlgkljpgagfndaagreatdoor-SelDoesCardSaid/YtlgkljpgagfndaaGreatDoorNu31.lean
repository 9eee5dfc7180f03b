/- What this claim is proved with: no condition. -/
import Derived.Test.YtlgkljpgagfndaaGreatDoorNu30
import Derived.Test.YtlgkljpgagfndaaGreatDoorNu24
import Derived.Test.YtlgkljpgagfndaaGreatDoorNu23
set_option maxRecDepth 100000
set_option maxHeartbeats 16000000
set_option linter.unusedVariables false
set_option linter.unusedSimpArgs false
set_option linter.unusedSectionVars false
namespace Go.Proofs.YtlgkljpgagfndaaGreatDoor.Pw
open Go Go.RowKit
def E8 (L:List (Int × Int)) (a:Int):Nat->Int
 | 0=>0
 | n+1=>if (L.getD n (0,0)).1=a then (L.getD n (0,0)).2 else E8 L a n
def qC (L:List (Int × Int)) (a:Int):Int:=E8 L a L.length
def qh (fl:List Int) (L:List (Int × Int)) (a:Int):Int:=if a % 4≠0 then 0 else if da a then qC L a else if gV fl a 4 then hN fl (dc a)+hN fl (dc a+2)*65536 else 0
def ki (fl:List Int) (a:Int):Nat->Int
 | 0=>0
 | k+1=>ki fl a k*256+fl.getD (dc a+(3 - k)) 0
theorem N_ {fl:List Int} (hb:Cg fl) (a:Int):0<=ki fl a 1/\ki fl a 1<=255/\0<=ki fl a 2/\ki fl a 2<=65535/\0<=ki fl a 3/\ki fl a 3<=16777215/\0<=ki fl a 4/\ki fl a 4<=4294967295:=by
 have b0:=fp hb (dc a)
 have b1:=fp hb (dc a+1)
 have b2:=fp hb (dc a+2)
 have b3:=fp hb (dc a+3)
 simp only[ki,Nat.sub_zero,show 3 - 1=2 from rfl,show 3 - 2=1 from rfl,Nat.sub_self,Nat.add_zero]
 omega
theorem We (fl:List Int) (a:Int):ki fl a 4=hN fl (dc a)+hN fl (dc a+2)*65536:=by
 unfold hN
 simp only[ki,Nat.sub_zero,show 3 - 1=2 from rfl,show 3 - 2=1 from rfl,Nat.sub_self,Nat.add_zero]
 rw[show dc a+2+1=dc a+3 by omega]
 omega
theorem zj (fl:List Int) (L:List (Int × Int)) (a:Int) (ha:aY a) (hb:Cg fl) (hl:fl.length<=65536):ai gT 41 [mP fl L,.int .u32 a] (.tup [.int .u32 (qh fl L a),.int .i64 (jj fl a)]):=by
 have kr:=dram a
 have el:(L.map wP).length=L.length:=List.length_map ..
 obtain⟨a0,a1⟩:=ha
 refine Spec.enter al P41 100 Tryz.func41 rfl (by kernel_rfl) ?_
 refine And.intro (show (4:Int)≠0 by decide) (.inl ⟨a0,show (0:Int) < 4 by decide,?_⟩)
 refine⟨fun h=>?_,fun h=>?_⟩
 ·have h':a % 4≠0:=h
  rw[show qh fl L a=0 by unfold qh; rw[if_pos h'],show jj fl a=60 by unfold jj; rw[if_pos h']]
  exact rA
 have h':¬ a % 4≠0:=h
 refine kr.u ?_
 refine⟨fun hr=>?_,fun hr=>?_⟩
 ·have pV:da a:=hr
  rw[show qh fl L a=qC L a by unfold qh; rw[if_neg h',if_pos pV],show jj fl a=0 by unfold jj; rw[if_neg h',if_pos pV]]
  refine fun hm=>?_
  have mw:(L.map wP).length<=maxLen:=hm
  rw[el] at mw
  unfold maxLen at mw
  refine li ?_ (show _<=(((L.map wP).length:Nat):Int) - 1/\(((L.map wP).length:Nat):Int) - 1<=_ by rw[el]; omega)
  refine SW.r9 al P41 (by kernel_rfl) (α:={n:Nat // n<=L.length/\E8 L a n=qC L a}) (fun n=>[(6,.int .i64 ((n.1:Int) - 1))]) (fun n=>n.1) ⟨L.length,Nat.le_refl _,rfl⟩ 60 ?_ ?_
  ·repeat' first|exact trivial|exact rfl|exact Iff.rfl|exact not_false|refine And.intro ?_ ?_
   all_goals exact (show (((L.map wP).length:Nat):Int) - 1=((L.length:Nat):Int) - 1 by rw[el])
  rintro⟨n,hn,XK⟩
  refine⟨fun hp=>?_,fun hp=>?_⟩
  ·have e_:(0:Int)<=(n:Int) - 1:=hp
   obtain⟨j,rfl⟩:∃ j,n=j+1:=⟨n - 1,by omega⟩
   obtain⟨p,Gr⟩:∃ p,L[j]?=some p:=⟨_,List.getElem?_eq_getElem (by omega)⟩
   have hg:L.getD j (0,0)=p:=by rw[List.getD_eq_getElem?_getD,Gr]; rfl
   have ej:((((j+1:Nat):Int) - 1).toNat)=j:=by omega
   refine⟨Int × Int,L,wP,rfl,show (0:Int)<=((j+1:Nat):Int) - 1 by omega,show ((j+1:Nat):Int) - 1 < (L.length:Int) by omega,fun q hq=>?_⟩
   have tJ:L[(((j+1:Nat):Int) - 1).toNat]?=some q:=hq
   rw[ej,Gr] at tJ
   obtain rfl:=Option.some.inj tJ
   refine⟨fun he=>?_,fun he=>?_⟩
   ·have CT:p.1=a:=he
    refine⟨Int × Int,L,wP,rfl,show (0:Int)<=((j+1:Nat):Int) - 1 by omega,show ((j+1:Nat):Int) - 1 < (L.length:Int) by omega,fun q hq=>?_⟩
    have tJ:L[(((j+1:Nat):Int) - 1).toNat]?=some q:=hq
    rw[ej,Gr] at tJ
    obtain rfl:=Option.some.inj tJ
    exact ax (And.intro (show p.2=qC L a by rw[← XK,E8,hg,if_pos CT]) (And.intro rfl trivial))
   ·have CT:¬ p.1=a:=he
    refine .inl ⟨aq (show _<=((j+1:Nat):Int) - 1 - 1/\((j+1:Nat):Int) - 1 - 1<=_ by omega),⟨⟨j,by omega,by rw[← XK]; exact (show E8 L a j=E8 L a (j+1) by rw[E8,hg,if_neg CT])⟩,show j < j+1 by omega,?_⟩⟩
    repeat' first|exact trivial|exact rfl|exact Iff.rfl|exact not_false|refine And.intro ?_ ?_
    all_goals exact (show ((j+1:Nat):Int) - 1 - 1=(j:Int) - 1 by omega)
  ·have e_:¬ (0:Int)<=(n:Int) - 1:=hp
   obtain rfl:n=0:=by omega
   exact ax (And.intro (show (0:Int)=qC L a from XK) (And.intro rfl trivial))
 have pV:¬ da a:=hr
 by_cases hf:gV fl a 4
 ·rw[show qh fl L a=ki fl a 4 by unfold qh; rw[if_neg h',if_neg pV,if_pos hf,We],show jj fl a=0 by unfold jj; rw[if_neg h',if_neg pV,if_pos hf]]
  have hb4:=N_ hb a
  unfold gV at hf
  refine SW.r9 al P41 (by kernel_rfl) (α:={k:Nat // k<=4}) (fun k=>[(7,.int .u32 (ki fl a k.1)),(8,.int .i64 (3 - (k.1:Int)))]) (fun k=>4 - k.1) ⟨0,by decide⟩ 60 ?_ ?_
  ·repeat' first|exact trivial|exact rfl|exact Iff.rfl|exact not_false|refine And.intro ?_ ?_
  rintro⟨k,hk⟩
  refine⟨fun hp=>?_,fun hp=>?_⟩
  ·have e_:(0:Int)<=3 - (k:Int):=hp
   have hv:0<=ki fl a k/\ki fl a k<=16777215:=by
    rcases (show k=0\/k=1\/k=2\/k=3 by omega) with rfl|rfl|rfl|rfl
    ·exact⟨Int.le_refl 0,show (0:Int)<=16777215 by decide⟩
    all_goals omega
   have hg:=fp hb (dc a+(3 - k))
   have eo:dc (a+(3 - (k:Int)))=dc a+(3 - k):=by unfold dc; omega
   have ky:=E7 fl L (a+(3 - (k:Int))) ⟨by omega,by omega⟩ hb (by unfold hasB; omega)
   rw[eo] at ky
   refine lu ?_ (show 0<=3 - (k:Int)/\3 - (k:Int)<=4294967295 by omega)
   refine lu ?_ (show 0<=a+(3 - (k:Int))/\a+(3 - (k:Int))<=4294967295 by omega)
   refine ky.u ?_
   refine lu ?_ (show 0<=ki fl a k*256/\ki fl a k*256<=4294967295 by omega)
   refine lu ?_ (show 0<=ki fl a k*256+fl.getD (dc a+(3 - k)) 0/\ki fl a k*256+fl.getD (dc a+(3 - k)) 0<=4294967295 by omega)
   refine .inl ⟨aq (show _<=3 - (k:Int) - 1/\3 - (k:Int) - 1<=_ by omega),⟨⟨k+1,by omega⟩,show 4 - (k+1) < 4 - k by omega,?_⟩⟩
   repeat' first|exact trivial|exact rfl|exact Iff.rfl|exact not_false|refine And.intro ?_ ?_
   all_goals exact (show 3 - (k:Int) - 1=3 - ((k+1:Nat):Int) by omega)
  ·have e_:¬ (0:Int)<=3 - (k:Int):=hp
   obtain rfl:k=4:=by omega
   exact rA
 ·rw[show qh fl L a=0 by unfold qh; rw[if_neg h',if_neg pV,if_neg hf],show jj fl a=61 by unfold jj; rw[if_neg h',if_neg pV,if_neg hf]]
  unfold gV at hf
  have ew:=IntKind.wrap_u32' (a+3)
  have kn:=J5 fl L (IntKind.u32.wrap (a+3)) (wrap_u32 _) (by unfold hasB; omega)
  refine SW.r9 al P41 (by kernel_rfl) (α:=Unit) (fun _=>[(7,.int .u32 0),(8,.int .i64 3)]) (fun _=>0) () 60 ?_ ?_
  ·repeat' first|exact trivial|exact rfl|exact Iff.rfl|exact not_false|refine And.intro ?_ ?_
  rintro⟨⟩
  refine⟨fun _=>?_,fun h=>absurd (show (0:Int)<=3 by decide) h⟩
  refine lu ?_ (show (0:Int)<=3/\(3:Int)<=4294967295 by decide)
  refine .inr ?_
  refine kn.u ?_
  exact rA
def fv (L:List (Int × Int)) (a:Int):List (Int × Int):=L.filter fun p=>decide (p.1≠a)
def A_ (L:List (Int × Int)) (a v:Int):List (Int × Int):=fv L a++[(a,v)]
def kL (L:List (Int × Int)) (a v:Int):List (Int × Int):=if jD a=0 then A_ L a v else L
theorem Ba {L:List (Int × Int)} {k:Nat} {p:Int × Int} (a:Int) (h:L[k]?=some p):fv (L.take (k+1)) a=fv (L.take k) a++(if p.1≠a then [p] else []):=by
 unfold fv
 rw[List.take_add_one,h,List.filter_append]
 by_cases hp:p.1=a
 ·simp[hp]
 ·simp[hp]
theorem vd (L:List (Int × Int)) (a:Int):(fv L a).length<=L.length:=List.length_filter_le ..
theorem Bb (fl:List Int) (L:List (Int × Int)) (a v:Int) (ha:aY a) (hL:L.length<=100000):ai gT 13 [mP fl L,.int .u32 a,.int .u32 v] (.tup [mP fl (kL L a v),.int .i64 (jD a)]):=by
 have kr:=dram a
 have el:(L.map wP).length=L.length:=List.length_map ..
 obtain⟨a0,a1⟩:=ha
 refine Spec.enter al P13 100 Tryz.func13 rfl (by kernel_rfl) ?_
 refine And.intro (show (4:Int)≠0 by decide) (.inl ⟨a0,show (0:Int) < 4 by decide,?_⟩)
 refine⟨fun h=>?_,fun h=>?_⟩
 ·have h':a % 4≠0:=h
  have e:jD a=60:=by unfold jD; rw[if_pos h']
  unfold kL
  rw[e,if_neg (by decide)]
  exact rA
 have h':¬ a % 4≠0:=h
 by_cases h2:134217728<=a/\a < 134283264
 ·have e:jD a=62:=by unfold jD; rw[if_neg h',if_pos h2]
  unfold kL
  rw[e,if_neg (by decide)]
  refine⟨fun _=>?_,fun h=>absurd h2.1 h⟩
  refine⟨fun _=>?_,fun h=>absurd h2.2 h⟩
  exact rA
 by_cases hr:da a
 ·have e:jD a=0:=by unfold jD; rw[if_neg h',if_neg h2,if_pos hr]
  unfold kL
  rw[e,if_pos rfl]
  have hr2:=hr
  unfold da at hr2
  repeat' (refine (And.intro (fun _=>?_) (fun _=>?_):(_->_)/\(_->_))<;>(first|(exfalso; omega)|skip))
  all_goals refine kr.u ?_
  all_goals refine⟨fun h=>absurd hr h,fun _=>?_⟩
  refine SW.p_ al P13 (by kernel_rfl) (α:={k:Nat // k<=L.length}) (fun k=>[(1,.int .u32 a),(2,.int .u32 v),(3,.ptr 0 0),(6,.ptr 1 0),(8,.wref 2),(9,.int .i64 k.1)]) (fun k=>[⟨.loc,44,1,.w,true,[.sl 1 (gI fl),.sl 2 (L.map wP)]⟩,⟨.loc,44,1,.w,true,[.sl 1 [],.sl 2 []]⟩,⟨.dyn,97,2,.w,true,(fv (L.take k.1) a).map wP⟩]) (fun k=>L.length - k.1) ⟨0,Nat.zero_le _⟩ 60 [some 0,some 1,none] ?_ ?_
  ·repeat' first|exact trivial|exact rfl|exact Iff.rfl|exact not_false|refine And.intro ?_ ?_
  rintro⟨k,hk⟩
  have hkl:=vd (L.take k) a
  rw[List.length_take] at hkl
  have eK:((fv (L.take k) a).map wP).length=(fv (L.take k) a).length:=List.length_map ..
  refine fun hm=>?_
  refine⟨fun hp=>?_,fun hp=>?_⟩
  ·have e_:(k:Int) < ((L.map wP).length:Nat):=hp
   rw[el] at e_
   obtain⟨p,hpk⟩:∃ p,L[k]?=some p:=⟨_,List.getElem?_eq_getElem (by omega)⟩
   have hs:=Ba a hpk
   refine⟨Int × Int,L,wP,rfl,show (0:Int)<=(k:Int) by omega,show (k:Int) < (L.length:Int) by omega,fun q hq=>?_⟩
   obtain rfl:p=q:=Option.some.inj (hpk.symm.trans hq)
   refine⟨fun he=>?_,fun he=>?_⟩
   ·have CT:p.1≠a:=he
    rw[if_pos CT] at hs
    refine⟨Int × Int,L,wP,rfl,show (0:Int)<=(k:Int) by omega,show (k:Int) < (L.length:Int) by omega,fun q hq=>?_⟩
    obtain rfl:p=q:=Option.some.inj (hpk.symm.trans hq)
    refine⟨show ((fv (L.take k) a).map wP).length+1<=maxLen by rw[eK]; unfold maxLen; omega,show (((fv (L.take k) a).map wP).length+1)*8<=140737488355328 by rw[eK]; omega,?_⟩
    refine .inl ⟨aq (show _<=(k:Int)+1/\(k:Int)+1<=_ by omega),⟨⟨k+1,by omega⟩,[some 0,some 1,some 4],show L.length - (k+1) < L.length - k by omega,?_⟩⟩
    repeat' first|exact trivial|exact rfl|exact Iff.rfl|exact not_false|refine And.intro ?_ ?_
    all_goals exact (show (fv (L.take k) a).map wP++[wP p]=(fv (L.take (k+1)) a).map wP by rw[hs,List.map_append]; rfl)
   ·have CT:¬ p.1≠a:=he
    rw[if_neg CT,List.append_nil] at hs
    refine .inl ⟨aq (show _<=(k:Int)+1/\(k:Int)+1<=_ by omega),⟨⟨k+1,by omega⟩,[some 0,some 1,some 2],show L.length - (k+1) < L.length - k by omega,?_⟩⟩
    repeat' first|exact trivial|exact rfl|exact Iff.rfl|exact not_false|refine And.intro ?_ ?_
    all_goals exact (show (fv (L.take k) a).map wP=(fv (L.take (k+1)) a).map wP by rw[hs])
  ·have e_:¬ (k:Int) < ((L.map wP).length:Nat):=hp
   rw[el] at e_
   have ek:L.take k=L:=List.take_of_length_le (by omega)
   rw[ek] at hkl eK
   refine⟨show ((fv (L.take k) a).map wP).length+1<=maxLen by rw[ek,eK]; unfold maxLen; omega,show (((fv (L.take k) a).map wP).length+1)*8<=140737488355328 by rw[ek,eK]; omega,?_⟩
   refine ax ?_
   repeat' first|exact trivial|exact rfl|exact Iff.rfl|exact not_false|refine And.intro ?_ ?_
   all_goals exact (show (fv (L.take k) a).map wP++[wP (a,v)]=(A_ L a v).map wP by rw[ek]; unfold A_; rw[List.map_append]; rfl)
 ·have e:jD a=61:=by unfold jD; rw[if_neg h',if_neg h2,if_neg hr]
  unfold kL
  rw[e,if_neg (by decide)]
  repeat' (refine (And.intro (fun _=>?_) (fun _=>?_):(_->_)/\(_->_))<;>(first|(exfalso; omega)|skip))
  all_goals refine kr.u ?_
  all_goals refine⟨fun _=>?_,fun h=>absurd hr h⟩
  all_goals exact rA
def tq (w:Nat->Int) (L:List (Int × Int)):Prop:=∀ j:Nat,j < 16384->w j=qC L (536870912+4*(j:Int))
theorem Bc {fl:List Int} {w:Nat->Int} {L:List (Int × Int)} (h:tq w L) {a:Int} (ha:aY a):qh fl L a=nB fl w a:=by
 unfold qh nB
 by_cases h4:a % 4≠0
 ·rw[if_pos h4,if_pos h4]
 rw[if_neg h4,if_neg h4]
 by_cases hr:da a
 ·rw[if_pos hr,if_pos hr]
  unfold da at hr
  have hj:mD a < 16384:=by unfold mD; omega
  rw[h _ hj]
  congr 1
  unfold mD
  omega
 ·rw[if_neg hr,if_neg hr]
theorem zk (L:List (Int × Int)) (a v:Int):(kL L a v).length<=L.length+1:=by
 have:=vd L a
 unfold kL A_
 split
 ·rw[List.length_append]
  show _+1<=_
  omega
 ·omega
theorem Bd (s:RS) (c:Int) (h:c < 0\/13 < c):ai gT 20 [qy s,.int .i64 c] (.bool (aT s c)):=by
 have hn:¬ aT s c:=by unfold aT; omega
 refine Spec.enter al P20 100 Tryz.func20 rfl (by kernel_rfl) ?_
 refine⟨fun _=>?_,fun h0=>?_⟩
 ·exact ax (eY hn)
 ·have h0':¬ c < 0:=h0
  refine⟨fun _=>?_,fun h1=>absurd (show 13 < c by omega) h1⟩
  exact ax (eY hn)
theorem E9 (s:RS) (hs:ee s) (c:Int) (h0:0<=c) (h1:c<=13):ai gT 20 [qy s,.int .i64 c] (.bool (aT s c)):=by
 have hz:=hs.z
 have hn:=hs.n
 have hc:=hs.c
 have hv:=hs.v
 refine Spec.enter al P20 100 Tryz.func20 rfl (by kernel_rfl) ?_
 refine⟨fun h=>absurd (show c < 0 from h) (by omega),fun _=>?_⟩
 refine⟨fun h=>absurd (show 13 < c from h) (by omega),fun _=>?_⟩
 have h14:c=0\/c=1\/c=2\/c=3\/c=4\/c=5\/c=6\/c=7\/c=8\/c=9\/c=10\/c=11\/c=12\/c=13:=by omega
 repeat' (first
  | (refine⟨h0,show c < 14 by omega,?_⟩
     refine .inr ⟨rfl,h0,show 0+c.toNat*1 < 14 by omega,fun x hx=>?_⟩
     rcases h14 with rfl|rfl|rfl|rfl|rfl|rfl|rfl|rfl|rfl|rfl|rfl|rfl|rfl|rfl<;>(cases hx; refine ax ?_; first|(refine eX ?_; unfold aT; omega)|(refine fo ?_; unfold aT; omega)|(refine eY ?_; unfold aT; omega)))
  | (refine (And.intro (fun _=>?_) (fun _=>?_):(_->_)/\(_->_))<;>(first|(exfalso; omega)|skip)))
theorem zl (s:RS) (hs:ee s) (c:Int):ai gT 20 [qy s,.int .i64 c] (.bool (aT s c)):=by
 by_cases h:c < 0\/13 < c
 ·exact Bd s c h
 ·exact E9 s hs c (by omega) (by omega)
theorem hl_0 (s:RS):aT s 0↔s.Z=1:=by unfold aT; simp
theorem hl_2 (s:RS):aT s 2↔s.C=1:=by unfold aT; simp
structure J6 (s:RS):Prop where
 r:∀ k,aY (s.R k)
 n:0<=s.N
 z:0<=s.Z
 c:0<=s.C
 v:0<=s.V
theorem J6.ok {s:RS} (h:J6 s):ee (wT s):=E2 h.r h.n h.z h.c h.v
theorem CI (L M:List (Int × Int)) (b:Int):∀ n,n<=L.length->E8 (L++M) b n=E8 L b n
 | 0,_=>rfl
 | n+1,h=>by
  have ih:=CI L M b n (by omega)
  have e:(L++M).getD n (0,0)=L.getD n (0,0):=by
   rw[List.getD_eq_getElem?_getD,List.getD_eq_getElem?_getD,List.getElem?_append_left (by omega)]
  rw[E8,E8,e,ih]
theorem kj (L:List (Int × Int)) (p:Int × Int) (b:Int):qC (L++[p]) b=if p.1=b then p.2 else qC L b:=by
 unfold qC
 rw[List.length_append]
 show E8 (L++[p]) b (L.length+1)=_
 have e:(L++[p]).getD L.length (0,0)=p:=by
  rw[List.getD_eq_getElem?_getD,List.getElem?_append_right (Nat.le_refl _),Nat.sub_self]
  rfl
 rw[E8,e,CI L [p] b L.length (Nat.le_refl _)]
theorem zm (L:List (Int × Int)) (p:Int × Int) (a:Int):fv (L++[p]) a=fv L a++(if p.1≠a then [p] else []):=by
 unfold fv
 rw[List.filter_append]
 by_cases hp:p.1=a
 ·simp[hp]
 ·simp[hp]
theorem zn {a b:Int} (h:b≠a):∀ (n:Nat) (L:List (Int × Int)),L.length=n->qC (fv L a) b=qC L b
 | 0,L,hl=>by
  rw[List.eq_nil_of_length_eq_zero hl]
  rfl
 | n+1,L,hl=>by
  rcases List.eq_nil_or_concat L with rfl|⟨M,p,rfl⟩
  ·cases hl
  ·rw[List.concat_eq_append] at hl ⊢
   have hM:M.length=n:=by rw[List.length_append] at hl; exact Nat.succ.inj hl
   have ih:=zn h n M hM
   rw[zm,kj]
   by_cases hp:p.1=a
   ·rw[if_neg (fun h=>h hp),List.append_nil,ih,if_neg (fun e=>h (e.symm.trans hp))]
   ·rw[if_pos hp,kj,ih]
theorem Oa (L:List (Int × Int)) (a v b:Int):qC (A_ L a v) b=if b=a then v else qC L b:=by
 unfold A_
 rw[kj]
 by_cases h:b=a
 ·rw[if_pos h,if_pos h.symm]
 ·rw[if_neg h,if_neg (fun e=>h e.symm),zn h _ L rfl]
theorem ve {w:Nat->Int} {L:List (Int × Int)} (h:tq w L) {a:Int} (ha:aY a) (v:Int):tq (wI w a v) (kL L a v):=by
 unfold wI kL
 by_cases he:jD a=0
 ·rw[if_pos he,if_pos he]
  intro j hj
  rw[Oa]
  unfold jD at he
  split at he
  ·cases he
  rename_i h4
  split at he
  ·cases he
  split at he
  ·rename_i hr
   unfold da at hr
   unfold sM mD
   by_cases hja:536870912+4*(j:Int)=a
   ·rw[if_pos hja,if_pos (by omega)]
   ·rw[if_neg hja,if_neg (by omega)]
    exact h j hj
  ·cases he
 ·rw[if_neg he,if_neg he]
  exact h
open Classical in
noncomputable def tu (p:Prop):Int:=if p then 1 else 0
theorem J7 (p:Prop):-9223372036854775808<=tu p/\tu p<=9223372036854775807/\-9223372036854775808<=2*tu p/\2*tu p<=9223372036854775807:=by
 unfold tu; split<;>omega
def gv (l:List Int):List PV:=l.map (PV.int .u32)
def sFs (R:List Int) (a:Int) (L:List (Int × Int)):List PV:=[.sl 1 (gv R),.int .u32 a,.sl 1 (gI []),.sl 2 (L.map wP)]
def sP (R:List Int) (a:Int) (L:List (Int × Int)):PV:=.agg (sFs R a L)
def fP (R:List Int) (f:Int):Int:=R.getD f.toNat 0
def vA (R:List Int) (f:Int):Int:=if 0<=f then fP R f else 0
theorem Wf {R:List Int} (hR:∀ z∈R,aY z) (f:Int):aY (fP R f):=by
 unfold fP
 rw[List.getD_eq_getElem?_getD]
 cases h:R[f.toNat]? with
 | none=>exact⟨by decide,by decide⟩
 | some x=>exact hR x (List.mem_of_getElem? h)
theorem qi {R:List Int} (hR:∀ z∈R,aY z) (f:Int):aY (vA R f):=by
 unfold vA
 split
 ·exact Wf hR f
 ·exact⟨by decide,by decide⟩
def iz (a:Int) (o:VO):Int:=IntKind.u32.wrap (a+o.n)
def gX (R:List Int) (o:VO):Int:=IntKind.u32.wrap (fP R o.f0+IntKind.u32.wrap (4*fP R o.f1))
theorem jO {x:Int} (h:aY x):0<=x/\x<=18446744073709551615:=by unfold aY at h; omega
noncomputable def tv (R:List Int) (a:Int) (o:VO):Int:=if o.kind=4 then (a+o.n) % 4294967296 else cJ o.kind o.n (vA R o.f0) (vA R o.f1) (vA R o.f2) (vA R o.f3)
def iL (R:List Int) (o:VO) (x:Int):List Int:=if 0<=o.t1 then (R.set o.t0.toNat (x % 4294967296)).set o.t1.toNat (x / 4294967296) else R.set o.t0.toNat (x % 4294967296)
def Ob (x:Int):Prop:=0<=x/\x<=18446744073709551615
theorem Oc {p:Prop} [Decidable p] {x y:Int} (hx:p->Ob x) (hy:Ob y):Ob (if p then x else y):=by
 split
 ·exact hx (by assumption)
 ·exact hy
theorem Od (k n v0 v1 v2 v3:Int) (hn:aY n) (h0:aY v0) (h1:aY v1) (h2:aY v2) (h3:aY v3):Ob (cJ k n v0 v1 v2 v3):=by
 have hm:=zi h0 h1
 have hs:∀ k n,Ob (il k v0 n):=fun k n=>jO (jK k v0 n h0)
 have hd:=jO (tp h0 h1)
 obtain⟨ha,ho,hx,_⟩:=dG h0 h1
 have ha:=jO ha
 have ho:=jO ho
 have hx:=jO hx
 have b1:∀ (p:Prop) [Decidable p],Ob (if p then 1 else 0):=fun p _=>by split<;>(unfold Ob; omega)
 unfold aY at hn h0 h1 h2 h3
 unfold cJ
 repeat (refine Oc (fun _=>?_) ?_; focus first|exact hs _ _|exact hd|exact ha|exact ho|exact hx|exact b1 _|(unfold Ob; omega))
 unfold Ob; omega
structure pO (o:VO):Prop where
 t0:-1<=o.t0/\o.t0<=7
 t1:-1<=o.t1/\o.t1<=7
 f0:-1<=o.f0/\o.f0<=7
 f1:-1<=o.f1/\o.f1<=7
 f2:-1<=o.f2/\o.f2<=7
 f3:-1<=o.f3/\o.f3<=7
 fs:(o.f0 = -1/\o.f1 = -1/\o.f2 = -1/\o.f3 = -1)\/(0<=o.f0/\o.f1 = -1/\o.f2 = -1/\o.f3 = -1)\/(0<=o.f0/\0<=o.f1/\o.f2 = -1/\o.f3 = -1)\/(0<=o.f0/\0<=o.f1/\0<=o.f2/\o.f3 = -1)\/(0<=o.f0/\0<=o.f1/\0<=o.f2/\0<=o.f3)
theorem jh {o:VO} (h:aO o/\dQ o):pO o:=by
 have hp:=(jg o h.1).1 h
 obtain⟨_,⟨p0,p1⟩,⟨q0,q1,q2,q3⟩,_⟩:=h.1
 unfold ae at hp
 unfold dd at p0 p1 q0 q1 q2 q3
 refine⟨by omega,by omega,by omega,by omega,by omega,by omega,by omega⟩
section
variable (o:VO) (hn:aY o.n) (R:List Int) (hl:R.length=8) (hR:∀ z∈R,aY z) (a:Int) (ha:aY a) (L:List (Int × Int))
include hn hl hR ha
theorem do_30 (g:pO o) (hk:o.kind=30) (h0:0<=o.f0) (hm:o.f1 = -1/\o.f2 = -1/\o.f3 = -1):ai gT 16 [sP R a L,nC o] (.tup [sP R a L,.int .i64 (tu (o.n<=fP R o.f0)),.int .i64 0]):=by
 have ew:(gv R).length=8:=by show (R.map (PV.int .u32)).length=8; rw[List.length_map,hl]
 obtain⟨g1,g2,g3,g4,g5,g6,gs⟩:=g
 have hx:∀ f:Int,∀ x,R[f.toNat]?=some x->x=fP R f:=fun f x h=>by unfold fP; rw[List.getD_eq_getElem?_getD,h]; rfl
 have mK:=hx o.f0
 have lC:=hx o.f1
 have wX:=hx o.f2
 have wY:=hx o.f3
 obtain⟨h1,h2,h3⟩:=hm
 have hb:ai gT 40 [.bool (o.n<=fP R o.f0)] (.int .u64 (tu (o.n<=fP R o.f0))):=l0 _
 have Bw:=J7 (o.n<=fP R o.f0)
 generalize tu (o.n<=fP R o.f0)=q at hb Bw ⊢
 refine Spec.enter al uy 100 Tryz.func16 rfl (by kernel_rfl) ?_
 repeat' ((conv=>whnf); first|(refine (And.intro (fun _=>?_) (fun _=>?_):(_->_)/\(_->_))<;>(first|(exfalso; first|contradiction|omega)|skip))|refine Or.inl (And.intro (by first|exact aq (by omega)|exact ah (by omega)|exact aF (by omega)|exact bb (by omega)) ?_)|(refine And.intro (show (_:Int)≠0 by omega) (Or.inl (And.intro (show (0:Int)<=_ by omega) (And.intro (show (0:Int) < _ by omega) ?_))))|(refine And.intro (show (_:Int)≠0 by omega) (Or.inl (And.intro (show (0:Int)<=_ by omega) (And.intro (by first|exact (show (_:Int)<=9223372036854775807 by omega)|exact (show (_:Int)<=4294967295 by omega)) (And.intro (show (0:Int) < _ by omega) ?_)))))|(refine SW.rounds al uy (by kernel_rfl) (N:=60) 5 ?_)|(refine⟨Int,R,PV.int .u32,rfl,h0,show o.f0 < (R.length:Int) by omega,fun x hq=>?_⟩; obtain rfl:=mK x hq)|(refine⟨Int,R,PV.int .u32,rfl,h1,show o.f1 < (R.length:Int) by omega,fun x hq=>?_⟩; obtain rfl:=lC x hq)|(refine⟨Int,R,PV.int .u32,rfl,h2,show o.f2 < (R.length:Int) by omega,fun x hq=>?_⟩; obtain rfl:=wX x hq)|(refine⟨Int,R,PV.int .u32,rfl,h3,show o.f3 < (R.length:Int) by omega,fun x hq=>?_⟩; obtain rfl:=wY x hq)|(refine Exists.intro [] (And.intro bf (hb.use (And.intro Iff.rfl trivial) rfl rfl ?_)))|(refine Or.inl (And.intro (aq (And.intro Bw.1 Bw.2.1)) ?_))|(exact rA)|(intro _))
theorem do_31 (g:pO o) (hk:o.kind=31) (h0:0<=o.f0) (hm:o.f1 = -1/\o.f2 = -1/\o.f3 = -1):ai gT 16 [sP R a L,nC o] (.tup [sP R a L,.int .i64 (2*tu (fP R o.f0=0)),.int .i64 0]):=by
 have ew:(gv R).length=8:=by show (R.map (PV.int .u32)).length=8; rw[List.length_map,hl]
 obtain⟨g1,g2,g3,g4,g5,g6,gs⟩:=g
 have hx:∀ f:Int,∀ x,R[f.toNat]?=some x->x=fP R f:=fun f x h=>by unfold fP; rw[List.getD_eq_getElem?_getD,h]; rfl
 have mK:=hx o.f0
 have lC:=hx o.f1
 have wX:=hx o.f2
 have wY:=hx o.f3
 obtain⟨h1,h2,h3⟩:=hm
 have hb:ai gT 40 [.bool (fP R o.f0=0)] (.int .u64 (tu (fP R o.f0=0))):=l0 _
 have Bw:=J7 (fP R o.f0=0)
 generalize tu (fP R o.f0=0)=q at hb Bw ⊢
 refine Spec.enter al uy 100 Tryz.func16 rfl (by kernel_rfl) ?_
 repeat' ((conv=>whnf); first|(refine (And.intro (fun _=>?_) (fun _=>?_):(_->_)/\(_->_))<;>(first|(exfalso; first|contradiction|omega)|skip))|refine Or.inl (And.intro (by first|exact aq (by omega)|exact ah (by omega)|exact aF (by omega)|exact bb (by omega)) ?_)|(refine And.intro (show (_:Int)≠0 by omega) (Or.inl (And.intro (show (0:Int)<=_ by omega) (And.intro (show (0:Int) < _ by omega) ?_))))|(refine And.intro (show (_:Int)≠0 by omega) (Or.inl (And.intro (show (0:Int)<=_ by omega) (And.intro (by first|exact (show (_:Int)<=9223372036854775807 by omega)|exact (show (_:Int)<=4294967295 by omega)) (And.intro (show (0:Int) < _ by omega) ?_)))))|(refine SW.rounds al uy (by kernel_rfl) (N:=60) 5 ?_)|(refine⟨Int,R,PV.int .u32,rfl,h0,show o.f0 < (R.length:Int) by omega,fun x hq=>?_⟩; obtain rfl:=mK x hq)|(refine⟨Int,R,PV.int .u32,rfl,h1,show o.f1 < (R.length:Int) by omega,fun x hq=>?_⟩; obtain rfl:=lC x hq)|(refine⟨Int,R,PV.int .u32,rfl,h2,show o.f2 < (R.length:Int) by omega,fun x hq=>?_⟩; obtain rfl:=wX x hq)|(refine⟨Int,R,PV.int .u32,rfl,h3,show o.f3 < (R.length:Int) by omega,fun x hq=>?_⟩; obtain rfl:=wY x hq)|(refine Exists.intro [] (And.intro bf (hb.use (And.intro Iff.rfl trivial) rfl rfl ?_)))|(refine Or.inl (And.intro (aq (And.intro Bw.1 Bw.2.1)) ?_))|(refine Or.inl (And.intro (aq Bw.2.2) ?_))|(exact rA)|(intro _))
theorem do_3 (g:pO o) (hk:o.kind=3) (h0:0<=o.f0) (hm:o.f1 = -1/\o.f2 = -1/\o.f3 = -1) (hL:L.length<=100000):ai gT 16 [sP R a L,nC o] (.tup [sP R a (kL L (iz a o) (fP R o.f0)),.int .i64 0,.int .i64 (jD (iz a o))]):=by
 have ew:(gv R).length=8:=by show (R.map (PV.int .u32)).length=8; rw[List.length_map,hl]
 obtain⟨g1,g2,g3,g4,g5,g6,gs⟩:=g
 have hx:∀ f:Int,∀ x,R[f.toNat]?=some x->x=fP R f:=fun f x h=>by unfold fP; rw[List.getD_eq_getElem?_getD,h]; rfl
 have mK:=hx o.f0
 have lC:=hx o.f1
 have wX:=hx o.f2
 have wY:=hx o.f3
 obtain⟨h1,h2,h3⟩:=hm
 have ks:=Bb [] L (iz a o) (fP R o.f0) (wrap_u32 _) hL
 unfold iz at ks ⊢
 refine Spec.enter al uy 100 Tryz.func16 rfl (by kernel_rfl) ?_
 repeat' ((conv=>whnf); first|(refine (And.intro (fun _=>?_) (fun _=>?_):(_->_)/\(_->_))<;>(first|(exfalso; first|contradiction|omega)|skip))|refine Or.inl (And.intro (by first|exact aq (by omega)|exact ah (by omega)|exact aF (by omega)|exact bb (by omega)) ?_)|(refine And.intro (show (_:Int)≠0 by omega) (Or.inl (And.intro (show (0:Int)<=_ by omega) (And.intro (show (0:Int) < _ by omega) ?_))))|(refine And.intro (show (_:Int)≠0 by omega) (Or.inl (And.intro (show (0:Int)<=_ by omega) (And.intro (by first|exact (show (_:Int)<=9223372036854775807 by omega)|exact (show (_:Int)<=4294967295 by omega)) (And.intro (show (0:Int) < _ by omega) ?_)))))|(refine SW.rounds al uy (by kernel_rfl) (N:=60) 5 ?_)|(refine⟨Int,R,PV.int .u32,rfl,h0,show o.f0 < (R.length:Int) by omega,fun x hq=>?_⟩; obtain rfl:=mK x hq)|(refine⟨Int,R,PV.int .u32,rfl,h1,show o.f1 < (R.length:Int) by omega,fun x hq=>?_⟩; obtain rfl:=lC x hq)|(refine⟨Int,R,PV.int .u32,rfl,h2,show o.f2 < (R.length:Int) by omega,fun x hq=>?_⟩; obtain rfl:=wX x hq)|(refine⟨Int,R,PV.int .u32,rfl,h3,show o.f3 < (R.length:Int) by omega,fun x hq=>?_⟩; obtain rfl:=wY x hq)|(refine Or.inr ?_)|(intro _))
 refine ks.u ?_
 exact rA
theorem do_6 (g:pO o) (hk:o.kind=6) (h0:0<=o.f0) (h1:0<=o.f1) (h2:0<=o.f2) (h3:o.f3 = -1) (hL:L.length<=100000):ai gT 16 [sP R a L,nC o] (.tup [sP R a (kL L (gX R o) (fP R o.f2)),.int .i64 0,.int .i64 (jD (gX R o))]):=by
 have ew:(gv R).length=8:=by show (R.map (PV.int .u32)).length=8; rw[List.length_map,hl]
 obtain⟨g1,g2,g3,g4,g5,g6,gs⟩:=g
 have hx:∀ f:Int,∀ x,R[f.toNat]?=some x->x=fP R f:=fun f x h=>by unfold fP; rw[List.getD_eq_getElem?_getD,h]; rfl
 have mK:=hx o.f0
 have lC:=hx o.f1
 have wX:=hx o.f2
 have wY:=hx o.f3
 have ks:=Bb [] L (gX R o) (fP R o.f2) (wrap_u32 _) hL
 unfold gX at ks ⊢
 refine Spec.enter al uy 100 Tryz.func16 rfl (by kernel_rfl) ?_
 repeat' ((conv=>whnf); first|(refine (And.intro (fun _=>?_) (fun _=>?_):(_->_)/\(_->_))<;>(first|(exfalso; first|contradiction|omega)|skip))|refine Or.inl (And.intro (by first|exact aq (by omega)|exact ah (by omega)|exact aF (by omega)|exact bb (by omega)) ?_)|(refine And.intro (show (_:Int)≠0 by omega) (Or.inl (And.intro (show (0:Int)<=_ by omega) (And.intro (show (0:Int) < _ by omega) ?_))))|(refine And.intro (show (_:Int)≠0 by omega) (Or.inl (And.intro (show (0:Int)<=_ by omega) (And.intro (by first|exact (show (_:Int)<=9223372036854775807 by omega)|exact (show (_:Int)<=4294967295 by omega)) (And.intro (show (0:Int) < _ by omega) ?_)))))|(refine SW.rounds al uy (by kernel_rfl) (N:=60) 5 ?_)|(refine⟨Int,R,PV.int .u32,rfl,h0,show o.f0 < (R.length:Int) by omega,fun x hq=>?_⟩; obtain rfl:=mK x hq)|(refine⟨Int,R,PV.int .u32,rfl,h1,show o.f1 < (R.length:Int) by omega,fun x hq=>?_⟩; obtain rfl:=lC x hq)|(refine⟨Int,R,PV.int .u32,rfl,h2,show o.f2 < (R.length:Int) by omega,fun x hq=>?_⟩; obtain rfl:=wX x hq)|(refine⟨Int,R,PV.int .u32,rfl,h3,show o.f3 < (R.length:Int) by omega,fun x hq=>?_⟩; obtain rfl:=wY x hq)|(refine Or.inr ?_)|(intro _))
 refine ks.u ?_
 exact rA
theorem Oe (g:pO o) (hk:o.kind=2) (hm:o.f0 = -1/\o.f1 = -1/\o.f2 = -1/\o.f3 = -1) (he:jj [] (iz a o)≠0):ai gT 16 [sP R a L,nC o] (.tup [sP R a L,.int .i64 0,.int .i64 (jj [] (iz a o))]):=by
 have ew:(gv R).length=8:=by show (R.map (PV.int .u32)).length=8; rw[List.length_map,hl]
 obtain⟨g1,g2,g3,g4,g5,g6,gs⟩:=g
 have hx:∀ f:Int,∀ x,R[f.toNat]?=some x->x=fP R f:=fun f x h=>by unfold fP; rw[List.getD_eq_getElem?_getD,h]; rfl
 have mK:=hx o.f0
 have lC:=hx o.f1
 have wX:=hx o.f2
 have wY:=hx o.f3
 obtain⟨h0,h1,h2,h3⟩:=hm
 have ks:=zj [] L (iz a o) (wrap_u32 _) (fun z hz=>by cases hz) (Nat.zero_le _)
 unfold iz at ks he ⊢
 refine Spec.enter al uy 100 Tryz.func16 rfl (by kernel_rfl) ?_
 repeat' ((conv=>whnf); first|(refine (And.intro (fun _=>?_) (fun _=>?_):(_->_)/\(_->_))<;>(first|(exfalso; first|contradiction|omega)|skip))|refine Or.inl (And.intro (by first|exact aq (by omega)|exact ah (by omega)|exact aF (by omega)|exact bb (by omega)) ?_)|(refine And.intro (show (_:Int)≠0 by omega) (Or.inl (And.intro (show (0:Int)<=_ by omega) (And.intro (show (0:Int) < _ by omega) ?_))))|(refine And.intro (show (_:Int)≠0 by omega) (Or.inl (And.intro (show (0:Int)<=_ by omega) (And.intro (by first|exact (show (_:Int)<=9223372036854775807 by omega)|exact (show (_:Int)<=4294967295 by omega)) (And.intro (show (0:Int) < _ by omega) ?_)))))|(refine SW.rounds al uy (by kernel_rfl) (N:=60) 5 ?_)|(refine⟨Int,R,PV.int .u32,rfl,h0,show o.f0 < (R.length:Int) by omega,fun x hq=>?_⟩; obtain rfl:=mK x hq)|(refine⟨Int,R,PV.int .u32,rfl,h1,show o.f1 < (R.length:Int) by omega,fun x hq=>?_⟩; obtain rfl:=lC x hq)|(refine⟨Int,R,PV.int .u32,rfl,h2,show o.f2 < (R.length:Int) by omega,fun x hq=>?_⟩; obtain rfl:=wX x hq)|(refine⟨Int,R,PV.int .u32,rfl,h3,show o.f3 < (R.length:Int) by omega,fun x hq=>?_⟩; obtain rfl:=wY x hq)|(refine Or.inr ?_)|(intro _))
 refine ks.u ?_
 refine⟨fun _=>?_,fun h=>absurd he h⟩
 exact rA
theorem do_2 (g:pO o) (hk:o.kind=2) (hm:o.f0 = -1/\o.f1 = -1/\o.f2 = -1/\o.f3 = -1) (he:jj [] (iz a o)=0) (hb:aY (qh [] L (iz a o))) (ht:0<=o.t0) (ht1:o.t1 = -1):ai gT 16 [sP R a L,nC o] (.tup [sP (iL R o (qh [] L (iz a o))) a L,.int .i64 0,.int .i64 0]):=by
 have ew:(gv R).length=8:=by show (R.map (PV.int .u32)).length=8; rw[List.length_map,hl]
 obtain⟨g1,g2,g3,g4,g5,g6,gs⟩:=g
 have hx:∀ f:Int,∀ x,R[f.toNat]?=some x->x=fP R f:=fun f x h=>by unfold fP; rw[List.getD_eq_getElem?_getD,h]; rfl
 have mK:=hx o.f0
 have lC:=hx o.f1
 have wX:=hx o.f2
 have wY:=hx o.f3
 obtain⟨h0,h1,h2,h3⟩:=hm
 have ks:=zj [] L (iz a o) (wrap_u32 _) (fun z hz=>by cases hz) (Nat.zero_le _)
 rw[he] at ks
 unfold iz at ks hb ⊢
 have hp:iL R o (qh [] L (iz a o))=R.set o.t0.toNat (qh [] L (iz a o) % 4294967296):=if_neg (by omega)
 unfold iz at hp
 rw[hp]
 generalize qh [] L _=x at ks hb ⊢
 have dA:=hb.1
 have dM:=hb.2
 refine Spec.enter al uy 100 Tryz.func16 rfl (by kernel_rfl) ?_
 repeat' ((conv=>whnf); first|(refine (And.intro (fun _=>?_) (fun _=>?_):(_->_)/\(_->_))<;>(first|(exfalso; first|contradiction|omega)|skip))|refine Or.inl (And.intro (by first|exact aq (by omega)|exact ah (by omega)|exact aF (by omega)|exact bb (by omega)) ?_)|(refine And.intro (show (_:Int)≠0 by omega) (Or.inl (And.intro (show (0:Int)<=_ by omega) (And.intro (show (0:Int) < _ by omega) ?_))))|(refine And.intro (show (_:Int)≠0 by omega) (Or.inl (And.intro (show (0:Int)<=_ by omega) (And.intro (by first|exact (show (_:Int)<=9223372036854775807 by omega)|exact (show (_:Int)<=4294967295 by omega)) (And.intro (show (0:Int) < _ by omega) ?_)))))|(refine SW.rounds al uy (by kernel_rfl) (N:=60) 5 ?_)|(refine⟨Int,R,PV.int .u32,rfl,h0,show o.f0 < (R.length:Int) by omega,fun x hq=>?_⟩; obtain rfl:=mK x hq)|(refine⟨Int,R,PV.int .u32,rfl,h1,show o.f1 < (R.length:Int) by omega,fun x hq=>?_⟩; obtain rfl:=lC x hq)|(refine⟨Int,R,PV.int .u32,rfl,h2,show o.f2 < (R.length:Int) by omega,fun x hq=>?_⟩; obtain rfl:=wX x hq)|(refine⟨Int,R,PV.int .u32,rfl,h3,show o.f3 < (R.length:Int) by omega,fun x hq=>?_⟩; obtain rfl:=wY x hq)|(refine Or.inr ?_)|(intro _))
 refine ks.u ?_
 refine⟨fun h=>absurd rfl h,fun _=>?_⟩
 refine .inl ⟨aF (jO hb),?_⟩
 refine⟨show ([]:List PV).length+(gv R).length<=maxLen by rw[ew]; unfold maxLen; decide,show (([]:List PV).length+(gv R).length)*4<=140737488355328 by rw[ew]; decide,?_⟩
 refine And.intro (show (4294967296:Int)≠0 by decide) (.inl ⟨dA,show (0:Int) < 4294967296 by decide,?_⟩)
 refine lu ?_ (show 0<=x % 4294967296/\x % 4294967296<=4294967295 by omega)
 refine⟨ht,show o.t0 < ((gv R).length:Int) by omega,show o.t0.toNat < (gv R).length by omega,?_⟩
 refine⟨fun h=>absurd (show (0:Int)<=o.t1 from h) (by omega),fun _=>?_⟩
 refine ax ?_
 repeat' first|exact trivial|exact rfl|exact Iff.rfl|exact not_false|refine And.intro ?_ ?_
 all_goals exact (show (gv R).set o.t0.toNat (.int .u32 (x % 4294967296))=gv (R.set o.t0.toNat (x % 4294967296)) by unfold gv; rw[List.map_set])
theorem Of (g:pO o) (hk:o.kind=5) (h0:0<=o.f0) (h1:0<=o.f1) (hm:o.f2 = -1/\o.f3 = -1) (he:jj [] (gX R o)≠0):ai gT 16 [sP R a L,nC o] (.tup [sP R a L,.int .i64 0,.int .i64 (jj [] (gX R o))]):=by
 have ew:(gv R).length=8:=by show (R.map (PV.int .u32)).length=8; rw[List.length_map,hl]
 obtain⟨g1,g2,g3,g4,g5,g6,gs⟩:=g
 have hx:∀ f:Int,∀ x,R[f.toNat]?=some x->x=fP R f:=fun f x h=>by unfold fP; rw[List.getD_eq_getElem?_getD,h]; rfl
 have mK:=hx o.f0
 have lC:=hx o.f1
 have wX:=hx o.f2
 have wY:=hx o.f3
 obtain⟨h2,h3⟩:=hm
 have ks:=zj [] L (gX R o) (wrap_u32 _) (fun z hz=>by cases hz) (Nat.zero_le _)
 unfold gX at ks he ⊢
 refine Spec.enter al uy 100 Tryz.func16 rfl (by kernel_rfl) ?_
 repeat' ((conv=>whnf); first|(refine (And.intro (fun _=>?_) (fun _=>?_):(_->_)/\(_->_))<;>(first|(exfalso; first|contradiction|omega)|skip))|refine Or.inl (And.intro (by first|exact aq (by omega)|exact ah (by omega)|exact aF (by omega)|exact bb (by omega)) ?_)|(refine And.intro (show (_:Int)≠0 by omega) (Or.inl (And.intro (show (0:Int)<=_ by omega) (And.intro (show (0:Int) < _ by omega) ?_))))|(refine And.intro (show (_:Int)≠0 by omega) (Or.inl (And.intro (show (0:Int)<=_ by omega) (And.intro (by first|exact (show (_:Int)<=9223372036854775807 by omega)|exact (show (_:Int)<=4294967295 by omega)) (And.intro (show (0:Int) < _ by omega) ?_)))))|(refine SW.rounds al uy (by kernel_rfl) (N:=60) 5 ?_)|(refine⟨Int,R,PV.int .u32,rfl,h0,show o.f0 < (R.length:Int) by omega,fun x hq=>?_⟩; obtain rfl:=mK x hq)|(refine⟨Int,R,PV.int .u32,rfl,h1,show o.f1 < (R.length:Int) by omega,fun x hq=>?_⟩; obtain rfl:=lC x hq)|(refine⟨Int,R,PV.int .u32,rfl,h2,show o.f2 < (R.length:Int) by omega,fun x hq=>?_⟩; obtain rfl:=wX x hq)|(refine⟨Int,R,PV.int .u32,rfl,h3,show o.f3 < (R.length:Int) by omega,fun x hq=>?_⟩; obtain rfl:=wY x hq)|(refine Or.inr ?_)|(intro _))
 refine ks.u ?_
 refine⟨fun _=>?_,fun h=>absurd he h⟩
 exact rA
theorem do_5 (g:pO o) (hk:o.kind=5) (h0:0<=o.f0) (h1:0<=o.f1) (hm:o.f2 = -1/\o.f3 = -1) (he:jj [] (gX R o)=0) (hb:aY (qh [] L (gX R o))) (ht:0<=o.t0) (ht1:o.t1 = -1):ai gT 16 [sP R a L,nC o] (.tup [sP (iL R o (qh [] L (gX R o))) a L,.int .i64 0,.int .i64 0]):=by
 have ew:(gv R).length=8:=by show (R.map (PV.int .u32)).length=8; rw[List.length_map,hl]
 obtain⟨g1,g2,g3,g4,g5,g6,gs⟩:=g
 have hx:∀ f:Int,∀ x,R[f.toNat]?=some x->x=fP R f:=fun f x h=>by unfold fP; rw[List.getD_eq_getElem?_getD,h]; rfl
 have mK:=hx o.f0
 have lC:=hx o.f1
 have wX:=hx o.f2
 have wY:=hx o.f3
 obtain⟨h2,h3⟩:=hm
 have ks:=zj [] L (gX R o) (wrap_u32 _) (fun z hz=>by cases hz) (Nat.zero_le _)
 rw[he] at ks
 unfold gX at ks hb ⊢
 have hp:iL R o (qh [] L (gX R o))=R.set o.t0.toNat (qh [] L (gX R o) % 4294967296):=if_neg (by omega)
 unfold gX at hp
 rw[hp]
 generalize qh [] L _=x at ks hb ⊢
 have dA:=hb.1
 have dM:=hb.2
 refine Spec.enter al uy 100 Tryz.func16 rfl (by kernel_rfl) ?_
 repeat' ((conv=>whnf); first|(refine (And.intro (fun _=>?_) (fun _=>?_):(_->_)/\(_->_))<;>(first|(exfalso; first|contradiction|omega)|skip))|refine Or.inl (And.intro (by first|exact aq (by omega)|exact ah (by omega)|exact aF (by omega)|exact bb (by omega)) ?_)|(refine And.intro (show (_:Int)≠0 by omega) (Or.inl (And.intro (show (0:Int)<=_ by omega) (And.intro (show (0:Int) < _ by omega) ?_))))|(refine And.intro (show (_:Int)≠0 by omega) (Or.inl (And.intro (show (0:Int)<=_ by omega) (And.intro (by first|exact (show (_:Int)<=9223372036854775807 by omega)|exact (show (_:Int)<=4294967295 by omega)) (And.intro (show (0:Int) < _ by omega) ?_)))))|(refine SW.rounds al uy (by kernel_rfl) (N:=60) 5 ?_)|(refine⟨Int,R,PV.int .u32,rfl,h0,show o.f0 < (R.length:Int) by omega,fun x hq=>?_⟩; obtain rfl:=mK x hq)|(refine⟨Int,R,PV.int .u32,rfl,h1,show o.f1 < (R.length:Int) by omega,fun x hq=>?_⟩; obtain rfl:=lC x hq)|(refine⟨Int,R,PV.int .u32,rfl,h2,show o.f2 < (R.length:Int) by omega,fun x hq=>?_⟩; obtain rfl:=wX x hq)|(refine⟨Int,R,PV.int .u32,rfl,h3,show o.f3 < (R.length:Int) by omega,fun x hq=>?_⟩; obtain rfl:=wY x hq)|(refine Or.inr ?_)|(intro _))
 refine ks.u ?_
 refine⟨fun h=>absurd rfl h,fun _=>?_⟩
 refine .inl ⟨aF (jO hb),?_⟩
 refine⟨show ([]:List PV).length+(gv R).length<=maxLen by rw[ew]; unfold maxLen; decide,show (([]:List PV).length+(gv R).length)*4<=140737488355328 by rw[ew]; decide,?_⟩
 refine And.intro (show (4294967296:Int)≠0 by decide) (.inl ⟨dA,show (0:Int) < 4294967296 by decide,?_⟩)
 refine lu ?_ (show 0<=x % 4294967296/\x % 4294967296<=4294967295 by omega)
 refine⟨ht,show o.t0 < ((gv R).length:Int) by omega,show o.t0.toNat < (gv R).length by omega,?_⟩
 refine⟨fun h=>absurd (show (0:Int)<=o.t1 from h) (by omega),fun _=>?_⟩
 refine ax ?_
 repeat' first|exact trivial|exact rfl|exact Iff.rfl|exact not_false|refine And.intro ?_ ?_
 all_goals exact (show (gv R).set o.t0.toNat (.int .u32 (x % 4294967296))=gv (R.set o.t0.toNat (x % 4294967296)) by unfold gv; rw[List.map_set])
theorem do_4 (g:pO o) (hk:o.kind=4) (hm:o.f0 = -1/\o.f1 = -1/\o.f2 = -1/\o.f3 = -1) (ht:0<=o.t0):ai gT 16 [sP R a L,nC o] (.tup [sP (iL R o (tv R a o)) a L,.int .i64 0,.int .i64 0]):=by
 have ew:(gv R).length=8:=by show (R.map (PV.int .u32)).length=8; rw[List.length_map,hl]
 obtain⟨g1,g2,g3,g4,g5,g6,gs⟩:=g
 have hx:∀ f:Int,∀ x,R[f.toNat]?=some x->x=fP R f:=fun f x h=>by unfold fP; rw[List.getD_eq_getElem?_getD,h]; rfl
 have mK:=hx o.f0
 have lC:=hx o.f1
 have wX:=hx o.f2
 have wY:=hx o.f3
 obtain⟨h0,h1,h2,h3⟩:=hm
 have eo:tv R a o=IntKind.u32.wrap (a+o.n):=by unfold tv; rw[if_pos hk,IntKind.wrap_u32']
 rw[eo]
 have Wg:=jO (wrap_u32 (a+o.n))
 refine Spec.enter al uy 100 Tryz.func16 rfl (by kernel_rfl) ?_
 repeat' ((conv=>whnf); first|(refine (And.intro (fun _=>?_) (fun _=>?_):(_->_)/\(_->_))<;>(first|(exfalso; first|contradiction|omega)|skip))|refine Or.inl (And.intro (by first|exact aq (by omega)|exact ah (by omega)|exact aF (by omega)|exact bb (by omega)) ?_)|(refine And.intro (show (_:Int)≠0 by omega) (Or.inl (And.intro (show (0:Int)<=_ by omega) (And.intro (show (0:Int) < _ by omega) ?_))))|(refine And.intro (show (_:Int)≠0 by omega) (Or.inl (And.intro (show (0:Int)<=_ by omega) (And.intro (by first|exact (show (_:Int)<=9223372036854775807 by omega)|exact (show (_:Int)<=4294967295 by omega)) (And.intro (show (0:Int) < _ by omega) ?_)))))|(refine SW.rounds al uy (by kernel_rfl) (N:=60) 5 ?_)|(refine⟨Int,R,PV.int .u32,rfl,h0,show o.f0 < (R.length:Int) by omega,fun x hq=>?_⟩; obtain rfl:=mK x hq)|(refine⟨Int,R,PV.int .u32,rfl,h1,show o.f1 < (R.length:Int) by omega,fun x hq=>?_⟩; obtain rfl:=lC x hq)|(refine⟨Int,R,PV.int .u32,rfl,h2,show o.f2 < (R.length:Int) by omega,fun x hq=>?_⟩; obtain rfl:=wX x hq)|(refine⟨Int,R,PV.int .u32,rfl,h3,show o.f3 < (R.length:Int) by omega,fun x hq=>?_⟩; obtain rfl:=wY x hq)|(refine Or.inl (And.intro (aF (jO (wrap_u32 _))) ?_))|(refine Or.inr ?_)|(intro _))
 generalize IntKind.u32.wrap (a+o.n)=x at Wg ⊢
 obtain⟨dA,dM⟩:=Wg
 refine⟨show ([]:List PV).length+(gv R).length<=maxLen by rw[ew]; unfold maxLen; decide,show (([]:List PV).length+(gv R).length)*4<=140737488355328 by rw[ew]; decide,?_⟩
 refine And.intro (show (4294967296:Int)≠0 by decide) (.inl ⟨dA,show (0:Int) < 4294967296 by decide,?_⟩)
 refine lu ?_ (show 0<=x % 4294967296/\x % 4294967296<=4294967295 by omega)
 refine⟨ht,show o.t0 < ((gv R).length:Int) by omega,show o.t0.toNat < (gv R).length by omega,?_⟩
 refine⟨fun h=>?_,fun h=>?_⟩
 ·have h':0<=o.t1:=h
  refine And.intro (show (4294967296:Int)≠0 by decide) (.inl ⟨dA,dM,show (0:Int) < 4294967296 by decide,?_⟩)
  refine lu ?_ (show 0<=x / 4294967296/\x / 4294967296<=4294967295 by omega)
  have es:((gv R).set o.t0.toNat (.int .u32 (x % 4294967296))).length=8:=by rw[List.length_set,ew]
  refine⟨h',show o.t1 < (((gv R).set o.t0.toNat (.int .u32 (x % 4294967296))).length:Int) by omega,show o.t1.toNat < ((gv R).set o.t0.toNat (.int .u32 (x % 4294967296))).length by omega,?_⟩
  refine ax ?_
  repeat' first|exact trivial|exact rfl|exact Iff.rfl|exact not_false|refine And.intro ?_ ?_
  all_goals exact (show ((gv R).set o.t0.toNat (.int .u32 (x % 4294967296))).set o.t1.toNat (.int .u32 (x / 4294967296))=gv (iL R o x) by unfold iL; rw[if_pos h']; unfold gv; rw[List.map_set,List.map_set])
 ·have h':¬ 0<=o.t1:=h
  refine ax ?_
  repeat' first|exact trivial|exact rfl|exact Iff.rfl|exact not_false|refine And.intro ?_ ?_
  all_goals exact (show (gv R).set o.t0.toNat (.int .u32 (x % 4294967296))=gv (iL R o x) by unfold iL; rw[if_neg h']; unfold gv; rw[List.map_set])
theorem Wh (g:pO o) (hk:1<=o.kind/\o.kind<=29) (k2:o.kind≠2) (k3:o.kind≠3) (k4:o.kind≠4) (k5:o.kind≠5) (k6:o.kind≠6) (ht:0<=o.t0):ai gT 16 [sP R a L,nC o] (.tup [sP (iL R o (tv R a o)) a L,.int .i64 0,.int .i64 0]):=by
 have ew:(gv R).length=8:=by show (R.map (PV.int .u32)).length=8; rw[List.length_map,hl]
 obtain⟨g1,g2,g3,g4,g5,g6,gs⟩:=g
 have hx:∀ f:Int,∀ x,R[f.toNat]?=some x->x=fP R f:=fun f x h=>by unfold fP; rw[List.getD_eq_getElem?_getD,h]; rfl
 have mK:=hx o.f0
 have lC:=hx o.f1
 have wX:=hx o.f2
 have wY:=hx o.f3
 have eo:tv R a o=cJ o.kind o.n (vA R o.f0) (vA R o.f1) (vA R o.f2) (vA R o.f3):=if_neg k4
 rw[eo]
 have Wg:=Od o.kind o.n (vA R o.f0) (vA R o.f1) (vA R o.f2) (vA R o.f3) hn (qi hR _) (qi hR _) (qi hR _) (qi hR _)
 have hv:=A' o hk hn (vA R o.f0) (vA R o.f1) (vA R o.f2) (vA R o.f3) (qi hR _) (qi hR _) (qi hR _) (qi hR _)
 generalize cJ o.kind o.n (vA R o.f0) (vA R o.f1) (vA R o.f2) (vA R o.f3)=x at Wg hv ⊢
 obtain⟨dA,dM⟩:=Wg
 rcases gs with ⟨h0,h1,h2,h3⟩|⟨h0,h1,h2,h3⟩|⟨h0,h1,h2,h3⟩|⟨h0,h1,h2,h3⟩|⟨h0,h1,h2,h3⟩
 all_goals first|rw[show vA R o.f0=fP R o.f0 from if_pos h0] at hv|rw[show vA R o.f0=0 from if_neg (by omega)] at hv
 all_goals first|rw[show vA R o.f1=fP R o.f1 from if_pos h1] at hv|rw[show vA R o.f1=0 from if_neg (by omega)] at hv
 all_goals first|rw[show vA R o.f2=fP R o.f2 from if_pos h2] at hv|rw[show vA R o.f2=0 from if_neg (by omega)] at hv
 all_goals first|rw[show vA R o.f3=fP R o.f3 from if_pos h3] at hv|rw[show vA R o.f3=0 from if_neg (by omega)] at hv
 all_goals
  refine Spec.enter al uy 100 Tryz.func16 rfl (by kernel_rfl) ?_
  repeat' ((conv=>whnf); first|(refine (And.intro (fun _=>?_) (fun _=>?_):(_->_)/\(_->_))<;>(first|(exfalso; first|contradiction|omega)|skip))|refine Or.inl (And.intro (by first|exact aq (by omega)|exact ah (by omega)|exact aF (by omega)|exact bb (by omega)) ?_)|(refine And.intro (show (_:Int)≠0 by omega) (Or.inl (And.intro (show (0:Int)<=_ by omega) (And.intro (show (0:Int) < _ by omega) ?_))))|(refine And.intro (show (_:Int)≠0 by omega) (Or.inl (And.intro (show (0:Int)<=_ by omega) (And.intro (by first|exact (show (_:Int)<=9223372036854775807 by omega)|exact (show (_:Int)<=4294967295 by omega)) (And.intro (show (0:Int) < _ by omega) ?_)))))|(refine SW.rounds al uy (by kernel_rfl) (N:=60) 5 ?_)|(refine⟨Int,R,PV.int .u32,rfl,h0,show o.f0 < (R.length:Int) by omega,fun x hq=>?_⟩; obtain rfl:=mK x hq)|(refine⟨Int,R,PV.int .u32,rfl,h1,show o.f1 < (R.length:Int) by omega,fun x hq=>?_⟩; obtain rfl:=lC x hq)|(refine⟨Int,R,PV.int .u32,rfl,h2,show o.f2 < (R.length:Int) by omega,fun x hq=>?_⟩; obtain rfl:=wX x hq)|(refine⟨Int,R,PV.int .u32,rfl,h3,show o.f3 < (R.length:Int) by omega,fun x hq=>?_⟩; obtain rfl:=wY x hq)|(refine Or.inl (And.intro (aF (jO (wrap_u32 _))) ?_))|(refine Or.inr ?_)|(intro _))
  refine hv.u ?_
  refine⟨show ([]:List PV).length+(gv R).length<=maxLen by rw[ew]; unfold maxLen; decide,show (([]:List PV).length+(gv R).length)*4<=140737488355328 by rw[ew]; decide,?_⟩
  refine And.intro (show (4294967296:Int)≠0 by decide) (.inl ⟨dA,show (0:Int) < 4294967296 by decide,?_⟩)
  refine lu ?_ (show 0<=x % 4294967296/\x % 4294967296<=4294967295 by omega)
  refine⟨ht,show o.t0 < ((gv R).length:Int) by omega,show o.t0.toNat < (gv R).length by omega,?_⟩
  refine⟨fun h=>?_,fun h=>?_⟩
  ·have h':0<=o.t1:=h
   refine And.intro (show (4294967296:Int)≠0 by decide) (.inl ⟨dA,dM,show (0:Int) < 4294967296 by decide,?_⟩)
   refine lu ?_ (show 0<=x / 4294967296/\x / 4294967296<=4294967295 by omega)
   have es:((gv R).set o.t0.toNat (.int .u32 (x % 4294967296))).length=8:=by rw[List.length_set,ew]
   refine⟨h',show o.t1 < (((gv R).set o.t0.toNat (.int .u32 (x % 4294967296))).length:Int) by omega,show o.t1.toNat < ((gv R).set o.t0.toNat (.int .u32 (x % 4294967296))).length by omega,?_⟩
   refine ax ?_
   repeat' first|exact trivial|exact rfl|exact Iff.rfl|exact not_false|refine And.intro ?_ ?_
   all_goals exact (show ((gv R).set o.t0.toNat (.int .u32 (x % 4294967296))).set o.t1.toNat (.int .u32 (x / 4294967296))=gv (iL R o x) by unfold iL; rw[if_pos h']; unfold gv; rw[List.map_set,List.map_set])
  ·have h':¬ 0<=o.t1:=h
   refine ax ?_
   repeat' first|exact trivial|exact rfl|exact Iff.rfl|exact not_false|refine And.intro ?_ ?_
   all_goals exact (show (gv R).set o.t0.toNat (.int .u32 (x % 4294967296))=gv (iL R o x) by unfold iL; rw[if_neg h']; unfold gv; rw[List.map_set])
end
end Go.Proofs.YtlgkljpgagfndaaGreatDoor.Pw

/- What this claim is proved with: no condition. -/
import Derived.Test.YtlgkljpgagfndaaGreatDoorNv30
import Derived.Test.YtlgkljpgagfndaaGreatDoorNv24
import Derived.Test.YtlgkljpgagfndaaGreatDoorNv23
import Derived.Test.YtlgkljpgagfndaaGreatDoorNv12
import Derived.Test.YtlgkljpgagfndaaGreatDoorNv15
import Derived.Test.YtlgkljpgagfndaaGreatDoorNv28
set_option maxRecDepth 100000
set_option maxHeartbeats 16000000
set_option linter.unusedVariables false
set_option linter.unusedSimpArgs false
set_option linter.unusedSectionVars false
namespace Go.Proofs.YtlgkljpgagfndaaGreatDoor.Pw
open Go Go.RowKit
def UK (L:List (Int × Int)) (a:Int):Nat->Int
 | 0=>0
 | n+1=>if (L.getD n (0,0)).1=a then (L.getD n (0,0)).2 else UK L a n
def Z6 (L:List (Int × Int)) (a:Int):Int:=UK L a L.length
def qk (fl:List Int) (L:List (Int × Int)) (a:Int):Int:=if a % 4≠0 then 0 else if dH a then Z6 L a else if iL fl a 4 then hN fl (c8 a)+hN fl (c8 a+2)*65536 else 0
def jQ (fl:List Int) (a:Int):Nat->Int
 | 0=>0
 | k+1=>jQ fl a k*256+fl.getD (c8 a+(3 - k)) 0
theorem MT {fl:List Int} (hb:Bg fl) (a:Int):0<=jQ fl a 1/\jQ fl a 1<=255/\0<=jQ fl a 2/\jQ fl a 2<=65535/\0<=jQ fl a 3/\jQ fl a 3<=16777215/\0<=jQ fl a 4/\jQ fl a 4<=4294967295:=by
 have b0:=e8 hb (c8 a)
 have b1:=e8 hb (c8 a+1)
 have b2:=e8 hb (c8 a+2)
 have b3:=e8 hb (c8 a+3)
 simp only[jQ,Nat.sub_zero,show 3 - 1=2 from rfl,show 3 - 2=1 from rfl,Nat.sub_self,Nat.add_zero]
 omega
theorem UL (fl:List Int) (a:Int):jQ fl a 4=hN fl (c8 a)+hN fl (c8 a+2)*65536:=by
 unfold hN
 simp only[jQ,Nat.sub_zero,show 3 - 1=2 from rfl,show 3 - 2=1 from rfl,Nat.sub_self,Nat.add_zero]
 rw[show c8 a+2+1=c8 a+3 by omega]
 omega
theorem BG (fl:List Int) (L:List (Int × Int)) (a:Int) (ha:a_ a) (hb:Bg fl) (hl:fl.length<=65536):ai gT 41 [mP fl L,.int .u32 a] (.tup [.int .u32 (qk fl L a),.int .i64 (jr fl a)]):=by
 have kr:=Z0 a
 have el:(L.map wP).length=L.length:=List.length_map ..
 obtain⟨a0,a1⟩:=ha
 refine Spec.enter al P41 100 Tryz.func41 rfl (by kernel_rfl) ?_
 refine And.intro (show (4:Int)≠0 by decide) (.inl ⟨a0,show (0:Int) < 4 by decide,?_⟩)
 refine⟨fun h=>?_,fun h=>?_⟩
 ·have h':a % 4≠0:=h
  rw[show qk fl L a=0 by unfold qk; rw[if_pos h'],show jr fl a=60 by unfold jr; rw[if_pos h']]
  exact rA
 have h':¬ a % 4≠0:=h
 refine kr.u ?_
 refine⟨fun hr=>?_,fun hr=>?_⟩
 ·have pn:dH a:=hr
  rw[show qk fl L a=Z6 L a by unfold qk; rw[if_neg h',if_pos pn],show jr fl a=0 by unfold jr; rw[if_neg h',if_pos pn]]
  refine fun hm=>?_
  have lQ:(L.map wP).length<=maxLen:=hm
  rw[el] at lQ
  unfold maxLen at lQ
  refine li ?_ (show _<=(((L.map wP).length:Nat):Int) - 1/\(((L.map wP).length:Nat):Int) - 1<=_ by rw[el]; omega)
  refine SW.q9 al P41 (by kernel_rfl) (α:={n:Nat // n<=L.length/\UK L a n=Z6 L a}) (fun n=>[(6,.int .i64 ((n.1:Int) - 1))]) (fun n=>n.1) ⟨L.length,Nat.le_refl _,rfl⟩ 60 ?_ ?_
  ·repeat' first|exact trivial|exact rfl|exact Iff.rfl|exact not_false|refine And.intro ?_ ?_
   all_goals exact (show (((L.map wP).length:Nat):Int) - 1=((L.length:Nat):Int) - 1 by rw[el])
  rintro⟨n,hn,VK⟩
  refine⟨fun hp=>?_,fun hp=>?_⟩
  ·have eU:(0:Int)<=(n:Int) - 1:=hp
   obtain⟨j,rfl⟩:∃ j,n=j+1:=⟨n - 1,by omega⟩
   obtain⟨p,OG⟩:∃ p,L[j]?=some p:=⟨_,List.getElem?_eq_getElem (by omega)⟩
   have hg:L.getD j (0,0)=p:=by rw[List.getD_eq_getElem?_getD,OG]; rfl
   have ej:((((j+1:Nat):Int) - 1).toNat)=j:=by omega
   refine⟨Int × Int,L,wP,rfl,show (0:Int)<=((j+1:Nat):Int) - 1 by omega,show ((j+1:Nat):Int) - 1 < (L.length:Int) by omega,fun q hq=>?_⟩
   have pr:L[(((j+1:Nat):Int) - 1).toNat]?=some q:=hq
   rw[ej,OG] at pr
   obtain rfl:=Option.some.inj pr
   refine⟨fun he=>?_,fun he=>?_⟩
   ·have E3:p.1=a:=he
    refine⟨Int × Int,L,wP,rfl,show (0:Int)<=((j+1:Nat):Int) - 1 by omega,show ((j+1:Nat):Int) - 1 < (L.length:Int) by omega,fun q hq=>?_⟩
    have pr:L[(((j+1:Nat):Int) - 1).toNat]?=some q:=hq
    rw[ej,OG] at pr
    obtain rfl:=Option.some.inj pr
    exact aw (And.intro (show p.2=Z6 L a by rw[← VK,UK,hg,if_pos E3]) (And.intro rfl trivial))
   ·have E3:¬ p.1=a:=he
    refine .inl ⟨ao (show _<=((j+1:Nat):Int) - 1 - 1/\((j+1:Nat):Int) - 1 - 1<=_ by omega),⟨⟨j,by omega,by rw[← VK]; exact (show UK L a j=UK L a (j+1) by rw[UK,hg,if_neg E3])⟩,show j < j+1 by omega,?_⟩⟩
    repeat' first|exact trivial|exact rfl|exact Iff.rfl|exact not_false|refine And.intro ?_ ?_
    all_goals exact (show ((j+1:Nat):Int) - 1 - 1=(j:Int) - 1 by omega)
  ·have eU:¬ (0:Int)<=(n:Int) - 1:=hp
   obtain rfl:n=0:=by omega
   exact aw (And.intro (show (0:Int)=Z6 L a from VK) (And.intro rfl trivial))
 have pn:¬ dH a:=hr
 by_cases hf:iL fl a 4
 ·rw[show qk fl L a=jQ fl a 4 by unfold qk; rw[if_neg h',if_neg pn,if_pos hf,UL],show jr fl a=0 by unfold jr; rw[if_neg h',if_neg pn,if_pos hf]]
  have hb4:=MT hb a
  unfold iL at hf
  refine SW.q9 al P41 (by kernel_rfl) (α:={k:Nat // k<=4}) (fun k=>[(7,.int .u32 (jQ fl a k.1)),(8,.int .i64 (3 - (k.1:Int)))]) (fun k=>4 - k.1) ⟨0,by decide⟩ 60 ?_ ?_
  ·repeat' first|exact trivial|exact rfl|exact Iff.rfl|exact not_false|refine And.intro ?_ ?_
  rintro⟨k,hk⟩
  refine⟨fun hp=>?_,fun hp=>?_⟩
  ·have eU:(0:Int)<=3 - (k:Int):=hp
   have hv:0<=jQ fl a k/\jQ fl a k<=16777215:=by
    rcases (show k=0\/k=1\/k=2\/k=3 by omega) with rfl|rfl|rfl|rfl
    ·exact⟨Int.le_refl 0,show (0:Int)<=16777215 by decide⟩
    all_goals omega
   have hg:=e8 hb (c8 a+(3 - k))
   have eo:c8 (a+(3 - (k:Int)))=c8 a+(3 - k):=by unfold c8; omega
   have ky:=D2 fl L (a+(3 - (k:Int))) ⟨by omega,by omega⟩ hb (by unfold hasB; omega)
   rw[eo] at ky
   refine lu ?_ (show 0<=3 - (k:Int)/\3 - (k:Int)<=4294967295 by omega)
   refine lu ?_ (show 0<=a+(3 - (k:Int))/\a+(3 - (k:Int))<=4294967295 by omega)
   refine ky.u ?_
   refine lu ?_ (show 0<=jQ fl a k*256/\jQ fl a k*256<=4294967295 by omega)
   refine lu ?_ (show 0<=jQ fl a k*256+fl.getD (c8 a+(3 - k)) 0/\jQ fl a k*256+fl.getD (c8 a+(3 - k)) 0<=4294967295 by omega)
   refine .inl ⟨ao (show _<=3 - (k:Int) - 1/\3 - (k:Int) - 1<=_ by omega),⟨⟨k+1,by omega⟩,show 4 - (k+1) < 4 - k by omega,?_⟩⟩
   repeat' first|exact trivial|exact rfl|exact Iff.rfl|exact not_false|refine And.intro ?_ ?_
   all_goals exact (show 3 - (k:Int) - 1=3 - ((k+1:Nat):Int) by omega)
  ·have eU:¬ (0:Int)<=3 - (k:Int):=hp
   obtain rfl:k=4:=by omega
   exact rA
 ·rw[show qk fl L a=0 by unfold qk; rw[if_neg h',if_neg pn,if_neg hf],show jr fl a=61 by unfold jr; rw[if_neg h',if_neg pn,if_neg hf]]
  unfold iL at hf
  have ew:=IntKind.wrap_u32' (a+3)
  have kn:=II fl L (IntKind.u32.wrap (a+3)) (wrap_u32 _) (by unfold hasB; omega)
  refine SW.q9 al P41 (by kernel_rfl) (α:=Unit) (fun _=>[(7,.int .u32 0),(8,.int .i64 3)]) (fun _=>0) () 60 ?_ ?_
  ·repeat' first|exact trivial|exact rfl|exact Iff.rfl|exact not_false|refine And.intro ?_ ?_
  rintro⟨⟩
  refine⟨fun _=>?_,fun h=>absurd (show (0:Int)<=3 by decide) h⟩
  refine lu ?_ (show (0:Int)<=3/\(3:Int)<=4294967295 by decide)
  refine .inr ?_
  refine kn.u ?_
  exact rA
def gR (L:List (Int × Int)) (a:Int):List (Int × Int):=L.filter fun p=>decide (p.1≠a)
def UM (L:List (Int × Int)) (a v:Int):List (Int × Int):=gR L a++[(a,v)]
def sj (L:List (Int × Int)) (a v:Int):List (Int × Int):=if jT a=0 then UM L a v else L
theorem z4 {L:List (Int × Int)} {k:Nat} {p:Int × Int} (a:Int) (h:L[k]?=some p):gR (L.take (k+1)) a=gR (L.take k) a++(if p.1≠a then [p] else []):=by
 unfold gR
 rw[List.take_add_one,h,List.filter_append]
 by_cases hp:p.1=a
 ·simp[hp]
 ·simp[hp]
theorem D9 (L:List (Int × Int)) (a:Int):(gR L a).length<=L.length:=List.length_filter_le ..
theorem IX (fl:List Int) (L:List (Int × Int)) (a v:Int) (ha:a_ a) (hL:L.length<=100000):ai gT 13 [mP fl L,.int .u32 a,.int .u32 v] (.tup [mP fl (sj L a v),.int .i64 (jT a)]):=by
 have kr:=Z0 a
 have el:(L.map wP).length=L.length:=List.length_map ..
 obtain⟨a0,a1⟩:=ha
 refine Spec.enter al P13 100 Tryz.func13 rfl (by kernel_rfl) ?_
 refine And.intro (show (4:Int)≠0 by decide) (.inl ⟨a0,show (0:Int) < 4 by decide,?_⟩)
 refine⟨fun h=>?_,fun h=>?_⟩
 ·have h':a % 4≠0:=h
  have e:jT a=60:=by unfold jT; rw[if_pos h']
  unfold sj
  rw[e,if_neg (by decide)]
  exact rA
 have h':¬ a % 4≠0:=h
 by_cases h2:134217728<=a/\a < 134283264
 ·have e:jT a=62:=by unfold jT; rw[if_neg h',if_pos h2]
  unfold sj
  rw[e,if_neg (by decide)]
  refine⟨fun _=>?_,fun h=>absurd h2.1 h⟩
  refine⟨fun _=>?_,fun h=>absurd h2.2 h⟩
  exact rA
 by_cases hr:dH a
 ·have e:jT a=0:=by unfold jT; rw[if_neg h',if_neg h2,if_pos hr]
  unfold sj
  rw[e,if_pos rfl]
  have YT:=hr
  unfold dH at YT
  repeat' (refine (And.intro (fun _=>?_) (fun _=>?_):(_->_)/\(_->_))<;>(first|(exfalso; omega)|skip))
  all_goals refine kr.u ?_
  all_goals refine⟨fun h=>absurd hr h,fun _=>?_⟩
  refine SW.mh al P13 (by kernel_rfl) (α:={k:Nat // k<=L.length}) (fun k=>[(1,.int .u32 a),(2,.int .u32 v),(3,.ptr 0 0),(6,.ptr 1 0),(8,.wref 2),(9,.int .i64 k.1)]) (fun k=>[⟨.loc,44,1,.w,true,[.sl 1 (gz fl),.sl 2 (L.map wP)]⟩,⟨.loc,44,1,.w,true,[.sl 1 [],.sl 2 []]⟩,⟨.dyn,97,2,.w,true,(gR (L.take k.1) a).map wP⟩]) (fun k=>L.length - k.1) ⟨0,Nat.zero_le _⟩ 60 [some 0,some 1,none] ?_ ?_
  ·repeat' first|exact trivial|exact rfl|exact Iff.rfl|exact not_false|refine And.intro ?_ ?_
  rintro⟨k,hk⟩
  have hkl:=D9 (L.take k) a
  rw[List.length_take] at hkl
  have eK:((gR (L.take k) a).map wP).length=(gR (L.take k) a).length:=List.length_map ..
  refine fun hm=>?_
  refine⟨fun hp=>?_,fun hp=>?_⟩
  ·have eU:(k:Int) < ((L.map wP).length:Nat):=hp
   rw[el] at eU
   obtain⟨p,hpk⟩:∃ p,L[k]?=some p:=⟨_,List.getElem?_eq_getElem (by omega)⟩
   have hs:=z4 a hpk
   refine⟨Int × Int,L,wP,rfl,show (0:Int)<=(k:Int) by omega,show (k:Int) < (L.length:Int) by omega,fun q hq=>?_⟩
   obtain rfl:p=q:=Option.some.inj (hpk.symm.trans hq)
   refine⟨fun he=>?_,fun he=>?_⟩
   ·have E3:p.1≠a:=he
    rw[if_pos E3] at hs
    refine⟨Int × Int,L,wP,rfl,show (0:Int)<=(k:Int) by omega,show (k:Int) < (L.length:Int) by omega,fun q hq=>?_⟩
    obtain rfl:p=q:=Option.some.inj (hpk.symm.trans hq)
    refine⟨show ((gR (L.take k) a).map wP).length+1<=maxLen by rw[eK]; unfold maxLen; omega,show (((gR (L.take k) a).map wP).length+1)*8<=140737488355328 by rw[eK]; omega,?_⟩
    refine .inl ⟨ao (show _<=(k:Int)+1/\(k:Int)+1<=_ by omega),⟨⟨k+1,by omega⟩,[some 0,some 1,some 4],show L.length - (k+1) < L.length - k by omega,?_⟩⟩
    repeat' first|exact trivial|exact rfl|exact Iff.rfl|exact not_false|refine And.intro ?_ ?_
    all_goals exact (show (gR (L.take k) a).map wP++[wP p]=(gR (L.take (k+1)) a).map wP by rw[hs,List.map_append]; rfl)
   ·have E3:¬ p.1≠a:=he
    rw[if_neg E3,List.append_nil] at hs
    refine .inl ⟨ao (show _<=(k:Int)+1/\(k:Int)+1<=_ by omega),⟨⟨k+1,by omega⟩,[some 0,some 1,some 2],show L.length - (k+1) < L.length - k by omega,?_⟩⟩
    repeat' first|exact trivial|exact rfl|exact Iff.rfl|exact not_false|refine And.intro ?_ ?_
    all_goals exact (show (gR (L.take k) a).map wP=(gR (L.take (k+1)) a).map wP by rw[hs])
  ·have eU:¬ (k:Int) < ((L.map wP).length:Nat):=hp
   rw[el] at eU
   have ek:L.take k=L:=List.take_of_length_le (by omega)
   rw[ek] at hkl eK
   refine⟨show ((gR (L.take k) a).map wP).length+1<=maxLen by rw[ek,eK]; unfold maxLen; omega,show (((gR (L.take k) a).map wP).length+1)*8<=140737488355328 by rw[ek,eK]; omega,?_⟩
   refine aw ?_
   repeat' first|exact trivial|exact rfl|exact Iff.rfl|exact not_false|refine And.intro ?_ ?_
   all_goals exact (show (gR (L.take k) a).map wP++[wP (a,v)]=(UM L a v).map wP by rw[ek]; unfold UM; rw[List.map_append]; rfl)
 ·have e:jT a=61:=by unfold jT; rw[if_neg h',if_neg h2,if_neg hr]
  unfold sj
  rw[e,if_neg (by decide)]
  repeat' (refine (And.intro (fun _=>?_) (fun _=>?_):(_->_)/\(_->_))<;>(first|(exfalso; omega)|skip))
  all_goals refine kr.u ?_
  all_goals refine⟨fun _=>?_,fun h=>absurd hr h⟩
  all_goals exact rA
structure UN (s:RS):Prop where
 r:∀ k,a_ (s.R k)
 n:0<=s.N
 z:0<=s.Z
 c:0<=s.C
 v:0<=s.V
theorem UN.ok {s:RS} (h:UN s):eh (vG s):=DX h.r h.n h.z h.c h.v
open Classical in
noncomputable def z5 (p:Prop):Int:=if p then 1 else 0
theorem IY (p:Prop):-9223372036854775808<=z5 p/\z5 p<=9223372036854775807/\-9223372036854775808<=2*z5 p/\2*z5 p<=9223372036854775807:=by
 unfold z5; split<;>omega
def fV (l:List Int):List PV:=l.map (PV.int .u32)
def sFs (R:List Int) (a:Int) (L:List (Int × Int)):List PV:=[.sl 1 (fV R),.int .u32 a,.sl 1 (gz []),.sl 2 (L.map wP)]
def sP (R:List Int) (a:Int) (L:List (Int × Int)):PV:=.agg (sFs R a L)
def gV (R:List Int) (f:Int):Int:=R.getD f.toNat 0
def vA (R:List Int) (f:Int):Int:=if 0<=f then gV R f else 0
theorem UO {R:List Int} (hR:∀ z∈R,a_ z) (f:Int):a_ (gV R f):=by
 unfold gV
 rw[List.getD_eq_getElem?_getD]
 cases h:R[f.toNat]? with
 | none=>exact⟨by decide,by decide⟩
 | some x=>exact hR x (List.mem_of_getElem? h)
theorem kg {R:List Int} (hR:∀ z∈R,a_ z) (f:Int):a_ (vA R f):=by
 unfold vA
 split
 ·exact UO hR f
 ·exact⟨by decide,by decide⟩
def iN (a:Int) (o:VO):Int:=IntKind.u32.wrap (a+o.n)
def iO (R:List Int) (o:VO):Int:=IntKind.u32.wrap (gV R o.f0+IntKind.u32.wrap (4*gV R o.f1))
theorem jo {x:Int} (h:a_ x):0<=x/\x<=18446744073709551615:=by unfold a_ at h; omega
noncomputable def oh (R:List Int) (a:Int) (o:VO):Int:=if o.kind=4 then (a+o.n) % 4294967296 else cH o.kind o.n (vA R o.f0) (vA R o.f1) (vA R o.f2) (vA R o.f3)
def iP (R:List Int) (o:VO) (x:Int):List Int:=if 0<=o.t1 then (R.set o.t0.toNat (x % 4294967296)).set o.t1.toNat (x / 4294967296) else R.set o.t0.toNat (x % 4294967296)
def MU (x:Int):Prop:=0<=x/\x<=18446744073709551615
theorem MV {p:Prop} [Decidable p] {x y:Int} (hx:p->MU x) (hy:MU y):MU (if p then x else y):=by
 split
 ·exact hx (by assumption)
 ·exact hy
theorem BH (k n v0 v1 v2 v3:Int) (hn:a_ n) (h0:a_ v0) (h1:a_ v1) (h2:a_ v2) (h3:a_ v3):MU (cH k n v0 v1 v2 v3):=by
 have hm:=yg h0 h1
 have hs:∀ k n,MU (gP k v0 n):=fun k n=>jo (jm k v0 n h0)
 have hd:=jo (sd h0 h1)
 obtain⟨ha,ho,hx,_⟩:=dX h0 h1
 have ha:=jo ha
 have ho:=jo ho
 have hx:=jo hx
 have b1:∀ (p:Prop) [Decidable p],MU (if p then 1 else 0):=fun p _=>by split<;>(unfold MU; omega)
 unfold a_ at hn h0 h1 h2 h3
 unfold cH
 repeat (refine MV (fun _=>?_) ?_; focus first|exact hs _ _|exact hd|exact ha|exact ho|exact hx|exact b1 _|(unfold MU; omega))
 unfold MU; omega
structure pa (o:VO):Prop where
 t0:-1<=o.t0/\o.t0<=7
 t1:-1<=o.t1/\o.t1<=7
 f0:-1<=o.f0/\o.f0<=7
 f1:-1<=o.f1/\o.f1<=7
 f2:-1<=o.f2/\o.f2<=7
 f3:-1<=o.f3/\o.f3<=7
 fs:(o.f0 = -1/\o.f1 = -1/\o.f2 = -1/\o.f3 = -1)\/(0<=o.f0/\o.f1 = -1/\o.f2 = -1/\o.f3 = -1)\/(0<=o.f0/\0<=o.f1/\o.f2 = -1/\o.f3 = -1)\/(0<=o.f0/\0<=o.f1/\0<=o.f2/\o.f3 = -1)\/(0<=o.f0/\0<=o.f1/\0<=o.f2/\0<=o.f3)
theorem yl {o:VO} (h:aM o/\dM o):pa o:=by
 have hp:=(iG o h.1).1 h
 obtain⟨_,⟨p0,p1⟩,⟨q0,q1,q2,q3⟩,_⟩:=h.1
 unfold ae at hp
 unfold da at p0 p1 q0 q1 q2 q3
 refine⟨by omega,by omega,by omega,by omega,by omega,by omega,by omega⟩
section
variable (o:VO) (hn:a_ o.n) (R:List Int) (hl:R.length=8) (hR:∀ z∈R,a_ z) (a:Int) (ha:a_ a) (L:List (Int × Int))
include hn hl hR ha
theorem Z7 (g:pa o) (hk:o.kind=30) (h0:0<=o.f0) (hm:o.f1 = -1/\o.f2 = -1/\o.f3 = -1):ai gT 16 [sP R a L,gS o] (.tup [sP R a L,.int .i64 (z5 (o.n<=gV R o.f0)),.int .i64 0]):=by
 have ew:(fV R).length=8:=by show (R.map (PV.int .u32)).length=8; rw[List.length_map,hl]
 obtain⟨g1,g2,g3,g4,g5,g6,gs⟩:=g
 have hx:∀ f:Int,∀ x,R[f.toNat]?=some x->x=gV R f:=fun f x h=>by unfold gV; rw[List.getD_eq_getElem?_getD,h]; rfl
 have me:=hx o.f0
 have lT:=hx o.f1
 have vL:=hx o.f2
 have vM:=hx o.f3
 obtain⟨h1,h2,h3⟩:=hm
 have hb:ai gT 40 [.bool (o.n<=gV R o.f0)] (.int .u64 (z5 (o.n<=gV R o.f0))):=lp _
 have Ji:=IY (o.n<=gV R o.f0)
 generalize z5 (o.n<=gV R o.f0)=q at hb Ji ⊢
 refine Spec.enter al tC 100 Tryz.func16 rfl (by kernel_rfl) ?_
 repeat' ((conv=>whnf); first|(refine (And.intro (fun _=>?_) (fun _=>?_):(_->_)/\(_->_))<;>(first|(exfalso; first|contradiction|omega)|skip))|refine Or.inl (And.intro (by first|exact ao (by omega)|exact ah (by omega)|exact aF (by omega)|exact ba (by omega)) ?_)|(refine And.intro (show (_:Int)≠0 by omega) (Or.inl (And.intro (show (0:Int)<=_ by omega) (And.intro (show (0:Int) < _ by omega) ?_))))|(refine And.intro (show (_:Int)≠0 by omega) (Or.inl (And.intro (show (0:Int)<=_ by omega) (And.intro (by first|exact (show (_:Int)<=9223372036854775807 by omega)|exact (show (_:Int)<=4294967295 by omega)) (And.intro (show (0:Int) < _ by omega) ?_)))))|(refine SW.rounds al tC (by kernel_rfl) (N:=60) 5 ?_)|(refine⟨Int,R,PV.int .u32,rfl,h0,show o.f0 < (R.length:Int) by omega,fun x hq=>?_⟩; obtain rfl:=me x hq)|(refine⟨Int,R,PV.int .u32,rfl,h1,show o.f1 < (R.length:Int) by omega,fun x hq=>?_⟩; obtain rfl:=lT x hq)|(refine⟨Int,R,PV.int .u32,rfl,h2,show o.f2 < (R.length:Int) by omega,fun x hq=>?_⟩; obtain rfl:=vL x hq)|(refine⟨Int,R,PV.int .u32,rfl,h3,show o.f3 < (R.length:Int) by omega,fun x hq=>?_⟩; obtain rfl:=vM x hq)|(refine Exists.intro [] (And.intro bn (hb.use (And.intro Iff.rfl trivial) rfl rfl ?_)))|(refine Or.inl (And.intro (ao (And.intro Ji.1 Ji.2.1)) ?_))|(exact rA)|(intro _))
theorem Z8 (g:pa o) (hk:o.kind=31) (h0:0<=o.f0) (hm:o.f1 = -1/\o.f2 = -1/\o.f3 = -1):ai gT 16 [sP R a L,gS o] (.tup [sP R a L,.int .i64 (2*z5 (gV R o.f0=0)),.int .i64 0]):=by
 have ew:(fV R).length=8:=by show (R.map (PV.int .u32)).length=8; rw[List.length_map,hl]
 obtain⟨g1,g2,g3,g4,g5,g6,gs⟩:=g
 have hx:∀ f:Int,∀ x,R[f.toNat]?=some x->x=gV R f:=fun f x h=>by unfold gV; rw[List.getD_eq_getElem?_getD,h]; rfl
 have me:=hx o.f0
 have lT:=hx o.f1
 have vL:=hx o.f2
 have vM:=hx o.f3
 obtain⟨h1,h2,h3⟩:=hm
 have hb:ai gT 40 [.bool (gV R o.f0=0)] (.int .u64 (z5 (gV R o.f0=0))):=lp _
 have Ji:=IY (gV R o.f0=0)
 generalize z5 (gV R o.f0=0)=q at hb Ji ⊢
 refine Spec.enter al tC 100 Tryz.func16 rfl (by kernel_rfl) ?_
 repeat' ((conv=>whnf); first|(refine (And.intro (fun _=>?_) (fun _=>?_):(_->_)/\(_->_))<;>(first|(exfalso; first|contradiction|omega)|skip))|refine Or.inl (And.intro (by first|exact ao (by omega)|exact ah (by omega)|exact aF (by omega)|exact ba (by omega)) ?_)|(refine And.intro (show (_:Int)≠0 by omega) (Or.inl (And.intro (show (0:Int)<=_ by omega) (And.intro (show (0:Int) < _ by omega) ?_))))|(refine And.intro (show (_:Int)≠0 by omega) (Or.inl (And.intro (show (0:Int)<=_ by omega) (And.intro (by first|exact (show (_:Int)<=9223372036854775807 by omega)|exact (show (_:Int)<=4294967295 by omega)) (And.intro (show (0:Int) < _ by omega) ?_)))))|(refine SW.rounds al tC (by kernel_rfl) (N:=60) 5 ?_)|(refine⟨Int,R,PV.int .u32,rfl,h0,show o.f0 < (R.length:Int) by omega,fun x hq=>?_⟩; obtain rfl:=me x hq)|(refine⟨Int,R,PV.int .u32,rfl,h1,show o.f1 < (R.length:Int) by omega,fun x hq=>?_⟩; obtain rfl:=lT x hq)|(refine⟨Int,R,PV.int .u32,rfl,h2,show o.f2 < (R.length:Int) by omega,fun x hq=>?_⟩; obtain rfl:=vL x hq)|(refine⟨Int,R,PV.int .u32,rfl,h3,show o.f3 < (R.length:Int) by omega,fun x hq=>?_⟩; obtain rfl:=vM x hq)|(refine Exists.intro [] (And.intro bn (hb.use (And.intro Iff.rfl trivial) rfl rfl ?_)))|(refine Or.inl (And.intro (ao (And.intro Ji.1 Ji.2.1)) ?_))|(refine Or.inl (And.intro (ao Ji.2.2) ?_))|(exact rA)|(intro _))
theorem do_3 (g:pa o) (hk:o.kind=3) (h0:0<=o.f0) (hm:o.f1 = -1/\o.f2 = -1/\o.f3 = -1) (hL:L.length<=100000):ai gT 16 [sP R a L,gS o] (.tup [sP R a (sj L (iN a o) (gV R o.f0)),.int .i64 0,.int .i64 (jT (iN a o))]):=by
 have ew:(fV R).length=8:=by show (R.map (PV.int .u32)).length=8; rw[List.length_map,hl]
 obtain⟨g1,g2,g3,g4,g5,g6,gs⟩:=g
 have hx:∀ f:Int,∀ x,R[f.toNat]?=some x->x=gV R f:=fun f x h=>by unfold gV; rw[List.getD_eq_getElem?_getD,h]; rfl
 have me:=hx o.f0
 have lT:=hx o.f1
 have vL:=hx o.f2
 have vM:=hx o.f3
 obtain⟨h1,h2,h3⟩:=hm
 have ks:=IX [] L (iN a o) (gV R o.f0) (wrap_u32 _) hL
 unfold iN at ks ⊢
 refine Spec.enter al tC 100 Tryz.func16 rfl (by kernel_rfl) ?_
 repeat' ((conv=>whnf); first|(refine (And.intro (fun _=>?_) (fun _=>?_):(_->_)/\(_->_))<;>(first|(exfalso; first|contradiction|omega)|skip))|refine Or.inl (And.intro (by first|exact ao (by omega)|exact ah (by omega)|exact aF (by omega)|exact ba (by omega)) ?_)|(refine And.intro (show (_:Int)≠0 by omega) (Or.inl (And.intro (show (0:Int)<=_ by omega) (And.intro (show (0:Int) < _ by omega) ?_))))|(refine And.intro (show (_:Int)≠0 by omega) (Or.inl (And.intro (show (0:Int)<=_ by omega) (And.intro (by first|exact (show (_:Int)<=9223372036854775807 by omega)|exact (show (_:Int)<=4294967295 by omega)) (And.intro (show (0:Int) < _ by omega) ?_)))))|(refine SW.rounds al tC (by kernel_rfl) (N:=60) 5 ?_)|(refine⟨Int,R,PV.int .u32,rfl,h0,show o.f0 < (R.length:Int) by omega,fun x hq=>?_⟩; obtain rfl:=me x hq)|(refine⟨Int,R,PV.int .u32,rfl,h1,show o.f1 < (R.length:Int) by omega,fun x hq=>?_⟩; obtain rfl:=lT x hq)|(refine⟨Int,R,PV.int .u32,rfl,h2,show o.f2 < (R.length:Int) by omega,fun x hq=>?_⟩; obtain rfl:=vL x hq)|(refine⟨Int,R,PV.int .u32,rfl,h3,show o.f3 < (R.length:Int) by omega,fun x hq=>?_⟩; obtain rfl:=vM x hq)|(refine Or.inr ?_)|(intro _))
 refine ks.u ?_
 exact rA
theorem do_6 (g:pa o) (hk:o.kind=6) (h0:0<=o.f0) (h1:0<=o.f1) (h2:0<=o.f2) (h3:o.f3 = -1) (hL:L.length<=100000):ai gT 16 [sP R a L,gS o] (.tup [sP R a (sj L (iO R o) (gV R o.f2)),.int .i64 0,.int .i64 (jT (iO R o))]):=by
 have ew:(fV R).length=8:=by show (R.map (PV.int .u32)).length=8; rw[List.length_map,hl]
 obtain⟨g1,g2,g3,g4,g5,g6,gs⟩:=g
 have hx:∀ f:Int,∀ x,R[f.toNat]?=some x->x=gV R f:=fun f x h=>by unfold gV; rw[List.getD_eq_getElem?_getD,h]; rfl
 have me:=hx o.f0
 have lT:=hx o.f1
 have vL:=hx o.f2
 have vM:=hx o.f3
 have ks:=IX [] L (iO R o) (gV R o.f2) (wrap_u32 _) hL
 unfold iO at ks ⊢
 refine Spec.enter al tC 100 Tryz.func16 rfl (by kernel_rfl) ?_
 repeat' ((conv=>whnf); first|(refine (And.intro (fun _=>?_) (fun _=>?_):(_->_)/\(_->_))<;>(first|(exfalso; first|contradiction|omega)|skip))|refine Or.inl (And.intro (by first|exact ao (by omega)|exact ah (by omega)|exact aF (by omega)|exact ba (by omega)) ?_)|(refine And.intro (show (_:Int)≠0 by omega) (Or.inl (And.intro (show (0:Int)<=_ by omega) (And.intro (show (0:Int) < _ by omega) ?_))))|(refine And.intro (show (_:Int)≠0 by omega) (Or.inl (And.intro (show (0:Int)<=_ by omega) (And.intro (by first|exact (show (_:Int)<=9223372036854775807 by omega)|exact (show (_:Int)<=4294967295 by omega)) (And.intro (show (0:Int) < _ by omega) ?_)))))|(refine SW.rounds al tC (by kernel_rfl) (N:=60) 5 ?_)|(refine⟨Int,R,PV.int .u32,rfl,h0,show o.f0 < (R.length:Int) by omega,fun x hq=>?_⟩; obtain rfl:=me x hq)|(refine⟨Int,R,PV.int .u32,rfl,h1,show o.f1 < (R.length:Int) by omega,fun x hq=>?_⟩; obtain rfl:=lT x hq)|(refine⟨Int,R,PV.int .u32,rfl,h2,show o.f2 < (R.length:Int) by omega,fun x hq=>?_⟩; obtain rfl:=vL x hq)|(refine⟨Int,R,PV.int .u32,rfl,h3,show o.f3 < (R.length:Int) by omega,fun x hq=>?_⟩; obtain rfl:=vM x hq)|(refine Or.inr ?_)|(intro _))
 refine ks.u ?_
 exact rA
theorem MW (g:pa o) (hk:o.kind=2) (hm:o.f0 = -1/\o.f1 = -1/\o.f2 = -1/\o.f3 = -1) (he:jr [] (iN a o)≠0):ai gT 16 [sP R a L,gS o] (.tup [sP R a L,.int .i64 0,.int .i64 (jr [] (iN a o))]):=by
 have ew:(fV R).length=8:=by show (R.map (PV.int .u32)).length=8; rw[List.length_map,hl]
 obtain⟨g1,g2,g3,g4,g5,g6,gs⟩:=g
 have hx:∀ f:Int,∀ x,R[f.toNat]?=some x->x=gV R f:=fun f x h=>by unfold gV; rw[List.getD_eq_getElem?_getD,h]; rfl
 have me:=hx o.f0
 have lT:=hx o.f1
 have vL:=hx o.f2
 have vM:=hx o.f3
 obtain⟨h0,h1,h2,h3⟩:=hm
 have ks:=BG [] L (iN a o) (wrap_u32 _) (fun z hz=>by cases hz) (Nat.zero_le _)
 unfold iN at ks he ⊢
 refine Spec.enter al tC 100 Tryz.func16 rfl (by kernel_rfl) ?_
 repeat' ((conv=>whnf); first|(refine (And.intro (fun _=>?_) (fun _=>?_):(_->_)/\(_->_))<;>(first|(exfalso; first|contradiction|omega)|skip))|refine Or.inl (And.intro (by first|exact ao (by omega)|exact ah (by omega)|exact aF (by omega)|exact ba (by omega)) ?_)|(refine And.intro (show (_:Int)≠0 by omega) (Or.inl (And.intro (show (0:Int)<=_ by omega) (And.intro (show (0:Int) < _ by omega) ?_))))|(refine And.intro (show (_:Int)≠0 by omega) (Or.inl (And.intro (show (0:Int)<=_ by omega) (And.intro (by first|exact (show (_:Int)<=9223372036854775807 by omega)|exact (show (_:Int)<=4294967295 by omega)) (And.intro (show (0:Int) < _ by omega) ?_)))))|(refine SW.rounds al tC (by kernel_rfl) (N:=60) 5 ?_)|(refine⟨Int,R,PV.int .u32,rfl,h0,show o.f0 < (R.length:Int) by omega,fun x hq=>?_⟩; obtain rfl:=me x hq)|(refine⟨Int,R,PV.int .u32,rfl,h1,show o.f1 < (R.length:Int) by omega,fun x hq=>?_⟩; obtain rfl:=lT x hq)|(refine⟨Int,R,PV.int .u32,rfl,h2,show o.f2 < (R.length:Int) by omega,fun x hq=>?_⟩; obtain rfl:=vL x hq)|(refine⟨Int,R,PV.int .u32,rfl,h3,show o.f3 < (R.length:Int) by omega,fun x hq=>?_⟩; obtain rfl:=vM x hq)|(refine Or.inr ?_)|(intro _))
 refine ks.u ?_
 refine⟨fun _=>?_,fun h=>absurd he h⟩
 exact rA
theorem do_2 (g:pa o) (hk:o.kind=2) (hm:o.f0 = -1/\o.f1 = -1/\o.f2 = -1/\o.f3 = -1) (he:jr [] (iN a o)=0) (hb:a_ (qk [] L (iN a o))) (ht:0<=o.t0) (ht1:o.t1 = -1):ai gT 16 [sP R a L,gS o] (.tup [sP (iP R o (qk [] L (iN a o))) a L,.int .i64 0,.int .i64 0]):=by
 have ew:(fV R).length=8:=by show (R.map (PV.int .u32)).length=8; rw[List.length_map,hl]
 obtain⟨g1,g2,g3,g4,g5,g6,gs⟩:=g
 have hx:∀ f:Int,∀ x,R[f.toNat]?=some x->x=gV R f:=fun f x h=>by unfold gV; rw[List.getD_eq_getElem?_getD,h]; rfl
 have me:=hx o.f0
 have lT:=hx o.f1
 have vL:=hx o.f2
 have vM:=hx o.f3
 obtain⟨h0,h1,h2,h3⟩:=hm
 have ks:=BG [] L (iN a o) (wrap_u32 _) (fun z hz=>by cases hz) (Nat.zero_le _)
 rw[he] at ks
 unfold iN at ks hb ⊢
 have hp:iP R o (qk [] L (iN a o))=R.set o.t0.toNat (qk [] L (iN a o) % 4294967296):=if_neg (by omega)
 unfold iN at hp
 rw[hp]
 generalize qk [] L _=x at ks hb ⊢
 have du:=hb.1
 have dF:=hb.2
 refine Spec.enter al tC 100 Tryz.func16 rfl (by kernel_rfl) ?_
 repeat' ((conv=>whnf); first|(refine (And.intro (fun _=>?_) (fun _=>?_):(_->_)/\(_->_))<;>(first|(exfalso; first|contradiction|omega)|skip))|refine Or.inl (And.intro (by first|exact ao (by omega)|exact ah (by omega)|exact aF (by omega)|exact ba (by omega)) ?_)|(refine And.intro (show (_:Int)≠0 by omega) (Or.inl (And.intro (show (0:Int)<=_ by omega) (And.intro (show (0:Int) < _ by omega) ?_))))|(refine And.intro (show (_:Int)≠0 by omega) (Or.inl (And.intro (show (0:Int)<=_ by omega) (And.intro (by first|exact (show (_:Int)<=9223372036854775807 by omega)|exact (show (_:Int)<=4294967295 by omega)) (And.intro (show (0:Int) < _ by omega) ?_)))))|(refine SW.rounds al tC (by kernel_rfl) (N:=60) 5 ?_)|(refine⟨Int,R,PV.int .u32,rfl,h0,show o.f0 < (R.length:Int) by omega,fun x hq=>?_⟩; obtain rfl:=me x hq)|(refine⟨Int,R,PV.int .u32,rfl,h1,show o.f1 < (R.length:Int) by omega,fun x hq=>?_⟩; obtain rfl:=lT x hq)|(refine⟨Int,R,PV.int .u32,rfl,h2,show o.f2 < (R.length:Int) by omega,fun x hq=>?_⟩; obtain rfl:=vL x hq)|(refine⟨Int,R,PV.int .u32,rfl,h3,show o.f3 < (R.length:Int) by omega,fun x hq=>?_⟩; obtain rfl:=vM x hq)|(refine Or.inr ?_)|(intro _))
 refine ks.u ?_
 refine⟨fun h=>absurd rfl h,fun _=>?_⟩
 refine .inl ⟨aF (jo hb),?_⟩
 refine⟨show ([]:List PV).length+(fV R).length<=maxLen by rw[ew]; unfold maxLen; decide,show (([]:List PV).length+(fV R).length)*4<=140737488355328 by rw[ew]; decide,?_⟩
 refine And.intro (show (4294967296:Int)≠0 by decide) (.inl ⟨du,show (0:Int) < 4294967296 by decide,?_⟩)
 refine lu ?_ (show 0<=x % 4294967296/\x % 4294967296<=4294967295 by omega)
 refine⟨ht,show o.t0 < ((fV R).length:Int) by omega,show o.t0.toNat < (fV R).length by omega,?_⟩
 refine⟨fun h=>absurd (show (0:Int)<=o.t1 from h) (by omega),fun _=>?_⟩
 refine aw ?_
 repeat' first|exact trivial|exact rfl|exact Iff.rfl|exact not_false|refine And.intro ?_ ?_
 all_goals exact (show (fV R).set o.t0.toNat (.int .u32 (x % 4294967296))=fV (R.set o.t0.toNat (x % 4294967296)) by unfold fV; rw[List.map_set])
theorem MX (g:pa o) (hk:o.kind=5) (h0:0<=o.f0) (h1:0<=o.f1) (hm:o.f2 = -1/\o.f3 = -1) (he:jr [] (iO R o)≠0):ai gT 16 [sP R a L,gS o] (.tup [sP R a L,.int .i64 0,.int .i64 (jr [] (iO R o))]):=by
 have ew:(fV R).length=8:=by show (R.map (PV.int .u32)).length=8; rw[List.length_map,hl]
 obtain⟨g1,g2,g3,g4,g5,g6,gs⟩:=g
 have hx:∀ f:Int,∀ x,R[f.toNat]?=some x->x=gV R f:=fun f x h=>by unfold gV; rw[List.getD_eq_getElem?_getD,h]; rfl
 have me:=hx o.f0
 have lT:=hx o.f1
 have vL:=hx o.f2
 have vM:=hx o.f3
 obtain⟨h2,h3⟩:=hm
 have ks:=BG [] L (iO R o) (wrap_u32 _) (fun z hz=>by cases hz) (Nat.zero_le _)
 unfold iO at ks he ⊢
 refine Spec.enter al tC 100 Tryz.func16 rfl (by kernel_rfl) ?_
 repeat' ((conv=>whnf); first|(refine (And.intro (fun _=>?_) (fun _=>?_):(_->_)/\(_->_))<;>(first|(exfalso; first|contradiction|omega)|skip))|refine Or.inl (And.intro (by first|exact ao (by omega)|exact ah (by omega)|exact aF (by omega)|exact ba (by omega)) ?_)|(refine And.intro (show (_:Int)≠0 by omega) (Or.inl (And.intro (show (0:Int)<=_ by omega) (And.intro (show (0:Int) < _ by omega) ?_))))|(refine And.intro (show (_:Int)≠0 by omega) (Or.inl (And.intro (show (0:Int)<=_ by omega) (And.intro (by first|exact (show (_:Int)<=9223372036854775807 by omega)|exact (show (_:Int)<=4294967295 by omega)) (And.intro (show (0:Int) < _ by omega) ?_)))))|(refine SW.rounds al tC (by kernel_rfl) (N:=60) 5 ?_)|(refine⟨Int,R,PV.int .u32,rfl,h0,show o.f0 < (R.length:Int) by omega,fun x hq=>?_⟩; obtain rfl:=me x hq)|(refine⟨Int,R,PV.int .u32,rfl,h1,show o.f1 < (R.length:Int) by omega,fun x hq=>?_⟩; obtain rfl:=lT x hq)|(refine⟨Int,R,PV.int .u32,rfl,h2,show o.f2 < (R.length:Int) by omega,fun x hq=>?_⟩; obtain rfl:=vL x hq)|(refine⟨Int,R,PV.int .u32,rfl,h3,show o.f3 < (R.length:Int) by omega,fun x hq=>?_⟩; obtain rfl:=vM x hq)|(refine Or.inr ?_)|(intro _))
 refine ks.u ?_
 refine⟨fun _=>?_,fun h=>absurd he h⟩
 exact rA
theorem do_5 (g:pa o) (hk:o.kind=5) (h0:0<=o.f0) (h1:0<=o.f1) (hm:o.f2 = -1/\o.f3 = -1) (he:jr [] (iO R o)=0) (hb:a_ (qk [] L (iO R o))) (ht:0<=o.t0) (ht1:o.t1 = -1):ai gT 16 [sP R a L,gS o] (.tup [sP (iP R o (qk [] L (iO R o))) a L,.int .i64 0,.int .i64 0]):=by
 have ew:(fV R).length=8:=by show (R.map (PV.int .u32)).length=8; rw[List.length_map,hl]
 obtain⟨g1,g2,g3,g4,g5,g6,gs⟩:=g
 have hx:∀ f:Int,∀ x,R[f.toNat]?=some x->x=gV R f:=fun f x h=>by unfold gV; rw[List.getD_eq_getElem?_getD,h]; rfl
 have me:=hx o.f0
 have lT:=hx o.f1
 have vL:=hx o.f2
 have vM:=hx o.f3
 obtain⟨h2,h3⟩:=hm
 have ks:=BG [] L (iO R o) (wrap_u32 _) (fun z hz=>by cases hz) (Nat.zero_le _)
 rw[he] at ks
 unfold iO at ks hb ⊢
 have hp:iP R o (qk [] L (iO R o))=R.set o.t0.toNat (qk [] L (iO R o) % 4294967296):=if_neg (by omega)
 unfold iO at hp
 rw[hp]
 generalize qk [] L _=x at ks hb ⊢
 have du:=hb.1
 have dF:=hb.2
 refine Spec.enter al tC 100 Tryz.func16 rfl (by kernel_rfl) ?_
 repeat' ((conv=>whnf); first|(refine (And.intro (fun _=>?_) (fun _=>?_):(_->_)/\(_->_))<;>(first|(exfalso; first|contradiction|omega)|skip))|refine Or.inl (And.intro (by first|exact ao (by omega)|exact ah (by omega)|exact aF (by omega)|exact ba (by omega)) ?_)|(refine And.intro (show (_:Int)≠0 by omega) (Or.inl (And.intro (show (0:Int)<=_ by omega) (And.intro (show (0:Int) < _ by omega) ?_))))|(refine And.intro (show (_:Int)≠0 by omega) (Or.inl (And.intro (show (0:Int)<=_ by omega) (And.intro (by first|exact (show (_:Int)<=9223372036854775807 by omega)|exact (show (_:Int)<=4294967295 by omega)) (And.intro (show (0:Int) < _ by omega) ?_)))))|(refine SW.rounds al tC (by kernel_rfl) (N:=60) 5 ?_)|(refine⟨Int,R,PV.int .u32,rfl,h0,show o.f0 < (R.length:Int) by omega,fun x hq=>?_⟩; obtain rfl:=me x hq)|(refine⟨Int,R,PV.int .u32,rfl,h1,show o.f1 < (R.length:Int) by omega,fun x hq=>?_⟩; obtain rfl:=lT x hq)|(refine⟨Int,R,PV.int .u32,rfl,h2,show o.f2 < (R.length:Int) by omega,fun x hq=>?_⟩; obtain rfl:=vL x hq)|(refine⟨Int,R,PV.int .u32,rfl,h3,show o.f3 < (R.length:Int) by omega,fun x hq=>?_⟩; obtain rfl:=vM x hq)|(refine Or.inr ?_)|(intro _))
 refine ks.u ?_
 refine⟨fun h=>absurd rfl h,fun _=>?_⟩
 refine .inl ⟨aF (jo hb),?_⟩
 refine⟨show ([]:List PV).length+(fV R).length<=maxLen by rw[ew]; unfold maxLen; decide,show (([]:List PV).length+(fV R).length)*4<=140737488355328 by rw[ew]; decide,?_⟩
 refine And.intro (show (4294967296:Int)≠0 by decide) (.inl ⟨du,show (0:Int) < 4294967296 by decide,?_⟩)
 refine lu ?_ (show 0<=x % 4294967296/\x % 4294967296<=4294967295 by omega)
 refine⟨ht,show o.t0 < ((fV R).length:Int) by omega,show o.t0.toNat < (fV R).length by omega,?_⟩
 refine⟨fun h=>absurd (show (0:Int)<=o.t1 from h) (by omega),fun _=>?_⟩
 refine aw ?_
 repeat' first|exact trivial|exact rfl|exact Iff.rfl|exact not_false|refine And.intro ?_ ?_
 all_goals exact (show (fV R).set o.t0.toNat (.int .u32 (x % 4294967296))=fV (R.set o.t0.toNat (x % 4294967296)) by unfold fV; rw[List.map_set])
theorem do_4 (g:pa o) (hk:o.kind=4) (hm:o.f0 = -1/\o.f1 = -1/\o.f2 = -1/\o.f3 = -1) (ht:0<=o.t0):ai gT 16 [sP R a L,gS o] (.tup [sP (iP R o (oh R a o)) a L,.int .i64 0,.int .i64 0]):=by
 have ew:(fV R).length=8:=by show (R.map (PV.int .u32)).length=8; rw[List.length_map,hl]
 obtain⟨g1,g2,g3,g4,g5,g6,gs⟩:=g
 have hx:∀ f:Int,∀ x,R[f.toNat]?=some x->x=gV R f:=fun f x h=>by unfold gV; rw[List.getD_eq_getElem?_getD,h]; rfl
 have me:=hx o.f0
 have lT:=hx o.f1
 have vL:=hx o.f2
 have vM:=hx o.f3
 obtain⟨h0,h1,h2,h3⟩:=hm
 have eo:oh R a o=IntKind.u32.wrap (a+o.n):=by unfold oh; rw[if_pos hk,IntKind.wrap_u32']
 rw[eo]
 have Z9:=jo (wrap_u32 (a+o.n))
 refine Spec.enter al tC 100 Tryz.func16 rfl (by kernel_rfl) ?_
 repeat' ((conv=>whnf); first|(refine (And.intro (fun _=>?_) (fun _=>?_):(_->_)/\(_->_))<;>(first|(exfalso; first|contradiction|omega)|skip))|refine Or.inl (And.intro (by first|exact ao (by omega)|exact ah (by omega)|exact aF (by omega)|exact ba (by omega)) ?_)|(refine And.intro (show (_:Int)≠0 by omega) (Or.inl (And.intro (show (0:Int)<=_ by omega) (And.intro (show (0:Int) < _ by omega) ?_))))|(refine And.intro (show (_:Int)≠0 by omega) (Or.inl (And.intro (show (0:Int)<=_ by omega) (And.intro (by first|exact (show (_:Int)<=9223372036854775807 by omega)|exact (show (_:Int)<=4294967295 by omega)) (And.intro (show (0:Int) < _ by omega) ?_)))))|(refine SW.rounds al tC (by kernel_rfl) (N:=60) 5 ?_)|(refine⟨Int,R,PV.int .u32,rfl,h0,show o.f0 < (R.length:Int) by omega,fun x hq=>?_⟩; obtain rfl:=me x hq)|(refine⟨Int,R,PV.int .u32,rfl,h1,show o.f1 < (R.length:Int) by omega,fun x hq=>?_⟩; obtain rfl:=lT x hq)|(refine⟨Int,R,PV.int .u32,rfl,h2,show o.f2 < (R.length:Int) by omega,fun x hq=>?_⟩; obtain rfl:=vL x hq)|(refine⟨Int,R,PV.int .u32,rfl,h3,show o.f3 < (R.length:Int) by omega,fun x hq=>?_⟩; obtain rfl:=vM x hq)|(refine Or.inl (And.intro (aF (jo (wrap_u32 _))) ?_))|(refine Or.inr ?_)|(intro _))
 generalize IntKind.u32.wrap (a+o.n)=x at Z9 ⊢
 obtain⟨du,dF⟩:=Z9
 refine⟨show ([]:List PV).length+(fV R).length<=maxLen by rw[ew]; unfold maxLen; decide,show (([]:List PV).length+(fV R).length)*4<=140737488355328 by rw[ew]; decide,?_⟩
 refine And.intro (show (4294967296:Int)≠0 by decide) (.inl ⟨du,show (0:Int) < 4294967296 by decide,?_⟩)
 refine lu ?_ (show 0<=x % 4294967296/\x % 4294967296<=4294967295 by omega)
 refine⟨ht,show o.t0 < ((fV R).length:Int) by omega,show o.t0.toNat < (fV R).length by omega,?_⟩
 refine⟨fun h=>?_,fun h=>?_⟩
 ·have h':0<=o.t1:=h
  refine And.intro (show (4294967296:Int)≠0 by decide) (.inl ⟨du,dF,show (0:Int) < 4294967296 by decide,?_⟩)
  refine lu ?_ (show 0<=x / 4294967296/\x / 4294967296<=4294967295 by omega)
  have es:((fV R).set o.t0.toNat (.int .u32 (x % 4294967296))).length=8:=by rw[List.length_set,ew]
  refine⟨h',show o.t1 < (((fV R).set o.t0.toNat (.int .u32 (x % 4294967296))).length:Int) by omega,show o.t1.toNat < ((fV R).set o.t0.toNat (.int .u32 (x % 4294967296))).length by omega,?_⟩
  refine aw ?_
  repeat' first|exact trivial|exact rfl|exact Iff.rfl|exact not_false|refine And.intro ?_ ?_
  all_goals exact (show ((fV R).set o.t0.toNat (.int .u32 (x % 4294967296))).set o.t1.toNat (.int .u32 (x / 4294967296))=fV (iP R o x) by unfold iP; rw[if_pos h']; unfold fV; rw[List.map_set,List.map_set])
 ·have h':¬ 0<=o.t1:=h
  refine aw ?_
  repeat' first|exact trivial|exact rfl|exact Iff.rfl|exact not_false|refine And.intro ?_ ?_
  all_goals exact (show (fV R).set o.t0.toNat (.int .u32 (x % 4294967296))=fV (iP R o x) by unfold iP; rw[if_neg h']; unfold fV; rw[List.map_set])
theorem UP (g:pa o) (hk:1<=o.kind/\o.kind<=29) (k2:o.kind≠2) (k3:o.kind≠3) (k4:o.kind≠4) (k5:o.kind≠5) (k6:o.kind≠6) (ht:0<=o.t0):ai gT 16 [sP R a L,gS o] (.tup [sP (iP R o (oh R a o)) a L,.int .i64 0,.int .i64 0]):=by
 have ew:(fV R).length=8:=by show (R.map (PV.int .u32)).length=8; rw[List.length_map,hl]
 obtain⟨g1,g2,g3,g4,g5,g6,gs⟩:=g
 have hx:∀ f:Int,∀ x,R[f.toNat]?=some x->x=gV R f:=fun f x h=>by unfold gV; rw[List.getD_eq_getElem?_getD,h]; rfl
 have me:=hx o.f0
 have lT:=hx o.f1
 have vL:=hx o.f2
 have vM:=hx o.f3
 have eo:oh R a o=cH o.kind o.n (vA R o.f0) (vA R o.f1) (vA R o.f2) (vA R o.f3):=if_neg k4
 rw[eo]
 have Z9:=BH o.kind o.n (vA R o.f0) (vA R o.f1) (vA R o.f2) (vA R o.f3) hn (kg hR _) (kg hR _) (kg hR _) (kg hR _)
 have hv:=zX o hk hn (vA R o.f0) (vA R o.f1) (vA R o.f2) (vA R o.f3) (kg hR _) (kg hR _) (kg hR _) (kg hR _)
 generalize cH o.kind o.n (vA R o.f0) (vA R o.f1) (vA R o.f2) (vA R o.f3)=x at Z9 hv ⊢
 obtain⟨du,dF⟩:=Z9
 rcases gs with ⟨h0,h1,h2,h3⟩|⟨h0,h1,h2,h3⟩|⟨h0,h1,h2,h3⟩|⟨h0,h1,h2,h3⟩|⟨h0,h1,h2,h3⟩
 all_goals first|rw[show vA R o.f0=gV R o.f0 from if_pos h0] at hv|rw[show vA R o.f0=0 from if_neg (by omega)] at hv
 all_goals first|rw[show vA R o.f1=gV R o.f1 from if_pos h1] at hv|rw[show vA R o.f1=0 from if_neg (by omega)] at hv
 all_goals first|rw[show vA R o.f2=gV R o.f2 from if_pos h2] at hv|rw[show vA R o.f2=0 from if_neg (by omega)] at hv
 all_goals first|rw[show vA R o.f3=gV R o.f3 from if_pos h3] at hv|rw[show vA R o.f3=0 from if_neg (by omega)] at hv
 all_goals
  refine Spec.enter al tC 100 Tryz.func16 rfl (by kernel_rfl) ?_
  repeat' ((conv=>whnf); first|(refine (And.intro (fun _=>?_) (fun _=>?_):(_->_)/\(_->_))<;>(first|(exfalso; first|contradiction|omega)|skip))|refine Or.inl (And.intro (by first|exact ao (by omega)|exact ah (by omega)|exact aF (by omega)|exact ba (by omega)) ?_)|(refine And.intro (show (_:Int)≠0 by omega) (Or.inl (And.intro (show (0:Int)<=_ by omega) (And.intro (show (0:Int) < _ by omega) ?_))))|(refine And.intro (show (_:Int)≠0 by omega) (Or.inl (And.intro (show (0:Int)<=_ by omega) (And.intro (by first|exact (show (_:Int)<=9223372036854775807 by omega)|exact (show (_:Int)<=4294967295 by omega)) (And.intro (show (0:Int) < _ by omega) ?_)))))|(refine SW.rounds al tC (by kernel_rfl) (N:=60) 5 ?_)|(refine⟨Int,R,PV.int .u32,rfl,h0,show o.f0 < (R.length:Int) by omega,fun x hq=>?_⟩; obtain rfl:=me x hq)|(refine⟨Int,R,PV.int .u32,rfl,h1,show o.f1 < (R.length:Int) by omega,fun x hq=>?_⟩; obtain rfl:=lT x hq)|(refine⟨Int,R,PV.int .u32,rfl,h2,show o.f2 < (R.length:Int) by omega,fun x hq=>?_⟩; obtain rfl:=vL x hq)|(refine⟨Int,R,PV.int .u32,rfl,h3,show o.f3 < (R.length:Int) by omega,fun x hq=>?_⟩; obtain rfl:=vM x hq)|(refine Or.inl (And.intro (aF (jo (wrap_u32 _))) ?_))|(refine Or.inr ?_)|(intro _))
  refine hv.u ?_
  refine⟨show ([]:List PV).length+(fV R).length<=maxLen by rw[ew]; unfold maxLen; decide,show (([]:List PV).length+(fV R).length)*4<=140737488355328 by rw[ew]; decide,?_⟩
  refine And.intro (show (4294967296:Int)≠0 by decide) (.inl ⟨du,show (0:Int) < 4294967296 by decide,?_⟩)
  refine lu ?_ (show 0<=x % 4294967296/\x % 4294967296<=4294967295 by omega)
  refine⟨ht,show o.t0 < ((fV R).length:Int) by omega,show o.t0.toNat < (fV R).length by omega,?_⟩
  refine⟨fun h=>?_,fun h=>?_⟩
  ·have h':0<=o.t1:=h
   refine And.intro (show (4294967296:Int)≠0 by decide) (.inl ⟨du,dF,show (0:Int) < 4294967296 by decide,?_⟩)
   refine lu ?_ (show 0<=x / 4294967296/\x / 4294967296<=4294967295 by omega)
   have es:((fV R).set o.t0.toNat (.int .u32 (x % 4294967296))).length=8:=by rw[List.length_set,ew]
   refine⟨h',show o.t1 < (((fV R).set o.t0.toNat (.int .u32 (x % 4294967296))).length:Int) by omega,show o.t1.toNat < ((fV R).set o.t0.toNat (.int .u32 (x % 4294967296))).length by omega,?_⟩
   refine aw ?_
   repeat' first|exact trivial|exact rfl|exact Iff.rfl|exact not_false|refine And.intro ?_ ?_
   all_goals exact (show ((fV R).set o.t0.toNat (.int .u32 (x % 4294967296))).set o.t1.toNat (.int .u32 (x / 4294967296))=fV (iP R o x) by unfold iP; rw[if_pos h']; unfold fV; rw[List.map_set,List.map_set])
  ·have h':¬ 0<=o.t1:=h
   refine aw ?_
   repeat' first|exact trivial|exact rfl|exact Iff.rfl|exact not_false|refine And.intro ?_ ?_
   all_goals exact (show (fV R).set o.t0.toNat (.int .u32 (x % 4294967296))=fV (iP R o x) by unfold iP; rw[if_neg h']; unfold fV; rw[List.map_set])
end
theorem om (l:List IN):(dB l).length<=4*l.length:=by
 induction l with
 | nil=>exact Nat.le_refl _
 | cons i l ih =>
  have h1:=Iw i
  have e:dB (i::l)=mj i++dB l:=rfl
  rw[e,List.length_append,List.length_cons]
  omega
theorem MY (l:List IN):Bg (dB l):=fun z hz=>by
 unfold dB at hz
 obtain⟨i,_,h⟩:=List.mem_flatMap.1 hz
 exact Ix i z h
theorem MZ (l:List IN) (wait:Int) (hl:l.length<=200) (hi:∀ i∈l,au i/\yw i) (hw:0<=wait/\wait<=7):Spec gT 10 [.sl 11 (bx l),.int .i64 wait] [] [] fun r S'=>r = .ptr 2 0/\S'=stM (p9 (dB l) wait):=by
 have el:(bx l).length=l.length:=List.length_map ..
 refine Spec.kX al P10 100 Tryz.func10 rfl (by kernel_rfl) ?_
 refine fun hm=>?_
 refine SW.mh al P10 (by kernel_rfl) (α:={k:Nat // k<=l.length}) (fun k=>[(1,.int .i64 wait),(5,.wref 0),(14,.sl 11 (bx l)),(15,.int .i64 (bx l).length),(16,.int .i64 k.1)]) (fun k=>[⟨.dyn,5,1,.w,true,gz (dB (l.take k.1))⟩]) (fun k=>l.length - k.1) ⟨0,Nat.zero_le _⟩ 60 [none] ?_ ?_
 ·repeat' first|exact trivial|exact rfl|exact Iff.rfl|refine And.intro ?_ ?_
 rintro⟨k,hk⟩
 refine⟨fun h=>?_,fun h=>?_⟩
 ·have h':(k:Int) < ((bx l).length:Nat):=h
  rw[el] at h'
  obtain⟨i,we⟩:∃ i,l[k]?=some i:=⟨_,List.getElem?_eq_getElem (by omega)⟩
  obtain⟨hr,Ek⟩:=hi i (List.mem_of_getElem? we)
  have hs:=o_ we
  have hfl:=om (l.take k)
  rw[List.length_take] at hfl
  have efl:(gz (dB (l.take k))).length=(dB (l.take k)).length:=List.length_map ..
  refine⟨IN,l,cX,rfl,show (0:Int)<=(k:Int) by omega,show (k:Int) < (l.length:Int) by omega,fun j hj=>?_⟩
  obtain rfl:i=j:=Option.some.inj (we.symm.trans hj)
  have hb4:=Iw i
  have ebl:(gz (mj i)).length=(mj i).length:=List.length_map ..
  refine (DA i hr Ek).u ?_
  refine⟨fun h=>absurd rfl h,fun _=>?_⟩
  refine⟨show (gz (dB (l.take k))).length+(gz (mj i)).length<=maxLen by rw[efl,ebl]; unfold maxLen; omega,show ((gz (dB (l.take k))).length+(gz (mj i)).length)*1<=140737488355328 by rw[efl,ebl]; omega,?_⟩
  refine .inl ⟨ao (show _<=(k:Int)+1/\(k:Int)+1<=_ by omega),⟨⟨k+1,by omega⟩,[some 2],show l.length - (k+1) < l.length - k by omega,?_⟩⟩
  repeat' first|exact trivial|exact rfl|exact Iff.rfl|refine And.intro ?_ ?_
  all_goals exact (show gz (dB (l.take k))++gz (mj i)=gz (dB (l.take (k+1))) by rw[hs,MD])
 ·have h':¬ (k:Int) < ((bx l).length:Nat):=h
  rw[el] at h'
  have cM:l.take k=l:=List.take_of_length_le (by omega)
  have hfl:=om l
  have hFl:(dB l).length<=65536:=by omega
  rw[cM]
  generalize dB l=F at hFl ⊢
  have eFl:(gz F).length=F.length:=List.length_map ..
  have hc:=Iv F hFl
  refine⟨[],bn,Spec.kX al P36 100 Tryz.func36 rfl (by kernel_rfl) ?_⟩
  refine fun v7=>?_
  refine⟨fun h=>absurd (show (65536:Int) < ((gz F).length:Nat) from h) (by rw[eFl]; omega),fun _=>?_⟩
  refine⟨[],bn,hc.J9 [0] rfl (And.intro rfl trivial) rfl rfl ?_⟩
  refine tR al ?_
  refine⟨65536,rfl,rfl,rfl,rfl,by decide,by decide,?_⟩
  rw[show List.replicate 65536 (PV.norm (.lit .u8 0))=g_ fun _=>0 from uj]
  refine And.intro ?_ ?_
  ·refine Exists.intro [some 0,some 1,some 2] (Exists.intro [(2,.ptr 2 0),(3,.int .i64 0)] (Exists.intro [⟨.dyn,5,1,.r,true,gz F⟩,Hq fun _=>0,⟨.loc,94,1,.w,true,[.sl 1 (gz F),.wref 1]⟩] (And.intro ?_ (And.intro (Nat.le_of_ble_eq_true rfl) ?_))))
   ·repeat' first|exact trivial|exact rfl|exact Iff.rfl|refine And.intro ?_ ?_
   refine⟨fun h=>absurd rfl h,fun _=>?_⟩
   refine⟨[],bn,Spec.kX al P37 100 Tryz.func37 rfl (by kernel_rfl) ?_⟩
   refine⟨fun h=>absurd hw.1 (Int.not_le.2 h),fun _=>?_⟩
   refine⟨fun h=>absurd hw.2 (Int.not_le.2 h),fun _=>?_⟩
   refine Exists.intro [some 0,some 1,some 2,some 3] (Exists.intro [(4,.ptr 3 0),(5,.int .i64 0)] (Exists.intro [⟨.dyn,5,1,.r,true,gz F⟩,Hq fun _=>0,⟨.loc,94,1,.w,true,[.sl 1 (gz F),.wref 1]⟩,⟨.loc,91,1,.w,true,.ptr 2 0::(NQ (p9 F wait)).cs.tail⟩] (And.intro ?_ (And.intro (Nat.le_of_ble_eq_true rfl) ?_))))
   ·repeat' first|exact trivial|exact rfl|exact Iff.rfl|exact not_false|refine And.intro ?_ ?_
   refine⟨fun h=>absurd rfl h,fun _=>?_⟩
   refine Exists.intro [some 1,some 2,some 3] (Exists.intro [(4,.ptr 2 0)] (Exists.intro (stM (p9 F wait)) (And.intro ?_ (And.intro (Nat.le_of_ble_eq_true rfl) ?_))))
   ·repeat' first|exact trivial|exact rfl|exact Iff.rfl|exact not_false|refine And.intro ?_ ?_
   exact⟨rfl,rfl⟩
  ·refine And.intro ?_ ?_
   ·refine tR al ?_
    refine⟨65536,rfl,rfl,rfl,rfl,by decide,by decide,?_⟩
    rw[show List.replicate 65536 (PV.norm (.lit .u8 0))=g_ fun _=>0 from uj]
    refine⟨[],bn,hc.J9 [0] rfl (And.intro rfl trivial) rfl rfl ?_⟩
    exact rfl
   ·first|exact trivial|((conv=>whnf); exact trivial)
def ym (s:RS):RS:={ s with R:=kx s.R 15 134217728 }
theorem D' (s:RS) {l:List IN} {k:Nat} {i:IN} (hi:l[k]?=some i):dC s (l.take (k+1))=cb (dC s (l.take k)) i:=by
 unfold dC
 rw[List.take_add_one,hi,List.foldl_append]
 rfl
theorem UQ {m:MS} {x:XS} (h:IC x.i.form):x5 m x=m.w:=by
 unfold x5
 rw[if_neg (fun e=>e h.2),if_neg h.1.2.1]
theorem IZ {m:MS} {l:List IN} (h:MK m l 0) (hl:∀ i∈l,au i/\yw i) (hn:(dB l).length<=65536) (ha:∀ i∈l,IC i.form):∀ k,k<=l.length->MK (ou k m) l k/\(ou k m).s=dC m.s (l.take k)/\(ou k m).w=m.w/\(k < l.length->l5 (ou k m)=0)
 | 0,hk=>by
  refine⟨h,rfl,rfl,fun hk=>?_⟩
  obtain⟨i,hi⟩:∃ i,l[0]?=some i:=⟨_,List.getElem?_eq_getElem hk⟩
  have hm:=List.mem_of_getElem? hi
  obtain⟨f1,f2⟩:=h.BC hl hn hi
  exact (qi h.kd f1 f2 (hl i hm).1 (ha i hm).1 (qj (ha i hm))).1
 | k+1,hk=>by
  obtain⟨h1,h2,h3,_⟩:=IZ h hl hn ha k (by omega)
  obtain⟨i,hi⟩:∃ i,l[k]?=some i:=⟨_,List.getElem?_eq_getElem (by omega)⟩
  have hm:=List.mem_of_getElem? hi
  obtain⟨f1,f2⟩:=h1.BC hl hn hi
  obtain⟨_,eM,_⟩:=qi h1.kd f1 f2 (hl i hm).1 (ha i hm).1 (qj (ha i hm))
  have hN:=h1.next hl hn hi (ha i hm).1 (qj (ha i hm))
  have es:(ou (k+1) m).s=(kA (ou k m) (ax (ou k m).s i)).s:=by show (l6 (ou k m)).s=_; rw[eM]
  have ew:(ou (k+1) m).w=x5 (ou k m) (ax (ou k m).s i):=by show (l6 (ou k m)).w=_; rw[eM]
  refine⟨hN,?_,?_,fun sI=>?_⟩
  ·rw[es,UD (ha i hm),h2,D' m.s hi]; rfl
  ·rw[ew,UQ (x:=ax (ou k m).s i) (ha i hm),h3]
  ·obtain⟨i2,we⟩:∃ i,l[k+1]?=some i:=⟨_,List.getElem?_eq_getElem sI⟩
   have v7:=List.mem_of_getElem? we
   obtain⟨f3,f4⟩:=hN.BC hl hn we
   exact (qi hN.kd f3 f4 (hl i2 v7).1 (ha i2 v7).1 (qj (ha i2 v7))).1
theorem BI {m:MS} (hm:ta m) (hc:m.lX=0):∀ k,k<=1000->ta (ou k m)/\(ou k m).lX<=34*k
 | 0,_=>⟨hm,by rw[show (ou 0 m).lX=m.lX from rfl,hc]; omega⟩
 | k+1,hk=>by
  obtain⟨h1,h2⟩:=BI hm hc k (by omega)
  obtain⟨h3,_,h4,_⟩:=MH h1 (by omega)
  exact⟨h3,by show (l6 (ou k m)).lX<=_; omega⟩
theorem pd {R:List Int} {i n:Nat} {v:Int} (hi:i < R.length):(R.set i v).getD n 0=if i=n then v else R.getD n 0:=by
 rw[List.getD_eq_getElem?_getD,List.getElem?_set]
 by_cases h:i=n
 ·subst h; rw[if_pos rfl,if_pos hi,if_pos rfl]; rfl
 ·rw[if_neg h,if_neg h,List.getD_eq_getElem?_getD]
theorem I7 {o:VO} (g:pa o) (ht:0<=o.t0) {R:List Int} (hl:R.length=8) {s s':RS} {x:Int} (hR:∀ n:Nat,n < 8->R.getD n 0=s.R n) (h:∀ n:Nat,n < 15->s'.R n=kx (kx s.R o.t0 (x % 4294967296)) o.t1 (x / 4294967296) n):∀ n:Nat,n < 15->s'.R n=if n < 8 then (iP R o x).getD n 0 else s.R n:=by
 intro n hn
 have g0:=g.t0
 have g1:=g.t1
 rw[h n hn]
 unfold kx iP
 by_cases h8:n < 8
 ·rw[if_pos h8]
  by_cases h1:0<=o.t1
  ·rw[if_pos h1,pd (by rw[List.length_set]; omega),pd (by omega),hR n h8]
   by_cases e1:o.t1.toNat=n
   ·have e2:o.t1=(n:Int):=by omega
    rw[if_pos e2,if_pos e1]
   ·have e2:¬ o.t1=(n:Int):=by omega
    rw[if_neg e2,if_neg e1]
    by_cases e0:o.t0.toNat=n
    ·have e3:o.t0=(n:Int):=by omega
     rw[if_pos e3,if_pos e0]
    ·have e3:¬ o.t0=(n:Int):=by omega
     rw[if_neg e3,if_neg e0]
  ·have e2:¬ o.t1=(n:Int):=by omega
   rw[if_neg h1,pd (by omega),hR n h8,if_neg e2]
   by_cases e0:o.t0.toNat=n
   ·have e3:o.t0=(n:Int):=by omega
    rw[if_pos e3,if_pos e0]
   ·have e3:¬ o.t0=(n:Int):=by omega
    rw[if_neg e3,if_neg e0]
 ·have e2:¬ o.t1=(n:Int):=by omega
  have e3:¬ o.t0=(n:Int):=by omega
  rw[if_neg h8,if_neg e2,if_neg e3]
theorem BJ {R:List Int} {s:RS} (hR:∀ n:Nat,n < 8->R.getD n 0=s.R n) {f:Int} (h:f<=7):vA R f=vD f s:=by
 unfold vA vD gV
 split
 ·exact hR _ (by omega)
 ·rfl
theorem M0 {o:VO} (g:pa o) {R:List Int} {s:RS} (hR:∀ n:Nat,n < 8->R.getD n 0=s.R n):oh R (s.R 13) o=cU o s:=by
 unfold oh cU
 rw[BJ hR g.f0.2,BJ hR g.f1.2,BJ hR g.f2.2,BJ hR g.f3.2]
theorem M1 {o:VO} (hf:aM o) (h2:o.kind≠2) (h3:o.kind≠3) (h5:o.kind≠5) (h6:o.kind≠6) (kz:o.kind≠28):∀ i∈av o,IC i.form:=fun i h=>(Uz (List.all_eq_true.1 (UB o hf h2 h3 h5 h6 kz) i h)).1
theorem Z' {o:VO} (hk:o.kind=28):∀ i∈av o,IC i.form:=by
 have e:av o = [iF 97 o.t0 o.f0 o.f1]:=by unfold av bo aJ aK aL aC; rw[hk]; rfl
 rw[e]
 intro i hi
 rw[List.mem_singleton] at hi
 rw[hi]
 show IC 97
 unfold IC IA
 decide
end Go.Proofs.YtlgkljpgagfndaaGreatDoor.Pw

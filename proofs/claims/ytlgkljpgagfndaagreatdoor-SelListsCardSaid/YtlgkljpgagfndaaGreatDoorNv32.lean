/- What this claim is proved with: no condition. -/
import Derived.Test.YtlgkljpgagfndaaGreatDoorNv31
import Derived.Test.YtlgkljpgagfndaaGreatDoorNv27
import Derived.Test.YtlgkljpgagfndaaGreatDoorNv12
import Derived.Test.YtlgkljpgagfndaaGreatDoorNv21
set_option linter.unusedVariables false
set_option linter.unusedSimpArgs false
set_option linter.unusedSectionVars false
namespace Go.Proofs.YtlgkljpgagfndaaGreatDoor.Pw
open Go Go.RowKit
def mT (R:List Int) (a:Int) (o:VO):Int:=if o.kind=5\/o.kind=6 then iO R o else iN a o
theorem I8 (R:List Int) (a:Int) (o:VO):a_ (mT R a o):=by unfold mT iO iN; split<;>exact wrap_u32 _
noncomputable def dR (R:List Int) (a:Int) (L:List (Int × Int)) (o:VO):List Int :=
 if o.kind=3\/o.kind=6\/o.kind=30\/o.kind=31 then R else if o.kind=2\/o.kind=5 then (if jr [] (mT R a o)≠0 then R else iP R o (qk [] L (mT R a o))) else iP R o (oh R a o)
def dL (R:List Int) (a:Int) (L:List (Int × Int)) (o:VO):List (Int × Int):=if o.kind=3 then sj L (mT R a o) (gV R o.f0) else if o.kind=6 then sj L (mT R a o) (gV R o.f2) else L
noncomputable def dT (R:List Int) (o:VO):Int:=if o.kind=30 then z5 (o.n<=gV R o.f0) else if o.kind=31 then 2*z5 (gV R o.f0=0) else 0
def dE (R:List Int) (a:Int) (o:VO):Int:=if o.kind=3\/o.kind=6 then jT (mT R a o) else if o.kind=2\/o.kind=5 then jr [] (mT R a o) else 0
theorem Z_ {o:VO} (hf:aM o/\dM o):(o.kind=2\/o.kind=4->o.f0 = -1/\o.f1 = -1/\o.f2 = -1/\o.f3 = -1)/\(o.kind=3\/o.kind=30\/o.kind=31->0<=o.f0/\o.f1 = -1/\o.f2 = -1/\o.f3 = -1)/\(o.kind=5->0<=o.f0/\0<=o.f1/\o.f2 = -1/\o.f3 = -1)/\(o.kind=6->0<=o.f0/\0<=o.f1/\0<=o.f2/\o.f3 = -1):=by
 obtain⟨_,_,⟨q0,q1,q2,q3⟩,_⟩:=hf.1
 unfold da at q0 q1 q2 q3
 refine⟨?_,?_,?_,?_⟩
 ·rintro (h|h)<;>rw[h] at q0 q1 q2 q3
  ·rw[show aH 2=0 by decide] at q0 q1 q2 q3; omega
  ·rw[show aH 4=0 by decide] at q0 q1 q2 q3; omega
 ·rintro (h|h|h)<;>rw[h] at q0 q1 q2 q3
  ·rw[show aH 3=1 by decide] at q0 q1 q2 q3; omega
  ·rw[show aH 30=1 by decide] at q0 q1 q2 q3; omega
  ·rw[show aH 31=1 by decide] at q0 q1 q2 q3; omega
 ·intro h; rw[h,show aH 5=2 by decide] at q0 q1 q2 q3; omega
 ·intro h; rw[h,show aH 6=3 by decide] at q0 q1 q2 q3; omega
theorem tos {o:VO} (hf:aM o/\dM o):(o.kind≠3->o.kind≠6->o.kind≠30->o.kind≠31->0<=o.t0)/\(o.kind=2\/o.kind=5->o.t1 = -1):=by
 obtain⟨h1,⟨p0,p1⟩,_⟩:=hf.1
 unfold da at p0 p1
 refine⟨fun h3 h6 HM HV=>?_,?_⟩
 ·have hv:1<=cz o.kind:=by
   rcases kinds h1 with h|h|h|h|h|h|h|h|h|h|h|h|h|h|h|h|h|h|h|h|h|h|h|h|h|h|h|h|h|h|h<;>rw[h]<;>first|decide|(exfalso; omega)
  omega
 ·rintro (h|h)<;>rw[h] at p1
  ·rw[show cz 2=1 by decide] at p1; omega
  ·rw[show cz 5=1 by decide] at p1; omega
theorem M3 (o:VO) (hf:aM o/\dM o) (hn:a_ o.n) (R:List Int) (hl:R.length=8) (hR:∀ z∈R,a_ z) (a:Int) (ha:a_ a) (L:List (Int × Int)) (hL:L.length<=100000) (hb:∀ x,a_ x->a_ (qk [] L x)):ai gT 16 [sP R a L,gS o] (.tup [sP (dR R a L o) a (dL R a L o),.int .i64 (dT R o),.int .i64 (dE R a o)]):=by
 have g:=yl hf
 obtain⟨f24,f31,f5,f6⟩:=Z_ hf
 obtain⟨t0,t1⟩:=tos hf
 have hk:=hf.1.1
 have hu:=I8 R a o
 by_cases NZ:o.kind=30
 ·obtain⟨h0,hm⟩:=f31 (by omega)
  have:=Z7 o hn R hl hR a ha L g NZ h0 hm
  rw[show dR R a L o=R by unfold dR; rw[if_pos (by omega)],show dL R a L o=L by unfold dL; rw[if_neg (by omega),if_neg (by omega)],show dT R o=z5 (o.n<=gV R o.f0) by unfold dT; rw[if_pos NZ],show dE R a o=0 by unfold dE; rw[if_neg (by omega),if_neg (by omega)]]
  exact this
 by_cases UR:o.kind=31
 ·obtain⟨h0,hm⟩:=f31 (by omega)
  have:=Z8 o hn R hl hR a ha L g UR h0 hm
  rw[show dR R a L o=R by unfold dR; rw[if_pos (by omega)],show dL R a L o=L by unfold dL; rw[if_neg (by omega),if_neg (by omega)],show dT R o=2*z5 (gV R o.f0=0) by unfold dT; rw[if_neg NZ,if_pos UR],show dE R a o=0 by unfold dE; rw[if_neg (by omega),if_neg (by omega)]]
  exact this
 have eT:dT R o=0:=by unfold dT; rw[if_neg NZ,if_neg UR]
 rw[eT]
 by_cases k3:o.kind=3
 ·obtain⟨h0,hm⟩:=f31 (by omega)
  have:=do_3 o hn R hl hR a ha L g k3 h0 hm hL
  have e:mT R a o=iN a o:=if_neg (by omega)
  rw[show dR R a L o=R by unfold dR; rw[if_pos (by omega)],show dL R a L o=sj L (iN a o) (gV R o.f0) by unfold dL; rw[if_pos k3,e],show dE R a o=jT (iN a o) by unfold dE; rw[if_pos (by omega),e]]
  exact this
 by_cases k6:o.kind=6
 ·obtain⟨h0,h1,h2,h3⟩:=f6 k6
  have:=do_6 o hn R hl hR a ha L g k6 h0 h1 h2 h3 hL
  have e:mT R a o=iO R o:=if_pos (by omega)
  rw[show dR R a L o=R by unfold dR; rw[if_pos (by omega)],show dL R a L o=sj L (iO R o) (gV R o.f2) by unfold dL; rw[if_neg k3,if_pos k6,e],show dE R a o=jT (iO R o) by unfold dE; rw[if_pos (by omega),e]]
  exact this
 have eL:dL R a L o=L:=by unfold dL; rw[if_neg k3,if_neg k6]
 rw[eL]
 have t0':=t0 k3 k6 NZ UR
 by_cases k25:o.kind=2\/o.kind=5
 ·have eE:dE R a o=jr [] (mT R a o):=by unfold dE; rw[if_neg (by omega),if_pos k25]
  rw[eE,show dR R a L o=if jr [] (mT R a o)≠0 then R else iP R o (qk [] L (mT R a o)) by unfold dR; rw[if_neg (by omega),if_pos k25]]
  have t1':=t1 k25
  by_cases k2:o.kind=2
  ·have e:mT R a o=iN a o:=if_neg (by omega)
   rw[e] at hu ⊢
   by_cases he:jr [] (iN a o)=0
   ·rw[if_neg (fun h=>h he),he]
    exact do_2 o hn R hl hR a ha L g k2 (f24 (by omega)) he (hb _ hu) t0' t1'
   ·rw[if_pos he]
    exact MW o hn R hl hR a ha L g k2 (f24 (by omega)) he
  ·have k5:o.kind=5:=by omega
   obtain⟨h0,h1,hm⟩:=f5 k5
   have e:mT R a o=iO R o:=if_pos (by omega)
   rw[e] at hu ⊢
   by_cases he:jr [] (iO R o)=0
   ·rw[if_neg (fun h=>h he),he]
    exact do_5 o hn R hl hR a ha L g k5 h0 h1 hm he (hb _ hu) t0' t1'
   ·rw[if_pos he]
    exact MX o hn R hl hR a ha L g k5 h0 h1 hm he
 rw[show dR R a L o=iP R o (oh R a o) by unfold dR; rw[if_neg (by omega),if_neg k25],show dE R a o=0 by unfold dE; rw[if_neg (by omega),if_neg k25]]
 by_cases k4:o.kind=4
 ·exact do_4 o hn R hl hR a ha L g k4 (f24 (by omega)) t0'
 ·exact UP o hn R hl hR a ha L g (by omega) (by omega) k3 k4 (by omega) k6 t0'
def El (o:VO):Prop:=(aM o/\dM o)/\o.kind≠30/\o.kind≠31/\¬ (2<=o.kind/\o.kind<=6)
noncomputable def j_ (a:Int) (R:List Int) (l:List VO):List Int:=l.foldl (fun R o=>dR R a [] o) R
theorem lP (a:Int) (R:List Int) {l:List VO} {k:Nat} {o:VO} (h:l[k]?=some o):j_ a R (l.take (k+1))=dR (j_ a R (l.take k)) a [] o:=by
 unfold j_
 rw[List.take_add_one,h,List.foldl_append]
 rfl
theorem M4 (R:List Int) (a:Int) (L:List (Int × Int)) (o:VO):(dR R a L o).length=R.length:=by
 unfold dR iP
 repeat' split
 all_goals simp only[List.length_set]
theorem oo (a:Int):∀ (l:List VO) (R:List Int),(j_ a R l).length=R.length
 | [],R=>rfl
 | o::l,R=>by
  show (j_ a (dR R a [] o) l).length=_
  rw[oo a l,M4]
theorem dR_L {o:VO} (h:El o) (R:List Int) (a:Int):dR R a [] o=iP R o (oh R a o):=by
 obtain⟨_,h1,h2,h3⟩:=h
 unfold dR
 rw[if_neg (by omega),if_neg (by omega)]
theorem alL {o:VO} (h:El o):∀ i∈av o,IC i.form:=by
 obtain⟨hf,h1,h2,h3⟩:=h
 by_cases kz:o.kind=28
 ·exact Z' kz
 ·exact M1 hf.1 (by omega) (by omega) (by omega) (by omega) kz
theorem US {o:VO} (hf:aM o/\dM o) (hn:0<=o.n/\o.n<=4294967295):(av o).length<=4:=by
 have h:=(BD o hf hn).2
 have:bO o<=4:=by
  unfold bO
  repeat' split
  all_goals omega
 omega
theorem BL:∀ {l:List VO},(∀ o∈l,El o/\o.Ok)->(aS l).length<=4*l.length
 | [],_=>Nat.le_refl _
 | o::l,h=>by
  have ih:=BL (l:=l) fun o ho=>h o (List.mem_cons_of_mem _ ho)
  have h1:=h o (List.mem_cons_self ..)
  have h2:=US h1.1.1 h1.2.n
  unfold aS at ih ⊢
  rw[List.flatMap_cons,List.length_append,List.length_cons]
  omega
theorem I9 (s:RS) (a b:List IN):dC s (a++b)=dC (dC s a) b:=by unfold dC; rw[List.foldl_append]
theorem mU {l:List VO} {i:IN} (h:i∈aS l):∃ o∈l,i∈av o:=by
 unfold aS at h
 exact List.mem_flatMap.1 h
theorem I_ (l:List VO) (k:Nat):(aS l).take (aS (l.take k)).length=aS (l.take k):=by
 have e:aS l=aS (l.take k)++aS (l.drop k):=by
  unfold aS
  rw[← List.flatMap_append,List.take_append_drop]
 rw[e,List.take_left']
 rfl
section
variable {l:List VO} (hl:l.length<=30) (tN:∀ o∈l,El o/\o.Ok) {m:MS} (hm:ta m) (hc:m.lX=0) (hA:MK m (aS l) 0)
include hl tN hm hc hA
theorem uo:∀ k,k<=(aS l).length->(ou k m).s=dC m.s ((aS l).take k)/\(k < (aS l).length->l5 (ou k m)=0):=fun k hk=>by
 have h4:=BL tN
 have hb:=om (aS l)
 have Ek:∀ i∈aS l,au i/\yw i:=fun i hi=>by
  obtain⟨o,ho,h⟩:=mU hi
  exact IF o (tN o ho).1.1 (tN o ho).2.n i h
 have hal:∀ i∈aS l,IC i.form:=fun i hi=>by
  obtain⟨o,ho,h⟩:=mU hi
  exact alL (tN o ho).1 i h
 obtain⟨_,h2,_,h3⟩:=IZ hA Ek (by omega) hal k hk
 exact⟨h2,h3⟩
theorem yn {R:List Int} (hl8:R.length=8) (a:Int) (hR:∀ n:Nat,n < 8->R.getD n 0=m.s.R n) (Y1:m.s.R 13=a):∀ k,k<=l.length->(∀ n:Nat,n < 8->(j_ a R (l.take k)).getD n 0=(dC m.s (aS (l.take k))).R n)/\(dC m.s (aS (l.take k))).R 13=a
 | 0,_=>⟨hR,Y1⟩
 | k+1,hk=>by
  obtain⟨h1,h2⟩:=yn hl8 a hR Y1 k (by omega)
  obtain⟨o,ho⟩:∃ o,l[k]?=some o:=⟨_,List.getElem?_eq_getElem (by omega)⟩
  obtain⟨M5,UT⟩:=tN o (List.mem_of_getElem? ho)
  have h4:=BL tN
  have hlen:(aS (l.take k)).length<=(aS l).length:=by
   have e:aS l=aS (l.take k)++aS (l.drop k):=by
    unfold aS
    rw[← List.flatMap_append,List.take_append_drop]
   rw[e,List.length_append]; omega
  have hs:eh (dC m.s (aS (l.take k))):=by
   have h5:=(uo hl tN hm hc hA (aS (l.take k)).length hlen).1
   rw[I_] at h5
   rw[← h5]
   exact (BI hm hc _ (by omega)).1.s
  rw[lP a R ho,pD ho,I9,dR_L M5]
  have g:=yl M5.1
  obtain⟨hf,HM,HV,h26⟩:=M5
  have oD:=UF o hf UT.n (by omega) (by omega) (by omega) (by omega) HM HV (dC m.s (aS (l.take k))) hs
  have ht:=(tos hf).1 (by omega) (by omega) HM HV
  have hp:=I7 g ht (by rw[oo,hl8]) h1 oD
  rw[← M0 g h1,h2] at hp
  refine⟨fun n hn=>?_,?_⟩
  ·rw[hp n (by omega),if_pos hn]
  ·rw[hp 13 (by omega),if_neg (by omega),h2]
end
theorem yo (s:RS):∀ k:Nat,k < 16->(DB s)[0+k*1]?=some (.int .u32 (s.R k))
 | 0,_|1,_|2,_|3,_|4,_|5,_|6,_|7,_|8,_|9,_|10,_|11,_|12,_|13,_|14,_|15,_=>rfl
 | k+16,h=>absurd h (by omega)
def sW (R:List Int):RS:=⟨fun n=>if n < 8 then R.getD n 0 else 0,0,0,0,0⟩
def sB (s:RS):RS:={ s with R:=kx s.R 13 536870912 }
noncomputable def xL (R:List Int) (l:List VO):Nat->PV
 | 0=>.wref 4
 | k+1=>.sl 1 (fV (j_ 536870912 R (l.take (k+1))))
noncomputable def stL (m:MS) (R:List Int) (l:List VO) (k:Nat):List ak:=stM m++[⟨.loc,46,1,.w,true,[xL R l k,.int .u32 536870912,.sl 1 (gz []),.sl 2 []]⟩]++(match k with
 | 0=>[⟨.dyn,24,1,.w,true,fV R⟩]
 | _=>[])
theorem UU {R:List Int} (hR:∀ z∈R,a_ z) {a:Int} {o:VO} (h:El o) (hn:a_ o.n):∀ z∈dR R a [] o,a_ z:=by
 rw[dR_L h]
 have hb:0<=oh R a o/\oh R a o<=18446744073709551615:=by
  unfold oh
  split
  ·have:=fN (a+o.n); unfold a_ at this; omega
  ·exact BH _ _ _ _ _ _ hn (kg hR _) (kg hR _) (kg hR _) (kg hR _)
 generalize oh R a o=x at hb ⊢
 have h1:a_ (x % 4294967296):=fN x
 have h2:a_ (x / 4294967296):=by unfold a_; omega
 have key:∀ (i:Nat) (v:Int) (l:List Int),a_ v->(∀ z∈l,a_ z)->∀ z∈l.set i v,a_ z:=fun i v l hv hl z hz=>by
  rcases List.mem_or_eq_of_mem_set hz with h|h
  ·exact hl z h
  ·rw[h]; exact hv
 unfold iP
 split
 ·exact key _ _ _ h2 (key _ _ _ h1 hR)
 ·exact key _ _ _ h1 hR
theorem do_L (o:VO) (h:El o) (hn:a_ o.n) (R:List Int) (hl:R.length=8) (hR:∀ z∈R,a_ z):ai gT 16 [sP R 536870912 [],gS o] (.tup [sP (dR R 536870912 [] o) 536870912 [],.int .i64 0,.int .i64 0]):=by
 have z:a_ 0:=⟨by decide,by decide⟩
 have hld:∀ x,a_ x->a_ (qk [] [] x):=fun x _=>by
  have h2:¬ iL [] x 4:=by unfold iL; simp only[List.length_nil]; omega
  unfold qk
  split
  ·exact z
  ·split
   ·exact z
   ·first|exact z|(rw[if_neg h2]; exact z)
 have:=M3 o h.1 hn R hl hR 536870912 ⟨by decide,by decide⟩ [] (by decide) hld
 obtain⟨_,h1,h2,h3⟩:=h
 rw[show dL R 536870912 [] o = [] by unfold dL; rw[if_neg (by omega),if_neg (by omega)],show dT R o=0 by unfold dT; rw[if_neg h1,if_neg h2],show dE R 536870912 o=0 by unfold dE; rw[if_neg (by omega),if_neg (by omega)]] at this
 exact this
theorem yp {R:List Int} (hR:∀ z∈R,a_ z) {a:Int}:∀ {l:List VO},(∀ o∈l,El o/\o.Ok)->∀ k,k<=l.length->∀ z∈j_ a R (l.take k),a_ z
 | l,h,0,_=>hR
 | l,h,k+1,hk=>by
  obtain⟨o,ho⟩:∃ o,l[k]?=some o:=⟨_,List.getElem?_eq_getElem (by omega)⟩
  have h1:=h o (List.mem_of_getElem? ho)
  rw[lP a R ho]
  exact UU (yp hR h k (by omega)) h1.1 h1.2.n
theorem eight {l:List Int} (h:8<=l.length):∃ a b c d e f g i r,l=a::b::c::d::e::f::g::i::r:=by
 match l,h with
 | a::b::c::d::e::f::g::i::r,_=>exact⟨a,b,c,d,e,f,g,i,r,rfl⟩
set_option maxHeartbeats 16000000 in
set_option maxRecDepth 100000 in
theorem te (l:List VO) (hn:∀ o∈l,o.Ok) (words:List Int) (hwd:∀ z∈words,a_ z):ai gT 5 [.sl 8 (l.map gS),.sl 1 (fV words)] .tt:=by
 have el:(l.map gS).length=l.length:=List.length_map ..
 have ew:(fV words).length=words.length:=List.length_map ..
 refine Spec.enter al P5 100 Tryz.func5 rfl (by kernel_rfl) ?_
 refine⟨[],bn,sO.use trivial rfl rfl ?_⟩
 refine fun pZ=>?_
 refine⟨fun HM=>?_,fun HM=>?_⟩
 ·exact rA
 refine fun v7=>?_
 refine⟨fun h8=>?_,fun h8=>?_⟩
 ·exact rA
 refine fun Lk=>?_
 have h30':¬ (30:Int) < ((l.map gS).length:Nat):=HM
 have h8':¬ ((fV words).length:Int) < 8:=h8
 rw[el] at h30'
 rw[ew] at h8'
 refine SW.mh al P5 (by kernel_rfl) (α:={k:Nat // k<=l.length/\∀ o∈l.take k,El o}) (fun k=>[(0,.sl 8 (l.map gS)),(1,.sl 1 (fV words)),(31,.sl 8 (l.map gS)),(32,.int .i64 ((l.map gS).length:Nat)),(33,.int .i64 k.1)]) (fun k=>[]) (fun k=>l.length - k.1) ⟨0,Nat.zero_le _,fun o ho=>by simp at ho⟩ 100 [] ?_ ?_
 ·repeat' first|exact trivial|exact rfl|exact Iff.rfl|exact not_false|refine And.intro ?_ ?_
 rintro⟨k,hk,dx⟩
 refine⟨fun h=>?_,fun h=>?_⟩
 ·have h':(k:Int) < ((l.map gS).length:Nat):=h
  rw[el] at h'
  obtain⟨o,ho⟩:∃ o,l[k]?=some o:=⟨_,List.getElem?_eq_getElem (by omega)⟩
  have UT:=hn o (List.mem_of_getElem? ho)
  have hnext:El o->∀ q∈l.take (k+1),El q:=fun h q hq=>by
   rw[List.take_add_one,ho] at hq
   rcases List.mem_append.1 hq with hq|hq
   ·exact dx q hq
   ·rw[Option.toList_some,List.mem_singleton] at hq
    rw[hq]; exact h
  refine⟨VO,l,gS,rfl,show (0:Int)<=(k:Int) by omega,show (k:Int) < (l.length:Int) by omega,fun q hq=>?_⟩
  obtain rfl:o=q:=Option.some.inj (ho.symm.trans hq)
  refine (CT o UT.n).u ?_
  refine⟨fun hf=>?_,fun hf=>?_⟩
  ·exact rA
  have hf':aM o/\dM o:=Classical.not_not.1 hf
  refine⟨fun NZ=>?_,fun NZ=>?_⟩
  ·exact rA
  refine⟨fun UR=>?_,fun UR=>?_⟩
  ·exact rA
  refine⟨fun k2=>And.intro (fun k6=>?_) (fun k6=>?_),fun k2=>?_⟩
  ·exact rA
  all_goals
   have M5:El o:=⟨hf',NZ,UR,fun h=>by first|exact k6 h.2|exact k2 h.1⟩
   refine .inl ⟨ao (show _<=(k:Int)+1/\(k:Int)+1<=_ by omega),⟨⟨k+1,by omega,hnext M5⟩,[],show l.length - (k+1) < l.length - k by omega,?_⟩⟩
   repeat' first|exact trivial|exact rfl|exact Iff.rfl|exact not_false|refine And.intro ?_ ?_
 ·have h':¬ (k:Int) < ((l.map gS).length:Nat):=h
  rw[el] at h'
  have cM:l.take k=l:=List.take_of_length_le (by omega)
  rw[cM] at dx
  clear cM
  have tN:∀ o∈l,El o/\o.Ok:=fun o ho=>⟨dx o ho,hn o ho⟩
  have hsome:=Gm l (by omega) hn fun o ho=>⟨(dx o ho).1,(dx o ho).2.1,(dx o ho).2.2.1⟩
  have h4:=BL tN
  have Ek:∀ i∈aS l,au i/\yw i:=fun i hi=>by
   obtain⟨o,ho,h⟩:=mU hi
   exact IF o (tN o ho).1.1 (tN o ho).2.n i h
  have hb:=MZ (aS l) 0 (by omega) Ek (by decide)
  refine hsome.u ?_
  refine⟨[],bn,hb.LI rfl (by repeat' first|exact trivial|exact rfl|exact Iff.rfl|exact Or.inl rfl|refine And.intro ?_ ?_) rfl ?_⟩
  refine⟨fun h=>absurd rfl h,fun _=>?_⟩
  obtain⟨w0,w1,w2,w3,w4,w5,w6,w7,rest,rfl⟩:=eight (l:=words) (by omega)
  refine⟨show (0:Int)<=0 by decide,show (0:Int)<=8 by decide,show (8:Int)<=((fV (w0::w1::w2::w3::w4::w5::w6::w7::rest)).length:Int) by rw[ew]; omega,?_⟩
  refine⟨show (8:Nat)<=maxLen by unfold maxLen; decide,show (8:Nat)*4<=140737488355328 by decide,?_⟩
  refine (r5 (p9 (dB (aS l)) 0)).q [0,1,2] ?_
  refine D8 al ?_
  refine⟨fun e he=>?_,by decide,show 8<=(fV (w0::w1::w2::w3::w4::w5::w6::w7::rest)).length by rw[ew]; omega,DB (sW [w0,w1,w2,w3,w4,w5,w6,w7]),rfl,?_⟩
  ·obtain⟨n,_,rfl⟩:=List.mem_map.1 he
   exact⟨_,_,rfl⟩
  have hu8:∀ z∈[w0,w1,w2,w3,w4,w5,w6,w7],a_ z:=fun z hz=>hwd z (by
   simp only[List.mem_cons,List.not_mem_nil,or_false] at hz
   rcases hz with rfl|rfl|rfl|rfl|rfl|rfl|rfl|rfl<;>simp)
  have hl8:[w0,w1,w2,w3,w4,w5,w6,w7].length=8:=rfl
  refine (Uu (p9 (dB (aS l)) 0) (ym (sB (sW [w0,w1,w2,w3,w4,w5,w6,w7])))).q [0,1,2] ?_
  have hbl:=om (aS l)
  have hsW:UN (ym (sB (sW [w0,w1,w2,w3,w4,w5,w6,w7]))):=by
   refine⟨rW (rW (fun n=>?_) ⟨by decide,by decide⟩) ⟨by decide,by decide⟩,show (0:Int)<=0 by decide,show (0:Int)<=0 by decide,show (0:Int)<=0 by decide,show (0:Int)<=0 by decide⟩
   show a_ (if n < 8 then ([w0,w1,w2,w3,w4,w5,w6,w7]:List Int).getD n 0 else 0)
   split
   ·rw[List.getD_eq_getElem?_getD]
    cases hq:([w0,w1,w2,w3,w4,w5,w6,w7]:List Int)[n]? with
    | none=>exact⟨by decide,by decide⟩
    | some z=>exact hu8 z (List.mem_of_getElem? hq)
   ·exact⟨by decide,by decide⟩
  have pA:ta (x_ (p9 (dB (aS l)) 0) (ym (sB (sW [w0,w1,w2,w3,w4,w5,w6,w7])))):=MI (Uy (wait:=0) (MY (aS l)) (by omega) (by decide)) hsW.ok
  have hA:MK (x_ (p9 (dB (aS l)) 0) (ym (sB (sW [w0,w1,w2,w3,w4,w5,w6,w7])))) (aS l) 0:=⟨rfl,rfl,rfl⟩
  have Ut:(x_ (p9 (dB (aS l)) 0) (ym (sB (sW [w0,w1,w2,w3,w4,w5,w6,w7])))).lX=0:=rfl
  have hR8:∀ n:Nat,n < 8->([w0,w1,w2,w3,w4,w5,w6,w7]:List Int).getD n 0=(x_ (p9 (dB (aS l)) 0) (ym (sB (sW [w0,w1,w2,w3,w4,w5,w6,w7])))).s.R n:=fun n hn=>by
   show _=kx (kx (fun n=>if n < 8 then ([w0,w1,w2,w3,w4,w5,w6,w7]:List Int).getD n 0 else 0) 13 _) 15 _ n
   unfold kx
   rw[if_neg (by omega),if_neg (by omega)]
   show _=if n < 8 then ([w0,w1,w2,w3,w4,w5,w6,w7]:List Int).getD n 0 else 0
   rw[if_pos hn]
  have hR13:(x_ (p9 (dB (aS l)) 0) (ym (sB (sW [w0,w1,w2,w3,w4,w5,w6,w7])))).s.R 13=536870912:=rfl
  generalize x_ (p9 (dB (aS l)) 0) (ym (sB (sW [w0,w1,w2,w3,w4,w5,w6,w7])))=m at pA hA Ut hR8 hR13 ⊢
  have cg:=uo (by omega) tN pA Ut hA
  have N0:=yn (by omega) tN pA Ut hA hl8 536870912 hR8 hR13
  refine fun hm4=>?_
  refine SW.mh al P5 (by kernel_rfl) (α:={k:Nat // k<=l.length}) (fun k=>[(7,.sl 11 (bx (aS l))),(9,.ptr 2 0),(10,.ptr 3 0),(92,.sl 8 (l.map gS)),(93,.int .i64 ((l.map gS).length:Nat)),(94,.int .i64 k.1)]) (fun k=>stL m [w0,w1,w2,w3,w4,w5,w6,w7] l k.1) (fun k=>l.length - k.1) ⟨0,Nat.zero_le _⟩ 100 [some 0,some 1,some 2,some 5,some 4] ?_ ?_
  ·repeat' first|exact trivial|exact rfl|exact Iff.rfl|exact not_false|refine And.intro ?_ ?_
  rintro⟨k,hk⟩
  rcases k with _|k
  ·
   refine⟨fun h=>?_,fun h=>?_⟩
   ·have h':((0:Nat):Int) < ((l.map gS).length:Nat):=h
    rw[el] at h'
    obtain⟨o,ho⟩:∃ o,l[0]?=some o:=⟨_,List.getElem?_eq_getElem (by omega)⟩
    obtain⟨M5,UT⟩:=tN o (List.mem_of_getElem? ho)
    have hs:=lP 536870912 [w0,w1,w2,w3,w4,w5,w6,w7] ho
    refine⟨VO,l,gS,rfl,show (0:Int)<=((0:Nat):Int) by omega,show ((0:Nat):Int) < (l.length:Int) by omega,fun q hq=>?_⟩
    obtain rfl:o=q:=Option.some.inj (ho.symm.trans hq)
    refine⟨[],bn,(do_L o M5 UT.n [w0,w1,w2,w3,w4,w5,w6,w7] rfl hu8).J9 [4] rfl (by repeat' first|exact trivial|exact rfl|exact Iff.rfl|exact Or.inl rfl|refine And.intro ?_ ?_) rfl rfl ?_⟩
    refine⟨fun h=>absurd rfl h,fun _=>?_⟩
    refine⟨fun h=>absurd rfl h,fun _=>?_⟩
    refine .inl ⟨ao (show _<=((0:Nat):Int)+1/\((0:Nat):Int)+1<=_ by omega),⟨⟨0+1,by omega⟩,[some 0,some 1,some 2,some 3],show l.length - (0+1) < l.length - (0) by omega,?_⟩⟩
    repeat' first|exact trivial|exact rfl|exact Iff.rfl|exact not_false|refine And.intro ?_ ?_
    all_goals exact (show fV (dR (j_ 536870912 [w0,w1,w2,w3,w4,w5,w6,w7] (l.take (0))) 536870912 [] o)=fV (j_ 536870912 [w0,w1,w2,w3,w4,w5,w6,w7] (l.take (0+1))) by rw[hs])
   ·have h':¬ ((0:Nat):Int) < ((l.map gS).length:Nat):=h
    rw[el] at h'
    refine fun hm5=>?_
    have eF:(bx (aS l)).length=(aS l).length:=List.length_map ..
    refine SW.mh al P5 (by kernel_rfl) (α:={j:Nat // j<=(aS l).length}) (fun j=>[(9,.ptr 2 0),(10,.ptr 3 0),(114,.int .i64 ((bx (aS l)).length:Nat)),(115,.int .i64 j.1)]) (fun j=>stL (ou j.1 m) [w0,w1,w2,w3,w4,w5,w6,w7] l (0)) (fun j=>(aS l).length - j.1) ⟨0,Nat.zero_le _⟩ 100 [some 0,some 1,some 2,some 3,some 4] ?_ ?_
    ·repeat' first|exact trivial|exact rfl|exact Iff.rfl|exact not_false|refine And.intro ?_ ?_
    rintro⟨j,hj⟩
    obtain⟨hM,_⟩:=BI pA Ut j (by omega)
    obtain⟨hs,he⟩:=cg j hj
    refine⟨fun h=>?_,fun h=>?_⟩
    ·have qz:(j:Int) < ((bx (aS l)).length:Nat):=h
     rw[eF] at qz
     refine (BA (ou j m) hM).q [0,1,2] ?_
     refine⟨fun de=>absurd (he (by omega)) de,fun _=>?_⟩
     refine .inl ⟨ao (show _<=(j:Int)+1/\(j:Int)+1<=_ by omega),⟨⟨j+1,by omega⟩,[some 0,some 1,some 2,some 3,some 4],show (aS l).length - (j+1) < (aS l).length - j by omega,?_⟩⟩
     repeat' first|exact trivial|exact rfl|exact Iff.rfl|exact not_false|refine And.intro ?_ ?_
    ·have qz:¬ (j:Int) < ((bx (aS l)).length:Nat):=h
     rw[eF] at qz
     obtain rfl:j=(aS l).length:=by omega
     rw[List.take_of_length_le (Nat.le_refl _)] at hs
     obtain⟨q1,q2⟩:=N0 (0) (by omega)
     rw[show aS (l.take (0))=aS l by rw[List.take_of_length_le (by omega)],← hs] at q1 q2
     refine (r5 (ou (aS l).length m)).q [0,1,2] ?_
     generalize ou (aS l).length m=m2 at q1 q2 ⊢
     refine SW.mh al P5 (by kernel_rfl) (α:={i:Nat // i<=8}) (fun i=>[(10,.ptr 3 0),(19,.ptr 5 0),(127,.int .i64 i.1)]) (fun _=>stL m2 [w0,w1,w2,w3,w4,w5,w6,w7] l (0)++[NV 29 (DB m2.s)]) (fun i=>8 - i.1) ⟨0,Nat.zero_le _⟩ 100 [some 0,some 1,some 2,some 3,some 4,some 5] ?_ ?_
     ·repeat' first|exact trivial|exact rfl|exact Iff.rfl|exact not_false|refine And.intro ?_ ?_
     rintro⟨i,hi⟩
     refine⟨fun h=>?_,fun h=>?_⟩
     ·have h8:(i:Int) < 8:=h
      have hr:=q1 i (by omega)
      refine⟨show (0:Int)<=(i:Int) by omega,show (i:Int) < 16 by omega,?_⟩
      refine .inr ⟨rfl,show (0:Int)<=(i:Int) by omega,show 0+(i:Int).toNat*1 < 20 by omega,fun c hc=>?_⟩
      obtain rfl:=Option.some.inj (hc.symm.trans (yo m2.s i (by omega)))
      refine⟨show (0:Int)<=(i:Int) by omega,show (i:Int) < ((8:Nat):Int) by omega,Int,[w0,w1,w2,w3,w4,w5,w6,w7],PV.int .u32,rfl,show (i:Int).toNat < 8 by omega,fun x hq=>?_⟩
      have hx:(j_ 536870912 [w0,w1,w2,w3,w4,w5,w6,w7] (l.take 0)).getD i 0=x:=by
       have pr:([w0,w1,w2,w3,w4,w5,w6,w7]:List Int)[i]?=some x:=hq
       show ([w0,w1,w2,w3,w4,w5,w6,w7]:List Int).getD i 0=x
       rw[List.getD_eq_getElem?_getD,pr]; rfl
      refine⟨fun de=>absurd (show m2.s.R i=x by rw[← hr,hx]) de,fun _=>?_⟩
      refine .inl ⟨ao (show _<=(i:Int)+1/\(i:Int)+1<=_ by omega),⟨⟨i+1,by omega⟩,[some 0,some 1,some 2,some 3,some 4,some 5],show 8 - (i+1) < 8 - i by omega,?_⟩⟩
      repeat' first|exact trivial|exact rfl|exact Iff.rfl|exact not_false|refine And.intro ?_ ?_
     ·exact aw (fC (show m2.s.R 13=536870912 from q2))
  ·
   refine⟨fun h=>?_,fun h=>?_⟩
   ·have h':((k+1:Nat):Int) < ((l.map gS).length:Nat):=h
    rw[el] at h'
    obtain⟨o,ho⟩:∃ o,l[k+1]?=some o:=⟨_,List.getElem?_eq_getElem (by omega)⟩
    obtain⟨M5,UT⟩:=tN o (List.mem_of_getElem? ho)
    have hs:=lP 536870912 [w0,w1,w2,w3,w4,w5,w6,w7] ho
    refine⟨VO,l,gS,rfl,show (0:Int)<=((k+1:Nat):Int) by omega,show ((k+1:Nat):Int) < (l.length:Int) by omega,fun q hq=>?_⟩
    obtain rfl:o=q:=Option.some.inj (ho.symm.trans hq)
    refine (do_L o M5 UT.n (j_ 536870912 [w0,w1,w2,w3,w4,w5,w6,w7] (l.take (k+1))) (by rw[oo]; rfl) (yp hu8 tN (k+1) hk)).u ?_
    refine⟨fun h=>absurd rfl h,fun _=>?_⟩
    refine⟨fun h=>absurd rfl h,fun _=>?_⟩
    refine .inl ⟨ao (show _<=((k+1:Nat):Int)+1/\((k+1:Nat):Int)+1<=_ by omega),⟨⟨k+1+1,by omega⟩,[some 0,some 1,some 2,some 3],show l.length - (k+1+1) < l.length - (k+1) by omega,?_⟩⟩
    repeat' first|exact trivial|exact rfl|exact Iff.rfl|exact not_false|refine And.intro ?_ ?_
    all_goals exact (show fV (dR (j_ 536870912 [w0,w1,w2,w3,w4,w5,w6,w7] (l.take (k+1))) 536870912 [] o)=fV (j_ 536870912 [w0,w1,w2,w3,w4,w5,w6,w7] (l.take (k+1+1))) by rw[hs])
   ·have h':¬ ((k+1:Nat):Int) < ((l.map gS).length:Nat):=h
    rw[el] at h'
    refine fun hm5=>?_
    have eF:(bx (aS l)).length=(aS l).length:=List.length_map ..
    refine SW.mh al P5 (by kernel_rfl) (α:={j:Nat // j<=(aS l).length}) (fun j=>[(9,.ptr 2 0),(10,.ptr 3 0),(114,.int .i64 ((bx (aS l)).length:Nat)),(115,.int .i64 j.1)]) (fun j=>stL (ou j.1 m) [w0,w1,w2,w3,w4,w5,w6,w7] l (k+1)) (fun j=>(aS l).length - j.1) ⟨0,Nat.zero_le _⟩ 100 [some 0,some 1,some 2,some 3] ?_ ?_
    ·repeat' first|exact trivial|exact rfl|exact Iff.rfl|exact not_false|refine And.intro ?_ ?_
    rintro⟨j,hj⟩
    obtain⟨hM,_⟩:=BI pA Ut j (by omega)
    obtain⟨hs,he⟩:=cg j hj
    refine⟨fun h=>?_,fun h=>?_⟩
    ·have qz:(j:Int) < ((bx (aS l)).length:Nat):=h
     rw[eF] at qz
     refine (BA (ou j m) hM).q [0,1,2] ?_
     refine⟨fun de=>absurd (he (by omega)) de,fun _=>?_⟩
     refine .inl ⟨ao (show _<=(j:Int)+1/\(j:Int)+1<=_ by omega),⟨⟨j+1,by omega⟩,[some 0,some 1,some 2,some 3],show (aS l).length - (j+1) < (aS l).length - j by omega,?_⟩⟩
     repeat' first|exact trivial|exact rfl|exact Iff.rfl|exact not_false|refine And.intro ?_ ?_
    ·have qz:¬ (j:Int) < ((bx (aS l)).length:Nat):=h
     rw[eF] at qz
     obtain rfl:j=(aS l).length:=by omega
     rw[List.take_of_length_le (Nat.le_refl _)] at hs
     obtain⟨q1,q2⟩:=N0 (k+1) (by omega)
     rw[show aS (l.take (k+1))=aS l by rw[List.take_of_length_le (by omega)],← hs] at q1 q2
     refine (r5 (ou (aS l).length m)).q [0,1,2] ?_
     generalize ou (aS l).length m=m2 at q1 q2 ⊢
     refine SW.mh al P5 (by kernel_rfl) (α:={i:Nat // i<=8}) (fun i=>[(10,.ptr 3 0),(19,.ptr 4 0),(127,.int .i64 i.1)]) (fun _=>stL m2 [w0,w1,w2,w3,w4,w5,w6,w7] l (k+1)++[NV 29 (DB m2.s)]) (fun i=>8 - i.1) ⟨0,Nat.zero_le _⟩ 100 [some 0,some 1,some 2,some 3,some 4] ?_ ?_
     ·repeat' first|exact trivial|exact rfl|exact Iff.rfl|exact not_false|refine And.intro ?_ ?_
     rintro⟨i,hi⟩
     refine⟨fun h=>?_,fun h=>?_⟩
     ·have h8:(i:Int) < 8:=h
      have hr:=q1 i (by omega)
      refine⟨show (0:Int)<=(i:Int) by omega,show (i:Int) < 16 by omega,?_⟩
      refine .inr ⟨rfl,show (0:Int)<=(i:Int) by omega,show 0+(i:Int).toNat*1 < 20 by omega,fun c hc=>?_⟩
      obtain rfl:=Option.some.inj (hc.symm.trans (yo m2.s i (by omega)))
      have hlR:(j_ 536870912 [w0,w1,w2,w3,w4,w5,w6,w7] (l.take (k+1))).length=8:=oo ..
      refine⟨Int,j_ 536870912 [w0,w1,w2,w3,w4,w5,w6,w7] (l.take (k+1)),PV.int .u32,rfl,show (0:Int)<=(i:Int) by omega,show (i:Int) < ((j_ 536870912 [w0,w1,w2,w3,w4,w5,w6,w7] (l.take (k+1))).length:Int) by rw[hlR]; omega,fun x hq=>?_⟩
      have hx:(j_ 536870912 [w0,w1,w2,w3,w4,w5,w6,w7] (l.take (k+1))).getD i 0=x:=by
       have pr:(j_ 536870912 [w0,w1,w2,w3,w4,w5,w6,w7] (l.take (k+1)))[i]?=some x:=hq
       rw[List.getD_eq_getElem?_getD,pr]; rfl
      refine⟨fun de=>absurd (show m2.s.R i=x by rw[← hr,hx]) de,fun _=>?_⟩
      refine .inl ⟨ao (show _<=(i:Int)+1/\(i:Int)+1<=_ by omega),⟨⟨i+1,by omega⟩,[some 0,some 1,some 2,some 3,some 4],show 8 - (i+1) < 8 - i by omega,?_⟩⟩
      repeat' first|exact trivial|exact rfl|exact Iff.rfl|exact not_false|refine And.intro ?_ ?_
     ·exact aw (fC (show m2.s.R 13=536870912 from q2))
theorem Ja:Op Tryz.prog 38 (J5 1 4 (PV.int .u32) a_) :=
 Fv (AB Ub 1 4 (by kernel_rfl) Tryz.underlying38 (by kernel_rfl) (by decide) (by kernel_rfl)) fun x ⟨a,ha,e⟩=>⟨a,Hk ha,e⟩
theorem sk (x:PV) (s:J5 8 64 gS VO.Ok x) (u:PV) (su:J5 1 4 (PV.int .u32) a_ u):ai gT 5 [x,u] .tt:=by
 obtain⟨l,h1,h2,rfl⟩:=s
 obtain⟨w,_,hw,rfl⟩:=su
 exact te l h2 w hw
end Go.Proofs.YtlgkljpgagfndaaGreatDoor.Pw

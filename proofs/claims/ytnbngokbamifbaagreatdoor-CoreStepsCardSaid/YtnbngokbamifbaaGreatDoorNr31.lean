/- What this claim is proved with: no condition. -/
import Derived.Test.YtnbngokbamifbaaGreatDoorNr30
import Derived.Test.YtnbngokbamifbaaGreatDoorNr28
import Derived.Test.YtnbngokbamifbaaGreatDoorNr27
import Derived.Test.YtnbngokbamifbaaGreatDoorNr15
import Derived.Test.YtnbngokbamifbaaGreatDoorNr25
import Derived.Test.YtnbngokbamifbaaGreatDoorNr24
set_option maxRecDepth 100000
set_option maxHeartbeats 16000000
set_option linter.unusedVariables false
set_option linter.unusedSimpArgs false
namespace Go.Proofs.YtnbngokbamifbaaGreatDoor.Pw
open Go Go.RowKit
theorem JF {x y:XS} (h:iX x) (hi:y.i=x.i) (hs:qL y.s):iX y:=by
 constructor
 case r=>exact hs.r
 case n=>exact hs.n
 case z=>exact hs.z
 case c=>exact hs.c
 case v=>exact hs.v
 all_goals rw[hi]
 ·exact h.rd
 ·exact h.rn
 ·exact h.rm
 ·exact h.ra
 ·exact h.av
 ·exact h.bar
 ·exact h.low
 ·exact h.idx
 ·exact h.an
theorem mg (x:XS):(dm x).i=x.i/\(dm x).code=x.code/\(dm x).taken=x.taken:=by
 unfold dm
 repeat' split
 all_goals exact⟨rfl,rfl,rfl⟩
theorem o8 (x:XS):(ch x).i=x.i/\(ch x).code=x.code/\(ch x).taken=x.taken:=by
 unfold ch
 repeat' split
 all_goals exact⟨rfl,rfl,rfl⟩
structure DDo (x:XS):Prop where
 d:DOk x
 y:iy x
 f0:0<=x.i.form
 f1:x.i.form<=1000
 push:x.i.form=42->x.i.an<=32767
 w24:0 < cS x.i.form->ae x.i.form≠24
theorem JG (f:Int):cS f<=17:=by
 unfold cS
 split
 ·omega
 split
 ·omega
 split
 ·rename_i h
  by_cases h0:0<=f
  ·rcases (show f=0\/f=1\/f=2\/f=3\/f=4\/f=5\/f=6\/f=7\/f=8\/f=9\/f=10\/f=11\/f=12\/f=13\/f=14\/f=15\/f=16\/f=17\/f=18\/f=19\/f=20\/f=21\/f=22\/f=23\/f=24\/f=25\/f=26\/f=27\/f=28\/f=29 by omega) with rfl|rfl|rfl|rfl|rfl|rfl|rfl|rfl|rfl|rfl|rfl|rfl|rfl|rfl|rfl|rfl|rfl|rfl|rfl|rfl|rfl|rfl|rfl|rfl|rfl|rfl|rfl|rfl|rfl|rfl
   all_goals decide
  ·rw[show f.toNat=0 by omega]; decide
 ·omega
def N6 (m:MS) (x:XS):XS:=if aO x.i.form≠0 then iH m x (fI x) else if x.i.form=42 then ix m x else if x.i.form=43 then m6 m x else if 0 < cS x.i.form then jI x (cS x.i.form) (aL x) else if bW x.i.form≠0 then cm x else cT (ch (dm x))
def tE (m:MS) (L:List (Int × Int)) (x:XS):List (Int × Int):=if aO x.i.form≠0 then qO L x (fI x) else if x.i.form=42 then cH x L m.w (bf x) 16 else L
theorem tF {x:XS} (h:iX x):aP (fI x):=by
 unfold fI
 repeat' split
 all_goals first|exact wrap_u32 _|exact o5
theorem ddo (m:MS) (x:XS) (L:List (Int × Int)) (hm:BA m) (hR:lr m.w L) (hL:L.length<=90000) (h:DDo x):ah gT 60 [mW x m.fl L] (.tup [mW (N6 m x) m.fl (tE m L x),.int .i64 (F1 m x)]):=by
 have hx:=h.d.ok
 have eX:N6 m x=if aO x.i.form≠0 then iH m x (fI x) else if x.i.form=42 then ix m x else if x.i.form=43 then m6 m x else if 0 < cS x.i.form then jI x (cS x.i.form) (aL x) else if bW x.i.form≠0 then cm x else cT (ch (dm x)):=rfl
 have eL:tE m L x=if aO x.i.form≠0 then qO L x (fI x) else if x.i.form=42 then cH x L m.w (bf x) 16 else L:=rfl
 have eE:F1 m x=if aO x.i.form≠0 then jF m x (fI x) else if x.i.form=42 then (gD m x).2.2 else if x.i.form=43 then (ma m x).2.2 else 0:=rfl
 have ka:=Jy x m.fl L hx
 have kc:=NV m x L (fI x) hm hR (by omega) hx (tF hx)
 have kp:=aac m x L hL hx
 have kq:=dpop m x L hm hR hx h.d.code
 have kw:=aae x.i.form h.f0 h.f1
 have ks:=NT x m.fl L hx ⟨by have:=h.f0; omega,by have:=h.f1; omega⟩
 have k1:=JE x m.fl L hx
 have pk:=mg x
 have py:=Dt h.y hx
 have qf:=JF hx pk.1 py.s
 have k2:=aah (dm x) m.fl L qf
 have mk:=o8 (dm x)
 have my:=zS py qf
 have Kh:=JF qf mk.1 my.s
 have k3:=aag (ch (dm x)) m.fl L ⟨Kh,by rw[mk.1,pk.1]; exact h.d.im,by rw[mk.2.1,pk.2.1]; exact h.d.code,by rw[mk.2.2,pk.2.2]; exact h.d.taken⟩
 refine Spec.enter ar P60 100 Tryz.func60 rfl (by kernel_rfl) ?_
 refine ka.u ?_
 refine⟨fun ha=>?_,fun ha=>?_⟩
 ·have dv:aO x.i.form≠0:=ha
  rw[if_pos dv] at eX eL eE
  rw[eX,eL,eE]
  refine kc.u ?_
  exact ao (me rfl rfl)
 have dv:¬ aO x.i.form≠0:=ha
 rw[if_neg dv] at eX eL eE
 refine⟨fun vf=>?_,fun vf=>?_⟩
 ·have FE:x.i.form=42:=vf
  rw[if_pos FE] at eX eL eE
  rw[eX,eL,eE]
  refine⟨[],aT,(kp (h.push FE)).use ⟨fH rfl,FE,trivial⟩ rfl rfl ?_⟩
  exact ao (me rfl rfl)
 have FE:¬ x.i.form=42:=vf
 rw[if_neg FE] at eX eL eE
 refine⟨fun F2=>?_,fun F2=>?_⟩
 ·have VO:x.i.form=43:=F2
  rw[if_pos VO] at eX eE
  rw[eX,eL,eE]
  refine⟨[],aT,kq.use ⟨fH rfl,FE,trivial⟩ rfl rfl ?_⟩
  exact ao (me rfl rfl)
 have VO:¬ x.i.form=43:=F2
 rw[if_neg VO] at eX eE
 refine kw.u ?_
 refine⟨fun hw=>?_,fun hw=>?_⟩
 ·have cd:0 < cS x.i.form:=hw
  rw[if_pos cd] at eX
  have ko:=JC x m.fl L h.d (h.w24 cd) (cS x.i.form) (by omega) (JG _)
  rw[eX,eL,eE]
  refine kw.u ?_
  refine ko.u ?_
  exact rA
 have cd:¬ 0 < cS x.i.form:=hw
 rw[if_neg cd] at eX
 refine ks.u ?_
 refine⟨fun hs=>?_,fun hs=>?_⟩
 ·rw[if_pos (show bW x.i.form≠0 from hs)] at eX
  rw[eX,eL,eE]
  exact rA
 ·rw[if_neg (show ¬ bW x.i.form≠0 from hs)] at eX
  rw[eX,eL,eE]
  refine k1.u ?_
  refine k2.u ?_
  refine k3.u ?_
  exact rA
def JH (f:Int):Bool :=
 if 0 < cS f then (aK f == 1 && cS f == 6) || (aK f == 2 && cS f == 9) || (aK f == 3 && cS f == 7) || (aK f == 4 && cS f == 8) || (aK f == 5 && cS f == 17) || (aK f == 6 && cS f == 10) || (aK f == 7 && cS f == 16) || (aK f == 8 && cS f == 15) || (aK f == 0 && ((aM f == 1 && cS f == 11) || (aM f == 2 && cS f == 12) || (aM f == 3 && cS f == 1) || (aM f == 4 && cS f == 3) || (aM f == 5 && cS f == 5) || (aM f == 6 && cS f == 2) || (aM f == 7 && cS f == 4) || (aM f == 8 && cS f == 13) || (aM f == 9 && cS f == 14)))
 else aK f == 0 && aM f == 0 && (bg f == 0 || (br f == 0 && cj f == 0)) && (br f == 0 || cj f == 0)
theorem N7:∀ n:Fin 101,JH (n.val:Int)=true:=by decide +kernel
theorem VP {f:Int} (h0:0<=f) (h1:f<=100):JH f=true:=by
 have:=N7 ⟨f.toNat,by omega⟩
 rwa [show ((f.toNat:Nat):Int)=f by omega] at this
theorem JI (x:XS) (h0:0<=x.i.form) (h1:x.i.form<=100):eu x=if 0 < cS x.i.form then jI x (cS x.i.form) (aL x) else if bW x.i.form≠0 then cm x else cT (ch (dm x)):=by
 have hc:=VP h0 h1
 unfold JH at hc
 by_cases hw:0 < cS x.i.form
 ·rw[if_pos hw] at hc ⊢
  simp only[Bool.or_eq_true,Bool.and_eq_true,beq_iff_eq] at hc
  unfold eu
  rcases hc with (((((((⟨a,b⟩|⟨a,b⟩)|⟨a,b⟩)|⟨a,b⟩)|⟨a,b⟩)|⟨a,b⟩)|⟨a,b⟩)|⟨a,b⟩)|⟨a,hl⟩
  ·rw[if_pos (by rw[a]; decide),mH a,b]; rfl
  ·rw[if_pos (by rw[a]; decide),mI a,b]; rfl
  ·rw[if_pos (by rw[a]; decide),rq a,b]; rfl
  ·rw[if_pos (by rw[a]; decide),rr a,b]; rfl
  ·rw[if_pos (by rw[a]; decide),De a,b]; rfl
  ·rw[if_pos (by rw[a]; decide),xe a,b]; rfl
  ·rw[if_pos (by rw[a]; decide),mJ a,b]; rfl
  ·rw[if_pos (by rw[a]; decide),ry a,b]; rfl
  ·rw[if_neg (by rw[a]; decide)]
   rcases hl with (((((((⟨a,b⟩|⟨a,b⟩)|⟨a,b⟩)|⟨a,b⟩)|⟨a,b⟩)|⟨a,b⟩)|⟨a,b⟩)|⟨a,b⟩)|⟨a,b⟩
   ·rw[if_pos (by rw[a]; decide),mK a,b]; rfl
   ·rw[if_pos (by rw[a]; decide),mL a,b]; rfl
   ·rw[if_pos (by rw[a]; decide),mM a,b]; rfl
   ·rw[if_pos (by rw[a]; decide),mN a,b]; rfl
   ·rw[if_pos (by rw[a]; decide),mO a,b]; rfl
   ·rw[if_pos (by rw[a]; decide),mQ a,b]; rfl
   ·rw[if_pos (by rw[a]; decide),pO a,b]; rfl
   ·rw[if_pos (by rw[a]; decide),mR a,b]; rfl
   ·rw[if_pos (by rw[a]; decide),pP a,b]; rfl
 ·rw[if_neg hw] at hc ⊢
  simp only[Bool.or_eq_true,Bool.and_eq_true,beq_iff_eq] at hc
  obtain⟨⟨⟨a,b⟩,c⟩,d⟩:=hc
  unfold eu
  rw[if_neg (by rw[a]; decide),if_neg (by rw[b]; decide)]
  by_cases hs:bW x.i.form≠0
  ·rw[if_pos hs,if_pos hs]
  ·rw[if_neg hs,if_neg hs]
   by_cases hp:bg x.i.form=0
   ·rw[if_neg (fun h=>h hp),rz hp]
    by_cases hm:br x.i.form=0
    ·rw[if_neg (fun h=>h hm),l8 hm]
    ·rw[if_pos hm,tu (by rw[(o8 x).1]; exact d.resolve_left hm)]
   ·obtain⟨c1,c2⟩:=c.resolve_left hp
    rw[if_pos hp,l8 (by rw[(mg x).1]; exact c1),tu (by rw[(mg x).1]; exact c2)]
theorem N8 (m:MS) (x:XS) (h0:0<=x.i.form) (h1:x.i.form<=100):N6 m x=qs m x:=by
 unfold N6 qs
 rw[JI x h0 h1]
theorem DH (L M:List (Int × Int)) (b:Int):∀ n,n<=L.length->Fz (L++M) b n=Fz L b n
 | 0,_=>rfl
 | n+1,h=>by
  have ih:=DH L M b n (by omega)
  have e:(L++M).getD n (0,0)=L.getD n (0,0):=by
   rw[List.getD_eq_getElem?_getD,List.getD_eq_getElem?_getD,List.getElem?_append_left (by omega)]
  rw[Fz,Fz,e,ih]
theorem ke (L:List (Int × Int)) (p:Int × Int) (b:Int):qN (L++[p]) b=if p.1=b then p.2 else qN L b:=by
 unfold qN
 rw[List.length_append]
 show Fz (L++[p]) b (L.length+1)=_
 have e:(L++[p]).getD L.length (0,0)=p:=by
  rw[List.getD_eq_getElem?_getD,List.getElem?_append_right (Nat.le_refl _),Nat.sub_self]
  rfl
 rw[Fz,e,DH L [p] b L.length (Nat.le_refl _)]
theorem zX (L:List (Int × Int)) (p:Int × Int) (a:Int):eQ (L++[p]) a=eQ L a++(if p.1≠a then [p] else []):=by
 unfold eQ
 rw[List.filter_append]
 by_cases hp:p.1=a
 ·simp[hp]
 ·simp[hp]
theorem zY {a b:Int} (h:b≠a):∀ (n:Nat) (L:List (Int × Int)),L.length=n->qN (eQ L a) b=qN L b
 | 0,L,hl=>by
  rw[List.eq_nil_of_length_eq_zero hl]
  rfl
 | n+1,L,hl=>by
  rcases List.eq_nil_or_concat L with rfl|⟨M,p,rfl⟩
  ·cases hl
  ·rw[List.concat_eq_append] at hl ⊢
   have hM:M.length=n:=by rw[List.length_append] at hl; exact Nat.succ.inj hl
   have ih:=zY h n M hM
   rw[zX,ke]
   by_cases hp:p.1=a
   ·rw[if_neg (fun h=>h hp),List.append_nil,ih,if_neg (fun e=>h (e.symm.trans hp))]
   ·rw[if_pos hp,ke,ih]
theorem N9 (L:List (Int × Int)) (a v b:Int):qN (BL L a v) b=if b=a then v else qN L b:=by
 unfold BL
 rw[ke]
 by_cases h:b=a
 ·rw[if_pos h,if_pos h.symm]
 ·rw[if_neg h,if_neg (fun e=>h e.symm),zY h _ L rfl]
theorem pU {w:Nat->Int} {L:List (Int × Int)} (h:lr w L) {a:Int} (ha:aP a) (v:Int):lr (xb w a v) (jG L a v):=by
 unfold xb jG
 by_cases he:jb a=0
 ·rw[if_pos he,if_pos he]
  intro j hj
  rw[N9]
  unfold jb at he
  split at he
  ·cases he
  rename_i h4
  split at he
  ·cases he
  split at he
  ·rename_i hr
   unfold c_ at hr
   unfold tk m5
   by_cases hja:536870912+4*(j:Int)=a
   ·rw[if_pos hja,if_pos (by omega)]
   ·rw[if_neg hja,if_neg (by omega)]
    exact h j hj
  ·cases he
 ·rw[if_neg he,if_neg he]
  exact h
theorem N' {m:MS} {L:List (Int × Int)} {x:XS} {a:Int} (h:lr m.w L) (ha:aP a):lr (lp m x a) (qO L x a):=by
 unfold lp qO
 split
 ·exact pU h ha _
 ·exact h
theorem vq {x:XS} {w:Nat->Int} {a:Int}:∀ r,(aY x w a r).2.2≠0->jb (aY x w a r).2.1≠0
 | 0,h=>absurd rfl h
 | r+1,h=>by
  by_cases hz:(aY x w a r).2.2=0
  ·by_cases hb:i_ x.i.an r=0
   ·rw[gQ hz hb] at h
    exact absurd hz h
   ·by_cases he:jb (aY x w a r).2.1≠0
    ·rw[mT hz hb he]
     exact he
    ·rw[oY hz hb he] at h
     exact absurd rfl h
  ·have e:aY x w a (r+1)=aY x w a r:=fW hz 1
   rw[e]
   exact vq r hz
theorem vr {x:XS} {L:List (Int × Int)} {w:Nat->Int} {a:Int} (h:lr w L) (ha:aP a):∀ r,lr (aY x w a r).1 (cH x L w a r)
 | 0=>h
 | r+1=>by
  have ih:=vr (x:=x) h ha r
  have hP:=l_ (x:=x) (w:=w) ha r
  by_cases hz:(aY x w a r).2.2=0
  ·by_cases hb:i_ x.i.an r=0
   ·rw[gQ hz hb,cH,if_pos hb]
    exact ih
   ·rw[cH,if_neg hb]
    by_cases he:jb (aY x w a r).2.1≠0
    ·rw[mT hz hb he]
     unfold jG
     rw[if_neg he]
     exact ih
    ·rw[oY hz hb he]
     exact pU ih hP _
  ·have e:aY x w a (r+1)=aY x w a r:=fW hz 1
   rw[e,cH]
   split
   ·exact ih
   ·unfold jG
    rw[if_neg (vq r hz)]
    exact ih
theorem N_ {m:MS} {L:List (Int × Int)} {x:XS} (h:lr m.w L) (hx:iX x) (hr:x.i.form=42->aY x m.w (bf x) 16=aY x m.w (bf x) 15):lr (zO m x) (tE m L x):=by
 unfold zO tE
 split
 ·exact N' h (tF hx)
 ·split
  ·rename_i vf
   unfold gD
   rw[← hr vf]
   exact vr h (wrap_u32 _) 16
  ·exact h
def kY (full:Prop) [Decidable full] (line:Int):Int:=if full then line else -1
theorem Pz (full:Prop) [Decidable full] (line a:Int) (ha:aP a):fy (kY full line) [a] 1=(m7 full line a 2,o1 a 2):=by
 obtain⟨a0,a1⟩:=ha
 have e:fy (kY full line) [a] 1=(if a / 16≠kY full line then (0:Int)+1 else 0,a / 16):=rfl
 rw[e]
 unfold m7 o1 eP cW kY
 rw[if_pos rfl,if_pos rfl]
 by_cases hf:full
 ·rw[if_pos hf]
  by_cases hl:line=a / 16
  ·rw[if_neg (fun h=>h hl.symm),if_pos ⟨hf,hl⟩]
  ·rw[if_pos (fun h=>hl h.symm),if_neg (fun h=>hl h.2)]
   rfl
 ·rw[if_neg hf,if_pos (by omega),if_neg (fun h=>hf h.1)]
  rfl
theorem mis_2 (full:Prop) [Decidable full] (line a:Int) (ha:aP a):fy (kY full line) [a,IntKind.u32.wrap (a+2)] 2=(m7 full line a 4,o1 a 4):=by
 have e1:=Pz full line a ha
 have e:fy (kY full line) [a,IntKind.u32.wrap (a+2)] 2=(if IntKind.u32.wrap (a+2) / 16≠(fy (kY full line) [a] 1).2 then (fy (kY full line) [a] 1).1+1 else (fy (kY full line) [a] 1).1,IntKind.u32.wrap (a+2) / 16):=rfl
 have f2:m7 full line a 2=eP full line (cW a):=by unfold m7; rw[if_pos rfl]
 have f4:m7 full line a 4=eP full line (cW a)+eP True (cW a) (cW (IntKind.u32.wrap (a+2))):=by unfold m7; rw[if_neg (by decide)]
 have l2:o1 a 2=cW a:=by unfold o1; rw[if_pos rfl]
 have l4:o1 a 4=cW (IntKind.u32.wrap (a+2)):=by unfold o1; rw[if_neg (by decide)]
 rw[e,e1,f2,f4,l2,l4]
 dsimp only
 by_cases hl:cW a=cW (IntKind.u32.wrap (a+2))
 ·have hm:eP True (cW a) (cW (IntKind.u32.wrap (a+2)))=0:=by unfold eP; rw[if_pos ⟨trivial,hl⟩]
  rw[hm,Int.add_zero,if_neg (show ¬ (IntKind.u32.wrap (a+2) / 16≠cW a) from fun h=>h hl.symm)]
  rfl
 ·have hm:eP True (cW a) (cW (IntKind.u32.wrap (a+2)))=1:=by unfold eP; rw[if_neg (fun h=>hl h.2)]
  rw[hm,if_pos (show IntKind.u32.wrap (a+2) / 16≠cW a from fun h=>hl h.symm)]
  rfl
open Classical in
noncomputable def uj (m:MS) (L:List (Int × Int)):MD:=⟨m.fl,L,m.wait,m.s,kY m.full m.line,m.iD,m.kind,m.code⟩
noncomputable def zZ (m:MS) (L:List (Int × Int)):List (Int × Int):=if m.kind≠0 then L else if fp m.fl (m.s.R 15)≠0 then L else tE m L (cD m.s (cE m.fl (m.s.R 15)))
theorem FF {fl:List Int} {a:Int} (h:fp fl a=0):((iz fl a).length:Int)*2=dN (cE fl a).form/\(iz fl a = [a]/\dN (cE fl a).form=2\/iz fl a = [a,IntKind.u32.wrap (a+2)]/\dN (cE fl a).form=4):=by
 have h0:=h
 unfold iz
 rw[if_neg (fun e=>e h)]
 unfold fp at h0
 unfold cE
 split at h0
 ·rename_i h1; exact absurd h0 h1
 ·rename_i h1
  rw[if_neg h1]
  split at h0
  ·rename_i h2
   rw[if_pos h2,if_pos h2]
   have hf:=(j8 h0).2.2
   have hf':1<=(ri (fx fl a) False).form/\(ri (fx fl a) False).form<=47:=by
    rcases hf with ⟨h,_⟩|⟨_,h⟩
    ·exact h.elim
    ·exact h
   have e:dN (ri (fx fl a) False).form=2:=by unfold dN; rw[if_neg (by omega),if_pos hf']
   rw[e]
   exact⟨rfl,.inl ⟨rfl,rfl⟩⟩
  ·rename_i h2
   rw[if_neg h2,if_neg h2]
   split at h0
   ·rename_i h3; exact absurd h0 h3
   ·rename_i h3
    rw[if_neg h3]
    have hf:=(j8 h0).2.2
    have hf':48<=(ri (gF fl a) True).form/\(ri (gF fl a) True).form<=100:=by
     rcases hf with ⟨_,h⟩|⟨h,_⟩
     ·exact h
     ·exact absurd trivial h
    have e:dN (ri (gF fl a) True).form=4:=by unfold dN; rw[if_pos hf']
    rw[e]
    exact⟨rfl,.inr ⟨rfl,rfl⟩⟩
theorem Oa:∀ n:Fin 101,(decide (0 < cS (n.val:Int)) && ae (n.val:Int) == 24)=false:=by decide +kernel
theorem FG {f:Int} (h:1<=f/\f<=100) (hw:0 < cS f):ae f≠24:=fun e=>by
 have:=Oa ⟨f.toNat,by omega⟩
 rw[show ((f.toNat:Nat):Int)=f by omega,e] at this
 simp[hw] at this
theorem BR {i:IN} (h:bQ i) (hi:tR i) (hf:i.form=42):i.an<=32767:=by
 obtain⟨_,h1,h2,h3,h4,h5,_⟩:=h
 have hs:ae i.form=11:=by rw[hf]; decide
 rw[hs] at h5
 have hI:=hi i.an (by simp[lW])
 rcases h5 with ⟨e,_⟩|⟨hn,h0,ha⟩
 ·exact absurd e (by decide)
 ·have:=mB 14 (by decide) (by decide) i.an 16639 (by decide) h0 hI.2 ha
  omega
theorem FH {i:IN} (h:bQ i) (hf:ae i.form=18\/ae i.form=19\/ae i.form=20):0<=i.av/\i.av<=4095/\Rm.eG i.av=0:=by
 obtain⟨_,_,_,_,_,_,_,h7,_,_,cY⟩:=h
 have hw:=cY.2.2.2.2 hf
 rcases hf with e|e|e<;>rw[e] at h7
 ·rcases h7 with ⟨e0,_⟩|⟨_,a,b,_⟩
  ·exact absurd e0 (by decide)
  ·exact⟨a,b,hw⟩
 ·rcases h7 with ⟨e0,_⟩|⟨_,a,b,_⟩
  ·exact absurd e0 (by decide)
  ·exact⟨a,b,hw⟩
 ·rcases h7 with ⟨e0,_⟩|⟨_,a,b,_⟩
  ·exact absurd e0 (by decide)
  ·exact⟨a,b,hw⟩
theorem z3 {s:RS} {i:IN} (hs:qL s) (h:bQ i) (hi:tR i):DDo (cD s i) where
 d:=⟨j7 hs h hi,fun hf=>FH h hf,rfl,fun h=>h⟩
 y:=o6 hs i
 f0:=show 0<=i.form by have:=h.1; omega
 f1:=show i.form<=1000 by have:=h.1; omega
 push:=fun hf=>BR h hi hf
 w24:=fun hw=>FG h.1 hw
open Classical in
theorem PA (m:MS) (L:List (Int × Int)) (hm:m8 m) (hR:lr m.w L) (hL:L.length<=90000):ah gT 26 [Ki (uj m L)] (.tup [Ki (uj (cX m) (zZ m L)),NM m,.int .i64 (j' m)]):=by
 have kE:j' m=if m.kind≠0 then 71 else if fp m.fl (m.s.R 15)≠0 then 10 else if lq m≠0 then 10 else 0:=rfl
 have kM:cX m=if m.kind≠0 then m else if fp m.fl (m.s.R 15)≠0 then nQ m (fp m.fl (m.s.R 15)) else if lq m≠0 then nQ (gC m (zO m (cD m.s (cE m.fl (m.s.R 15))))) (lq m) else qt m:=rfl
 have kV:=Dw m
 have kL:zZ m L=if m.kind≠0 then L else if fp m.fl (m.s.R 15)≠0 then L else tE m L (cD m.s (cE m.fl (m.s.R 15))):=rfl
 have kf:=VJ (uj m L) (m.s.R 15) hm.mem.fl hm.mem.len (hm.s.r 15)
 refine Spec.enter ar P26 100 Tryz.func26 rfl (by kernel_rfl) ?_
 refine⟨fun h=>?_,fun h=>?_⟩
 ·have h':m.kind≠0:=h
  rw[if_pos h'] at kE kM kL
  rw[kE,if_pos (by decide)] at kV
  rw[kV,kE,kM,kL]
  exact rA
 rw[if_neg (show ¬ m.kind≠0 from h)] at kE kM kL
 refine kf.u ?_
 refine⟨fun h=>?_,fun h=>?_⟩
 ·have h':fp m.fl (m.s.R 15)≠0:=h
  rw[if_pos h'] at kE kM kL
  rw[kE,if_pos (by decide)] at kV
  rw[kV,kE,kM,kL]
  exact rA
 have hf:fp m.fl (m.s.R 15)=0:=Classical.not_not.1 h
 rw[if_neg (show ¬ fp m.fl (m.s.R 15)≠0 from h)] at kE kM kL
 obtain⟨hr,xp⟩:=j9 hf
 have hd:=z3 hm.s hr xp
 obtain⟨hlen,hhl⟩:=FF (fl:=m.fl) (a:=m.s.R 15) hf
 have fA:=Dv (j9 hf).1
 have DM:(mf (iz m.fl (m.s.R 15))).length=(iz m.fl (m.s.R 15)).length:=List.length_map ..
 have ks:=iC (cE m.fl (m.s.R 15)).form ⟨by have:0<=(cE m.fl (m.s.R 15)).form:=hd.f0; omega,by have:(cE m.fl (m.s.R 15)).form<=1000:=hd.f1; omega⟩
 have kd:=ddo m (cD m.s (cE m.fl (m.s.R 15))) L hm.mem hR hL hd
 rw[N8 m _ hd.f0 (show (cE m.fl (m.s.R 15)).form<=100 from hr.1.2)] at kd
 have hx:=j7 hm.s hr xp
 have hy:=Js hm.mem (o6 hm.s (cE m.fl (m.s.R 15))) hx
 have F3:=ju hr xp
 have kb:=aaa (cE m.fl (m.s.R 15)) (qs m (cD m.s (cE m.fl (m.s.R 15)))).taken (qs m (cD m.s (cE m.fl (m.s.R 15)))).a (qs m (cD m.s (cE m.fl (m.s.R 15)))).b F3.1 F3.2 hy.a hy.b
 have kmi:fy (kY m.full m.line) (iz m.fl (m.s.R 15)) (iz m.fl (m.s.R 15)).length=(cq m,o1 (m.s.R 15) (dN (cE m.fl (m.s.R 15)).form)):=by
  unfold cq
  rcases hhl with ⟨e1,e2⟩|⟨e1,e2⟩
  ·rw[e1,e2]; exact Pz m.full m.line (m.s.R 15) (hm.s.r 15)
  ·rw[e1,e2]; exact mis_2 m.full m.line (m.s.R 15) (hm.s.r 15)
 have kmm:=NW (kY m.full m.line) (iz m.fl (m.s.R 15)) (by
  intro z hz
  rcases hhl with ⟨e1,_⟩|⟨e1,_⟩<;>rw[e1] at hz<;>simp only[List.mem_cons,List.not_mem_nil,or_false] at hz
  ·rw[hz]; exact hm.s.r 15
  ·rcases hz with rfl|rfl
   ·exact hm.s.r 15
   ·exact wrap_u32 _) (by rcases hhl with ⟨e1,_⟩|⟨e1,_⟩<;>rw[e1]<;>simp)
 rw[kmi] at kmm
 have hbb:1<=cz m/\cz m<=20:=xn (cE m.fl (m.s.R 15)) (qs m (cD m.s (cE m.fl (m.s.R 15)))).taken hy.a hy.b F3.1 F3.2
 have Z4:0<=cq m/\cq m<=2:=xo m.full m.line (m.s.R 15) (dN (cE m.fl (m.s.R 15)).form)
 have hmw:=BE Z4 hm.wait
 refine ks.u ?_
 conv=>whnf
 refine And.intro ?_ ?_
 rotate_left
 ·conv=>whnf
  refine And.intro ?_ ?_
  ·refine ks.u ?_
   exact rfl
  ·first|exact trivial|((conv=>whnf); exact trivial)
 refine fun rQ=>?_
 refine li ?_ (show _<=2*(((mf (iz m.fl (m.s.R 15))).length:Nat):Int)/\2*(((mf (iz m.fl (m.s.R 15))).length:Nat):Int)<=_ by rw[DM]; omega)
 refine lu ?_ (show 0<=2*(((mf (iz m.fl (m.s.R 15))).length:Nat):Int)/\2*(((mf (iz m.fl (m.s.R 15))).length:Nat):Int)<=_ by rw[DM]; omega)
 refine .inr ?_
 have eS:IntKind.u32.wrap (m.s.R 15+2*(((mf (iz m.fl (m.s.R 15))).length:Nat):Int))=IntKind.u32.wrap (m.s.R 15+IntKind.u32.wrap (dN (cE m.fl (m.s.R 15)).form)):=by
  rw[DM,show IntKind.u32.wrap (dN (cE m.fl (m.s.R 15)).form)=dN (cE m.fl (m.s.R 15)).form by rw[IntKind.wrap_u32']; omega,← hlen,Int.mul_comm]
 refine⟨[],aT,kd.use (by repeat' first|exact trivial|exact rfl|exact Iff.rfl|exact eS|exact not_false|refine And.intro ?_ ?_) rfl rfl ?_⟩
 refine⟨fun he=>?_,fun he=>?_⟩
 ·have nC:lq m≠0:=he
  rw[if_pos nC] at kE kM
  rw[kE,if_pos (by decide)] at kV
  rw[kV,kE,kM,kL]
  exact rA
 rw[if_neg (show ¬ lq m≠0 from he)] at kE kM
 rw[kE,if_neg (by decide)] at kV
 rw[kV,kE,kM,kL]
 refine kb.u ?_
 refine kmm.u ?_
 have hcy:=hm.iD
 refine li ?_ (show _<=m.iD+cz m/\m.iD+cz m<=_ by omega)
 refine li ?_ (show _<=cq m*m.wait/\cq m*m.wait<=_ by omega)
 refine li ?_ (show _<=m.iD+cz m+cq m*m.wait/\m.iD+cz m+cq m*m.wait<=_ by omega)
 refine ao ?_
 repeat' first|exact trivial|exact rfl|exact Iff.rfl|refine And.intro ?_ ?_
 all_goals first|exact (show m.iD+cz m+cq m*m.wait=m.iD+(cz m+cq m*m.wait) from Int.add_assoc ..)|(show _=_; exact Eq.symm (if_pos trivial))
structure FI (L:List (Int × Int)):Prop where
 nd:(L.map Prod.fst).Nodup
 inr:∀ p∈L,∃ j:Nat,j < 16384/\p.1=536870912+4*(j:Int)
def nU:List (Int × Int)->Int
 | []=>0
 | p::L=>(if p.2≠0 then 1 else 0)+nU L
theorem rI:∀ (A B:List (Int × Int)),nU (A++B)=nU A+nU B
 | [],B=>by rw[List.nil_append]; show _=0+nU B; omega
 | p::A,B=>by
  have ih:=rI A B
  rw[List.cons_append,nU,nU,ih]
  omega
theorem xx:∀ L:List (Int × Int),0<=nU L/\nU L<=L.length
 | []=>by simp[nU]
 | p::L=>by
  have ih:=xx L
  rw[nU,List.length_cons]
  split<;>omega
theorem np (w:Nat->Int):∀ n,(cv w n).length<=n
 | 0=>Nat.le_refl _
 | n+1=>by
  have ih:=np w n
  rw[cv]
  split
  ·omega
  ·rw[List.length_append,List.length_singleton]; omega
theorem tG (w w':Nat->Int) (j:Nat) (h0:w' j=0) (hs:∀ k,k≠j->w k=w' k):∀ n,((cv w n).length:Int)=(cv w' n).length+(if j < n/\w j≠0 then 1 else 0)
 | 0=>by rw[if_neg (by omega)]; rfl
 | n+1=>by
  have ih:=tG w w' j h0 hs n
  rw[cv,cv]
  by_cases hn:n=j
  ·subst hn
   rw[if_pos h0]
   rw[if_neg (by omega)] at ih
   by_cases hz:w n=0
   ·rw[if_pos hz,if_neg (fun h=>h.2 hz)]; exact ih
   ·rw[if_neg hz,if_pos ⟨by omega,hz⟩,List.length_append,List.length_singleton]; omega
  ·have e:=hs n hn
   have ec:(j < n/\w j≠0)↔(j < n+1/\w j≠0):=⟨fun h=>⟨by omega,h.2⟩,fun h=>⟨by omega,h.2⟩⟩
   have e2:(if j < n+1/\w j≠0 then (1:Int) else 0)=if j < n/\w j≠0 then 1 else 0:=by
    by_cases hc:j < n/\w j≠0
    ·rw[if_pos hc,if_pos (ec.1 hc)]
    ·rw[if_neg hc,if_neg (fun h=>hc (ec.2 h))]
   rw[e2]
   by_cases hz:w' n=0
   ·rw[if_pos (e.trans hz),if_pos hz]; exact ih
   ·rw[if_neg (fun h=>hz (e.symm.trans h)),if_neg hz,List.length_append,List.length_append,List.length_singleton,List.length_singleton]; omega
theorem JJ {L:List (Int × Int)} {a:Int} (h:a ∉ L.map Prod.fst):qN L a=0:=by
 have key:∀ (n:Nat) (L:List (Int × Int)),L.length=n->a ∉ L.map Prod.fst->qN L a=0:=by
  intro n
  induction n with
  | zero=>intro L hl _; rw[List.eq_nil_of_length_eq_zero hl]; rfl
  | succ n ih =>
   intro L hl h
   rcases List.eq_nil_or_concat L with rfl|⟨M,p,rfl⟩
   ·rfl
   ·rw[List.concat_eq_append] at hl h ⊢
    rw[List.length_append,List.length_singleton] at hl
    simp only[List.map_append,List.map_cons,List.map_nil,List.mem_append,List.mem_singleton,not_or] at h
    rw[ke,if_neg (fun e=>h.2 e.symm)]
    exact ih M (by omega) h.1
 exact key _ L rfl h
theorem qv:∀ n,cv (fun _=>0) n = []
 | 0=>rfl
 | n+1=>by rw[cv,if_pos rfl]; exact qv n
theorem o9 {w w':Nat->Int}:∀ n,(∀ k,k < n->w k=w' k)->cv w n=cv w' n
 | 0,_=>rfl
 | n+1,h=>by
  rw[cv,cv,o9 n (fun k hk=>h k (by omega)),h n (by omega)]
  unfold iG
  rw[h n (by omega)]
theorem JK {w:Nat->Int} {L:List (Int × Int)} (h:lr w L) (hL:FI L):((cv w 16384).length:Int)=nU L:=by
 have key:∀ (n:Nat) (L:List (Int × Int)),L.length=n->FI L->((cv (fun j=>qN L (536870912+4*(j:Int))) 16384).length:Int)=nU L:=by
  intro n
  induction n with
  | zero =>
   intro L hl _
   rw[List.eq_nil_of_length_eq_zero hl]
   rw[show (fun j:Nat=>qN [] (536870912+4*(j:Int)))=fun _=>0 from rfl,qv]
   rfl
  | succ n ih =>
   intro L hl hL
   rcases List.eq_nil_or_concat L with rfl|⟨M,p,rfl⟩
   ·cases hl
   ·rw[List.concat_eq_append] at hl hL ⊢
    rw[List.length_append,List.length_singleton] at hl
    have FU:=hL.nd
    rw[List.map_append,List.nodup_append] at FU
    have hM:FI M:=⟨FU.1,fun q hq=>hL.inr q (List.mem_append.2 (.inl hq))⟩
    have hp:p.1 ∉ M.map Prod.fst:=fun hm=>FU.2.2 p.1 hm p.1 (by simp) rfl
    obtain⟨j,hj,GW⟩:=hL.inr p (List.mem_append.2 (.inr (List.mem_singleton.2 rfl)))
    rw[rI,← ih M (by omega) hM]
    have hj0:qN M (536870912+4*(j:Int))=0:=JJ (by rw[← GW]; exact hp)
    have:=tG (fun k=>qN (M++[p]) (536870912+4*(k:Int))) (fun k=>qN M (536870912+4*(k:Int))) j hj0 (fun k hk=>by
     show qN (M++[p]) _=qN M _
     rw[ke,if_neg (by rw[GW]; omega)]) 16384
    rw[this]
    have ep:qN (M++[p]) (536870912+4*(j:Int))=p.2:=by rw[ke,if_pos GW]
    show _+(if j < 16384/\qN (M++[p]) (536870912+4*(j:Int))≠0 then (1:Int) else 0)=_
    rw[ep]
    have:nU [p]=if p.2≠0 then 1 else 0:=by rw[nU,nU]; omega
    rw[this]
    by_cases hz:p.2≠0
    ·rw[if_pos ⟨hj,hz⟩,if_pos hz]
    ·rw[if_neg (fun h=>hz h.2),if_neg hz]
 rw[← key _ L rfl hL]
 rw[o9 16384 (w':=fun j=>qN L (536870912+4*(j:Int))) fun k hk=>h k hk]
theorem tH {L:List (Int × Int)} (hL:FI L) {a:Int} (ha:aP a) (v:Int):FI (jG L a v):=by
 unfold jG
 split
 ·rename_i he
  unfold BL
  have nD:∀ q∈eQ L a,q∈L/\q.1≠a:=fun q hq=>by
   unfold eQ at hq
   rw[List.mem_filter] at hq
   exact⟨hq.1,by simpa using hq.2⟩
  refine⟨?_,fun q hq=>?_⟩
  ·rw[List.map_append,List.nodup_append]
   refine⟨?_,by simp,fun x hx y hy=>?_⟩
   ·unfold eQ
    exact List.Nodup.sublist (List.Sublist.map _ List.filter_sublist) hL.nd
   ·obtain⟨q,hq,rfl⟩:=List.mem_map.1 hx
    simp only[List.map_cons,List.map_nil,List.mem_singleton] at hy
    subst hy
    exact (nD q hq).2
  ·rcases List.mem_append.1 hq with hq|hq
   ·exact hL.inr q (nD q hq).1
   ·rw[List.mem_singleton] at hq
    subst hq
    unfold jb at he
    split at he
    ·cases he
    rename_i h4
    split at he
    ·cases he
    split at he
    ·rename_i hr
     unfold c_ at hr
     exact⟨((a - 536870912) / 4).toNat,by omega,by show a=_; omega⟩
    ·cases he
 ·exact hL
theorem JL {L:List (Int × Int)} (hL:FI L) (x:XS) {a:Int} (ha:aP a):FI (qO L x a):=by
 unfold qO
 split
 ·exact tH hL ha _
 ·exact hL
theorem tI {x:XS} {L:List (Int × Int)} {w:Nat->Int} {a:Int} (hL:FI L) (ha:aP a):∀ r,FI (cH x L w a r)
 | 0=>hL
 | r+1=>by
  have ih:=tI (x:=x) (w:=w) hL ha r
  rw[cH]
  split
  ·exact ih
  ·exact tH ih (l_ (x:=x) (w:=w) ha r) _
theorem JM {m:MS} {L:List (Int × Int)} {x:XS} (hL:FI L) (hx:iX x):FI (tE m L x):=by
 unfold tE
 split
 ·exact JL hL x (tF hx)
 ·split
  ·exact tI hL (wrap_u32 _) 16
  ·exact hL
theorem JN (m:MS) (L:List (Int × Int)) (x:XS):(tE m L x).length<=L.length+16:=by
 unfold tE
 split
 ·unfold qO
  split
  ·have:=tD L (fI x) (al x x.i.rd); omega
  ·omega
 ·split
  ·exact nR x L m.w (bf x) 16
  ·omega
theorem Ob (m:MS) (x:XS) (hr:0<=x.i.an) (h:x.i.an<=32767):aY x m.w (bf x) 16=aY x m.w (bf x) 15:=by
 have Iz:i_ x.i.an 15=0:=by
  rw[rH hr (by omega) (by decide)]
  unfold lv
  rw[show Ev.aD .u32 ((15:Nat):Int)=32768 by decide]
  omega
 by_cases h:(aY x m.w (bf x) 15).2.2≠0
 ·rw[aY,if_pos h]
 ·exact gQ (x:=x) (w:=m.w) (a:=bf x) (Classical.not_not.1 h) Iz
structure FJ (m:MS) (L:List (Int × Int)):Prop where
 VQ:lr m.w L
 lok:FI L
theorem JO {m:MS} {L:List (Int × Int)} (hm:m8 m) (h:FJ m L):FJ (cX m) (zZ m L)/\(zZ m L).length<=L.length+16:=by
 unfold cX zZ
 split
 ·exact⟨h,by omega⟩
 split
 ·exact⟨⟨h.VQ,h.lok⟩,by omega⟩
 rename_i hk hf
 obtain⟨hr,xp⟩:=j9 (Classical.not_not.1 hf)
 have hx:=j7 hm.s hr xp
 have hd:=z3 hm.s hr xp
 have JP:lr (zO m (cD m.s (cE m.fl (m.s.R 15)))) (tE m L (cD m.s (cE m.fl (m.s.R 15)))):=N_ h.VQ hx fun vf=>Ob m _ hx.an.1 (hd.push vf)
 have JQ:=JM (m:=m) h.lok hx
 have hlen:=JN m L (cD m.s (cE m.fl (m.s.R 15)))
 split
 ·exact⟨⟨JP,JQ⟩,hlen⟩
 ·exact⟨⟨JP,JQ⟩,hlen⟩
theorem z4 (s:RS):ah gT 25 [pf s] (pf (tx s)):=by
 refine Spec.enter ar P25 100 Tryz.func25 rfl (by kernel_rfl) ?_
 exact rA
theorem vt (m:MS) (L:List (Int × Int)):Spec gT 27 [.ptr 2 0,Ki (uj m L)] (stM m) [] fun y S'=>y = .tt/\S'=stM m:=by
 refine Spec.kB (Spec.enter ar P27 100 Tryz.func27 rfl (by kernel_rfl) ?_)
 refine (Dx m).e ?_
 refine (zT m).e ?_
 refine⟨fun _=>?_,fun h=>(h (by repeat' first|exact trivial|exact rfl|refine And.intro ?_ ?_)).elim⟩
 refine (vj m).e ?_
 refine⟨fun _=>?_,fun h=>(h rfl).elim⟩
 refine⟨fun _=>?_,fun h=>(h rfl).elim⟩
 exact bj (dW rfl) (ak rfl)
def VR (b:au):au:={ b with m:=.p }
theorem aE.pin {w:World} {I:Nat->Prop} {β:ay} {st:List au} (h:aE I β st w) (hw:∀ b∈st,b.m≠.r):aE I β (st.map VR) w:=by
 refine⟨fun l hl=>h.qS l (by simpa using hl),fun l b hb aH=>?_⟩
 rw[List.getElem?_map,Option.map_eq_some_iff] at hb
 obtain⟨b0,gw,rfl⟩:=hb
 obtain⟨p,hp,hk⟩:=h.gA l b0 gw aH
 have own:∀ {g:Nat} {fr:Nat × Nat},Own I β st l g fr b0->Own I β (st.map VR) l g fr (VR b0):=fun ho=>by
  obtain⟨h1,h2,h3⟩:=ho.1 (hw b0 (List.mem_of_getElem? gw))
  refine⟨fun _=>⟨h1,h2,fun l' b' dt di eY p' g' o' dA dv=>?_⟩,fun e=>(by cases e)⟩
  rw[List.getElem?_map,Option.map_eq_some_iff] at di
  obtain⟨b1,Qo,rfl⟩:=di
  exact h3 l' b1 dt Qo eY p' g' o' dA dv
 refine⟨p,hp,?_⟩
 obtain⟨k,ty,n,m,live,cs⟩:=b0
 cases k
 ·obtain⟨g,o,arr,t,fr,h1,h2,h3,ho⟩:=hk
  exact⟨g,o,arr,t,fr,h1,h2,h3,own ho⟩
 ·obtain⟨g,arr,fr,h1,h2,h3,ho,h4⟩:=hk
  exact⟨g,arr,fr,h1,h2,h3,own ho,h4⟩
 ·obtain⟨h0,hk⟩:=hk
  refine⟨h0,?_⟩
  rcases hk with h|⟨g,arr,fr,h1,h2,h3,ho,h4⟩
  ·exact .inl h
  ·exact .inr ⟨g,arr,fr,h1,h2,h3,own ho,h4⟩
 ·obtain⟨g,h1,h2,ho⟩:=hk
  exact⟨g,h1,h2,own ho⟩
def rfA:Code->Code
 | .rangeFunc _ _ a _=>a
 | c=>c
def rfB:Code->Code
 | .rangeFunc _ _ _ b=>b
 | c=>c
noncomputable def smC:Code:=(Tryz.f28).body.getD .skip
noncomputable def smT:Code:=tg 3 smC
noncomputable def smR:Code:=inC (rp (Fa smT))
theorem VS:tg 3 smC = .seq (.seq (Fa (Fa smT)) (.block 0 (.rangeFunc (.tmp 18) #[19,20] (rfA smR) (rfB smR)))) (rp smT):=by kernel_rfl
noncomputable def JR (m:MS) (L:List (Int × Int)) (n:Int) (r:PV):List au:=stM m++[Ae (uj m L),⟨.loc,4,1,.w,true,[r]⟩,⟨.loc,3,1,.w,true,[.int .i64 n]⟩,⟨.loc,78,1,.w,true,[.ptr 1 0]⟩]
def Wt:List (Nat × PV):=[(3,.ptr 3 0),(4,.ptr 4 0),(5,.ptr 5 0),(18,.clo 117 [.ptr 6 0])]
theorem VT (m:MS) (L:List (Int × Int)):bif Nat.ble [PV.ptr 2 0,Ki (uj m L)].length (Tryz.f28).ntmps && Nat.ble (Tryz.f28).ntmps 16777215 && !((Tryz.f28).name == "runtime.NumGoroutine") then lD (stM m) 0 fun b=>AH [PV.ptr 2 0,Ki (uj m L)] 0 .nil fun t=>pw gT Xz 100 (C7 3 smC) (fun e s'=>match e with
   | .fL=>pw gT Xz 100 (Fa (Fa smT)) (fun e s'=>match e with
    | .fL=>∃ π,ee gT.cx π s' ⟨(Tryz.f28).ntmps,ig Wt .nil,JR m L 0 .ff,(stM m).length,[]⟩
    | _=>False) s'
   | _=>False) ⟨(Tryz.f28).ntmps,t,stM m,b,[]⟩ else False:=by
 refine (vt m L).e ?_
 refine (NN m).e ?_
 refine⟨[],aT,Spec.kC ar P63 100 Tryz.func63 rfl (by kernel_rfl) ?_⟩
 refine Exists.intro [some 0,some 1,some 2,some 3,some 4,some 5,some 6] (Exists.intro [(2,.clo 117 [.ptr 6 0])] (Exists.intro (JR m L 0 .ff) (And.intro ?_ (And.intro (Nat.le_of_ble_eq_true rfl) ?_))))
 ·repeat' first|exact trivial|exact rfl|exact Iff.rfl|exact not_false|refine And.intro ?_ ?_
 refine⟨[some 0,some 1,some 2,some 3,some 4,some 5,some 6],?_⟩
 repeat' first|exact trivial|exact rfl|exact Iff.rfl|exact not_false|refine And.intro ?_ ?_
theorem JS (m:MS) (L:List (Int × Int)) (hm:m8 m) (hr:lr m.w L) (n j:Nat) (hn:n<=16384) (hj:j < 16384):aV.put ⟨(Tryz.f28).ntmps,ig Wt .nil,JR m L n .ff,(JR m L n .ff).length,[]⟩ (some 19) (.int .u32 (iG m.w j).1) fun s1=>s1.put (some 20) (.int .u32 (iG m.w j).2) fun s2=>Bt gT 100 (rfA smR) (rfB smR) (JR m L n .ff) (JR m L (n+1:Nat) .ff) s2:=by
 have ha:aP (536870912+4*(j:Int)):=by unfold aP; omega
 have kl:=JA m.fl L (536870912+4*(j:Int)) ha hm.mem.fl hm.mem.len
 have h4:¬ (536870912+4*(j:Int)) % 4≠0:=by omega
 have qC:c_ (536870912+4*(j:Int)):=by unfold c_; omega
 rw[BO hr ha,Dc h4 qC,Db h4 qC,show m5 (536870912+4*(j:Int))=j by unfold m5; omega] at kl
 refine⟨rfl,?_⟩
 refine kl.u ?_
 refine⟨fun h=>(h rfl).elim,fun _=>?_⟩
 refine⟨fun h=>(h rfl).elim,fun _=>?_⟩
 refine li ?_ (show _<=(n:Int)+1/\(n:Int)+1<=_ by omega)
 refine⟨[some 0,some 1,some 2,some 3,some 4,some 5,some 6],?_⟩
 repeat' first|exact trivial|exact rfl|exact Iff.rfl|exact not_false|refine And.intro ?_ ?_
theorem JT {L:List (Int × Int)} {k:Nat} {p:Int × Int} (h:L[k]?=some p):nU (L.take (k+1))=nU (L.take k)+(if p.2≠0 then 1 else 0):=by
 rw[List.take_add_one,h,rI]
 show _+((if p.2≠0 then 1 else 0)+0)=_
 omega
theorem VU (m:MS) (L:List (Int × Int)) (hL:L.length<=100000) (N:Nat) (hN:(N:Int)=nU L) (D:Nat):pw (qo gT D) Xz 100 (rp smT) (fun e s'=>qJ s'.st=true/\DY (qo gT D) (Tryz.f28).results.toList (stM m).length (fun y S'=>y = .tt/\sB S' (stM m)) e s') ⟨(Tryz.f28).ntmps,ig Wt .nil,JR m L N .ff,(stM m).length,[]⟩:=by
 have el:(L.map wP).length=L.length:=List.length_map ..
 refine fun rQ=>?_
 refine SW.nj (G:=qo gT D) ⟨ar.ok,ar.bG⟩ Xz (by kernel_rfl) (α:={k:Nat // k<=L.length}) (fun k=>[(4,.ptr 4 0),(5,.ptr 5 0),(39,.sl 2 (L.map wP)),(40,.int .i64 ((L.map wP).length:Nat)),(41,.int .i64 k.1)]) (fun k=>JR m L (N - nU (L.take k.1)) .ff) (fun k=>L.length - k.1) ⟨0,Nat.zero_le _⟩ 100 [some 0,some 1,some 2,some 3,some 4,some 5,some 6] ?_ ?_
 ·repeat' first|exact trivial|exact rfl|exact Iff.rfl|exact not_false|refine And.intro ?_ ?_
 rintro⟨k,hk⟩
 have hb:=xx (L.take k)
 have dO:=xx L
 refine⟨fun h=>?_,fun h=>?_⟩
 ·have h':(k:Int) < ((L.map wP).length:Nat):=h
  rw[el] at h'
  obtain⟨p,hp⟩:∃ p,L[k]?=some p:=⟨_,List.getElem?_eq_getElem (by omega)⟩
  have hs:=JT hp
  refine⟨Int × Int,L,wP,rfl,show (0:Int)<=(k:Int) by omega,show (k:Int) < (L.length:Int) by omega,fun q hq=>?_⟩
  obtain rfl:p=q:=Option.some.inj (hp.symm.trans hq)
  have kv:=xx (L.drop (k+1))
  have du:nU L=nU (L.take (k+1))+nU (L.drop (k+1)):=by rw[← rI,List.take_append_drop]
  refine⟨fun hz=>?_,fun hz=>?_⟩
  ·rw[if_pos (show p.2≠0 from hz)] at hs
   refine li ?_ (show _<=(N:Int) - nU (L.take k) - 1/\(N:Int) - nU (L.take k) - 1<=_ by omega)
   refine .inl ⟨ax (show _<=(k:Int)+1/\(k:Int)+1<=_ by omega),⟨⟨k+1,by omega⟩,[some 0,some 1,some 2,some 3,some 4,some 5,some 6],show L.length - (k+1) < L.length - k by omega,?_⟩⟩
   repeat' first|exact trivial|exact rfl|exact Iff.rfl|exact not_false|refine And.intro ?_ ?_
   all_goals exact (show (N:Int) - nU (L.take k) - 1=N - nU (L.take (k+1)) by rw[hs]; omega)
  ·rw[if_neg (show ¬ p.2≠0 from hz),Int.add_zero] at hs
   refine .inl ⟨ax (show _<=(k:Int)+1/\(k:Int)+1<=_ by omega),⟨⟨k+1,by omega⟩,[some 0,some 1,some 2,some 3,some 4,some 5,some 6],show L.length - (k+1) < L.length - k by omega,?_⟩⟩
   repeat' first|exact trivial|exact rfl|exact Iff.rfl|exact not_false|refine And.intro ?_ ?_
   all_goals exact (show (N:Int) - nU (L.take k)=N - nU (L.take (k+1)) by rw[hs])
 ·have h':¬ (k:Int) < ((L.map wP).length:Nat):=h
  rw[el] at h'
  have cP:L.take k=L:=List.take_of_length_le (by omega)
  refine⟨rfl,?_⟩
  exact bj (dW (show (N:Int) - nU (L.take k)=0 by rw[cP]; omega)) (ak rfl)
theorem JU {W:World} {I:Nat->Prop} {β:ay} {v:Value} {f:FuncId} {l:Nat} (h:(PV.clo f [.ptr l 0]).Is W I β v):∃ p g o,β l=some p/\p.a=some (g,o)/\v = .func (.func f) #[] #[.pointer (some ⟨g,o+0,none⟩)]:=by
 simp only[PV.Is] at h
 obtain⟨k8,rfl,hc⟩:=h
 obtain⟨l⟩:=k8
 match l,hc with
 | [x],hc =>
  simp only[bJ,PV.Is] at hc
  obtain⟨⟨p,g,o,h1,h2,rfl⟩,_⟩:=hc
  exact⟨p,g,o,h1,h2,rfl⟩
 | [],hc=>simp only[bJ] at hc
 | _::_::_,hc=>simp only[bJ,and_false] at hc
theorem sm_it (m:MS) (L:List (Int × Int)) (n:Nat):ee gT.cx [some 0,some 1,some 6] ⟨(Tryz.f28).ntmps,ig Wt .nil,JR m L n .ff,0,[]⟩ ⟨(Tryz.f28).ntmps,ig [(18,.clo 117 [.ptr 2 0])] .nil,[uf m.w,MT m.fl,⟨.loc,78,1,.w,true,[.ptr 1 0]⟩],0,[]⟩:=by
 repeat' first|exact trivial|exact rfl|exact Iff.rfl|exact not_false|refine And.intro ?_ ?_
theorem JV {w:Nat->Int} {pre:List (Int × Int)} {x:Int × Int} (h:pre++[x] <+: cv w 16384):pre.length < 16384/\∃ j,j < 16384/\x=iG w j:=by
 have hl:=h.length_le
 have hb:=np w 16384
 rw[List.length_append,List.length_singleton] at hl
 refine⟨by omega,?_⟩
 have hx:x∈cv w 16384:=h.subset (List.mem_append.2 (.inr (List.mem_singleton.2 rfl)))
 have key:∀ n,x∈cv w n->∃ j,j < n/\x=iG w j:=by
  intro n
  induction n with
  | zero=>intro h; cases h
  | succ n ih =>
   intro h
   rw[cv] at h
   split at h
   ·obtain⟨j,hj,e⟩:=ih h; exact⟨j,by omega,e⟩
   ·rcases List.mem_append.1 h with h|h
    ·obtain⟨j,hj,e⟩:=ih h; exact⟨j,by omega,e⟩
    ·exact⟨n,by omega,List.mem_singleton.1 h⟩
 exact key _ hx
theorem DI (m:MS) (L:List (Int × Int)) (hm:m8 m) (h:FJ m L) (hL:L.length<=100000):Spec gT 28 [.ptr 2 0,Ki (uj m L)] (stM m) [] fun y S'=>y = .tt/\S'=stM m:=by
 refine Spec.kB (Spec.Vj (c:=smC) ar Xz 100 3 Tryz.func28 (by kernel_rfl) (by kernel_rfl) (by kernel_rfl) VS (by kernel_rfl) (by kernel_rfl) (fun x:Int × Int=>.int .u32 x.1) (fun x=>.int .u32 x.2) (fun x=>.int .u32 x.1) (fun x=>.int .u32 x.2) (fun x w I β=>⟨by simp only[PV.Is],by simp only[PV.Is]⟩) (cv m.w 16384) (fun pre=>JR m L pre.length .ff) (fun pre=>rfl) Wt (VT m L) ?_ ?_ ?_)
 ·intro I β a w hR
  obtain⟨v,hv,hi⟩:=hR.get 18 (.clo 117 [.ptr 6 0]) rfl
  obtain⟨p,g,o,_,_,rfl⟩:=JU hi
  have ev:a.eval (.tmp 18) = .func (.func 117) #[] #[.pointer (some ⟨g,o+0,none⟩)]:=by simp only[Act.eval,Array.getD_eq_getD_getElem?,hv,Option.getD_some]
  refine⟨_,_,_,ev,ft Tryz.func117 rfl (by kernel_rfl),Ff m.w m.fl hm.mem.w g o 4,fun pre W I' aN dp _=>?_⟩
  have Wj:Rel gT I' aN ⟨(Tryz.f28).ntmps,ig Wt .nil,JR m L pre.length .ff,0,[]⟩ a W:=⟨dp.small,dp.defers,dp.size,Nat.zero_le _,dp.get,dp.heap,dp.av⟩
  obtain⟨I2,fU,kP,_⟩:=da ar.ok (sm_it m L pre.length) I' aN a W Wj
  obtain⟨v2,VZ,uC⟩:=kP.get 18 (.clo 117 [.ptr 2 0]) rfl
  rw[hv] at VZ
  cases VZ
  obtain⟨p2,g2,o2,h1,h2,h3⟩:=JU uC
  simp only[Value.func.injEq,Array.mk.injEq,List.cons.injEq,Value.pointer.injEq,Option.some.injEq,Addr.mk.injEq,true_and,and_true,Nat.add_zero] at h3
  obtain⟨rfl,rfl⟩:=h3
  exact⟨I2,fU,aE.pin kP.heap (by intro b hb; simp only[List.mem_cons,List.not_mem_nil,or_false] at hb; rcases hb with rfl|rfl|rfl<;>exact nofun),kP.av,p2,h1,h2⟩
 ·intro pre x hp
  obtain⟨hn,j,hj,rfl⟩:=JV hp
  have:=JS m L hm h.VQ pre.length j (by omega) hj
  rw[show (pre++[iG m.w j]).length=pre.length+1 by rw[List.length_append,List.length_singleton]]
  exact this
 ·intro D
  exact VU m L hL _ (JK h.VQ h.lok) D
theorem pV:∀ l:List IN,w9 (bF l)
 | []=>by intro z hz; simp[bF] at hz
 | i::l=>by
  have ih:=pV l
  unfold bF at ih ⊢
  rw[List.flatMap_cons]
  intro z hz
  rcases List.mem_append.1 hz with h|h
  ·split at h
   ·exact tA i z h
   ·cases h
  ·exact ih z h
abbrev DJ (t:TypeId) (cs:List PV):au:=⟨.loc,t,1,.w,true,cs⟩
abbrev stD (o:Nat) (m:MS):List au:=[uf m.w,DJ 150 [.sl 1 (db m.fl),.wref o],DJ 120 (.ptr (o+1) 0::(Ix m).cs.tail)]
theorem ml0 (m:MS) (h:m.w=fun _=>0):FJ m []:=⟨fun j _=>by rw[h]; rfl,⟨List.nodup_nil,fun p hp=>by cases hp⟩⟩
structure StpI (N:Int) where
 m:MS
 L:List (Int × Int)
 k:Nat
 ok:m8 m
 ml:FJ m L
 len:L.length<=16*k
 kN:(k:Int)<=N
 iD:m.iD<=34*k
theorem tJ (l:List IN) (hi:∀ i∈l,tR i) (more:List Int) (hmb:w9 more) (wait:Int) (s:RS) (hs:FD s) (steps:Int):ah gT 6 [.sl 11 (lQ l),.sl 1 (db more),.int .i64 wait,pf s,.int .i64 steps] .tt:=by
 have el:(lQ l).length=l.length:=List.length_map ..
 have em:(db more).length=more.length:=List.length_map ..
 refine Spec.enter ar P6 100 Tryz.func6 rfl (by kernel_rfl) ?_
 refine nn.u ?_
 refine fun qz=>?_
 refine⟨fun _=>?_,fun h40=>?_⟩
 ·exact rA
 refine fun xA=>?_
 refine⟨fun _=>?_,fun Bz=>?_⟩
 ·exact rA
 refine⟨fun _=>?_,fun h60=>?_⟩
 ·exact rA
 have h40':¬ (40:Int) < ((lQ l).length:Nat):=h40
 have h100':¬ (100:Int) < ((db more).length:Nat):=Bz
 rw[el] at h40'
 rw[em] at h100'
 have h60':¬ (60:Int) < steps:=h60
 by_cases hw:0<=wait/\wait<=7
 ·have hb:=tz l more wait (by omega) (by omega) hi hw
  have hF:w9 (bF l++more):=fun z hz=>(List.mem_append.1 hz).elim (pV l z) (hmb z)
  have Pv:=fS l
  have JW:(bF l++more).length<=65536:=by rw[List.length_append]; omega
  have lG:m8 (qM (ow (bF l++more) wait) s):=xr (BI hF JW hw) hs.ok
  generalize bF l++more=F at hb hF JW lG
  refine⟨[],aT,hb.rh rfl (by repeat' first|exact trivial|exact rfl|exact Iff.rfl|exact Or.inl rfl|refine And.intro ?_ ?_) rfl ?_⟩
  refine⟨fun h=>absurd h (Int.not_lt.2 hw.1),fun _=>?_⟩
  refine⟨fun h=>absurd h (Int.not_lt.2 hw.2),fun _=>?_⟩
  refine (BF (ow F wait) s).q [1,2,3] ?_
  refine (z4 s).u ?_
  refine SW.nj ar P6 (by kernel_rfl) (α:=StpI (max steps 0)) (fun x=>[(11,.ptr 3 0),(12,.ptr 5 0),(66,.int .i64 (max steps 0)),(67,.int .i64 x.k)]) (fun x=>[DJ 42 (MR s)]++stD 1 x.m++[Ae (Z7 F wait),Ae (uj x.m x.L)]) (fun x=>(max steps 0 - x.k).toNat) ⟨qM (ow F wait) s,[],0,lG,ml0 _ rfl,Nat.le_refl _,by omega,Int.le_refl 0⟩ 100 [some 0,some 1,some 2,some 3,some 4,some 5] ?_ ?_
  ·repeat' first|exact trivial|exact rfl|exact Iff.rfl|exact not_false|refine And.intro ?_ ?_
   all_goals (show _=_; exact Eq.symm (if_neg not_false))
  rintro⟨m,L,k,hm,HW,hlen,hkN,hcy⟩
  refine⟨fun h=>?_,fun h=>?_⟩
  ·have h':(k:Int) < max steps 0:=h
   obtain⟨hM,P4,jv,_,_,_⟩:=xq hm (by omega)
   obtain⟨hML,fM⟩:=JO hm HW
   refine (rD m hm).q [1,2,3] ?_
   refine (PA m L hm HW.VQ (by omega)).u ?_
   refine⟨fun h=>(h rfl).elim,fun _=>?_⟩
   refine⟨fun h=>(h ⟨rfl,rfl,rfl,rfl,rfl,trivial⟩).elim,fun _=>?_⟩
   refine (vt (cX m) (zZ m L)).q [1,2,3] ?_
   refine li ?_ (show _<=(k:Int)+1/\(k:Int)+1<=_ by omega)
   refine⟨⟨cX m,zZ m L,k+1,hM,hML,by omega,by omega,by omega⟩,[some 0,some 1,some 2,some 3,some 4,some 5],show (max steps 0 - ((k+1:Nat):Int)).toNat < (max steps 0 - (k:Int)).toNat by omega,?_⟩
   repeat' first|exact trivial|exact rfl|exact Iff.rfl|exact not_false|refine And.intro ?_ ?_
  ·refine (DI m L hm HW (by omega)).q [1,2,3] ?_
   exact rA
 ·have hb:=Jv l more wait (by omega) (by omega) hi hw
  refine⟨[],aT,hb.rh rfl (by repeat' first|exact trivial|exact rfl|exact Iff.rfl|exact Or.inl rfl|refine And.intro ?_ ?_) rfl ?_⟩
  refine⟨fun h=>?_,fun h=>?_⟩
  ·exact rA
  ·have h':¬ wait < 0:=h
   exact ao (dW (show 7 < wait by omega))
def vu (s:RS) (k:Nat):Int:=IntKind.u32.wrap (bits .andNot .u32 (s.R 13) 3+4*(k:Int))
structure OneI (n:Nat) where
 w:Nat->Int
 L:List (Int × Int)
 k:Nat
 bd:∀ j,aP (w j)
 VQ:lr w L
 lok:FI L
 len:L.length<=k
 kn:k<=n
theorem xy (i:IN) (hi:tR i) (s:RS) (hs:FD s) (words:List Int) (hwd:∀ z∈words,aP z):ah gT 7 [bX i,pf s,.sl 1 (mf words)] .tt:=by
 have ew:(mf words).length=words.length:=List.length_map ..
 have hb:=tz [i] [] 1 (by simp) (by decide) (fun j hj=>by rw[List.mem_singleton] at hj; rw[hj]; exact hi) (by decide)
 rw[List.append_nil] at hb
 have hF:=pV [i]
 have Pv:=fS [i]
 have JW:(bF [i]).length<=65536:=Nat.le_trans Pv (by simp)
 have mZ:FD { s with R:=s_ s.R 15 134217728 }:=⟨pS hs.r ⟨by decide,by decide⟩,hs.n,hs.z,hs.c,hs.v⟩
 have lG:m8 (qM (ow (bF [i]) 1) { s with R:=s_ s.R 15 134217728 }):=xr (BI hF JW (by decide)) mZ.ok
 generalize bF [i]=F at hb hF JW lG
 refine Spec.enter ar P7 100 Tryz.func7 rfl (by kernel_rfl) ?_
 refine nn.u ?_
 refine⟨[],aT,Spec.ZF (args':=[.sl 11 (lQ [i]),.sl 1 (db []),.int .i64 1]) [2] rfl (And.intro (Or.inl rfl) (And.intro rfl (And.intro rfl trivial))) rfl (hb.rh rfl (And.intro rfl (And.intro rfl (And.intro rfl trivial))) rfl ?_)⟩
 refine fun qz=>?_
 refine⟨fun Wp=>?_,fun Wp=>?_⟩
 ·refine fun xA=>?_
  exact ao (dW Wp)
 have h16':¬ (16:Int) < ((mf words).length:Nat):=Wp
 rw[ew] at h16'
 refine (BF (ow F 1) { s with R:=s_ s.R 15 134217728 }).q [3,4,5] ?_
 refine (z4 { s with R:=s_ s.R 15 134217728 }).u ?_
 refine fun LV=>?_
 refine SW.nj ar P7 (by kernel_rfl) (α:=OneI words.length) (fun x=>[(4,.ptr 0 0),(7,.ptr 3 0),(8,.ptr 4 0),(43,.sl 1 (mf words)),(44,.int .i64 ((mf words).length:Nat)),(45,.int .i64 x.k)]) (fun x=>[DJ 42 (MR { s with R:=s_ s.R 15 134217728 })]++stD 1 (gC (qM (ow F 1) { s with R:=s_ s.R 15 134217728 }) x.w)++[Ae (uj (gC (qM (ow F 1) { s with R:=s_ s.R 15 134217728 }) x.w) x.L)]) (fun x=>words.length - x.k) ⟨fun _=>0,[],0,fun _=>o5,fun j _=>rfl,⟨List.nodup_nil,fun p hp=>by cases hp⟩,Nat.le_refl _,Nat.zero_le _⟩ 100 [some 1,some 3,some 4,some 5,some 7] ?_ ?_
 ·repeat' first|exact trivial|exact rfl|exact Iff.rfl|exact not_false|refine And.intro ?_ ?_
  all_goals (show _=_; exact Eq.symm (if_neg not_false))
 rintro⟨w,L,k,hbd,JP,JQ,hlen,hkn⟩
 have hm:m8 (gC (qM (ow F 1) { s with R:=s_ s.R 15 134217728 }) w):=⟨⟨hbd,lG.mem.fl,lG.mem.len⟩,lG.s,lG.wait,lG.iD⟩
 refine⟨fun h=>?_,fun h=>?_⟩
 ·have h':(k:Int) < ((mf words).length:Nat):=h
  rw[ew] at h'
  obtain⟨x,hx⟩:∃ x,words[k]?=some x:=⟨_,List.getElem?_eq_getElem (by omega)⟩
  have hxb:=hwd x (List.mem_of_getElem? hx)
  have ha:aP (vu s k):=wrap_u32 _
  have ks:=BN F L (vu s k) x ha (by omega)
  refine⟨Int,words,PV.int .u32,rfl,show (0:Int)<=(k:Int) by omega,show (k:Int) < (words.length:Int) by omega,fun q hq=>?_⟩
  obtain rfl:x=q:=Option.some.inj (hx.symm.trans hq)
  refine li ?_ (show _<=4*(k:Int)/\4*(k:Int)<=_ by omega)
  refine lu ?_ (show 0<=4*(k:Int)/\4*(k:Int)<=_ by omega)
  refine .inr ?_
  refine⟨[],aT,Spec.enter ar P29 100 Tryz.func29 rfl (by kernel_rfl) ?_⟩
  refine Exists.intro _ (And.intro (AD.refl _) ?_)
  refine (iY w F (vu s k) x ha).q [1,2] ?_
  refine ks.u ?_
  have hsl:=tD L (vu s k) x
  refine li ?_ (show _<=(k:Int)+1/\(k:Int)+1<=_ by omega)
  refine⟨⟨xb w (vu s k) x,jG L (vu s k) x,k+1,BH hbd _ hxb,pU JP ha x,tH JQ ha x,by omega,by omega⟩,[some 0,some 1,some 2,some 3,some 4],show words.length - (k+1) < words.length - k by omega,?_⟩
  repeat' first|exact trivial|exact rfl|exact Iff.rfl|exact not_false|refine And.intro ?_ ?_
 ·clear h
  have HW:FJ (gC (qM (ow F 1) { s with R:=s_ s.R 15 134217728 }) w) L:=⟨JP,JQ⟩
  have hc:(gC (qM (ow F 1) { s with R:=s_ s.R 15 134217728 }) w).iD=0:=rfl
  generalize gC (qM (ow F 1) { s with R:=s_ s.R 15 134217728 }) w=m at hm HW hc ⊢
  obtain⟨hM,P4,jv,_,_,_⟩:=xq hm (by omega)
  obtain⟨hML,fM⟩:=JO hm HW
  refine (rD m hm).q [1,2,3] ?_
  refine (PA m L hm HW.VQ (by omega)).u ?_
  refine⟨fun _=>?_,fun h=>(h rfl).elim⟩
  refine⟨fun _=>?_,fun h=>(h ⟨rfl,rfl,rfl,rfl,rfl,trivial⟩).elim⟩
  refine (DI (cX m) (zZ m L) hM hML (by omega)).q [1,2,3] ?_
  exact rA
def Oc (n:Nat) (S:PV->Prop) (x:PV):Prop:=∃ xs:List PV,xs.length=n/\(∀ y∈xs,S y)/\x = .agg xs
theorem z5 {w:World} {I:Nat->Prop} {β:ay}:∀ {xs:List PV} {cs:List Value},xs.length=cs.length->(∀ (i:Nat) (y:PV) (c:Value),xs[i]?=some y->cs[i]?=some c->y.Is w I β c)->bJ w I xs β cs:=fun {xs cs} hl h =>
 bJ.of hl fun i c hc=>by
  have cI:i < cs.length:=by rw[← hl]; exact (List.getElem?_eq_some_iff.1 hc).1
  exact⟨cs[i],List.getElem?_eq_getElem cI,h i c _ hc (List.getElem?_eq_getElem cI)⟩
theorem opArr {P:Program} {t e:TypeId} {S:PV->Prop} {n:Nat} (he:Op P e S) (ht:P.underlying t=some (.array n e)) (XD:P.cellsOf e=1) (hc:P.cellsOf t=n) (h1:∀ y,S y->y.cells = [y]):Op P t (Oc n S):=fun {H} ec w base held fuel cs x h AJ=>by
 obtain⟨xs,m,_,rfl,hl,tO,hx⟩:=DataW.trod_array ht h
 rw[hc] at hl
 have each:∀ i,i < n->∃ y,S y/\∃ c,cs[i]?=some c/\y.Is w (In w) no c/\c.oneCell'=true:=fun i hi=>by
  have hxi:=hx i hi
  rw[XD,Nat.mul_one,List.getElem?_eq_getElem (by omega)] at hxi
  obtain⟨y,hS,_,hy,KH,At⟩:=he ec w base held m _ _ hxi fun k hk=>AJ k (by
   simp only[DataW.weights,ht]
   exact lL (List.mem_map.2 ⟨xs[i],List.getElem_mem _,rfl⟩) hk)
  have hci:i < cs.length:=by omega
  have e1:(cs.drop i).take 1 = [cs[i]]:=by
   rw[List.drop_eq_getElem_cons hci]; rfl
  rw[e1,h1 y hS] at hy
  simp only[bJ,and_true] at hy
  exact⟨y,hS,cs[i],List.getElem?_eq_getElem hci,hy,At _ (by rw[e1]; simp)⟩
 obtain⟨ys,hys,hp⟩:=lK n each
 refine⟨.agg ys,⟨ys,hys,fun y hy=>?_,rfl⟩,nofun,z5 (by show ys.length=cs.length; omega) fun i y c hy hci=>?_,by rw[hl,hc],fun c hcc=>?_⟩
 ·obtain⟨i,hi⟩:=List.getElem?_of_mem hy
  exact (hp i y hi).1
 ·obtain⟨_,c2,jv,h2,_⟩:=hp i y hy
  rw[hci] at jv; cases jv; exact h2
 ·obtain⟨i,hi⟩:=List.getElem?_of_mem hcc
  have cI:i < ys.length:=by have:=(List.getElem?_eq_some_iff.1 hi).1; omega
  obtain⟨_,c2,jv,_,h2⟩:=hp i ys[i] (List.getElem?_eq_getElem cI)
  rw[hi] at jv; cases jv; exact h2
def tK (x:PV):Prop:=∃ s:RS,FD s/\x=pf s
theorem FK (x:PV) (h:AI [Oc 16 (SInt .u32),SInt .u32,SInt .u32,SInt .u32,SInt .u32] x):tK x:=by
 obtain⟨xs,h,rfl⟩:=h
 obtain⟨_,_,rfl,⟨rs,hr,du,rfl⟩,h_1⟩:=cQ h
 obtain⟨_,_,rfl,⟨n,bn,rfl⟩,h_2⟩:=cQ h_1
 obtain⟨_,_,rfl,⟨z,bz,rfl⟩,h_3⟩:=cQ h_2
 obtain⟨_,_,rfl,⟨c,bc,rfl⟩,h_4⟩:=cQ h_3
 obtain⟨_,_,rfl,⟨v,bv,rfl⟩,h_5⟩:=cQ h_4
 obtain rfl:=yj h_5
 obtain⟨zs,hz,rfl⟩:=decode (S:=SInt .u32) (enc:=PV.int .u32) (ok:=aP) (fun x ⟨z,hz,e⟩=>⟨z,j4 hz,e⟩) rs du
 rw[List.length_map] at hr
 refine⟨⟨fun k=>zs.getD k 0,n,z,c,v⟩,⟨fun k=>?_,(j4 bn).1,(j4 bz).1,(j4 bc).1,(j4 bv).1⟩,?_⟩
 ·show aP (zs.getD k 0)
  rw[List.getD_eq_getElem?_getD]
  cases e:zs[k]? with
  | none=>exact o5
  | some y=>exact hz y (List.mem_of_getElem? e)
 ·match zs,hr with
  | [a0,a1,a2,a3,a4,a5,a6,a7,a8,a9,XH,a11,a12,a13,a14,a15],_=>rfl
theorem JX:Op Tryz.prog 42 (AI [Oc 16 (SInt .u32),SInt .u32,SInt .u32,SInt .u32,SInt .u32]) :=
 OH (Ss:=[Oc 16 (SInt .u32),SInt .u32,SInt .u32,SInt .u32,SInt .u32]) Tryz.underlying42
  ⟨rfl,opArr pK Tryz.underlying40 (by kernel_rfl) (by kernel_rfl) SInt.cell,(show _=_ by kernel_rfl),pK,(show _=_ by kernel_rfl),pK,(show _=_ by kernel_rfl),pK,(show _=_ by kernel_rfl),pK,(show _=_ by kernel_rfl)⟩
theorem DK:Op Tryz.prog 42 tK:=JX.AK FK
theorem qw (y:PV) (h:tK y):∃ xs,y = .agg xs:=by
 obtain⟨s,_,rfl⟩:=h; exact⟨_,rfl⟩
theorem VV:Op Tryz.prog 46 (FX 11 88 bX tR) :=
 AL (v7 ZI 11 88 (by kernel_rfl) Tryz.underlying46 (by kernel_rfl) (by decide) (by kernel_rfl)) fun x ⟨a,h,e⟩=>⟨a,h,e⟩
theorem JY:Op Tryz.prog 77 (FX 1 4 (PV.int .u32) aP) :=
 AL (v7 pK 1 4 (by kernel_rfl) Tryz.underlying77 (by kernel_rfl) (by decide) (by kernel_rfl)) fun x ⟨a,ha,e⟩=>⟨a,j4 ha,e⟩
theorem qQ (x:PV) (sx:FX 11 88 bX tR x) (b:PV) (sb:FX 1 1 (PV.int .u8) (fun z:Int=>0<=z/\z<=255) b) (y:PV) (sy:SInt .i64 y) (z:PV) (sz:tK z) (u:PV) (su:SInt .i64 u):ah gT 6 [x,b,y,z,u] .tt:=by
 obtain⟨l,_,hl,rfl⟩:=sx
 obtain⟨m,_,hm,rfl⟩:=sb
 obtain⟨w,hw,rfl⟩:=sy
 obtain⟨r,hr,rfl⟩:=sz
 obtain⟨n,hn,rfl⟩:=su
 exact tJ l hl m hm w r hr n
theorem uk (x:PV) (sx:SIN x) (z:PV) (sz:tK z) (u:PV) (su:FX 1 4 (PV.int .u32) aP u):ah gT 7 [x,z,u] .tt:=by
 obtain⟨i,hi,rfl⟩:=sx
 obtain⟨r,hr,rfl⟩:=sz
 obtain⟨l,_,hl,rfl⟩:=su
 exact xy i hi r hr l hl
end Go.Proofs.YtnbngokbamifbaaGreatDoor.Pw

/- What this claim is proved with: no condition. -/
import Derived.Test.YtnbhdacpogplgaaGreatDoorPv16
import Derived.Test.YtnbhdacpogplgaaGreatDoorPv17
import Derived.Test.YtnbhdacpogplgaaGreatDoorPv8
set_option maxRecDepth 100000
set_option maxHeartbeats 16000000
set_option linter.unusedVariables false
set_option linter.unusedSimpArgs false
namespace Go.Proofs.YtnbhdacpogplgaaGreatDoor.Pw
open Go Go.RowKit
structure WK where
 at_:Int
 full:Prop
 line:Int
 aO:Prop
 last:Prop
 e:Int
def wkL (b:List Int) (w:WK):List PV:=[.sl 1 (uC b),.int .i64 w.at_,.bool w.full,.int .u32 w.line,.bool w.aO,.bool w.last,.int .i64 w.e]
def gO (b:List Int) (w:WK):an:=⟨.loc,70,1,.w,true,wkL b w⟩
open Classical in
noncomputable def aE (w:WK) (p:Prop):WK:={ w with e:=if p then w.e else 201 }
theorem bu {w:WK} {p:Prop} (h:p):aE w p=w:=by unfold aE; rw[if_pos h]
theorem eM {w:WK} {p:Prop} (h:¬ p):aE w p = { w with e:=201 }:=by unfold aE; rw[if_neg h]
noncomputable def iA (b:List Int) (n:Int):IN:=if 0<=n/\n<=b.length then Kl b n.toNat else iZ
noncomputable def eA (b:List Int) (n:Int):Int:=if 0<=n/\n<=b.length then Km b n.toNat else 11
theorem zb {w:Int} {wide:Prop} (h:Nc w wide=0):cD (Kk w wide)/\IOk (Kk w wide):=by
 unfold Nc at h
 split at h
 ·rename_i hf
  obtain⟨f,hf⟩:=hf
  have e:=Ar hf
  rw[e]
  have hI:bX f:=by have:=hf.1; unfold f_ at this; unfold bX; omega
  exact⟨hf.2.1.1,G2 hI⟩
 ·cases h
theorem bN {b:List Int} {n:Int} (h:eA b n=0):(0<=n/\n+2<=b.length)/\cD (iA b n)/\IOk (iA b n):=by
 unfold eA at h
 split at h
 ·rename_i hr
  unfold iA
  rw[if_pos hr]
  unfold Km at h
  unfold Kl
  split at h
  ·cases h
  ·rename_i h1
   rw[if_neg h1]
   split at h
   ·rename_i h2
    rw[if_pos h2]
    exact⟨by omega,zb h⟩
   ·rename_i h2
    rw[if_neg h2]
    split at h
    ·cases h
    ·rename_i h3
     rw[if_neg h3]
     exact⟨by omega,zb h⟩
 ·cases h
theorem gV {i:IN} (h:cD i):aX i.form=2\/aX i.form=4:=by
 have:=h.1
 unfold aX
 split
 ·exact .inr rfl
 ·rw[if_pos (by omega)]; exact .inl rfl
theorem rN (b:List Int) (hb:pq b) (hl:b.length<=100000) (n:Int) (hn:bX n):aj gT 8 [.sl 1 (uC b),.int .i64 n] (.tup [cZ (iA b n),.int .i64 (eA b n)]):=by
 have hm:b.length<=maxLen:=by unfold maxLen; omega
 unfold iA eA
 by_cases hr:0<=n/\n<=b.length
 ·rw[if_pos hr,if_pos hr]
  obtain⟨k,rfl⟩:∃ k:Nat,n=k:=⟨n.toNat,by omega⟩
  rw[Int.toNat_natCast]
  exact at_in b k hb hm (by omega)
 ·rw[if_neg hr,if_neg hr]
  exact Zj b n hm hn (by omega)
theorem bO (b:List Int) (w:WK) (p:Prop):Spec gT 22 [.ptr 0 0,.bool p] [gO b w] [] fun y S'=>y = .tup []/\S' = [gO b (aE w p)]:=by
 refine Spec.rf (Spec.enter ao P22 100 Tryz.func22 rfl (by kernel_rfl) ?_)
 refine⟨fun h=>?_,fun h=>?_⟩
 ·rw[eM (show ¬ p from h)]
  refine⟨[],az,Spec.enter ao P46 100 Tryz.func46 rfl (by kernel_rfl) ?_⟩
  refine Exists.intro _ (And.intro (yA.refl _) ?_)
  exact rS
 ·rw[bu (show p from Classical.not_not.1 h)]
  exact rS
theorem cG (b:List Int) (w:WK):Spec gT 22 [.ptr 0 0,.ff] [gO b w] [] fun y S'=>y = .tup []/\S' = [gO b { w with e:=201 }]:=by
 refine Spec.rf (Spec.enter ao P22 100 Tryz.func22 rfl (by kernel_rfl) ?_)
 refine⟨[],az,Spec.enter ao P46 100 Tryz.func46 rfl (by kernel_rfl) ?_⟩
 refine Exists.intro _ (And.intro (yA.refl _) ?_)
 exact rS
theorem rO (b:List Int) (w:WK):Spec gT 22 [.ptr 0 0,.tt] [gO b w] [] fun y S'=>y = .tup []/\S' = [gO b w]:=by
 refine Spec.rf (Spec.enter ao P22 100 Tryz.func22 rfl (by kernel_rfl) ?_)
 exact rS
theorem u_ (b:List Int) (hb:pq b) (hl:b.length<=100000) (w:WK) (n:Int) (hn:bX n):Spec gT 121 [.ptr 0 0,.int .i64 n] [gO b w] [] fun y S'=>y=cZ (iA b n)/\S' = [gO b (aE w (eA b n=0))]:=by
 have ha:=rN b hb hl n hn
 have hr:=@bN b n
 refine Spec.rf (Spec.enter ao P121 100 Tryz.func121 rfl (by kernel_rfl) ?_)
 refine ha.u ?_
 generalize iA b n=i at hr ⊢
 generalize eA b n=e at hr ⊢
 refine⟨fun he=>?_,fun he=>?_⟩
 ·have lh:=(hr he).1.1
  refine (bO b w (0<=n)).e ?_
  rw[bu lh,bu he]
  exact rS
 ·refine (cG b w).e ?_
  rw[eM he]
  exact rS
open Classical in
noncomputable def dG (w:WK) (n size:Int):Int:=rE w.full w.line (134217728+n) size
def xY (w:WK) (n size:Int):WK:={ w with full:=True,line:=wm (134217728+n) size }
open Classical in
noncomputable def cf (b:List Int) (w:WK):WK :=
 if (aE w (eA b w.at_=0)).e≠0 then aE w (eA b w.at_=0)
 else if w.aO then { w with aO:=False,at_:=w.at_+aX (iA b w.at_).form }
 else { xY w w.at_ (aX (iA b w.at_).form) with aO:=False,at_:=w.at_+aX (iA b w.at_).form }
open Classical in
noncomputable def cw (b:List Int) (w:WK):Int :=
 if (aE w (eA b w.at_=0)).e≠0 then 0 else if w.aO then 0 else dG w w.at_ (aX (iA b w.at_).form)
theorem jr (w:WK) (n size:Int):0<=dG w n size/\dG w n size<=2:=by
 unfold dG rE gm
 repeat' split
 all_goals omega
theorem zc (b:List Int) (w:WK) (n size:Int) (h0:0<=n) (h1:n<=100000) (hs:size=2\/size=4):Spec gT 142 [.ptr 0 0,.int .i64 n,.int .i64 size] [gO b w] [] fun y S'=>y = .int .i64 (dG w n size)/\S' = [gO b (xY w n size)]:=by
 have hf:=@mN w.full (Classical.propDecidable _) w.line (134217728+n) size ⟨by omega,by omega⟩ hs
 refine Spec.rf (Spec.enter ao P142 100 Tryz.func142 rfl (by kernel_rfl) ?_)
 refine lu ?_ (show 0<=n/\n<=4294967295 by omega)
 refine lu ?_ (show 0<=134217728+n/\134217728+n<=4294967295 by omega)
 refine hf.u ?_
 exact rS
theorem oh {w:WK} {p:Prop} (h:¬ (aE w p).e≠0):p/\w.e=0:=by
 have h:=Classical.not_not.1 h
 unfold aE at h
 by_cases hp:p
 ·refine⟨hp,?_⟩
  rw[if_pos hp] at h; exact h
 ·rw[if_neg hp] at h
  exact absurd h (show ¬ (201:Int)=0 by decide)
open Classical in
theorem Hh (b:List Int) (hb:pq b) (hl:b.length<=100000) (w:WK) (hn:bX w.at_):Spec gT 119 [.ptr 0 0] [gO b w] [] fun y S'=>y = .tup [cZ (iA b w.at_),.int .i64 (cw b w)]/\S' = [gO b (cf b w)]:=by
 refine Spec.rf (Spec.enter ao P119 100 Tryz.func119 rfl (by kernel_rfl) ?_)
 refine (u_ b hb hl w w.at_ hn).e ?_
 refine⟨fun he=>?_,fun he=>?_⟩
 ·have e1:cf b w=aE w (eA b w.at_=0):=by unfold cf; rw[if_pos (show (aE w (eA b w.at_=0)).e≠0 from he)]
  have e2:cw b w=0:=by unfold cw; rw[if_pos (show (aE w (eA b w.at_=0)).e≠0 from he)]
  rw[e1,e2]
  exact rS
 ·have oE:¬ (aE w (eA b w.at_=0)).e≠0:=he
  obtain⟨h1,h2⟩:=oh oE
  obtain⟨⟨LS,SR⟩,hr,JA⟩:=bN h1
  have hs:=gV hr
  have e1:cf b w=if w.aO then { w with aO:=False,at_:=w.at_+aX (iA b w.at_).form } else { xY w w.at_ (aX (iA b w.at_).form) with aO:=False,at_:=w.at_+aX (iA b w.at_).form }:=by unfold cf; rw[if_neg oE]
  have e2:cw b w=if w.aO then 0 else dG w w.at_ (aX (iA b w.at_).form):=by unfold cw; rw[if_neg oE]
  rw[e1,e2,bu h1]
  clear e1 e2 he oE
  have ux:=gS (iA b w.at_)
  generalize iA b w.at_=i at hs ux ⊢
  generalize aX i.form=z at hs ux ⊢
  refine⟨fun hf=>?_,fun hf=>?_⟩
  ·rw[if_neg (show ¬ w.aO from hf),if_neg (show ¬ w.aO from hf)]
   refine ux.u ?_
   refine (zc b w w.at_ z LS (by omega) hs).e ?_
   refine ux.u ?_
   refine li ?_ (show _<=w.at_+z/\w.at_+z<=_ by omega)
   exact rS
  ·have hf':w.aO:=Classical.not_not.1 hf
   rw[if_pos hf',if_pos hf']
   refine ux.u ?_
   refine li ?_ (show _<=w.at_+z/\w.at_+z<=_ by omega)
   exact rS
theorem NC:∀ s:Fin 35,(fg (s.1:Int)).aA=0\/(fg (s.1:Int)).aA=16639\/(fg (s.1:Int)).aA=33023:=by decide
theorem JB (f:Int):0<=af f/\af f<=34:=by
 unfold af
 split
 ·have key:∀ n:Fin 101,0<=shL.getD n.1 0/\shL.getD n.1 0<=34:=by decide
  exact key ⟨f.toNat,by omega⟩
 ·decide
theorem js {i:IN} (h:cD i) (hi:IOk i):0<=i.aA/\i.aA<=65535:=by
 obtain⟨hf,h1,h2,h3,h4,h5,_⟩:=h
 have hb:=JB i.form
 have hr:=NC ⟨(af i.form).toNat,by omega⟩
 rw[show (((⟨(af i.form).toNat,by omega⟩:Fin 35).1:Nat):Int)=af i.form by simp only[]; omega] at hr
 have hI:=hi i.aA (by simp[Cy])
 rcases h5 with ⟨_,e⟩|⟨hn,h0,ha⟩
 ·omega
 ·rcases hr with e|e|e
  ·exact absurd e hn
  ·rw[e] at ha
   have:=Ah 14 (by decide) (by decide) i.aA 16639 (by decide) h0 hI.2 ha
   omega
  ·rw[e] at ha
   have:=Ah 15 (by decide) (by decide) i.aA 33023 (by decide) h0 hI.2 ha
   omega
theorem wL (i:IN) (t:Prop) [Decidable t] {a b:Int} (ha:dH a) (hb:dH b) (h0:0<=i.aA) (h1:i.aA<=65535):1<=ig i t a b/\ig i t a b<=20:=by
 have e1:=oc ha.2
 have e2:=yR i.aA h0 h1
 unfold ig
 repeat' split
 all_goals first|omega|(unfold pJ; split<;>omega)|(unfold divC; split<;>omega)
def Fi (f:Int):Prop:=f=46\/f=47\/f=99\/f=100\/f=31
theorem Rz (i:IN):aj gT 9 [cZ i] (.bool (Fi i.form)):=by
 refine Spec.enter ao P9 100 Tryz.func9 rfl (by kernel_rfl) ?_
 unfold Fi
 repeat' ((conv=>whnf); first|(refine (And.intro (fun _=>?_) (fun _=>?_):(_->_)/\(_->_))<;>(first|(exfalso; first|contradiction|omega)|skip))|refine Or.inl (And.intro (by first|exact aG (by omega)|exact ai (by omega)|exact cL (by omega)|exact gJ (by omega)) ?_)|(refine And.intro (show (_:Int)≠0 by omega) (Or.inl (And.intro (show (0:Int)<=_ by omega) (And.intro (show (0:Int) < _ by omega) ?_))))|(refine And.intro (show (_:Int)≠0 by omega) (Or.inl (And.intro (show (0:Int)<=_ by omega) (And.intro (by first|exact (show (_:Int)<=9223372036854775807 by omega)|exact (show (_:Int)<=4294967295 by omega)) (And.intro (show (0:Int) < _ by omega) ?_)))))|(refine al ?_; (show (_=46\/_=47\/_=99\/_=100\/_=31)); omega)|(refine al ?_; show ¬ _; omega)|(intro _))
def iz (i:IN):Prop:=i.form=43/\Jo i.aA
theorem JC (i:IN):aj gT 68 [cZ i] (.bool (iz i)):=by
 refine Spec.enter ao P68 100 Tryz.func68 rfl (by kernel_rfl) ?_
 refine⟨fun h=>?_,fun h=>?_⟩
 ·refine⟨by decide,?_⟩
  exact al (show (_:Prop)↔iz i from ⟨fun q=>⟨h,q⟩,fun q=>q.2⟩)
 ·exact al (show ¬ iz i from fun q=>h q.1)
theorem ND:¬ cD iZ:=fun h=>absurd h.1 (by decide)
theorem Hi {w:Int} {wide:Prop} (h:Nc w wide≠0):Kk w wide=iZ:=by
 unfold Nc at h
 unfold Kk
 split at h
 ·exact absurd rfl h
 ·rename_i hn
  rw[dif_neg hn]
theorem iA_no {b:List Int} {n:Int} (h:eA b n≠0):iA b n=iZ:=by
 unfold eA at h
 unfold iA
 split at h
 ·rename_i hr
  rw[if_pos hr]
  unfold Km at h
  unfold Kl
  split at h
  ·rename_i h1
   rw[if_pos h1]
  ·rename_i h1
   rw[if_neg h1]
   split at h
   ·rename_i h2
    rw[if_pos h2]; exact Hi h
   ·rename_i h2
    rw[if_neg h2]
    split at h
    ·rename_i h3
     rw[if_pos h3]
    ·rename_i h3
     rw[if_neg h3]; exact Hi h
 ·rename_i hr
  rw[if_neg hr]
open Classical in
noncomputable def dz (b:List Int) (n:Int):Int:=if eA b n=0 then ig (iA b n) False 0 0 else 0
theorem CW (b:List Int) (n:Int):0<=dz b n/\dz b n<=20:=by
 unfold dz
 split
 ·rename_i h
  obtain⟨_,hr,JA⟩:=bN h
  obtain⟨r0,r1⟩:=js hr JA
  have:=wL (iA b n) False (a:=0) (b:=0) ⟨by decide,by decide⟩ ⟨by decide,by decide⟩ r0 r1
  exact⟨by omega,this.2⟩
 ·decide
theorem Fj (b:List Int) (n:Int):∃ e,aj gT 10 [cZ (iA b n),.bool False,.int .u32 0,.int .u32 0] (.tup [.int .i64 (dz b n),.int .i64 e]):=by
 by_cases h:eA b n=0
 ·obtain⟨_,hr,JA⟩:=bN h
  obtain⟨r0,r1⟩:=js hr JA
  have:=yY (iA b n) False 0 0 hr (JA (iA b n).aC (by simp[Cy])) r0 r1 ⟨by decide,by decide⟩ ⟨by decide,by decide⟩
  refine⟨0,?_⟩
  rw[show dz b n=ig (iA b n) False 0 0 by unfold dz; rw[if_pos h]]
  exact this
 ·refine⟨10,?_⟩
  rw[iA_no h,show dz b n=0 by unfold dz; rw[if_neg h]]
  refine Spec.enter ao P10 100 Tryz.func10 rfl (by kernel_rfl) ?_
  refine (qd iZ (by unfold bX; decide)).u ?_
  refine⟨fun _=>?_,fun h=>absurd (Classical.not_not.1 h) ND⟩
  exact rA
structure DV where
 at_:Int
 a:T
 b:T
def l6 (d:DV):PV:=.agg [.int .i64 d.at_,.int .i64 d.a.op,.int .u32 d.a.num,.sl 3 (cz d.a),.int .i64 d.b.op,.int .u32 d.b.num,.sl 3 (cz d.b)]
inductive G where
 | mk (op n:Int) (l:List G)
namespace G
def op:G->Int|.mk o _ _=>o
def n:G->Int|.mk _ n _=>n
def l:G->List G|.mk _ _ l=>l
end G
mutual
def gn:G->List PV
 | .mk _ _ l=>jH l
def jH:List G->List PV
 | []=>[]
 | g::l=>.agg [.int .i64 g.op,.int .u32 g.n,.sl 3 (gn g)]::jH l
end
structure eN where
 w:WK
 out:List C
 aw:List DV
def di (d:DV):C:=.mk 6 0 0 0 0 d.a d.b []
open Classical in
noncomputable def aY (b:List Int) (x:eN):eN :=
 let w1:=aE x.w (¬ x.w.last)
 let i:=iA b x.w.at_
 let w4:={ aE (cf b w1) (¬ Fi i.form/\i.form≠45) with last:=iz i }
 let out:=x.out++[ak (dz b x.w.at_) (cw b w1)]
 if i.form≠97 then ⟨w4,out,x.aw⟩ else match x.aw with
  | []=>⟨{ w4 with e:=201 },out,[]⟩
  | d::l=>if d.at_≠x.w.at_ then ⟨{ w4 with e:=201 },out,d::l⟩ else ⟨w4,out++[di d],l⟩
def CX (b:List Int) (x:eN):Prop:=(iA b x.w.at_).form=97/\match x.aw with
 | []=>True
 | d::_=>d.at_≠x.w.at_
open Classical in
noncomputable def runN (b:List Int) (till:Int):Nat->eN->eN
 | 0,x=>x
 | n+1,x=>if x.w.at_ < till/\x.w.e=0 then (if CX b x then aY b x else runN b till n (aY b x)) else x
open Classical in
noncomputable def uE (till:Int) (x:eN):Nat:=if x.w.e=0 then (till - x.w.at_).toNat else 0
theorem vc {b:List Int} {w:WK} (h:(cf b w).e=0):w.e=0/\eA b w.at_=0/\(cf b w).at_=w.at_+aX (iA b w.at_).form:=by
 unfold cf at h ⊢
 by_cases he:(aE w (eA b w.at_=0)).e≠0
 ·rw[if_pos he] at h; exact absurd h he
 ·rw[if_neg he] at h ⊢
  obtain⟨h1,h2⟩:=oh he
  refine⟨h2,h1,?_⟩
  split<;>rfl
theorem wM (b:List Int) (w:WK):(cf b w).at_=w.at_\/(eA b w.at_=0/\(cf b w).at_=w.at_+aX (iA b w.at_).form):=by
 unfold cf
 by_cases he:(aE w (eA b w.at_=0)).e≠0
 ·rw[if_pos he]; exact .inl rfl
 ·rw[if_neg he]
  obtain⟨h1,h2⟩:=oh he
  refine .inr ⟨h1,?_⟩
  split<;>rfl
theorem aU {w:WK} {p:Prop} (h:(aE w p).e=0):p/\w.e=0:=oh (fun k=>k h)
theorem wN (b:List Int) (x:eN):(aY b x).w.at_=(cf b (aE x.w (¬ x.w.last))).at_:=by
 unfold aY
 simp only
 split
 ·rfl
 ·split
  ·rfl
  ·split<;>rfl
theorem vd {b:List Int} {x:eN} (h:(aY b x).w.e=0):eA b x.w.at_=0/\x.w.e=0/\¬ x.w.last/\(aY b x).w.at_=x.w.at_+aX (iA b x.w.at_).form:=by
 have ha:=wN b x
 have key:(aE (cf b (aE x.w (¬ x.w.last))) (¬ Fi (iA b x.w.at_).form/\(iA b x.w.at_).form≠45)).e=0:=by
  unfold aY at h
  simp only at h
  split at h
  ·exact h
  ·split at h
   ·exact absurd (show (201:Int)=0 from h) (by decide)
   ·split at h
    ·exact absurd (show (201:Int)=0 from h) (by decide)
    ·exact h
 obtain⟨_,h1⟩:=aU key
 obtain⟨h2,h3,h4⟩:=vc h1
 obtain⟨h5,h6⟩:=aU h2
 exact⟨h3,h6,h5,ha.trans h4⟩
theorem oX {b:List Int} {till:Int} {x:eN} (h:x.w.at_ < till/\x.w.e=0):uE till (aY b x) < uE till x:=by
 unfold uE
 rw[if_pos h.2]
 by_cases he:(aY b x).w.e=0
 ·rw[if_pos he]
  obtain⟨h1,_,_,h4⟩:=vd he
  have hs:=gV (bN h1).2.1
  omega
 ·rw[if_neg he]; omega
open Go Go.RowKit
theorem wP (b:List Int) (w:WK):Spec gT 46 [.ptr 0 0] [gO b w] [] fun y S'=>y = .tup []/\S' = [gO b { w with e:=201 }]:=by
 refine Spec.rf (Spec.enter ao P46 100 Tryz.func46 rfl (by kernel_rfl) ?_)
 exact rS
def k7 (c:C):Prop:=((c.kind=1/\(0<=c.eX/\c.eX<=20)/\0<=c.eY/\c.eY<=2)\/c.kind=6)/\c.l = []
theorem rP:∀ {l:List C},(∀ c∈l,k7 c)->dI l=l
 | [],_=>rfl
 | c::l,h=>by
  have h1:=h c (List.mem_cons_self ..)
  rw[dI,ik,if_neg (by rcases h1.1 with h1|h1<;>omega),rP (fun x hx=>h x (List.mem_cons_of_mem _ hx))]
  rfl
def nk (c:C):PV:=.agg [.int .i64 c.kind,.int .i64 c.eX,.int .i64 c.eY,.int .i64 c.word,.int .i64 c.size,.int .i64 c.a.op,.int .u32 c.a.num,.sl 3 (cz c.a),.int .i64 c.b.op,.int .u32 c.b.num,.sl 3 (cz c.b),if c.kind=6 then .nil else .sl 12 []]
theorem RA {c:C} (h:c.l = []):na tR [.int .i64 c.kind,.int .i64 c.eX,.int .i64 c.eY,.int .i64 c.word,.int .i64 c.size,.int .i64 c.a.op,.int .u32 c.a.num,.sl 3 (cz c.a),.int .i64 c.b.op,.int .u32 c.b.num,.sl 3 (cz c.b),if c.kind=6 then .nil else .sl 12 []] (Jq c):=by
 have e:jO c = []:=by rw[dF,h]; rfl
 unfold Jq
 rw[e]
 split
 ·repeat' first|exact trivial|exact rfl|refine And.intro ?_ ?_
 ·repeat' first|exact trivial|exact rfl|refine And.intro ?_ ?_
theorem CY:∀ {l:List C},(∀ c∈l,c.l = [])->Jf (l.map nk) (l.map bx)
 | [],_=>trivial
 | c::l,h=>⟨RA (h c (List.mem_cons_self ..)),CY fun x hx=>h x (List.mem_cons_of_mem _ hx)⟩
def dR5 (l:List C):an:=⟨.dyn,30,12,.w,true,l.map nk⟩
structure SP where
 kind:Int
 fr:Int
 till:Int
 stub:Int
 skip:Int
 size:Int
 word:Int
 A:G
 B:G
 aw:List PV
 hd:List PV
 bd:List PV
 el:List PV
def spF (s:SP):List PV:=[.int .i64 s.kind,.int .i64 s.fr,.int .i64 s.till,.int .i64 s.stub,.int .i64 s.skip,.int .i64 s.size,.int .i64 s.word,.int .i64 s.A.op,.int .u32 s.A.n,.sl 3 (gn s.A),.int .i64 s.B.op,.int .u32 s.B.n,.sl 3 (gn s.B),.sl 7 s.aw,.sl 17 s.hd,.sl 17 s.bd,.sl 17 s.el]
def D7 (s:SP):PV:=.agg (spF s)
def NF (s:SP):an:=⟨.loc,37,1,.w,true,spF s⟩
structure xZ (b:List Int) (till:Int) (R:eN) (a0:Int) where
 x:eN
 n:Nat
 py:uE till x < n
 eq:runN b till n x=R
 hI:bX x.w.at_
 a:a0<=x.w.at_/\(x.w.at_=a0\/(0<=a0/\x.w.at_<=b.length+4))
 len:(x.out.length:Int)<=2*(x.w.at_ - a0)+2/\(x.w.e=0->(x.out.length:Int)<=2*(x.w.at_ - a0))
 outs:∀ c∈x.out,k7 c
theorem l7 {b:List Int} {x:eN} (h:∀ c∈x.out,k7 c):(∀ c∈(aY b x).out,k7 c)/\(aY b x).out.length<=x.out.length+2/\x.out.length+1<=(aY b x).out.length:=by
 have hb:=CW b x.w.at_
 have hn:0<=cw b (aE x.w (¬ x.w.last))/\cw b (aE x.w (¬ x.w.last))<=2:=by
  unfold cw
  split
  ·decide
  ·split
   ·decide
   ·exact jr ..
 have h1:∀ c∈x.out++[ak (dz b x.w.at_) (cw b (aE x.w (¬ x.w.last)))],k7 c:=fun c hc=>by
  rcases List.mem_append.1 hc with hc|hc
  ·exact h c hc
  ·rw[List.mem_singleton] at hc
   rw[hc]
   exact⟨.inl ⟨rfl,hb,hn⟩,rfl⟩
 unfold aY
 simp only
 split
 ·exact⟨h1,by rw[List.length_append,List.length_singleton]; omega,by rw[List.length_append,List.length_singleton]; omega⟩
 ·split
  ·exact⟨h1,by rw[List.length_append,List.length_singleton]; omega,by rw[List.length_append,List.length_singleton]; omega⟩
  ·split
   ·exact⟨h1,by rw[List.length_append,List.length_singleton]; omega,by rw[List.length_append,List.length_singleton]; omega⟩
   ·refine⟨fun c hc=>?_,by simp only[List.length_append,List.length_singleton]; omega,by simp only[List.length_append,List.length_singleton]; omega⟩
    rcases List.mem_append.1 hc with hc|hc
    ·exact h1 c hc
    ·rw[List.mem_singleton] at hc
     rw[hc]
     exact⟨.inr rfl,rfl⟩
theorem mP {l:List C} (hl:l.length<=1000000) (h:∀ c∈l,k7 c):aj gT 45 [.sl 12 (l.map nk)] (bx (aq l)):=by
 have hj:=th l (by rw[rP h]; exact hl) (fun c hc hk=>by
  rw[rP h] at hc
  rcases (h c hc).1 with ⟨_,h1,h2⟩|h1<;>omega)
 exact Spec.Tb hj ⟨Ta (CY fun c hc=>(h c hc).2),trivial⟩
noncomputable def xZ.next {b:List Int} {till:Int} {R:eN} {a0:Int} (r:xZ b till R a0) (hl:b.length<=2000) (h:r.x.w.at_ < till/\r.x.w.e=0) (hb:¬ CX b r.x):xZ b till R a0:=by
 have z7:=wN b r.x
 have hn:=wM b (aE r.x.w (¬ r.x.w.last))
 rw[← z7] at hn
 have hn':(aY b r.x).w.at_=r.x.w.at_\/(eA b r.x.w.at_=0/\(aY b r.x).w.at_=r.x.w.at_+aX (iA b r.x.w.at_).form):=hn
 have hcase:(aY b r.x).w.at_=r.x.w.at_\/((0<=r.x.w.at_/\r.x.w.at_+2<=b.length)/\((aY b r.x).w.at_=r.x.w.at_+2\/(aY b r.x).w.at_=r.x.w.at_+4)):=by
  rcases hn' with h1|⟨h1,h2⟩
  ·exact .inl h1
  ·obtain⟨h3,h4,_⟩:=bN h1
   have:=gV h4
   exact .inr ⟨h3,by omega⟩
 have ho:=l7 (b:=b) r.outs
 have NG:=oX (b:=b) h
 have hr:=r.py
 have ha:=r.a
 have hlen:=r.len.2 h.2
 have hI:=r.hI
 refine⟨aY b r.x,r.n - 1,by omega,?_,?_,?_,?_,ho.1⟩
 ·have e:=r.eq
  obtain⟨k,hk⟩:∃ k,r.n=k+1:=⟨r.n - 1,by omega⟩
  rw[hk] at e ⊢
  rw[runN,if_pos h,if_neg hb] at e
  exact e
 ·unfold bX at hI ⊢; omega
 ·omega
 ·refine⟨by omega,fun he=>?_⟩
  obtain⟨q1,q2,_,q4⟩:=vd he
  have hs:=gV (bN q1).2.1
  omega
theorem xZ.ve {b:List Int} {till:Int} {R:eN} {a0:Int} (r:xZ b till R a0) (hl:b.length<=2000) (h:r.x.w.at_ < till/\r.x.w.e=0) (hb:¬ CX b r.x):∃ r':xZ b till R a0,r'.x=aY b r.x/\r'.n < r.n :=
 ⟨r.next hl h hb,rfl,by have:=r.py; show r.n - 1 < r.n; omega⟩
noncomputable def jY (b:List Int) (w:WK) (till:Int) (aw:List DV):eN:=runN b till ((till - w.at_).toNat+1) ⟨w,[],aw⟩
noncomputable def iS (b:List Int) (w:WK) (till:Int) (aw:List DV):WK:=aE (jY b w till aw).w ((jY b w till aw).aw = [])
noncomputable def pv (b:List Int) (w:WK) (till:Int) (aw:List DV):C:=aq (jY b w till aw).out
open Classical in
theorem NH (b:List Int) (hb:pq b) (hl:b.length<=2000) (w:WK) (hI:bX w.at_) (s:SP) (aw:List DV) (hs:s.aw=aw.map l6):Spec gT 80 [.ptr 0 0,D7 s] [gO b w] [] fun y S'=>y=bx (pv b w s.till aw)/\S' = [gO b (iS b w s.till aw)]:=by
 unfold pv iS
 obtain⟨R,hR⟩:∃ R,jY b w s.till aw=R:=⟨_,rfl⟩
 rw[hR]
 unfold jY at hR
 refine Spec.rf (Spec.enter ao P80 100 Tryz.func80 rfl (by kernel_rfl) ?_)
 refine SW.tU ao P80 (by kernel_rfl) (α:=xZ b s.till R w.at_) (fun r=>[(0,.ptr 0 0),(3,.ptr 1 0),(4,.ptr 2 0),(5,.wref 3),(6,.sl 7 (r.x.aw.map l6))]) (fun r=>[gO b r.x.w,NF s,zC,dR5 r.x.out]) (fun r=>r.n) ⟨⟨w,[],aw⟩,(s.till - w.at_).toNat+1,by
  unfold uE
  split
  ·show (s.till - w.at_).toNat < _; omega
  ·omega,hR,hI,⟨Int.le_refl _,.inl rfl⟩,by simp,by simp⟩ 100 [some 0,some 1,some 2,none] ?_ ?_
 ·repeat' first|exact trivial|exact rfl|exact Iff.rfl|exact not_false|refine And.intro ?_ ?_
  all_goals exact hs
 intro r
 have Hj:=r.ve (by omega)
 obtain⟨x,n,NG,heq,hxI,hxa,hlen,NI⟩:=r
 have hol:x.out.length<=5000:=by omega
 have NJ:¬ (x.w.at_ < s.till/\x.w.e=0)->R=x:=fun h=>by
  obtain⟨k,rfl⟩:∃ k,n=k+1:=⟨n - 1,by omega⟩
  rw[runN,if_neg h] at heq
  exact heq.symm
 have hbrk:x.w.at_ < s.till/\x.w.e=0->CX b x->R=aY b x:=fun h hb=>by
  obtain⟨k,rfl⟩:∃ k,n=k+1:=⟨n - 1,by omega⟩
  rw[runN,if_pos h,if_pos hb] at heq
  exact heq.symm
 refine⟨fun h1=>And.intro (fun h2=>?_) (fun h2=>?_),fun h1=>?_⟩
 ·have hc:x.w.at_ < s.till/\x.w.e=0:=⟨h1,h2⟩
  obtain⟨eB,tS⟩:=Fj b x.w.at_
  have jk:=l7 (b:=b) NI
  have D6:aY b x=(let w1:=aE x.w (¬ x.w.last)
   let i:=iA b x.w.at_
   let w4:={ aE (cf b w1) (¬ Fi i.form/\i.form≠45) with last:=iz i }
   let out:=x.out++[ak (dz b x.w.at_) (cw b w1)]
   if i.form≠97 then ⟨w4,out,x.aw⟩ else match x.aw with
    | []=>⟨{ w4 with e:=201 },out,[]⟩
    | d::l=>if d.at_≠x.w.at_ then ⟨{ w4 with e:=201 },out,d::l⟩ else ⟨w4,out++[di d],l⟩):=rfl
  simp only at D6
  have tZ:CX b x↔((iA b x.w.at_).form=97/\match x.aw with
   | []=>True
   | d::_=>d.at_≠x.w.at_):=Iff.rfl
  refine (bO b x.w (¬ x.w.last)).e ?_
  refine (Hh b hb (by omega) (aE x.w (¬ x.w.last)) hxI).e ?_
  have hiA:iA b (aE x.w (¬ x.w.last)).at_=iA b x.w.at_:=rfl
  rw[hiA]
  generalize cw b (aE x.w (¬ x.w.last))=nn at D6 ⊢
  generalize cf b (aE x.w (¬ x.w.last))=w2 at D6 ⊢
  generalize dz b x.w.at_=bb at D6 tS ⊢
  generalize iA b x.w.at_=i at D6 tS tZ ⊢
  refine (Rz i).u ?_
  refine⟨fun NK=>?p1,fun NK=>?p2⟩
  case' p1 =>
   refine (bO b w2 (i.form≠45)).e ?_
   rw[show aE w2 (i.form≠45)=aE w2 (¬ Fi i.form/\i.form≠45) from congrArg (aE w2) (propext ⟨fun h=>⟨NK,h⟩,fun h=>h.2⟩)]
  case' p2 =>
   refine (cG b w2).e ?_
   rw[show ({ w2 with e:=201 }:WK)=aE w2 (¬ Fi i.form/\i.form≠45) from (eM fun h=>NK h.1).symm]
  all_goals
   clear NK
   generalize aE w2 (¬ Fi i.form/\i.form≠45)=w3 at D6 ⊢
   refine (JC i).u ?_
   refine⟨[],az,tS.use (by first|exact ah rfl rfl|(repeat' first|exact trivial|exact rfl|exact Iff.rfl|exact Or.inl rfl|exact not_false|refine And.intro ?_ ?_)) rfl rfl ?_⟩
   refine (bQ bb nn).u ?_
   refine⟨show (x.out.map nk).length+1<=maxLen by rw[List.length_map]; unfold maxLen; omega,show ((x.out.map nk).length+1)*144<=140737488355328 by rw[List.length_map]; omega,?_⟩
   refine⟨fun E_=>?_,fun E_=>?_⟩
   ·have AA:i.form≠97:=E_
    rw[if_pos AA] at D6
    obtain⟨r,kM,O8⟩:∃ r:xZ b s.till R w.at_,r.x=aY b x/\r.n < n:=Hj hc (fun h=>AA (tZ.1 h).1)
    rw[D6] at kM
    obtain⟨x2,n2,t_,CZ,Zo,Zp,NL,Fk⟩:=r
    obtain rfl:x2=_:=kM
    refine⟨⟨_,n2,t_,CZ,Zo,Zp,NL,Fk⟩,[some 0,some 1,some 2,some 6],O8,?_⟩
    repeat' first|exact trivial|exact rfl|exact Iff.rfl|exact not_false|refine And.intro ?_ ?_
    all_goals exact (show x.out.map nk++[nk (ak bb nn)]=(x.out++[ak bb nn]).map nk by rw[List.map_append]; rfl)
   ·have AA:¬ i.form≠97:=E_
    rw[if_neg AA] at D6
    have h97e:i.form=97:=Classical.not_not.1 AA
    have el:(x.aw.map l6).length=x.aw.length:=List.length_map ..
    refine fun hm=>?_
    refine⟨fun h0=>?_,fun h0=>?_⟩
    ·have F':x.aw = []:=by
      have Ko:(((x.aw.map l6).length:Nat):Int)=0:=h0
      exact List.eq_nil_of_length_eq_zero (by omega)
     have hRe:R=⟨{ ({ w3 with last:=iz i }:WK) with e:=201 },x.out++[ak bb nn],x.aw⟩:=by
      rw[hbrk hc (tZ.2 ⟨h97e,by rw[F']; trivial⟩),D6]
      rw[F']
     have hfo:∀ c∈x.out++[ak bb nn],k7 c:=fun c hc=>jk.1 c (by rw[D6]; rw[F']; exact hc)
     have hj:=mP (by rw[List.length_append,List.length_singleton]; omega) hfo
     rw[List.map_append] at hj
     subst hRe
     refine (wP b { w3 with last:=iz i }).e ?_
     have ep:(((x.aw.map l6).length:Nat):Int)=0↔x.aw = []:=by rw[List.length_map]; cases x.aw<;>simp; omega
     refine fun hmz=>?_
     refine (bO b { ({ w3 with last:=iz i }:WK) with e:=201 } ((((x.aw.map l6).length:Nat):Int)=0)).e ?_
     rw[show aE { ({ w3 with last:=iz i }:WK) with e:=201 } ((((x.aw.map l6).length:Nat):Int)=0)=aE { ({ w3 with last:=iz i }:WK) with e:=201 } (x.aw = []) by rw[propext ep]]
     refine⟨[],az,hj.ic [6] rfl (by repeat' first|exact trivial|exact rfl|exact Iff.rfl|exact Or.inl rfl|refine And.intro ?_ ?_) rfl rfl ?_⟩
     exact rS
    ·have Ko:¬ (((x.aw.map l6).length:Nat):Int)=0:=h0
     refine⟨DV,x.aw,l6,rfl,show (0:Int)<=0 by decide,show (0:Int) < (x.aw.length:Int) by omega,fun d hd=>?_⟩
     obtain⟨l,uo⟩:∃ l,x.aw=d::l:=by
      have xC:x.aw[0]?=some d:=hd
      cases hx:x.aw with
      | nil=>rw[hx] at xC; cases xC
      | cons a l=>rw[hx] at xC; cases xC; exact⟨l,rfl⟩
     refine⟨fun cH=>?_,fun cH=>?_⟩
     ·have Bj:d.at_≠x.w.at_:=cH
      have hRe:R=⟨{ ({ w3 with last:=iz i }:WK) with e:=201 },x.out++[ak bb nn],x.aw⟩:=by
       rw[hbrk hc (tZ.2 ⟨h97e,by rw[uo]; exact Bj⟩),D6]
       rw[uo]; simp only; rw[if_pos Bj]
      have hfo:∀ c∈x.out++[ak bb nn],k7 c:=fun c hc=>jk.1 c (by rw[D6]; rw[uo]; simp only; rw[if_pos Bj]; exact hc)
      have hj:=mP (by rw[List.length_append,List.length_singleton]; omega) hfo
      rw[List.map_append] at hj
      subst hRe
      refine (wP b { w3 with last:=iz i }).e ?_
      have ep:(((x.aw.map l6).length:Nat):Int)=0↔x.aw = []:=by rw[List.length_map]; cases x.aw<;>simp; omega
      refine fun hmz=>?_
      refine (bO b { ({ w3 with last:=iz i }:WK) with e:=201 } ((((x.aw.map l6).length:Nat):Int)=0)).e ?_
      rw[show aE { ({ w3 with last:=iz i }:WK) with e:=201 } ((((x.aw.map l6).length:Nat):Int)=0)=aE { ({ w3 with last:=iz i }:WK) with e:=201 } (x.aw = []) by rw[propext ep]]
      refine⟨[],az,hj.ic [6] rfl (by repeat' first|exact trivial|exact rfl|exact Iff.rfl|exact Or.inl rfl|refine And.intro ?_ ?_) rfl rfl ?_⟩
      exact rS
     ·have Bj:¬ d.at_≠x.w.at_:=cH
      refine⟨DV,x.aw,l6,rfl,show (0:Int)<=0 by decide,show (0:Int) < (x.aw.length:Int) by omega,fun d2 Bt=>?_⟩
      obtain rfl:d=d2:=Option.some.inj (hd.symm.trans Bt)
      refine⟨DV,x.aw,l6,rfl,show (0:Int)<=0 by decide,show (0:Int) < (x.aw.length:Int) by omega,fun d2 Bt=>?_⟩
      obtain rfl:d=d2:=Option.some.inj (hd.symm.trans Bt)
      have eo:(x.out.map nk++[nk (ak bb nn)]).length=x.out.length+1:=by rw[List.length_append,List.length_map]; rfl
      refine⟨show (x.out.map nk++[nk (ak bb nn)]).length+1<=maxLen by rw[eo]; unfold maxLen; omega,show ((x.out.map nk++[nk (ak bb nn)]).length+1)*144<=140737488355328 by rw[eo]; omega,?_⟩
      refine⟨show (0:Int)<=1 by decide,show (1:Int)<=(((x.aw.map l6).length:Nat):Int) by omega,Int.le_refl _,?_⟩
      have hit2:aY b x=⟨{ w3 with last:=iz i },x.out++[ak bb nn]++[di d],l⟩:=by rw[D6,uo]; simp only; rw[if_neg Bj]
      obtain⟨r,kM,O8⟩:∃ r:xZ b s.till R w.at_,r.x=aY b x/\r.n < n:=Hj hc (fun h=>Bj (by have:=(tZ.1 h).2; rw[uo] at this; exact this))
      rw[hit2] at kM
      obtain⟨x2,n2,t_,CZ,Zo,Zp,NL,Fk⟩:=r
      obtain rfl:x2=_:=kM
      refine⟨⟨_,n2,t_,CZ,Zo,Zp,NL,Fk⟩,[some 0,some 1,some 2,some 8],O8,?_⟩
      repeat' first|exact trivial|exact rfl|exact Iff.rfl|exact not_false|refine And.intro ?_ ?_
      all_goals first
       | exact (show x.out.map nk++[nk (ak bb nn)]++[nk (di d)]=(x.out++[ak bb nn]++[di d]).map nk by rw[List.map_append,List.map_append]; rfl)
       | exact (show ((x.aw.map l6).drop 1).take ((((x.aw.map l6).length:Nat):Int) - 1).toNat=l.map l6 by
         rw[uo]
         show (l.map l6).take _=_
         rw[List.take_of_length_le]
         simp only[List.map_cons,List.length_cons,List.length_map]
         omega)
 ·have kh:=NJ (fun h=>h2 h.2)
  subst kh
  have ep:(((R.aw.map l6).length:Nat):Int)=0↔R.aw = []:=by rw[List.length_map]; cases R.aw<;>simp; omega
  refine fun hmz=>?_
  refine (bO b R.w ((((R.aw.map l6).length:Nat):Int)=0)).e ?_
  rw[show aE R.w ((((R.aw.map l6).length:Nat):Int)=0)=aE R.w (R.aw = []) by rw[propext ep]]
  refine⟨[],az,(mP (by omega) NI).ic [3] rfl (by repeat' first|exact trivial|exact rfl|exact Iff.rfl|exact Or.inl rfl|refine And.intro ?_ ?_) rfl rfl ?_⟩
  exact rS
 ·have kh:=NJ (fun h=>h1 h.1)
  subst kh
  have ep:(((R.aw.map l6).length:Nat):Int)=0↔R.aw = []:=by rw[List.length_map]; cases R.aw<;>simp; omega
  refine fun hmz=>?_
  refine (bO b R.w ((((R.aw.map l6).length:Nat):Int)=0)).e ?_
  rw[show aE R.w ((((R.aw.map l6).length:Nat):Int)=0)=aE R.w (R.aw = []) by rw[propext ep]]
  refine⟨[],az,(mP (by omega) NI).ic [3] rfl (by repeat' first|exact trivial|exact rfl|exact Iff.rfl|exact Or.inl rfl|refine And.intro ?_ ?_) rfl rfl ?_⟩
  exact rS
def gZ:G:=.mk 0 0 []
def qq (a t:Int):SP:=⟨1,a,t,0,-1,0,0,gZ,gZ,[],[],[],[]⟩
def il:C:=.mk 0 0 0 0 0 cM cM []
theorem NM:aj gT 115 [.agg [.int .i64 0,.int .u32 0,.sl 3 []]] .tt:=by
 refine Spec.enter ao P115 100 Tryz.func115 rfl (by kernel_rfl) ?_
 repeat' ((conv=>whnf); first|(refine (And.intro (fun _=>?_) (fun _=>?_):(_->_)/\(_->_))<;>(first|(exfalso; first|contradiction|omega)|skip))|refine Or.inl (And.intro (by first|exact aG (by omega)|exact ai (by omega)|exact cL (by omega)|exact gJ (by omega)) ?_)|(refine And.intro (show (_:Int)≠0 by omega) (Or.inl (And.intro (show (0:Int)<=_ by omega) (And.intro (show (0:Int) < _ by omega) ?_))))|(refine And.intro (show (_:Int)≠0 by omega) (Or.inl (And.intro (show (0:Int)<=_ by omega) (And.intro (by first|exact (show (_:Int)<=9223372036854775807 by omega)|exact (show (_:Int)<=4294967295 by omega)) (And.intro (show (0:Int) < _ by omega) ?_)))))|(exact absurd rfl (by assumption))|(exact rA)|(intro _))
theorem NN:aj gT 148 [.sl 7 [],.clo 138 []] (.int .i64 (-1)):=by
 refine Spec.enter ao P1 100 Tryz.func148 rfl (by kernel_rfl) ?_
 refine fun _=>SW.rounds ao P1 (by kernel_rfl) (N:=60) 1 ?_
 repeat' ((conv=>whnf); first|(refine (And.intro (fun _=>?_) (fun _=>?_):(_->_)/\(_->_))<;>(first|(exfalso; first|contradiction|omega)|skip))|refine Or.inl (And.intro (by first|exact aG (by omega)|exact ai (by omega)|exact cL (by omega)|exact gJ (by omega)) ?_)|(refine And.intro (show (_:Int)≠0 by omega) (Or.inl (And.intro (show (0:Int)<=_ by omega) (And.intro (show (0:Int) < _ by omega) ?_))))|(refine And.intro (show (_:Int)≠0 by omega) (Or.inl (And.intro (show (0:Int)<=_ by omega) (And.intro (by first|exact (show (_:Int)<=9223372036854775807 by omega)|exact (show (_:Int)<=4294967295 by omega)) (And.intro (show (0:Int) < _ by omega) ?_)))))|(exact absurd rfl (by assumption))|(exact rA)|(intro _))
theorem NO:aj gT 137 [.sl 7 [],.clo 138 []] .ff:=by
 refine Spec.enter ao P137 100 Tryz.func137 rfl (by kernel_rfl) ?_
 refine NN.u ?_
 refine al ?_
 exact (show ¬ (0:Int)<=-1 by decide)
theorem NP:aj gT 116 [.sl 7 []] .tt:=by
 refine Spec.enter ao P116 100 Tryz.func116 rfl (by kernel_rfl) ?_
 refine NO.u ?_
 refine al ?_
 repeat' first|exact trivial|exact rfl|exact not_false|refine And.intro ?_ ?_
theorem NQ (a t:Int):aj gT 79 [D7 (qq a t)] .tt:=by
 show aj gT 79 [.agg [.int .i64 1,.int .i64 a,.int .i64 t,.int .i64 0,.int .i64 (-1),.int .i64 0,.int .i64 0,.int .i64 0,.int .u32 0,.sl 3 [],.int .i64 0,.int .u32 0,.sl 3 [],.sl 7 [],.sl 17 [],.sl 17 [],.sl 17 []]] .tt
 refine Spec.enter ao P79 100 Tryz.func79 rfl (by kernel_rfl) ?_
 repeat' ((conv=>whnf); first|(refine (And.intro (fun _=>?_) (fun _=>?_):(_->_)/\(_->_))<;>(first|(exfalso; first|contradiction|omega)|skip))|refine Or.inl (And.intro (by first|exact aG (by omega)|exact ai (by omega)|exact cL (by omega)|exact gJ (by omega)) ?_)|(refine And.intro (show (_:Int)≠0 by omega) (Or.inl (And.intro (show (0:Int)<=_ by omega) (And.intro (show (0:Int) < _ by omega) ?_))))|(refine And.intro (show (_:Int)≠0 by omega) (Or.inl (And.intro (show (0:Int)<=_ by omega) (And.intro (by first|exact (show (_:Int)<=9223372036854775807 by omega)|exact (show (_:Int)<=4294967295 by omega)) (And.intro (show (0:Int) < _ by omega) ?_)))))|(exact absurd rfl (by assumption))|(refine⟨[],az,NM.use (by repeat' first|exact trivial|exact rfl|exact Iff.rfl|exact Or.inl rfl|refine And.intro ?_ ?_) rfl rfl ?_⟩)|(refine⟨[],az,NP.use (by repeat' first|exact trivial|exact rfl|exact Iff.rfl|exact Or.inl rfl|refine And.intro ?_ ?_) rfl rfl ?_⟩)|(refine al ?_; (repeat' first|exact trivial|exact rfl|exact iff_true_intro rfl|refine And.intro ?_ ?_))|(intro _))
noncomputable def iC (w:WK) (a t:Int):WK:=aE w (a=w.at_/\a < t/\¬ w.last)
open Classical in
noncomputable def nR (b:List Int) (w:WK) (a t:Int):C:=if (iC w a t).e≠0 then il else pv b (iC w a t) t []
open Classical in
noncomputable def jn (b:List Int) (w:WK) (a t:Int):WK:=if (iC w a t).e≠0 then iC w a t else aE (iS b (iC w a t) t []) ((iS b (iC w a t) t []).at_=t)
theorem NR (b:List Int) (hb:pq b) (hl:b.length<=2000) (w:WK) (hI:bX w.at_) (a t:Int):Spec gT 44 [.ptr 0 0,D7 (qq a t)] [gO b w] [] fun y S'=>y=bx (nR b w a t)/\S' = [gO b (jn b w a t)]:=by
 have bI:Spec gT 80 [.ptr 0 0,D7 (qq a t)] [gO b (iC w a t)] [] fun y S'=>y=bx (pv b (iC w a t) t [])/\S' = [gO b (iS b (iC w a t) t [])]:=NH b hb hl (iC w a t) hI (qq a t) [] rfl
 unfold nR jn
 have hn:∀ p,(p↔(a=w.at_/\a < t/\¬ w.last))->aE w p=iC w a t:=fun p h=>by unfold iC; rw[propext h]
 generalize iC w a t=w1 at *
 generalize pv b w1 t []=rc at *
 generalize iS b w1 t []=rw_ at *
 refine Spec.rf (Spec.enter ao P44 100 Tryz.func44 rfl (by kernel_rfl) ?_)
 have bad:¬ (a=w.at_/\a < t/\¬ w.last)->({ w with e:=201 }:WK)=w1:=fun h=>(eM (w:=w) (p:=a=w.at_/\a < t/\¬ w.last) h).symm.trans (hn _ Iff.rfl)
 have Tz:a=w.at_/\a < t/\¬ w.last->w=w1:=fun h=>(bu (w:=w) (p:=a=w.at_/\a < t/\¬ w.last) h).symm.trans (hn _ Iff.rfl)
 have ht:aE rw_ (rw_.at_=t)=aE rw_ (rw_.at_=(qq a t).till):=rfl
 refine⟨fun h1=>And.intro (fun h2=>?p1) (fun h2=>?p2),fun h1=>?p3⟩
 case' p1 =>
  refine⟨fun h3=>?p4,fun h3=>?p5⟩
  case' p4 =>
   refine (NQ a t).u ?_
   refine (rO b w).e ?_
   rw[Tz ⟨h1,h2,h3⟩]
  case' p5 =>
   refine (cG b w).e ?_
   rw[bad fun h=>h3 h.2.2]
 case' p2 =>
  refine (cG b w).e ?_
  rw[bad fun h=>h2 h.2.1]
 case' p3 =>
  refine (cG b w).e ?_
  rw[bad fun h=>h1 h.1]
 all_goals
  refine⟨fun he=>?_,fun he=>?_⟩
  ·rw[if_pos he,if_pos he]
   exact rS
  ·rw[if_neg he,if_neg he]
   refine⟨fun hk=>?_,fun hk=>absurd (rfl:(qq a t).kind=1) hk⟩
   refine (bI).e ?_
   refine (bO b rw_ (rw_.at_=(qq a t).till)).e ?_
   rw[← ht]
   exact rS
theorem Fl:∀ {l:List C},(∀ c∈l,c.kind≠2)->dI l=l
 | [],_=>rfl
 | c::l,h=>by
  rw[dI,ik,if_neg (h c (List.mem_cons_self ..)),Fl (fun x hx=>h x (List.mem_cons_of_mem _ hx))]
  rfl
theorem rQ (l:List C):oV (aq l)=gd l:=by
 have hk:=@Jx l
 unfold aq
 generalize gd l=o at hk
 split
 ·rw[ik,if_neg (hk _ (List.mem_singleton_self _))]
 ·rw[ik,if_pos (show (C.mk 2 0 0 0 0 cM cM o).kind=2 from rfl)]
  exact Fl hk
theorem oY {S:List C} (hS:∀ c∈S,kz 20 c):∀ i:Nat,∀ x∈(S.take i).foldl bW [],kz (i*20) x
 | 0,x,hx=>by simp at hx
 | i+1,x,hx=>by
  cases hc:S[i]? with
  | none =>
   have hl:S.length<=i:=List.getElem?_eq_none_iff.1 hc
   rw[List.take_of_length_le (by omega),← List.take_of_length_le (i:=i) hl] at hx
   exact (oY hS i x hx).more (by omega)
  | some c =>
   rw[oW hc] at hx
   have A3:=hS c (List.mem_of_getElem? hc)
   refine l5 (p:=kz ((i+1:Nat)*20)) (fun y hy=>(oY hS i y hy).more (by omega)) (A3.more (by omega)) (fun d hd k1 k2 _=>?_) x hx
   have h1:=oY hS i d hd k2
   have h2:=A3 k1
   show (0<=d.eX+c.eX/\d.eX+c.eX<=_)/\(0<=d.eY+c.eY/\d.eY+c.eY<=_)
   omega
def RB (c:C):Prop:=(oV c).length<=1000000/\∀ x∈oV c,kz 2147483647 x
theorem RB.join {l:List C} (hl:l.length<=5000) (h:∀ c∈l,k7 c):RB (aq l):=by
 unfold RB
 rw[rQ]
 unfold gd
 rw[rP h]
 have hb:=oY (S:=l) (fun c hc k=>by rcases (h c hc).1 with ⟨_,h1,h2⟩|h1<;>omega) l.length
 have hn:=og l l.length
 rw[List.take_length] at hb hn
 refine⟨by have:=List.length_filter_le bq (l.foldl bW []); omega,fun x hx=>(hb x (List.mem_filter.1 hx).1).more (by omega)⟩
theorem RB.zero:RB il:=⟨by show 1<=1000000; decide,fun x hx=>by
 have:x=il:=by simpa using (show x∈[il] from hx)
 subst this
 exact fun k=>absurd k (by decide)⟩
theorem NS {c:C} (h:RB c):aj gT 45 [.sl 12 [bx c]] (bx (aq [c])):=by
 have e:dI [c]=oV c:=by rw[dI,dI,List.append_nil]
 exact th [c] (by rw[e]; exact h.1) (by rw[e]; exact h.2)
theorem C0 {b:List Int} {till:Int} {R:eN} {a0:Int} (hl:b.length<=2000):∀ (n:Nat) (r:xZ b till R a0),r.n<=n->R.out.length<=5000/\(∀ c∈R.out,k7 c)/\bX R.w.at_
 | 0,r,h=>by have:=r.py; omega
 | n+1,r,h=>by
  have heq:=r.eq
  have hf:=r.py
  obtain⟨k,hk⟩:∃ k,r.n=k+1:=⟨r.n - 1,by omega⟩
  rw[hk,runN] at heq
  have hlen:=r.len
  have ha:=r.a
  have hI:=r.hI
  split at heq
  ·rename_i hc
   split at heq
   ·rename_i hb
    have ho:=l7 (b:=b) r.outs
    have z7:=wN b r.x
    have hn:=wM b (aE r.x.w (¬ r.x.w.last))
    rw[← z7] at hn
    have hn':(aY b r.x).w.at_=r.x.w.at_\/(eA b r.x.w.at_=0/\(aY b r.x).w.at_=r.x.w.at_+aX (iA b r.x.w.at_).form):=hn
    rw[← heq]
    refine⟨by have:=hlen.2 hc.2; omega,ho.1,?_⟩
    rcases hn' with h1|⟨h1,h2⟩
    ·rw[h1]; exact hI
    ·obtain⟨h3,h4,_⟩:=bN h1
     have:=gV h4
     unfold bX; omega
   ·rename_i hb
    obtain⟨r',h1,h2⟩:=r.ve hl hc hb
    exact C0 hl n r' (by omega)
  ·rw[← heq]
   exact⟨by omega,r.outs,hI⟩
theorem rR {b:List Int} (hl:b.length<=2000) {w:WK} (hI:bX w.at_) (till:Int) (aw:List DV):(jY b w till aw).out.length<=5000/\(∀ c∈(jY b w till aw).out,k7 c)/\bX (jY b w till aw).w.at_ :=
 C0 hl (R:=jY b w till aw) (a0:=w.at_) ((till - w.at_).toNat+1) ⟨⟨w,[],aw⟩,(till - w.at_).toNat+1,by
  unfold uE
  split
  ·show (till - w.at_).toNat < _; omega
  ·omega,rfl,hI,⟨Int.le_refl _,.inl rfl⟩,by simp,by simp⟩ (Nat.le_refl _)
theorem RB.one {b:List Int} (hl:b.length<=2000) {w:WK} (hI:bX w.at_) (a t:Int):RB (nR b w a t):=by
 unfold nR
 split
 ·exact .zero
 ·have h:=rR hl (w:=iC w a t) (show bX (iC w a t).at_ from by unfold iC aE; exact hI) t []
  exact .join h.1 h.2.1
theorem wQ {cy mi:Int} (h:0 < cy):aq [ak cy mi]=ak cy mi:=by
 have:gd [ak cy mi] = [ak cy mi]:=by
  unfold gd
  show [ak cy mi].filter bq=_
  rw[List.filter_cons_of_pos]
  ·rfl
  ·unfold bq
   rw[show decide ((ak cy mi).eX=0)=false from decide_eq_false (show ¬ cy=0 by omega)]
   simp
 unfold aq
 rw[this]
def pM (l:List (Int × Int)):List C:=l.map fun p=>ak p.1 p.2
theorem wR:∀ (l:List (Int × Int)) (c m:Int),(pM l).foldl bW [ak c m] = [ak (c+(l.map (·.1)).sum) (m+(l.map (·.2)).sum)]
 | [],c,m=>by simp[pM]
 | p::l,c,m=>by
  show (pM l).foldl bW (bW [ak c m] (ak p.1 p.2))=_
  have:bW [ak c m] (ak p.1 p.2) = [ak (c+p.1) (m+p.2)]:=rfl
  rw[this,wR l]
  simp only[List.map_cons,List.sum_cons,Int.add_assoc]
theorem C1 {l:List (Int × Int)} (h:0 < (l.map (·.1)).sum):aq (pM l)=ak (l.map (·.1)).sum (l.map (·.2)).sum:=by
 cases l with
 | nil=>exact absurd h (by decide)
 | cons p l =>
  have e:dI (pM (p::l))=pM (p::l):=Fl fun c hc=>by
   obtain⟨q,_,rfl⟩:=List.mem_map.1 hc
   exact (by decide:(1:Int)≠2)
  have e2:(dI (pM (p::l))).foldl bW [] = [ak ((p::l).map (·.1)).sum ((p::l).map (·.2)).sum]:=by
   rw[e]
   show (pM l).foldl bW [ak p.1 p.2]=_
   rw[wR]
   simp only[List.map_cons,List.sum_cons]
  have:=wQ (mi:=((p::l).map (·.2)).sum) h
  unfold aq gd
  rw[e2]
  unfold aq gd at this
  exact this
def vf (op u w:Int):T:=if op=1 then .leaf 1 u else if op=2 then .leaf 2 (IntKind.u32.wrap w) else if op=3\/op=4 then .one op 0 (.leaf 2 (IntKind.u32.wrap w)) else if 5<=op/\op<=17 then .two op 0 (.leaf 2 (IntKind.u32.wrap w)) (.leaf 1 u) else .leaf op 0
theorem wrap32 (w:Int):0<=IntKind.u32.wrap w/\IntKind.u32.wrap w<=4294967295:=by rw[IntKind.wrap_u32']; omega
theorem Fm {op u w:Int} (h:0<=u/\u<=4294967295):(vf op u w).Wf:=by
 have:=wrap32 w
 unfold vf
 repeat' split
 ·exact h
 ·exact this
 ·exact⟨by omega,this⟩
 ·exact⟨by omega,this,h⟩
 ·exact⟨by omega,by omega⟩
def nP (x:Int × Int × Int):PV:=.agg [.int .i64 x.1,.int .u32 x.2.1,.int .i64 x.2.2]
theorem kA:∀ t:T,t.size<=1000000->aj gT 125 [jc t] (.int .i64 t.size)
 | .leaf o n,hs=>by
  refine Spec.enter ao xO 100 Tryz.func125 rfl (by kernel_rfl) ?_
  refine fun _=>SW.rounds ao xO (by kernel_rfl) (N:=60) 3 ?_
  refine⟨fun h=>absurd (show (0:Int) < 0 from h) (by decide),fun _=>?_⟩
  exact al rfl
 | .one o n a,hs=>by
  have sz:(T.one o n a).size=1+a.size:=rfl
  have Zk:=kA a (by omega)
  refine Spec.enter ao xO 100 Tryz.func125 rfl (by kernel_rfl) ?_
  refine fun _=>SW.rounds ao xO (by kernel_rfl) (N:=60) 3 ?_
  refine⟨fun _=>?_,fun h=>absurd (show (0:Int) < 1 by decide) h⟩
  refine⟨T,[a],jc,rfl,(show (0:Int)<=0 by decide),(show (0:Int) < 1 by decide),fun x hx=>?_⟩
  obtain rfl:a=x:=Option.some.inj hx
  refine⟨[],nofun,Zk.use ⟨⟨rfl,rfl,rfl,trivial⟩,trivial⟩ rfl rfl ?_⟩
  refine li ?_
  refine⟨fun h=>absurd (show (1:Int) < 1 from h) (by decide),fun _=>?_⟩
  refine al ?_
  exact (show (1:Int)+a.size=((T.one o n a).size:Nat) by omega)
 | .two o n a b,hs=>by
  have sz:(T.two o n a b).size=1+a.size+b.size:=rfl
  have Zk:=kA a (by omega)
  have ihb:=kA b (by omega)
  refine Spec.enter ao xO 100 Tryz.func125 rfl (by kernel_rfl) ?_
  refine fun _=>SW.rounds ao xO (by kernel_rfl) (N:=60) 3 ?_
  refine⟨fun _=>?_,fun h=>absurd (show (0:Int) < 2 by decide) h⟩
  refine⟨T,[a,b],jc,rfl,(show (0:Int)<=0 by decide),(show (0:Int) < 2 by decide),fun x hx=>?_⟩
  obtain rfl:a=x:=Option.some.inj hx
  refine⟨[],nofun,Zk.use ⟨⟨rfl,rfl,rfl,trivial⟩,trivial⟩ rfl rfl ?_⟩
  refine li ?_
  refine⟨fun _=>?_,fun h=>absurd (show (1:Int) < 2 by decide) h⟩
  refine⟨T,[a,b],jc,rfl,(show (0:Int)<=1 by decide),(show (1:Int) < 2 by decide),fun x hx=>?_⟩
  obtain rfl:b=x:=Option.some.inj hx
  refine⟨[],nofun,ihb.use ⟨⟨rfl,rfl,rfl,trivial⟩,trivial⟩ rfl rfl ?_⟩
  refine li ?_
  refine⟨fun h=>absurd (show (2:Int) < 2 from h) (by decide),fun _=>?_⟩
  refine al ?_
  exact (show (1:Int)+a.size+b.size=((T.two o n a b).size:Nat) by omega)
def gq:T->List (Int × Int × Int)
 | .leaf o n=>if o=0/\n=0 then [] else [(o,n,0)]
 | .one o n a=>(o,n,1)::gq a
 | .two o n a b=>(o,n,2)::(gq a++gq b)
mutual
def kidsD:C->List PV
 | .mk _ _ _ _ _ _ _ l=>NT l
def NT:List C->List PV
 | []=>[]
 | c::l=>.agg [.int .i64 c.kind,.int .i64 c.eX,.int .i64 c.eY,.int .i64 c.word,.int .i64 c.size,.sl 3 ((gq c.a).map nP),.sl 3 ((gq c.b).map nP),.sl 8 (kidsD c)]::NT l
end
mutual
def C.wT (p:T->Prop):C->Prop
 | .mk _ _ _ _ _ a b l=>p a/\p b/\pN p l
def pN (p:T->Prop):List C->Prop
 | []=>True
 | c::l=>c.wT p/\pN p l
end
theorem tj {p:T->Prop}:∀ {l:List C},pN p l->∀ c∈l,c.wT p
 | c::l,h,x,hx=>by
  simp only[pN] at h
  rcases List.mem_cons.1 hx with rfl|hx
  ·exact h.1
  ·exact tj h.2 x hx
theorem C.C2 {p:T->Prop} (c:C):c.wT p↔p c.a/\p c.b/\pN p c.l:=by cases c; rfl
mutual
def C.Sm:C->Prop
 | .mk _ _ _ _ _ _ _ l=>l.length<=1000000/\smL l
def smL:List C->Prop
 | []=>True
 | c::l=>c.Sm/\smL l
end
theorem C.sm_iff (c:C):c.Sm↔c.l.length<=1000000/\smL c.l:=by cases c; rfl
def ju (t:T):Nat:=if t.op=0 then 0 else t.size
mutual
def cN:C->Nat
 | .mk _ _ _ _ _ a b l=>1+ju a+ju b+pP l
def pP:List C->Nat
 | []=>0
 | c::l=>cN c+pP l
end
theorem rT (c:C):cN c=1+ju c.a+ju c.b+pP c.l:=by cases c; rfl
theorem qs:∀ (l m:List C),pP (l++m)=pP l+pP m
 | [],m=>by simp[pP]
 | c::l,m=>by rw[List.cons_append,pP,pP,qs l m]; omega
theorem Zq (c:C):1<=cN c:=by rw[rT]; omega
theorem Hk:∀ l:List C,l.length<=pP l
 | []=>Nat.le_refl _
 | c::l=>by have:=Hk l; have:=Zq c; rw[pP,List.length_cons]; omega
theorem AB:∀ {l:List C} {x:C},x∈l->cN x<=pP l
 | c::l,x,hx=>by
  rw[pP]
  rcases List.mem_cons.1 hx with rfl|hx
  ·omega
  ·have:=AB hx; omega
theorem NU {l:List C} {i:Nat} {x:C} (h:l[i]?=some x):pP (l.take (i+1))=pP (l.take i)+cN x:=by
 rw[List.take_add_one,h,qs]; simp[pP]
theorem ua (l:List C) (i:Nat):pP (l.take i)<=pP l:=by
 have:=qs (l.take i) (l.drop i)
 rw[List.take_append_drop] at this; omega
def MT (t:T):Prop:=∃ op u w,(0<=u/\u<=4294967295)/\t=vf op u w
theorem MT.cases {t:T} (h:MT t):t.Wf/\t.size<=3/\((t = .leaf 0 0/\gq t = [])\/(t.op≠0/\gq t=t.nodes)):=by
 obtain⟨op,u,w,hu,rfl⟩:=h
 refine⟨Fm hu,?_⟩
 unfold vf
 split
 ·refine⟨by simp[T.size],.inr ⟨by simp[T.op],by simp[gq,T.nodes]⟩⟩
 split
 ·refine⟨by simp[T.size],.inr ⟨by simp[T.op],by simp[gq,T.nodes]⟩⟩
 split
 ·refine⟨by simp[T.size],.inr ⟨by simp only[T.op]; omega,by simp[gq,T.nodes]⟩⟩
 split
 ·refine⟨by simp[T.size],.inr ⟨by simp only[T.op]; omega,by simp[gq,T.nodes]⟩⟩
 ·refine⟨by simp[T.size],?_⟩
  by_cases h0:op=0
  ·subst h0; exact .inl ⟨rfl,by simp[gq]⟩
  ·exact .inr ⟨h0,by simp[gq,T.nodes,h0]⟩
theorem MT.sz {t:T} (h:MT t):ju t=(gq t).length/\ju t<=3:=by
 obtain⟨_,h2,h3⟩:=h.cases
 rcases h3 with ⟨rfl,h3⟩|⟨h4,h3⟩
 ·rw[h3]; exact⟨rfl,by simp[ju,T.op]⟩
 ·rw[h3,T.fP,ju,if_neg h4]; exact⟨rfl,h2⟩
theorem MT.wf {t:T} (h:MT t):t.Wf:=h.cases.1
theorem MT.small {t:T} (h:MT t):t.size<=16384:=by have:=h.cases.2.1; omega
mutual
theorem C.wT.mono {p q:T->Prop} (h:∀ t,p t->q t):∀ c:C,c.wT p->c.wT q
 | .mk _ _ _ _ _ a b l,hc=>⟨h a hc.1,h b hc.2.1,pN.mono h l hc.2.2⟩
theorem pN.mono {p q:T->Prop} (h:∀ t,p t->q t):∀ l:List C,pN p l->pN q l
 | [],_=>trivial
 | c::l,hc=>⟨C.wT.mono h c hc.1,pN.mono h l hc.2⟩
end
theorem MT.zero:MT cM:=⟨0,0,0,by omega,rfl⟩
theorem C3 (op:Int):aj gT 151 [.int .i64 op] (.int .i64 (s9 op)):=by
 refine Spec.enter ao P151 100 Tryz.func151 rfl (by kernel_rfl) ?_
 repeat' refine And.intro (fun _=>?_) (fun _=>?_)
 all_goals (refine al ?_; unfold s9; show _=_; (repeat' split)<;>omega)
theorem zd {op:Int} (h1:1<=op) (h2:op<=17):s9 op=ql op:=by
 unfold s9 ql
 rw[if_neg (show ¬ (op < 1\/17 < op) by omega)]
 by_cases k1:op<=2
 ·rw[if_pos k1,if_pos (show op < 3 by omega)]
 ·rw[if_neg k1,if_neg (show ¬ op < 3 by omega)]
  by_cases k2:op<=4
  ·rw[if_pos k2,if_pos (show op < 5 by omega)]
  ·rw[if_neg k2,if_neg (show ¬ op < 5 by omega)]
theorem C4 (t:T):t.root=true↔1<=t.op/\t.op<=17/\ql t.op=t.kids/\(2 < t.op->t.num=0)/\(t.op=2->t.num<=255):=by
 cases t<;>exact decide_eq_true_iff
theorem ze (t:T):((cz t).length:Int)=(t.kids:Nat):=by cases t<;>rfl
theorem C5 {t:T} (h:t.shaped=true):t.root=true/\t.ln=true:=by rw[T.yS,Bool.and_eq_true] at h; exact h
def JD:PV:=.clo 152 []
theorem om (t:T) (hn:0<=t.num/\t.num<=4294967295) (hc:aj gT 144 [.sl 3 (cz t),JD] (.bool (¬ t.ln=true))):aj gT 143 [jc t] (.bool (t.shaped=true)):=by
 have hk:=ze t
 have bad:∀ {p:Prop},(1<=t.op->t.op<=17->s9 t.op=(cz t).length->(2 < t.op->t.num=0)->(t.op=2->t.num<=255)->False)->t.shaped=true->p:=fun h hs=>by
  have hr:=(C4 t).1 (C5 hs).1
  exact absurd hr.2.2.2.2 (fun h5=>h hr.1 hr.2.1 (by rw[zd hr.1 hr.2.1,hk]; exact hr.2.2.1) hr.2.2.2.1 h5)
 refine Spec.enter ao Uh 100 Tryz.func143 rfl (by kernel_rfl) ?_
 refine⟨fun h1=>?_,fun h1=>And.intro (fun h2=>?_) (fun h2=>?_)⟩
 ·refine al ?_
  exact fun hs=>bad (by omega) hs
 ·refine al ?_
  exact fun hs=>bad (by omega) hs
 refine fun _=>?_
 refine⟨[],nofun,(C3 t.op).use ⟨rfl,trivial⟩ rfl rfl ?_⟩
 have jl:∀ (h3:¬ ¬ ((cz t).length:Int)=s9 t.op) (h4:2 < t.op->t.num=0) (h5:t.op=2->t.num<=255),(¬ ¬ t.ln=true↔t.shaped=true):=fun h3 h4 h5=>by
  have hr:t.root=true:=(C4 t).2 ⟨by omega,by omega,by rw[← zd (by omega) (by omega),← hk]; omega,h4,h5⟩
  rw[T.yS,hr,Bool.true_and]; exact Classical.not_not
 refine⟨fun h3=>?_,fun h3=>And.intro (fun h4=>And.intro (fun h5=>?_) (fun h5=>And.intro (fun h6=>?_) (fun h6=>?_))) (fun h4=>And.intro (fun h6=>And.intro (fun h7=>?_) (fun h7=>?_)) (fun h6=>?_))⟩
 ·refine al ?_
  exact fun hs=>bad (by omega) hs
 ·refine al ?_
  exact fun hs=>bad (by omega) hs
 ·exact absurd h6 (by omega)
 ·refine⟨[],nofun,hc.use ⟨rfl,trivial,trivial⟩ rfl rfl ?_⟩
  refine al ?_
  exact jl h3 (by omega) (by omega)
 ·refine al ?_
  exact fun hs=>bad (by omega) hs
 ·refine⟨[],nofun,hc.use ⟨rfl,trivial,trivial⟩ rfl rfl ?_⟩
  refine al ?_
  exact jl h3 (by omega) (by omega)
 ·refine⟨[],nofun,hc.use ⟨rfl,trivial,trivial⟩ rfl rfl ?_⟩
  refine al ?_
  exact jl h3 (by omega) (by omega)
theorem mQ (a:T) (ha:aj gT 143 [jc a] (.bool (a.shaped=true))):aj gT 152 [jc a] (.bool (¬ a.shaped=true)):=by
 refine Spec.enter ao Ui 100 Tryz.func152 rfl (by kernel_rfl) ?_
 refine⟨[],nofun,ha.use ⟨⟨rfl,rfl,rfl,trivial⟩,trivial⟩ rfl rfl ?_⟩
 exact al Iff.rfl
def l8:T->Int
 | .leaf ..=>-1
 | .one _ _ a=>if a.shaped then -1 else 0
 | .two _ _ a b=>if a.shaped then (if b.shaped then -1 else 1) else 0
theorem NV (t:T):0<=l8 t↔¬ t.ln=true:=by
 cases t with
 | leaf=>simp[l8,T.ln]
 | one o n a=>cases h:a.shaped<;>simp[l8,T.ln,h]
 | two o n a b=>cases h:a.shaped<;>cases h2:b.shaped<;>simp[l8,T.ln,h,h2]
theorem lr (t:T) (hi:aj gT 153 [.sl 3 (cz t),JD] (.int .i64 (l8 t))):aj gT 144 [.sl 3 (cz t),JD] (.bool (¬ t.ln=true)):=by
 refine Spec.enter ao P2 100 Tryz.func144 rfl (by kernel_rfl) ?_
 refine⟨[],nofun,hi.use ⟨rfl,trivial,trivial⟩ rfl rfl ?_⟩
 exact al (NV t)
theorem Fo (o n:Int)  :aj gT 153 [.sl 3 (cz (.leaf o n )),JD] (.int .i64 (l8 (.leaf o n ))):=by
 refine Spec.enter ao uu 100 Tryz.func153 rfl (by kernel_rfl) ?_
 refine fun _=>SW.rounds ao uu (by kernel_rfl) (N:=60) 3 ?_
 refine⟨fun h=>absurd (show (0:Int) < 0 from h) (by decide),fun _=>?_⟩
 refine al ?_
 exact (show (-1:Int)=l8 _ by simp[l8])
theorem JE (o n:Int) (a:T) (ha:aj gT 152 [jc a] (.bool (¬ a.shaped=true))):aj gT 153 [.sl 3 (cz (.one o n a)),JD] (.int .i64 (l8 (.one o n a))):=by
 refine Spec.enter ao uu 100 Tryz.func153 rfl (by kernel_rfl) ?_
 refine fun _=>SW.rounds ao uu (by kernel_rfl) (N:=60) 3 ?_
 refine⟨fun _=>?_,fun h=>absurd (show (0:Int) < 1 by decide) h⟩
 refine⟨T,[a],jc,rfl,(show (0:Int)<=0 by decide),(show (0:Int) < 1 by decide),fun x hx=>?_⟩
 obtain rfl:a=x:=Option.some.inj hx
 refine⟨[],nofun,ha.use ⟨⟨rfl,rfl,rfl,trivial⟩,trivial⟩ rfl rfl ?_⟩
 refine⟨fun s0=>?_,fun s0=>?_⟩
 ·refine al ?_
  exact (show (0:Int)=l8 _ by simp[l8,s0])
 replace s0:=Classical.not_not.1 s0
 refine⟨fun h=>absurd (show (1:Int) < 1 from h) (by decide),fun _=>?_⟩
 refine al ?_
 exact (show (-1:Int)=l8 _ by simp[l8,s0])
theorem JF (o n:Int) (a b:T) (ha:aj gT 152 [jc a] (.bool (¬ a.shaped=true))) (hb:aj gT 152 [jc b] (.bool (¬ b.shaped=true))):aj gT 153 [.sl 3 (cz (.two o n a b)),JD] (.int .i64 (l8 (.two o n a b))):=by
 refine Spec.enter ao uu 100 Tryz.func153 rfl (by kernel_rfl) ?_
 refine fun _=>SW.rounds ao uu (by kernel_rfl) (N:=60) 3 ?_
 refine⟨fun _=>?_,fun h=>absurd (show (0:Int) < 2 by decide) h⟩
 refine⟨T,[a,b],jc,rfl,(show (0:Int)<=0 by decide),(show (0:Int) < 2 by decide),fun x hx=>?_⟩
 obtain rfl:a=x:=Option.some.inj hx
 refine⟨[],nofun,ha.use ⟨⟨rfl,rfl,rfl,trivial⟩,trivial⟩ rfl rfl ?_⟩
 refine⟨fun s0=>?_,fun s0=>?_⟩
 ·refine al ?_
  exact (show (0:Int)=l8 _ by simp[l8,s0])
 replace s0:=Classical.not_not.1 s0
 refine⟨fun _=>?_,fun h=>absurd (show (1:Int) < 2 by decide) h⟩
 refine⟨T,[a,b],jc,rfl,(show (0:Int)<=1 by decide),(show (1:Int) < 2 by decide),fun x hx=>?_⟩
 obtain rfl:b=x:=Option.some.inj hx
 refine⟨[],nofun,hb.use ⟨⟨rfl,rfl,rfl,trivial⟩,trivial⟩ rfl rfl ?_⟩
 refine⟨fun s1=>?_,fun s1=>?_⟩
 ·refine al ?_
  exact (show (1:Int)=l8 _ by simp[l8,s0,s1])
 replace s1:=Classical.not_not.1 s1
 refine⟨fun h=>absurd (show (2:Int) < 2 from h) (by decide),fun _=>?_⟩
 refine al ?_
 exact (show (-1:Int)=l8 _ by simp[l8,s0,s1])
theorem k8:∀ t:T,t.Wf->aj gT 143 [jc t] (.bool (t.shaped=true))
 | .leaf o n,h=>om _ h (lr _ (Fo o n))
 | .one o n a,h=>om _ h.1 (lr _ (JE o n a (mQ a (k8 a h.2))))
 | .two o n a b,h=>om _ h.1 (lr _ (JF o n a b (mQ a (k8 a h.2.1)) (mQ b (k8 b h.2.2))))
theorem C6 (t:T) (h:t.Wf) (hs:t.size<=16384):aj gT 126 [jc t] (.bool (t.shaped=true)):=by
 refine Spec.enter ao Ug 100 Tryz.func126 rfl (by kernel_rfl) ?_
 refine⟨[],nofun,(kA t (by omega)).use ⟨⟨rfl,rfl,rfl,trivial⟩,trivial⟩ rfl rfl ?_⟩
 refine⟨fun _=>?_,fun h=>absurd (show (t.size:Int)<=16384 by omega) h⟩
 refine⟨[],nofun,(k8 t h).use ⟨⟨rfl,rfl,rfl,trivial⟩,trivial⟩ rfl rfl ?_⟩
 exact al Iff.rfl
theorem dP (n lo hi:Int):aj gT 88 [.int .i64 n,.int .i64 lo,.int .i64 hi,.tt] (.bool (lo<=n/\n<=hi)):=by
 refine Spec.enter ao P88 100 Tryz.func88 rfl (by kernel_rfl) ?_
 refine⟨fun h1=>?_,fun h1=>?_⟩
 ·refine al ?_
  exact (show n<=hi↔lo<=n/\n<=hi from ⟨fun h=>⟨h1,h⟩,fun h=>h.2⟩)
 ·refine al ?_
  exact (show ¬ (lo<=n/\n<=hi) from fun h=>h1 h.1)
theorem dQ (n lo hi:Int):aj gT 88 [.int .i64 n,.int .i64 lo,.int .i64 hi,.ff] (.bool (n=0)):=by
 refine Spec.enter ao P88 100 Tryz.func88 rfl (by kernel_rfl) ?_
 exact al Iff.rfl
theorem wU (t:T):fI t=true↔(t.op≠2\/t.num < 254)/\∀ x∈ij t,fI x=true:=by
 cases t<;>simp[fI,ij,T.op,T.num]
theorem JG (t:T) (h:aj gT 127 [jc t] (.bool (fI t=true))):aj gT 145 [jc t] (.bool (¬ fI t=true)):=by
 refine Spec.enter ao P145 100 Tryz.func145 rfl (by kernel_rfl) ?_
 refine h.u ?_
 exact al Iff.rfl
theorem C7:∀ t:T,aj gT 127 [jc t] (.bool (fI t=true)):=T.lZ fun t ih=>by
 have hh:=Rw (ij t) (fun x=>¬ fI x=true) fun x hx=>JG x (ih x hx)
 rw[← wq] at hh
 have e:(¬ ∃ x∈ij t,¬ fI x=true)↔∀ x∈ij t,fI x=true:=⟨fun h x hx=>Classical.not_not.1 fun hn=>h ⟨x,hx,hn⟩,fun h ⟨x,hx,hn⟩=>hn (h x hx)⟩
 refine Spec.enter ao P127 100 Tryz.func127 rfl (by kernel_rfl) ?_
 refine⟨fun h1=>?_,fun h1=>And.intro (fun h2=>?_) (fun h2=>?_)⟩
 ·refine hh.u ?_
  refine al ?_
  exact (show (¬ ∃ x∈ij t,¬ fI x=true)↔fI t=true by rw[e,wU]; exact⟨fun h=>⟨.inl h1,h⟩,fun h=>h.2⟩)
 ·refine hh.u ?_
  refine al ?_
  exact (show (¬ ∃ x∈ij t,¬ fI x=true)↔fI t=true by rw[e,wU]; exact⟨fun h=>⟨.inr h2,h⟩,fun h=>h.2⟩)
 ·refine al ?_
  exact (show ¬ fI t=true by rw[wU]; exact fun h=>h.1.elim h1 h2)
theorem dR (t:T) (h:t.Wf) (hs:t.size<=16384):aj gT 89 [jc t,.tt] (.bool (cK t true=true)):=by
 refine Spec.enter ao P89 100 Tryz.func89 rfl (by kernel_rfl) ?_
 have e:cK t true=true↔t.shaped=true/\fI t=true:=by simp[cK]
 refine (C6 t h hs).u ?_
 refine⟨fun h1=>?_,fun h1=>?_⟩
 ·refine (C7 t).u ?_
  refine al ?_
  exact (show fI t=true↔cK t true=true by rw[e]; exact⟨fun h=>⟨h1,h⟩,fun h=>h.2⟩)
 ·refine al ?_
  exact (show ¬ cK t true=true by rw[e]; exact fun h=>h1 h.1)
theorem dT (t:T):aj gT 89 [jc t,.ff] (.bool (cK t false=true)):=by
 have e:cK t false=true↔t.op=0/\t.num=0/\t.kids=0:=by simp[cK]
 have hk:=ze t
 refine Spec.enter ao P89 100 Tryz.func89 rfl (by kernel_rfl) ?_
 refine⟨fun h1=>And.intro (fun h2=>fun _=>?_) (fun h2=>?_),fun h1=>?_⟩
 ·refine al ?_
  exact (show ((cz t).length:Int)=0↔cK t false=true by rw[e]; exact⟨fun h=>⟨h1,h2,by omega⟩,fun h=>by omega⟩)
 ·refine al ?_
  exact (show ¬ cK t false=true by rw[e]; exact fun h=>h2 h.2.1)
 ·refine al ?_
  exact (show ¬ cK t false=true by rw[e]; exact fun h=>h1 h.1)
theorem wV (t:T) (hs:t.size<=1000000):aj gT 87 [jc t] (.int .i64 (ju t)):=by
 refine Spec.enter ao P87 100 Tryz.func87 rfl (by kernel_rfl) ?_
 refine⟨fun h1=>?_,fun h1=>?_⟩
 ·refine al ?_
  exact (show (0:Int)=(ju t:Nat) by rw[ju,if_pos h1]; rfl)
 ·refine (kA t hs).u ?_
  refine al ?_
  exact (show (t.size:Int)=(ju t:Nat) by rw[ju,if_neg h1])
theorem Fp:∀ c:C,c.wT (fun t=>t.size<=1000000)->cN c<=1000000->aj gT 47 [bx c] (.int .i64 (cN c)):=C.lZ fun c ih hT hS=>by
 obtain⟨ha,hb,hTl⟩:=(C.C2 c).1 hT
 have hc:=rT c
 have hlen:=Hk c.l
 have ek:(jO c).length=c.l.length:=by rw[dF,List.length_map]
 refine Spec.enter ao P47 100 Tryz.func47 rfl (by kernel_rfl) ?_
 refine (wV c.a ha).u ?_
 refine li ?_
 refine (wV c.b hb).u ?_
 refine li ?_
 refine fun _=>SW.ko ao P47 (by kernel_rfl) (fun i:Nat=>[(17,.int .i64 i),(3,.int .i64 (1+(ju c.a:Int)+(ju c.b:Int)+(pP (c.l.take i):Int)))]) (fun i=>c.l.length - i) 0 60 ?_ fun i=>?_
 ·repeat' first|exact trivial|exact rfl|refine And.intro ?_ ?_
 have hle:=ua c.l i
 refine⟨fun h=>?_,fun h=>?_⟩
 ·have h':(i:Int) < ((jO c).length:Nat):=h
  refine⟨C,c.l,bx,dF c,show (0:Int)<=(i:Int) by omega,show (i:Int) < (c.l.length:Int) by omega,fun x hx=>?_⟩
  have dE:c.l[i]?=some x:=hx
  have hm:=List.mem_of_getElem? dE
  have hcm:=AB hm
  have ht:=NU dE
  have ht2:=ua c.l (i+1)
  refine (ih x hm (tj hTl x hm) (by omega)).u ?_
  refine li ?_
  refine .inl ⟨aG (by omega),⟨i+1,by omega,?_⟩⟩
  repeat' first|exact trivial|exact rfl|refine And.intro ?_ ?_
  exact (show _+_=1+(ju c.a:Int)+(ju c.b:Int)+(pP (c.l.take (i+1)):Int) by rw[ht]; omega)
 ·have h':¬ (i:Int) < ((jO c).length:Nat):=h
  refine al ?_
  exact (show 1+(ju c.a:Int)+(ju c.b:Int)+(pP (c.l.take i):Int)=(cN c:Int) by rw[List.take_of_length_le (by omega),hc]; omega)
def RC (x:Int × Int × Int):Prop:=¬ x.1=2\/x.2.1 < 254
theorem mR:∀ t:T,fI t=true↔∀ x∈t.nodes,RC x
 | .leaf o n=>by simp[fI,T.nodes,RC]
 | .one o n a=>by simp[fI,T.nodes,RC,mR a]
 | .two o n a b=>by
  simp only[fI,Bool.and_eq_true,decide_eq_true_eq,mR a,mR b,T.nodes,List.mem_cons,List.mem_append]
  refine⟨fun ⟨h1,h2,h3⟩ x hx=>?_,fun h=>⟨h _ (.inl rfl),fun x hx=>h x (.inr (.inl hx)),fun x hx=>h x (.inr (.inr hx))⟩⟩
  rcases hx with rfl|hx|hx
  ·exact h1
  ·exact h2 x hx
  ·exact h3 x hx
theorem MT.term {t:T} (h:MT t):((∀ x∈gq t,RC x)/\(gq t).length≠0/\(∀ x∈gq t,nf x=true)/\(gq t).length<=16384)↔cK t true=true:=by
 obtain⟨_,h2,h3⟩:=h.cases
 have e:cK t true=true↔t.shaped=true/\fI t=true:=by simp[cK]
 rw[e]
 rcases h3 with ⟨rfl,h3⟩|⟨h4,h3⟩
 ·rw[h3]
  exact⟨fun hh=>absurd rfl hh.2.1,fun hh=>absurd hh.1 (by decide)⟩
 ·rw[h3,T.fP,mR,← T.jW,List.all_eq_true]
  have:1<=t.size:=by cases t<;>simp[T.size]<;>omega
  exact⟨fun hh=>⟨hh.2.2.1,hh.1⟩,fun hh=>⟨hh.2,by omega,hh.1,by omega⟩⟩
theorem MT.none {t:T} (h:MT t):(gq t).length=0↔cK t false=true:=by
 obtain⟨_,h2,h3⟩:=h.cases
 have e:cK t false=true↔t.op=0/\t.num=0/\t.kids=0:=by simp[cK]
 rw[e]
 rcases h3 with ⟨rfl,h3⟩|⟨h4,h3⟩
 ·rw[h3]; exact⟨fun _=>⟨rfl,rfl,rfl⟩,fun _=>rfl⟩
 ·rw[h3,T.fP]
  have:1<=t.size:=by cases t<;>simp[T.size]<;>omega
  exact⟨fun hh=>by omega,fun hh=>absurd hh.1 h4⟩
theorem Hm:∀ l:List C,ta l=true↔∀ x∈l,gM x=true
 | []=>by simp[ta]
 | c::l=>by simp[ta,Hm l]
theorem RD (c:C):gM c=true↔(1<=c.kind/\c.kind<=6)/\((c.kind=1->0<=c.eX/\c.eX<=2147483647/\0<=c.eY/\c.eY<=2147483647)/\(¬ c.kind=1->c.eX=0/\c.eY=0)/\(c.kind=4->4<=c.word/\c.word<=253)/\(¬ c.kind=4->c.word=0)/\(c.kind=5->0<=c.size/\c.size<=1024)/\(¬ c.kind=5->c.size=0))
  /\ ((c.kind=1\/c.kind=6->(c.l.length:Int)=0)/\(c.kind=2->(c.l.length:Int)<=2147483647)/\(c.kind=3->(c.l.length:Int)=2)/\(c.kind=4\/c.kind=5->(c.l.length:Int)=1))
  /\ ((3<=c.kind->cK c.a true=true)/\(c.kind < 3->cK c.a false=true))/\((c.kind=4\/c.kind=6->cK c.b true=true)/\(¬ (c.kind=4\/c.kind=6)->cK c.b false=true))/\∀ x∈c.l,gM x=true:=by
 rw[Au,← Hm]
 refine and_congr_right fun hk=>and_congr ?_ (and_congr ?_ (and_congr ?_ (and_congr ?_ Iff.rfl)))
 ·simp only[pK,uD,Bool.and_eq_true]
  by_cases h1:c.kind=1<;>by_cases h4:c.kind=4<;>by_cases h5:c.kind=5<;>simp[h1,h4,h5]<;>omega
 ·unfold qo wv
  repeat' split
  all_goals omega
 ·by_cases h:3<=c.kind
  ·rw[decide_eq_true h]; exact⟨fun hh=>⟨fun _=>hh,fun h'=>by omega⟩,fun hh=>hh.1 h⟩
  ·rw[decide_eq_false h]; exact⟨fun hh=>⟨fun h'=>absurd h' h,fun _=>hh⟩,fun hh=>hh.2 (by omega)⟩
 ·by_cases h:c.kind=4\/c.kind=6
  ·rw[decide_eq_true h]; exact⟨fun hh=>⟨fun _=>hh,fun h'=>absurd h h'⟩,fun hh=>hh.1 h⟩
  ·rw[decide_eq_false h]; exact⟨fun hh=>⟨fun h'=>absurd h' h,fun _=>hh⟩,fun hh=>hh.2 h⟩
theorem x5 (c:C) (h:aj gT 48 [bx c] (.bool (gM c=true))):aj gT 91 [bx c] (.bool (¬ gM c=true)):=by
 refine Spec.enter ao P91 100 Tryz.func91 rfl (by kernel_rfl) ?_
 refine h.u ?_
 exact al Iff.rfl
theorem Tg {k:Int} (h1:¬ k < 1) (h2:¬ 6 < k) {p:Prop} (a:k=1->p) (b:k=2->p) (c:k=3->p) (d:k=4->p) (e:k=5->p) (f:k=6->p):p:=by
 rcases (by omega:k=1\/k=2\/k=3\/k=4\/k=5\/k=6) with h|h|h|h|h|h
 ·exact a h
 ·exact b h
 ·exact c h
 ·exact d h
 ·exact e h
 ·exact f h
theorem AD:∀ c:C,c.wT MT->cN c<=1000000->aj gT 48 [bx c] (.bool (gM c=true)):=C.lZ fun c ih hT hN=>by
 obtain⟨ha,hb,hTl⟩:=(C.C2 c).1 hT
 have hc:=rT c
 have hh:=Hg c.l (fun x=>¬ gM x=true) fun x hx=>x5 x (ih x hx (tj hTl x hx) (by have:=AB hx; omega))
 rw[← dF] at hh
 have ek:(jO c).length=c.l.length:=by rw[dF,List.length_map]
 have S:=RD c
 obtain⟨KL,Zr⟩:∃ KL,KL = ∀ x∈c.l,gM x=true:=⟨_,rfl⟩
 rw[← Zr] at S
 have e:(∃ x∈c.l,¬ gM x=true) = ¬ KL:=propext (by rw[Zr]; exact⟨fun ⟨x,hx,hn⟩ h=>hn (h x hx),fun h=>Classical.byContradiction fun hn=>h fun x hx=>Classical.byContradiction fun h'=>hn ⟨x,hx,h'⟩⟩)
 rw[e] at hh
 obtain⟨LN,hLN⟩:∃ LN:Int,LN=((jO c).length:Int):=⟨_,rfl⟩
 rw[← ek,← hLN] at S
 clear e Zr ih hTl hT
 obtain⟨SC,hSC⟩:∃ SC,SC=(gM c=true):=⟨_,rfl⟩
 rw[← hSC] at S ⊢
 refine Spec.enter ao P48 100 Tryz.func48 rfl (by kernel_rfl) ?_
 refine⟨fun h1=>?_,fun h1=>And.intro (fun h2=>?_) (fun h2=>?_)⟩
 ·refine al ?_
  exact (show ¬ SC by grind)
 ·refine al ?_
  exact (show ¬ SC by grind)
 refine Tg h1 h2 (fun hk=>?_) (fun hk=>?_) (fun hk=>?_) (fun hk=>?_) (fun hk=>?_) (fun hk=>?_)
 ·simp only[hk] at S
  simp at S
  refine⟨by omega,by omega,.inl ⟨1,hk,?_⟩⟩
  repeat' (first
   | refine And.intro (fun _=>?_) (fun _=>?_)
   | refine⟨[],az,(dP _ _ _).use ⟨rfl,rfl,rfl,trivial,trivial⟩ rfl rfl ?_⟩
   | refine⟨[],az,(dQ _ _ _).use ⟨rfl,rfl,rfl,trivial,trivial⟩ rfl rfl ?_⟩
   | refine⟨[],az,(dR _ ha.wf ha.small).use ⟨⟨rfl,rfl,rfl,trivial⟩,trivial,trivial⟩ rfl rfl ?_⟩
   | refine⟨[],az,(dR _ hb.wf hb.small).use ⟨⟨rfl,rfl,rfl,trivial⟩,trivial,trivial⟩ rfl rfl ?_⟩
   | refine⟨[],az,(dT _).use ⟨⟨rfl,rfl,rfl,trivial⟩,trivial,trivial⟩ rfl rfl ?_⟩
   | refine⟨[],az,(hh).use ⟨rfl,trivial,trivial⟩ rfl rfl ?_⟩
   | (refine al ?_; first|exact (show ¬ SC by grind)|exact (show _↔SC by grind))
   | intro _)
 ·simp only[hk] at S
  simp at S
  refine⟨by omega,by omega,.inl ⟨2,hk,?_⟩⟩
  repeat' (first
   | refine And.intro (fun _=>?_) (fun _=>?_)
   | refine⟨[],az,(dP _ _ _).use ⟨rfl,rfl,rfl,trivial,trivial⟩ rfl rfl ?_⟩
   | refine⟨[],az,(dQ _ _ _).use ⟨rfl,rfl,rfl,trivial,trivial⟩ rfl rfl ?_⟩
   | refine⟨[],az,(dR _ ha.wf ha.small).use ⟨⟨rfl,rfl,rfl,trivial⟩,trivial,trivial⟩ rfl rfl ?_⟩
   | refine⟨[],az,(dR _ hb.wf hb.small).use ⟨⟨rfl,rfl,rfl,trivial⟩,trivial,trivial⟩ rfl rfl ?_⟩
   | refine⟨[],az,(dT _).use ⟨⟨rfl,rfl,rfl,trivial⟩,trivial,trivial⟩ rfl rfl ?_⟩
   | refine⟨[],az,(hh).use ⟨rfl,trivial,trivial⟩ rfl rfl ?_⟩
   | (refine al ?_; first|exact (show ¬ SC by grind)|exact (show _↔SC by grind))
   | intro _)
 ·simp only[hk] at S
  simp at S
  refine⟨by omega,by omega,.inl ⟨3,hk,?_⟩⟩
  repeat' (first
   | refine And.intro (fun _=>?_) (fun _=>?_)
   | refine⟨[],az,(dP _ _ _).use ⟨rfl,rfl,rfl,trivial,trivial⟩ rfl rfl ?_⟩
   | refine⟨[],az,(dQ _ _ _).use ⟨rfl,rfl,rfl,trivial,trivial⟩ rfl rfl ?_⟩
   | refine⟨[],az,(dR _ ha.wf ha.small).use ⟨⟨rfl,rfl,rfl,trivial⟩,trivial,trivial⟩ rfl rfl ?_⟩
   | refine⟨[],az,(dR _ hb.wf hb.small).use ⟨⟨rfl,rfl,rfl,trivial⟩,trivial,trivial⟩ rfl rfl ?_⟩
   | refine⟨[],az,(dT _).use ⟨⟨rfl,rfl,rfl,trivial⟩,trivial,trivial⟩ rfl rfl ?_⟩
   | refine⟨[],az,(hh).use ⟨rfl,trivial,trivial⟩ rfl rfl ?_⟩
   | (refine al ?_; first|exact (show ¬ SC by grind)|exact (show _↔SC by grind))
   | intro _)
 ·simp only[hk] at S
  simp at S
  refine⟨by omega,by omega,.inl ⟨4,hk,?_⟩⟩
  repeat' (first
   | refine And.intro (fun _=>?_) (fun _=>?_)
   | refine⟨[],az,(dP _ _ _).use ⟨rfl,rfl,rfl,trivial,trivial⟩ rfl rfl ?_⟩
   | refine⟨[],az,(dQ _ _ _).use ⟨rfl,rfl,rfl,trivial,trivial⟩ rfl rfl ?_⟩
   | refine⟨[],az,(dR _ ha.wf ha.small).use ⟨⟨rfl,rfl,rfl,trivial⟩,trivial,trivial⟩ rfl rfl ?_⟩
   | refine⟨[],az,(dR _ hb.wf hb.small).use ⟨⟨rfl,rfl,rfl,trivial⟩,trivial,trivial⟩ rfl rfl ?_⟩
   | refine⟨[],az,(dT _).use ⟨⟨rfl,rfl,rfl,trivial⟩,trivial,trivial⟩ rfl rfl ?_⟩
   | refine⟨[],az,(hh).use ⟨rfl,trivial,trivial⟩ rfl rfl ?_⟩
   | (refine al ?_; first|exact (show ¬ SC by grind)|exact (show _↔SC by grind))
   | intro _)
 ·simp only[hk] at S
  simp at S
  refine⟨by omega,by omega,.inl ⟨5,hk,?_⟩⟩
  repeat' (first
   | refine And.intro (fun _=>?_) (fun _=>?_)
   | refine⟨[],az,(dP _ _ _).use ⟨rfl,rfl,rfl,trivial,trivial⟩ rfl rfl ?_⟩
   | refine⟨[],az,(dQ _ _ _).use ⟨rfl,rfl,rfl,trivial,trivial⟩ rfl rfl ?_⟩
   | refine⟨[],az,(dR _ ha.wf ha.small).use ⟨⟨rfl,rfl,rfl,trivial⟩,trivial,trivial⟩ rfl rfl ?_⟩
   | refine⟨[],az,(dR _ hb.wf hb.small).use ⟨⟨rfl,rfl,rfl,trivial⟩,trivial,trivial⟩ rfl rfl ?_⟩
   | refine⟨[],az,(dT _).use ⟨⟨rfl,rfl,rfl,trivial⟩,trivial,trivial⟩ rfl rfl ?_⟩
   | refine⟨[],az,(hh).use ⟨rfl,trivial,trivial⟩ rfl rfl ?_⟩
   | (refine al ?_; first|exact (show ¬ SC by grind)|exact (show _↔SC by grind))
   | intro _)
 ·simp only[hk] at S
  simp at S
  refine⟨by omega,by omega,.inl ⟨6,hk,?_⟩⟩
  repeat' (first
   | refine And.intro (fun _=>?_) (fun _=>?_)
   | refine⟨[],az,(dP _ _ _).use ⟨rfl,rfl,rfl,trivial,trivial⟩ rfl rfl ?_⟩
   | refine⟨[],az,(dQ _ _ _).use ⟨rfl,rfl,rfl,trivial,trivial⟩ rfl rfl ?_⟩
   | refine⟨[],az,(dR _ ha.wf ha.small).use ⟨⟨rfl,rfl,rfl,trivial⟩,trivial,trivial⟩ rfl rfl ?_⟩
   | refine⟨[],az,(dR _ hb.wf hb.small).use ⟨⟨rfl,rfl,rfl,trivial⟩,trivial,trivial⟩ rfl rfl ?_⟩
   | refine⟨[],az,(dT _).use ⟨⟨rfl,rfl,rfl,trivial⟩,trivial,trivial⟩ rfl rfl ?_⟩
   | refine⟨[],az,(hh).use ⟨rfl,trivial,trivial⟩ rfl rfl ?_⟩
   | (refine al ?_; first|exact (show ¬ SC by grind)|exact (show _↔SC by grind))
   | intro _)
theorem MT.one {t:T} (h:MT t) (h1:cK t true=true):¬ ((((gq t).map nP).length:Nat):Int)=0:=by
 rw[List.length_map]
 have:=(h.term.2 h1).2.1
 omega
theorem MT.nil {t:T} (h:MT t):((((gq t).map nP).length:Nat):Int)=0↔cK t false=true:=by
 rw[List.length_map,← h.none]; omega
theorem C8 (c:C) (hT:c.wT MT) (hT2:c.wT fun t=>t.size<=1000000) (hN:cN c<=1000000):aj gT 23 [bx c] (.bool (cN c<=16384/\gM c=true)):=by
 refine Spec.enter ao P23 100 Tryz.func23 rfl (by kernel_rfl) ?_
 refine (Fp c hT2 hN).u ?_
 refine⟨fun h=>?_,fun h=>?_⟩
 ·refine (AD c hT hN).u ?_
  refine al ?_
  exact (show gM c=true↔_ from ⟨fun hh=>⟨by omega,hh⟩,fun hh=>hh.2⟩)
 ·refine al ?_
  exact (show ¬ (cN c<=16384/\gM c=true) from fun hh=>h (show (cN c:Int)<=16384 by omega))
open Classical in
theorem JH (b:List Int) (hb:pq b) (hl:b.length<=2000) (w:WK) (hI:bX w.at_) (he:w.e=0) (a t:Int):Spec gT 21 [.ptr 0 0,.sl 17 [D7 (qq a t)]] [gO b w] [] fun y S'=>y=bx (aq [nR b w a t])/\S' = [gO b (jn b w a t)]:=by
 have hs:=NR b hb hl w hI a t
 have hj:=NS (RB.one hl hI a t)
 generalize nR b w a t=c at *
 generalize jn b w a t=w2 at *
 refine Spec.rf (Spec.enter ao P21 100 Tryz.func21 rfl (by kernel_rfl) ?_)
 refine fun _=>?_
 refine SW.rounds ao P21 (by kernel_rfl) (N:=60) 3 ?_
 refine⟨fun _=>?_,fun h=>absurd (show (0:Int) < 1 by decide) h⟩
 refine⟨PV,[D7 (qq a t)],id,rfl,Int.le_refl _,(show (0:Int) < 1 by decide),fun x hx=>?_⟩
 obtain rfl:D7 (qq a t)=x:=by cases hx; rfl
 refine⟨fun h=>absurd he h,fun _=>?_⟩
 refine (hs).e ?_
 refine⟨fun h=>absurd (show (1:Int) < 1 from h) (by decide),fun _=>?_⟩
 refine⟨[],az,hj.ic [4] rfl (by repeat' first|exact trivial|exact rfl|exact Iff.rfl|exact Or.inl rfl|refine And.intro ?_ ?_) rfl rfl ?_⟩
 exact rS
def kN (a:Int):WK:=⟨a,False,0,False,False,0⟩
theorem JI (b:List Int) (hb:pq b) (hl:b.length<=2000) (a t:Int) (hI:bX a) (he:(jn b (kN a) a t).e=0) (hlast:(jn b (kN a) a t).last) {cy mi:Int} (h0:0 < cy/\0<=mi/\cy<=2147483647/\mi<=2147483647) (hc:nR b (kN a) a t=ak cy mi):aj gT 7 [.sl 1 (uC b),.int .i64 a,.sl 17 [D7 (qq a t)]] (.tup [bx (ak cy mi),.int .i64 (jn b (kN a) a t).at_,.int .i64 0]):=by
 have hs:=JH b hb hl (kN a) hI rfl a t
 rw[hc,wQ h0.1] at hs
 have hr:aj gT 23 [bx (ak cy mi)] (.bool (cN (ak cy mi)<=16384/\gM (ak cy mi)=true)):=C8 (ak cy mi) ⟨.zero,.zero,trivial⟩ ⟨by decide,by decide,trivial⟩ (show 1<=1000000 by decide)
 generalize jn b (kN a) a t=w2 at *
 refine Spec.enter ao P7 100 Tryz.func7 rfl (by kernel_rfl) ?_
 refine⟨[],az,(hs).Cz [1] rfl rfl rfl (by repeat' first|exact trivial|exact rfl|exact Iff.rfl|refine And.intro ?_ ?_) (And.intro (by first|(show fT _ _; exact ah rfl rfl)|(repeat' first|exact trivial|exact rfl|exact Iff.rfl|exact Or.inl rfl|exact not_false|refine And.intro ?_ ?_)) ?_)⟩
 refine⟨fun h1=>fun _=>And.intro (fun _=>?_) (fun h=>absurd (show (0:Int) < 1 by decide) h),fun h1=>absurd hlast h1⟩
 refine fun _=>?_
 refine li ?_ (show _<=(1:Int) - 1/\(1:Int) - 1<=_ by omega)
 refine⟨PV,[D7 (qq a t)],id,rfl,(show (0:Int)<=max (1 - 1) 0 by decide),(show max ((1:Int) - 1) 0 < 1 by decide),fun x hx=>?_⟩
 obtain rfl:D7 (qq a t)=x:=by cases hx; rfl
 refine⟨[],az,(rO b w2).Cz [1] rfl rfl rfl (by repeat' first|exact trivial|exact rfl|exact Iff.rfl|refine And.intro ?_ ?_) (And.intro (by first|(show fT _ _; exact ah rfl rfl)|(repeat' first|exact trivial|exact rfl|exact Iff.rfl|exact Or.inl rfl|exact not_false|refine And.intro ?_ ?_)) ?_)⟩
 refine⟨fun h=>absurd he h,fun _=>?_⟩
 refine hr.u ?_
 have hsh:gM (ak cy mi)=true:=by
  have e:pK 1 cy mi 0 0=true:=by
   unfold pK uD
   simp
   omega
  unfold ak gM
  rw[e]
  decide
 refine⟨fun h=>absurd (show cN (ak cy mi)<=16384/\gM (ak cy mi)=true from ⟨(show 1<=16384 by decide),hsh⟩) h,fun _=>?_⟩
 exact rA
end Go.Proofs.YtnbhdacpogplgaaGreatDoor.Pw

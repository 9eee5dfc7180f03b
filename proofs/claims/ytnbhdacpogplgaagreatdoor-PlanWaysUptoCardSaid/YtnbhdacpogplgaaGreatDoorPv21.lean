/- What this claim is proved with: no condition. -/
import Derived.Test.YtnbhdacpogplgaaGreatDoorPv19
import Derived.Test.YtnbhdacpogplgaaGreatDoorPv17
import Derived.Test.YtnbhdacpogplgaaGreatDoorPv20
set_option linter.unusedVariables false
set_option linter.unusedSimpArgs false
namespace Go.Proofs.YtnbhdacpogplgaaGreatDoor.Pw
open Go Go.RowKit
structure WY where
 ws:List Int
 tr:List (Int × Prop)
 aw:Int
 ck:Int
 fuel:Int
def WY.fin (y:WY):Prop:=y.ck≠0\/y.fuel < 0
noncomputable def aK (b:List Int) (y:WY) (n:Int) (tk:Prop):WY:=if eA b n≠0 then { y with fuel:=-1 } else { y with fuel:=y.fuel - 1,tr:=y.tr++[(n,tk)] }
noncomputable def r_ (b:List Int) (n:Int):Int:=if eA b n≠0 then n else n+max (aX (iA b n).form) 2
def jQ (ws:List Int) (t:T):Int:=(t.bo ws).getD 0
open Classical in
noncomputable def bU (y:WY) (t:T):WY:=if t.bo y.ws=none/\¬ y.fin then { y with ck:=2 } else y
open Classical in
noncomputable def mW (y:WY) (d:DV):WY :=
 if (bU y d.a).fin then bU y d.a
 else { bU (bU y d.a) d.b with aw:=(bU y d.a).aw+(divC (jQ y.ws d.a) (jQ (bU y d.a).ws d.b) - 2) }
noncomputable def jR (b:List Int) (n:Int) (y:WY) (ds:List DV):WY × List DV :=
 if (iA b n).form=97 then match ds with
  | []=>(aK b y n False,[])
  | d::l=>(mW (aK b y n False) d,l)
 else (aK b y n False,ds)
open Classical in
noncomputable def mX (b:List Int) (till:Int):Nat->Int->WY->List DV->WY
 | 0,_,y,_=>y
 | k+1,n,y,ds=>if n < till/\¬ y.fin then mX b till k (r_ b n) (jR b n y ds).1 (jR b n y ds).2 else y
open Classical in
noncomputable def mY (b:List Int) (h:SH) (y:WY):WY :=
 if 0 < h.size/\(cJ h.A).bo y.ws=none then { y with ck:=3 }
 else if (0 < h.size/\h.size<=jQ y.ws (cJ h.A))\/(h.size=0/\((cJ h.A).bo y.ws=none\/jQ y.ws (cJ h.A)=0)) then
  { aK b (aK b y h.fr True) h.stub False with ck:=if 0 < h.size then 1 else 2 }
 else aK b y h.fr False
open Classical in
noncomputable def iu (b:List Int) (h:SH) (BD EL:WY->WY) (y:WY):WY :=
 if (cJ h.A).bo y.ws=none then { aK b y h.fr False with ck:=3 }
 else if jQ y.ws (cJ h.A)=0 then EL (aK b y h.fr True)
 else if 0<=h.skip/\¬ (BD (aK b y h.fr False)).fin then aK b (BD (aK b y h.fr False)) h.skip True else BD (aK b y h.fr False)
def WY.put (y:WY) (n:Nat) (v:Int):WY:={ y with ws:=y.ws.set n v }
open Classical in
noncomputable def mZ (b:List Int) (h:SH) (high iO:Int) (HD BD:WY->WY):Nat->Int->WY->WY
 | 0,_,y=>y
 | k+1,i,y =>
  if y.fin then y else
  if (HD (y.put h.word.toNat (if i < high then i else iO))).fin then HD (y.put h.word.toNat (if i < high then i else iO)) else
  if i < high then
   mZ b h high iO HD BD k (i+1) (if (BD (aK b (HD (y.put h.word.toNat i)) h.stub False)).fin then BD (aK b (HD (y.put h.word.toNat i)) h.stub False) else aK b (BD (aK b (HD (y.put h.word.toNat i)) h.stub False)) h.skip True)
  else aK b (HD (y.put h.word.toNat iO)) h.stub True
open Classical in
noncomputable def lf (b:List Int) (h:SH) (HD BD:WY->WY) (y:WY):WY :=
 if (cJ h.A).bo y.ws=none\/(cJ h.B).bo y.ws=none then { y with ck:=3 }
 else mZ b h (jQ y.ws (cJ h.B)) ((y.ws[h.word.toNat]?).getD 0) HD BD (y.fuel+2).toNat (jQ y.ws (cJ h.A)) y
noncomputable def JY (b:List Int) (h:SH) (HD BD EL:WY->WY) (y:WY):WY :=
 if h.kind=1 then mX b h.till (y.fuel+2).toNat h.fr y (h.aw.map eg)
 else if h.kind=2 then mY b h y
 else if h.kind=3 then iu b h BD EL y
 else if h.kind=4 then lf b h HD BD y
 else y
open Classical in
mutual
noncomputable def x_ (b:List Int):ST->WY->WY
 | .mk h hd bd el=>JY b h (fun y=>bY b hd y) (fun y=>bY b bd y) (fun y=>bY b el y)
noncomputable def bY (b:List Int):List ST->WY->WY
 | [],y=>y
 | s::l,y=>if y.fin then y else bY b l (x_ b s y)
end
theorem vi (b:List Int) (s:ST):x_ b s=JY b s.h (bY b s.hd) (bY b s.bd) (bY b s.el):=by cases s; rfl
structure BF where
 full:Prop
 line:Int
noncomputable def eZ (b:List Int) (B:BF) (n:Int):Int:=open Classical in rE B.full B.line (134217728+n) (aX (iA b n).form)
noncomputable def zq (b:List Int) (n:Int):BF:=⟨True,wm (134217728+n) (aX (iA b n).form)⟩
noncomputable def dt (b:List Int) (n:Int) (tk:Prop):Int:=open Classical in ig (iA b n) tk 0 0
noncomputable def AN (b:List Int) (wt:Int) (a:BF × Int) (x:Int × Prop):BF × Int:=(zq b x.1,a.2+dt b x.1 x.2+eZ b a.1 x.1*wt)
noncomputable def dL (b:List Int) (wt:Int) (tr:List (Int × Prop)):BF × Int:=tr.foldl (AN b wt) (⟨False,0⟩,0)
theorem tw (b:List Int) (wt:Int) (tr:List (Int × Prop)) (x:Int × Prop):dL b wt (tr++[x])=AN b wt (dL b wt tr) x:=by
 unfold dL
 rw[List.foldl_append]
 rfl
noncomputable def iH (b:List Int) (wt:Int) (y:WY):Int:=y.aw+(dL b wt y.tr).2
def jS (b:List Int) (W:WK):Prop:=W.aO->W.full/\W.line=wm (134217728+W.at_) (aX (iA b W.at_).form)
def Pd (ws:List Int):Prop:=ws.length=254/\∀ v∈ws,0<=v/\v<=4294967295
structure jg (b:List Int) (wt:Int) (W:WK) (y:WY) (r:R):Prop where
 ws:r.ws=y.ws
 wk:Pd y.ws
 rt:r.ck=0
 re:r.e=0
 yt:y.ck=0
 yf:0<=y.fuel/\y.fuel<=3000
 cy:0<=(dL b wt y.tr).2/\(dL b wt y.tr).2<=40*(3000 - y.fuel)
 dv:0<=y.aw/\y.aw<=10*(3000 - y.fuel)
 RE:jS b W
 yes:W.aO->r.sum=iH b wt y+eZ b (dL b wt y.tr).1 W.at_*wt
 no:¬ W.aO->r.sum=iH b wt y/\(W.full↔(dL b wt y.tr).1.full)/\W.line=(dL b wt y.tr).1.line
def Out (b:List Int) (wt:Int) (W:WK) (y:WY) (r:R):Prop:=y.fuel < 0\/y.ck=3\/((y.ck=1\/y.ck=2)/\r.ck=y.ck/\r.sum=iH b wt y)\/jg b wt W y r
theorem jg.j1 {b:List Int} {wt:Int} {W:WK} {y:WY} {r:R} (h:jg b wt W y r):¬ r.fin=true/\¬ y.fin:=by
 refine⟨?_,fun k=>?_⟩
 ·unfold R.fin
  rw[h.rt,h.re]
  decide
 ·rcases k with k|k
  ·exact k h.yt
  ·have:=h.yf; omega
theorem jg.bd {b:List Int} {wt:Int} {W:WK} {y:WY} {r:R} (h:jg b wt W y r) (ca:0<=wt/\wt<=7):0<=r.sum/\r.sum<=1000000:=by
 have h1:=h.cy
 have h2:=h.dv
 have h3:=h.yf
 by_cases k:W.aO
 ·have h4:=h.yes k
  have hm:0<=eZ b (dL b wt y.tr).1 W.at_/\eZ b (dL b wt y.tr).1 W.at_<=2:=by
   unfold eZ rE gm
   repeat' split
   all_goals omega
  have h5:=Int.mul_nonneg hm.1 ca.1
  have h6:eZ b (dL b wt y.tr).1 W.at_*wt<=2*wt:=Int.mul_le_mul_of_nonneg_right hm.2 ca.1
  unfold iH at h4
  omega
 ·have h4:=(h.no k).1
  unfold iH at h4
  omega
theorem jg.same {b:List Int} {wt:Int} {W W':WK} {y:WY} {r:R} (h:jg b wt W y r) (h1:W.aO) (h2:W'.aO) (h3:W'.at_=W.at_) (h4:jS b W'):jg b wt W' y r :=
 ⟨h.ws,h.wk,h.rt,h.re,h.yt,h.yf,h.cy,h.dv,h4,fun _=>by rw[h3]; exact h.yes h1,fun k=>absurd h2 k⟩
theorem jg.cast {b:List Int} {wt:Int} {W W':WK} {y:WY} {r:R} (h:jg b wt W y r) (h1:W'.at_=W.at_) (h2:W'.full=W.full) (h3:W'.line=W.line) (h4:W'.aO=W.aO):jg b wt W' y r:=by
 obtain⟨a,f,l,g,la,e⟩:=W
 obtain⟨a',f',l',g',la',e'⟩:=W'
 cases h1; cases h2; cases h3; cases h4
 exact⟨h.ws,h.wk,h.rt,h.re,h.yt,h.yf,h.cy,h.dv,h.RE,h.yes,h.no⟩
theorem sc (b:List Int) (B:BF) (n:Int):0<=eZ b B n/\eZ b B n<=2:=by
 unfold eZ rE gm
 repeat' split
 all_goals omega
theorem kI {m wt:Int} (hm:0<=m/\m<=2) (ca:0<=wt/\wt<=7):0<=m*wt/\m*wt<=14:=by
 have h5:=Int.mul_nonneg hm.1 ca.1
 have h6:m*wt<=2*wt:=Int.mul_le_mul_of_nonneg_right hm.2 ca.1
 omega
theorem sd {b:List Int} {n:Int} (h:eA b n=0) (tk:Prop):1<=dt b n tk/\dt b n tk<=20:=by
 obtain⟨_,hr,JA⟩:=bN h
 obtain⟨r0,r1⟩:=js hr JA
 exact @wL (iA b n) tk (Classical.propDecidable _) 0 0 ⟨by decide,by decide⟩ ⟨by decide,by decide⟩ r0 r1
theorem iv (r:R) {n:Int} (h:r.sum+n<=18446744073709551615):r.add n = { r with sum:=r.sum+n }:=by
 show ({ r with sum:=min (r.sum+n) 18446744073709551615 }:R)=_
 rw[Int.min_eq_left h]
theorem jg.next {b:List Int} {wt:Int} (ca:0<=wt/\wt<=7) {W:WK} {y:WY} {r:R} (h:jg b wt W y r) (he:(cf b W).e=0) (tk:Prop):(aK b y W.at_ tk).fuel < 0\/(jg b wt (cf b W) (aK b y W.at_ tk) (r.add (dt b W.at_ tk+cw b W*wt))/\(aK b y W.at_ tk).aw=y.aw/\(aK b y W.at_ tk).fuel=y.fuel - 1/\¬ (cf b W).aO):=by
 obtain⟨e1,e2,e3⟩:=vc he
 have hs:aK b y W.at_ tk = { y with fuel:=y.fuel - 1,tr:=y.tr++[(W.at_,tk)] }:=if_neg (fun k=>k e2)
 rw[hs]
 by_cases hf:y.fuel - 1 < 0
 ·exact .inl hf
 refine .inr ?_
 have tO:aE W (eA b W.at_=0)=W:=bu e2
 have hb:=sd e2 tk
 have hcy:=h.cy
 have Qa:=h.dv
 have hyf:=h.yf
 have xK:=h.bd ca
 have Ti:=kI (sc b (dL b wt y.tr).1 W.at_) ca
 have ZD:∀ z,(dL b wt (y.tr++[(W.at_,tk)])).2=z->z=(dL b wt y.tr).2+dt b W.at_ tk+eZ b (dL b wt y.tr).1 W.at_*wt:=fun z hz=>by
  rw[← hz,tw]; rfl
 have RS:(dL b wt (y.tr++[(W.at_,tk)])).1=zq b W.at_:=by rw[tw]; rfl
 have hs2:=ZD _ rfl
 by_cases hW:W.aO
 ·have en:cw b W=0:=by unfold cw; rw[tO,if_neg (fun k=>k e1),if_pos hW]
  have ew:cf b W = { W with aO:=False,at_:=W.at_+aX (iA b W.at_).form }:=by unfold cf; rw[tO,if_neg (fun k=>k e1),if_pos hW]
  obtain⟨f1,f2⟩:=h.RE hW
  have hy:=h.yes hW
  rw[en,ew]
  have ea:r.add (dt b W.at_ tk+0*wt) = { r with sum:=r.sum+(dt b W.at_ tk+0*wt) }:=iv r (by omega)
  rw[ea]
  refine⟨⟨h.ws,h.wk,h.rt,h.re,h.yt,(by show 0<=y.fuel - 1/\y.fuel - 1<=3000; omega),?_,(by show 0<=y.aw/\y.aw<=10*(3000 - (y.fuel - 1)); omega),fun k=>k.elim,fun k=>k.elim,fun _=>⟨?_,?_,?_⟩⟩,rfl,rfl,id⟩
  ·show 0<=(dL b wt (y.tr++[(W.at_,tk)])).2/\(dL b wt (y.tr++[(W.at_,tk)])).2<=40*(3000 - (y.fuel - 1))
   omega
  ·show r.sum+(dt b W.at_ tk+0*wt)=y.aw+(dL b wt (y.tr++[(W.at_,tk)])).2
   unfold iH at hy
   omega
  ·show W.full↔(dL b wt (y.tr++[(W.at_,tk)])).1.full
   rw[RS]
   exact⟨fun _=>trivial,fun _=>f1⟩
  ·show W.line=(dL b wt (y.tr++[(W.at_,tk)])).1.line
   rw[RS]
   exact f2
 ·have en:cw b W=dG W W.at_ (aX (iA b W.at_).form):=by unfold cw; rw[tO,if_neg (fun k=>k e1),if_neg hW]
  have ew:cf b W = { xY W W.at_ (aX (iA b W.at_).form) with aO:=False,at_:=W.at_+aX (iA b W.at_).form }:=by unfold cf; rw[tO,if_neg (fun k=>k e1),if_neg hW]
  obtain⟨hy,f1,f2⟩:=h.no hW
  have Tk:dG W W.at_ (aX (iA b W.at_).form)=eZ b (dL b wt y.tr).1 W.at_:=by
   unfold dG eZ
   have hfp:W.full=(dL b wt y.tr).1.full:=propext f1
   rw[f2]
   congr 1
  rw[en,ew,Tk]
  have ea:r.add (dt b W.at_ tk+eZ b (dL b wt y.tr).1 W.at_*wt) = { r with sum:=r.sum+(dt b W.at_ tk+eZ b (dL b wt y.tr).1 W.at_*wt) }:=iv r (by omega)
  rw[ea]
  refine⟨⟨h.ws,h.wk,h.rt,h.re,h.yt,(by show 0<=y.fuel - 1/\y.fuel - 1<=3000; omega),?_,(by show 0<=y.aw/\y.aw<=10*(3000 - (y.fuel - 1)); omega),fun k=>k.elim,fun k=>k.elim,fun _=>⟨?_,?_,?_⟩⟩,rfl,rfl,id⟩
  ·show 0<=(dL b wt (y.tr++[(W.at_,tk)])).2/\(dL b wt (y.tr++[(W.at_,tk)])).2<=40*(3000 - (y.fuel - 1))
   omega
  ·show r.sum+(dt b W.at_ tk+eZ b (dL b wt y.tr).1 W.at_*wt)=y.aw+(dL b wt (y.tr++[(W.at_,tk)])).2
   unfold iH at hy
   omega
  ·show True↔(dL b wt (y.tr++[(W.at_,tk)])).1.full
   rw[RS]
   exact⟨fun _=>trivial,fun _=>trivial⟩
  ·show wm (134217728+W.at_) (aX (iA b W.at_).form)=(dL b wt (y.tr++[(W.at_,tk)])).1.line
   rw[RS]
   rfl
theorem jg.pR {b:List Int} {wt:Int} (ca:0<=wt/\wt<=7) {W:WK} {y:WY} {r:R} (h:jg b wt W y r) (he:(aD b W).e=0):jg b wt (aD b W) y (r.add (0+bC b W*wt))/\(aD b W).aO:=by
 have mV:=dq he
 have xK:=h.bd ca
 have Ti:=kI (sc b (dL b wt y.tr).1 W.at_) ca
 by_cases hW:W.aO
 ·have ew:aD b W=W:=by unfold aD; rw[if_pos hW]
  have en:bC b W=0:=by unfold bC; rw[if_pos hW]
  rw[ew,en]
  have ea:r.add (0+0*wt)=r:=by rw[iv r (by omega),show r.sum+(0+0*wt)=r.sum by omega]
  rw[ea]
  exact⟨h,hW⟩
 ·have cH:eA b W.at_=0:=by
   unfold aD at he
   rw[if_neg hW,if_neg (fun k=>k mV)] at he
   by_cases k:(aE W (eA b W.at_=0)).e≠0
   ·rw[if_pos k] at he; exact absurd he k
   ·exact (oh k).1
  have tO:aE W (eA b W.at_=0)=W:=bu cH
  have ew:aD b W = { xY W W.at_ (aX (iA b W.at_).form) with aO:=True }:=by unfold aD; rw[if_neg hW,if_neg (fun k=>k mV),tO,if_neg (fun k=>k mV)]
  have en:bC b W=dG W W.at_ (aX (iA b W.at_).form):=by unfold bC; rw[if_neg hW,if_neg (fun k=>k mV),tO,if_neg (fun k=>k mV)]
  obtain⟨hy,f1,f2⟩:=h.no hW
  have Tk:dG W W.at_ (aX (iA b W.at_).form)=eZ b (dL b wt y.tr).1 W.at_:=by
   unfold dG eZ
   have hfp:W.full=(dL b wt y.tr).1.full:=propext f1
   rw[f2]
   congr 1
  rw[ew,en,Tk,iv r (by omega)]
  refine⟨⟨h.ws,h.wk,h.rt,h.re,h.yt,h.yf,h.cy,h.dv,fun _=>⟨trivial,rfl⟩,fun _=>?_,fun k=>(k trivial).elim⟩,trivial⟩
  show r.sum+(0+eZ b (dL b wt y.tr).1 W.at_*wt)=iH b wt y+eZ b (dL b wt y.tr).1 W.at_*wt
  omega
theorem tx {b:List Int} {n:Int} (h:(iA b n).form=46\/(iA b n).form=99):dt b n True=3/\dt b n False=1:=by
 have hc:bA (iA b n).form=1:=by rcases h with h|h<;>rw[h]<;>rfl
 unfold dt
 rw[@uV _ True (Classical.propDecidable _) 0 0 hc,@uV _ False (Classical.propDecidable _) 0 0 hc,if_pos trivial,if_neg id]
 exact⟨rfl,rfl⟩
theorem zr {b:List Int} {n:Int} (h:(iA b n).form=47\/(iA b n).form=100) (tk:Prop):dt b n tk=3:=by
 have hc:bA (iA b n).form=2:=by rcases h with h|h<;>rw[h]<;>rfl
 unfold dt
 rw[@uW _ tk (Classical.propDecidable _) 0 0 hc]
theorem JZ {b:List Int} {n:Int} (h:(iA b n).form=45) (tk:Prop):dt b n tk=1:=by
 have hc:bA (iA b n).form=0:=by rw[h]; rfl
 unfold dt
 rw[@G8 _ tk (Classical.propDecidable _) 0 0 hc]
theorem Oq {b:List Int} {n:Int} (h:eA b n=0):dz b n=dt b n False:=by
 unfold dz dt
 rw[if_pos h]
 congr
theorem jg.br {b:List Int} {wt:Int} (ca:0<=wt/\wt<=7) {W:WK} {y:WY} {r:R} (h:jg b wt W y r) {c:Int} (he:(cu b W c).e=0) (tk:Prop):(aK b y W.at_ tk).fuel < 0\/(jg b wt (cu b W c) (aK b y W.at_ tk) (r.add (dt b W.at_ tk+kO b W*wt))/\¬ (cu b W c).aO):=by
 obtain⟨h1,h2,h3,h4,h5⟩:=jv he
 have e1:aE W (¬ W.last)=W:=bu h5
 have e2:cu b W c=cf b W:=by unfold cu; rw[e1,bu h4]
 have e3:kO b W=cw b W:=by unfold kO; rw[e1]
 rw[e2] at he ⊢
 rw[e3]
 rcases h.next ca he tk with k|⟨k1,_,_,k2⟩
 ·exact .inl k
 ·exact .inr ⟨k1,k2⟩
theorem add_add (r:R) {a c:Int} (h:r.sum+a<=18446744073709551615) (h2:r.sum+a+c<=18446744073709551615):(r.add a).add c=r.add (a+c):=by
 have h3:r.sum+(a+c)<=18446744073709551615:=by omega
 rw[iv r h,iv r h3]
 have h4:({ r with sum:=r.sum+a }:R).sum+c<=18446744073709551615:=h2
 rw[iv _ h4]
 show ({ r with sum:=r.sum+a+c }:R) = { r with sum:=r.sum+(a+c) }
 rw[Int.add_assoc]
theorem bZ {wt:Int} {c:C} {l:List C} {r:R} (h:¬ r.fin=true):bE wt (c::l) r=bE wt l (eR wt c r):=by rw[bE,if_neg h]
theorem iw {wt:Int} {r:R}:bE wt [] r=r:=by rw[bE]
theorem j3 {r:R} (h:r.ck≠0):r.fin=true:=by unfold R.fin; exact decide_eq_true (.inl h)
theorem se {b:List Int} {till:Int} {y:WY} (h:y.fin):∀ (k:Nat) (n:Int) (ds:List DV),mX b till k n y ds=y
 | 0,_,_=>rfl
 | k+1,n,ds=>by rw[mX,if_neg (fun q=>q.2 h)]
theorem ZE (a:Int):divC a 0=2:=by unfold divC; rw[if_pos (.inl rfl)]
theorem AO {a b:Int} (ha:a<=4294967295) (hb:b<=4294967295):2<=divC a b/\divC a b<=11:=by
 have h1:=oc ha
 have h2:=oc hb
 unfold divC
 split<;>omega
theorem ZF (a b:Int):pr a b=divC a b:=rfl
theorem Pd.words {ws:List Int} (h:Pd ws):rC ws:=⟨by rw[h.1]; omega,h.2⟩
theorem Pd.ev {ws:List Int} (h:Pd ws) {t:T} (ht:t.Wf):0<=jQ ws t/\jQ ws t<=4294967295:=by
 unfold jQ
 cases he:t.bo ws with
 | none=>exact⟨by decide,by decide⟩
 | some v=>exact T.eL h.words ht he
theorem Dv (b:List Int) (y:WY) (n:Int) (tk:Prop):(aK b y n tk).ws=y.ws:=by unfold aK; split<;>rfl
theorem xj {b:List Int} {till:Int}:∀ (k:Nat) (x R0:eN),runN b till k x=R0->∃ ext,R0.out=x.out++ext/\True
 | 0,x,R0,h=>⟨[],by rw[← h,runN,List.append_nil],trivial⟩
 | k+1,x,R0,h=>by
  have hi:∃ ext,(aY b x).out=x.out++ext:=by
   unfold aY
   simp only
   split
   ·exact⟨_,rfl⟩
   ·split
    ·exact⟨_,rfl⟩
    ·split
     ·exact⟨_,rfl⟩
     ·exact⟨_,List.append_assoc ..⟩
  obtain⟨e1,h1⟩:=hi
  rw[runN] at h
  split at h
  ·split at h
   ·exact⟨e1,by rw[← h,h1],trivial⟩
   ·obtain⟨e2,h2,_⟩:=xj k (aY b x) R0 h
    exact⟨e1++e2,by rw[h2,h1,List.append_assoc],trivial⟩
  ·exact⟨[],by rw[← h,List.append_nil],trivial⟩
set_option maxHeartbeats 1000000 in
theorem AP {b:List Int} {wt:Int} (ca:0<=wt/\wt<=7) {till:Int}:∀ (k:Nat) (x:eN) (R0:eN),runN b till k x=R0->R0.w.e=0->R0.aw = []->uE till x < k->(∀ c∈x.out,k7 c)->(∀ d∈x.aw,d.a.Wf/\d.b.Wf) ->
  ∀ (y:WY) (r:R) (kd:Nat),Pd y.ws->jg b wt x.w y r->(y.fuel+2).toNat<=kd->∃ ext,R0.out=x.out++ext/\Out b wt R0.w (mX b till kd x.w.at_ y x.aw) (bE wt ext r)
 | 0,x,R0,_,_,_,hf,_,_,_,_,_,_,_,_=>by omega
 | k+1,x,R0,hR,mV,F',hf,ho,hdw,y,r,kd,hw,hS,hkd=>by
  rw[runN] at hR
  by_cases hc:x.w.at_ < till/\x.w.e=0
  ·rw[if_pos hc] at hR
   have jk:=l7 (b:=b) ho
   by_cases hb:CX b x
   ·rw[if_pos hb] at hR
    exfalso
    rw[← hR] at mV
    obtain⟨b1,b2⟩:=hb
    unfold aY at mV
    simp only at mV
    rw[if_neg (fun q=>q b1)] at mV
    split at mV
    ·exact absurd (show (201:Int)=0 from mV) (by decide)
    ·rename_i d l uo
     rw[uo] at b2
     rw[if_pos b2] at mV
     exact absurd (show (201:Int)=0 from mV) (by decide)
   rw[if_neg hb] at hR
   have hie:(aY b x).w.e=0:=(qw k (aY b x) jk.1 (by rw[hR]; exact mV)).1
   obtain⟨i1,i2,i3,i4⟩:=vd hie
   have NG:=oX (b:=b) hc
   have e1:aE x.w (¬ x.w.last)=x.w:=bu i3
   
   have sg:(aY b x).w.full=(cf b x.w).full/\(aY b x).w.line=(cf b x.w).line/\(aY b x).w.aO=(cf b x.w).aO/\(aY b x).w.at_=(cf b x.w).at_:=by
    unfold aY
    simp only
    rw[e1]
    split
    ·exact⟨rfl,rfl,rfl,rfl⟩
    ·split
     ·exact⟨rfl,rfl,rfl,rfl⟩
     ·split<;>exact⟨rfl,rfl,rfl,rfl⟩
   have cH:(cf b x.w).e=0:=by
    by_cases hz:(cf b x.w).e=0
    ·exact hz
    ·exfalso
     have:(aY b x).w.e≠0:=by
      unfold aY
      simp only
      rw[e1]
      have hnz:(aE (cf b x.w) (¬ Fi (iA b x.w.at_).form/\(iA b x.w.at_).form≠45)).e≠0:=fun q=>hz (aU q).2
      split
      ·exact hnz
      ·split
       ·show (201:Int)≠0; decide
       ·split
        ·show (201:Int)≠0; decide
        ·exact hnz
     exact this hie
   have hnx:=hS.next ca cH False
   have hyf:=hS.yf
   have xK:=hS.bd ca
   obtain⟨kd',jC⟩:∃ kd',kd=kd'+1:=⟨kd - 1,by omega⟩
   have ya:=hS.j1
   have hsn:r_ b x.w.at_=(aY b x).w.at_:=by
    have hs:=gV (bN i1).2.1
    unfold r_
    rw[if_neg (fun q=>q i1),i4]
    omega
   rw[jC,mX,if_pos ⟨hc.1,ya.2⟩,hsn]
   have Gq:=sd i1 False
   have yj:=kI (xf b x.w) ca
   have um:aK b y x.w.at_ False = { y with fuel:=y.fuel - 1,tr:=y.tr++[(x.w.at_,False)] }:=if_neg (fun q=>q i1)
   by_cases E_:(iA b x.w.at_).form≠97
   ·
    have eo:(aY b x).out=x.out++[ak (dz b x.w.at_) (cw b x.w)]/\(aY b x).aw=x.aw:=by
     unfold aY
     simp only
     rw[if_pos E_,e1]
     exact⟨rfl,rfl⟩
    have ey:jR b x.w.at_ y x.aw=(aK b y x.w.at_ False,x.aw):=if_neg E_
    rw[ey]
    have lJ:eR wt (ak (dz b x.w.at_) (cw b x.w)) r=r.add (dt b x.w.at_ False+cw b x.w*wt):=by
     rw[iQ rfl,Oq i1.symm.symm]
     rfl
    rcases hnx with gh|⟨hS1,hd1,O1,_⟩
    ·obtain⟨ext,LH⟩:∃ ext,R0.out=(aY b x).out++ext:=by
      obtain⟨ext,q,_⟩:=xj k (aY b x) R0 hR
      exact⟨ext,q⟩
     refine⟨[ak (dz b x.w.at_) (cw b x.w)]++ext,by rw[LH,eo.1,List.append_assoc],.inl ?_⟩
     rw[se (.inr gh)]
     exact gh
    ·have Dw:jg b wt (aY b x).w (aK b y x.w.at_ False) (r.add (dt b x.w.at_ False+cw b x.w*wt)):=hS1.cast sg.2.2.2 sg.1 sg.2.1 sg.2.2.1
     obtain⟨ext,q1,q2⟩:=AP ca k (aY b x) R0 hR mV F' (by omega) jk.1 (by rw[eo.2]; exact hdw) (aK b y x.w.at_ False) _ kd' (by rw[Dv]; exact hw) Dw (by rw[O1]; omega)
     refine⟨[ak (dz b x.w.at_) (cw b x.w)]++ext,by rw[q1,eo.1,List.append_assoc],?_⟩
     rw[List.singleton_append,bZ ya.1,lJ]
     rw[eo.2] at q2
     exact q2
   ·have AA:(iA b x.w.at_).form=97:=Classical.not_not.1 E_
    obtain⟨d,l,uo⟩:∃ d l,x.aw=d::l:=by
     cases hx:x.aw with
     | nil=>exact absurd ⟨AA,by rw[hx]; trivial⟩ hb
     | cons d l=>exact⟨d,l,rfl⟩
    have hda:¬ d.at_≠x.w.at_:=fun q=>hb ⟨AA,by rw[uo]; exact q⟩
    have eo:(aY b x).out=x.out++[ak (dz b x.w.at_) (cw b x.w)]++[di d]/\(aY b x).aw=l:=by
     unfold aY
     simp only
     rw[if_neg E_,e1,uo]
     simp only
     rw[if_neg hda]
     exact⟨rfl,rfl⟩
    have ey:jR b x.w.at_ y x.aw=(mW (aK b y x.w.at_ False) d,l):=by unfold jR; rw[if_pos AA,uo]
    rw[ey]
    obtain⟨wa,wb⟩:=hdw d (by rw[uo]; exact List.mem_cons_self ..)
    have lJ:eR wt (ak (dz b x.w.at_) (cw b x.w)) r=r.add (dt b x.w.at_ False+cw b x.w*wt):=by
     rw[iQ rfl,Oq i1.symm.symm]
     rfl
    have hdiv:∀ q:R,eR wt (di d) q=pt (di d) q:=fun q=>by rw[jd]; rfl
    obtain⟨ZG,SS⟩:∃ ext,R0.out=(aY b x).out++ext:=by
     obtain⟨ext,q,_⟩:=xj k (aY b x) R0 hR
     exact⟨ext,q⟩
    have AQ:∀ ext,R0.out=(aY b x).out++ext->R0.out=x.out++([ak (dz b x.w.at_) (cw b x.w)]++([di d]++ext)):=fun ext q=>by rw[q,eo.1]; simp only[List.append_assoc]
    rcases hnx with gh|⟨hS1,hd1,O1,hnfe⟩
    ·refine⟨_,AQ ZG SS,.inl ?_⟩
     have jI:(aK b y x.w.at_ False).fin:=.inr gh
     have e2:bU (aK b y x.w.at_ False) d.a=aK b y x.w.at_ False:=by unfold bU; rw[if_neg (fun q=>q.2 jI)]
     have e3:mW (aK b y x.w.at_ False) d=aK b y x.w.at_ False:=by unfold mW; rw[e2,if_pos jI]
     rw[e3,se jI]
     exact gh
    ·have Dw:jg b wt (aY b x).w (aK b y x.w.at_ False) (r.add (dt b x.w.at_ False+cw b x.w*wt)):=hS1.cast sg.2.2.2 sg.1 sg.2.1 sg.2.2.1
     have hnf2:¬ (aY b x).w.aO:=by rw[sg.2.2.1]; exact hnfe
     have Sw:Pd (aK b y x.w.at_ False).ws:=by rw[Dv]; exact hw
     generalize aK b y x.w.at_ False=y1 at *
     have Dx:=Dw.j1
     have hS2s:=(Dw.no hnf2).1
     have hrw:(r.add (dt b x.w.at_ False+cw b x.w*wt)).ws=y1.ws:=Dw.ws
     have Fy:∀ t:T,(r.add (dt b x.w.at_ False+cw b x.w*wt)).val t=jQ y1.ws t:=fun t=>by unfold R.val jQ; rw[hrw]
     have hbd1:=Dw.bd ca
     have hyf1:=Dw.yf
     have hdv1:=Dw.dv
     have hdvy:=hS.dv
     
     generalize kM:r.add (dt b x.w.at_ False+cw b x.w*wt)=r1 at *
     have cA:∀ ext,bE wt ([ak (dz b x.w.at_) (cw b x.w)]++([di d]++ext)) r=bE wt ext (pt (di d) r1):=fun ext=>by
      rw[List.singleton_append,bZ ya.1,lJ,List.singleton_append,bZ Dx.1,hdiv]
     have HC:∀ t:T,(r1.cb t) = { r1 with ck:=if (t.bo y1.ws).isSome then r1.ck else 2 }:=fun t=>by unfold R.cb; rw[hrw]
     cases ha:d.a.bo y1.ws with
     | none =>
      have e2:bU y1 d.a = { y1 with ck:=2 }:=by unfold bU; rw[if_pos ⟨ha,Dx.2⟩]
      have jI:({ y1 with ck:=2 }:WY).fin:=.inl (show (2:Int)≠0 by decide)
      have e3:mW y1 d = { y1 with ck:=2 }:=by unfold mW; rw[e2,if_pos jI]
      have e4:r1.cb d.a = { r1 with ck:=2 }:=by rw[HC,ha]; rfl
      have e5:pt (di d) r1 = { r1 with ck:=2 }:=by
       unfold pt
       rw[show (di d).a=d.a from rfl,e4,if_pos (j3 (show (2:Int)≠0 by decide))]
      refine⟨_,AQ ZG SS,?_⟩
      rw[e3,se jI,cA,e5,fm (j3 (show (2:Int)≠0 by decide))]
      exact .inr (.inr (.inl ⟨.inr rfl,rfl,hS2s⟩))
     | some va =>
      have e2:bU y1 d.a=y1:=by unfold bU; rw[ha,if_neg (fun q=>by cases q.1)]
      have e4:r1.cb d.a=r1:=by rw[HC,ha]; rfl
      have ZH:jQ y1.ws d.a=va:=by unfold jQ; rw[ha]; rfl
      cases hbv:d.b.bo y1.ws with
      | none =>
       have e3:mW y1 d = { y1 with ck:=2 }:=by
        unfold mW
        rw[e2,if_neg Dx.2]
        have e6:bU y1 d.b = { y1 with ck:=2 }:=by unfold bU; rw[if_pos ⟨hbv,Dx.2⟩]
        have e7:jQ y1.ws d.b=0:=by unfold jQ; rw[hbv]; rfl
        rw[e6,e7,ZE]
        show ({ y1 with ck:=2,aw:=y1.aw+(2 - 2) }:WY)=_
        rw[show y1.aw+(2 - 2)=y1.aw by omega]
       have jI:({ y1 with ck:=2 }:WY).fin:=.inl (show (2:Int)≠0 by decide)
       have e8:r1.cb d.b = { r1 with ck:=2 }:=by rw[HC,hbv]; rfl
       have e5:pt (di d) r1 = { r1 with ck:=2 }:=by
        unfold pt
        rw[show (di d).a=d.a from rfl,show (di d).b=d.b from rfl,e4,if_neg Dx.1,e8,if_pos (j3 (show (2:Int)≠0 by decide))]
       refine⟨_,AQ ZG SS,?_⟩
       rw[e3,se jI,cA,e5,fm (j3 (show (2:Int)≠0 by decide))]
       exact .inr (.inr (.inl ⟨.inr rfl,rfl,hS2s⟩))
      | some vb =>
       have ZI:jQ y1.ws d.b=vb:=by unfold jQ; rw[hbv]; rfl
       have hva:=Sw.ev wa
       have hvb:=Sw.ev wb
       rw[ZH] at hva
       rw[ZI] at hvb
       have Zn:=AO hva.2 hvb.2
       have e3:mW y1 d = { y1 with aw:=y1.aw+(divC va vb - 2) }:=by
        unfold mW
        have e6:bU y1 d.b=y1:=by unfold bU; rw[hbv,if_neg (fun q=>by cases q.1)]
        rw[e2,if_neg Dx.2,e6,ZH,ZI]
       have e8:r1.cb d.b=r1:=by rw[HC,hbv]; rfl
       have e5:pt (di d) r1 = { r1 with sum:=r1.sum+(divC va vb - 2) }:=by
        unfold pt
        rw[show (di d).a=d.a from rfl,show (di d).b=d.b from rfl,e4,if_neg Dx.1,e8,if_neg Dx.1,Fy,Fy,ZH,ZI,ZF]
        exact iv _ (by omega)
       have hS3:jg b wt (aY b x).w { y1 with aw:=y1.aw+(divC va vb - 2) } { r1 with sum:=r1.sum+(divC va vb - 2) }:=by
        refine⟨Dw.ws,Dw.wk,Dw.rt,Dw.re,Dw.yt,Dw.yf,Dw.cy,?_,Dw.RE,fun q=>absurd q hnf2,fun q=>?_⟩
        ·show 0<=y1.aw+(divC va vb - 2)/\y1.aw+(divC va vb - 2)<=10*(3000 - y1.fuel)
         omega
        ·obtain⟨z1,z2⟩:=Dw.no q
         refine⟨?_,z2⟩
         unfold iH at z1 ⊢
         show r1.sum+(divC va vb - 2)=y1.aw+(divC va vb - 2)+(dL b wt y1.tr).2
         omega
       obtain⟨ext,q1,q2⟩:=AP ca k (aY b x) R0 hR mV F' (by omega) jk.1 (by rw[eo.2]; exact fun d' xC=>hdw d' (by rw[uo]; exact List.mem_cons_of_mem _ xC)) { y1 with aw:=y1.aw+(divC va vb - 2) } { r1 with sum:=r1.sum+(divC va vb - 2) } kd' Sw hS3 (by show (y1.fuel+2).toNat<=kd'; omega)
       refine⟨_,AQ ext q1,?_⟩
       rw[e3,cA,e5]
       rw[eo.2] at q2
       exact q2
  ·rw[if_neg hc] at hR
   subst hR
   have z7:¬ x.w.at_ < till:=fun q=>hc ⟨q,mV⟩
   refine⟨[],(List.append_nil _).symm,?_⟩
   have hstop:mX b till kd x.w.at_ y x.aw=y:=by
    cases kd with
    | zero=>rfl
    | succ kd=>rw[mX,if_neg (fun q=>z7 q.1)]
   rw[hstop,iw]
   exact .inr (.inr (.inr hS))
theorem fN {B wt:Int} (ca:0<=wt/\wt<=7) {l:List C} (h:g_ B l) {r:R} (hr:r.sum<=1000000) (hf:¬ r.fin=true):eR wt (aq l) r=bE wt l r:=by
 rw[Jw ca.1 h.flat r (by omega) hf,jd]
 rfl
theorem gx (wt cy mi:Int) (r:R):eR wt (ak cy mi) r=r.add (cy+mi*wt):=iQ rfl r
theorem xk {r:R} {y:WY} (h:r.ws=y.ws) (t:T):r.val t=jQ y.ws t:=by unfold R.val jQ; rw[h]
theorem xl {r:R} {t:T} {v:Int} (h:t.bo r.ws=some v):r.cb t=r:=by
 unfold R.cb
 rw[h]
 rfl
theorem J0 {b:List Int} {n:Int} (h:eA b n=0) (y:WY) (tk:Prop):aK b y n tk = { y with fuel:=y.fuel - 1,tr:=y.tr++[(n,tk)] }:=if_neg (fun k=>k h)
set_option maxHeartbeats 1000000 in
theorem J1 {b:List Int} {wt:Int} (ca:0<=wt/\wt<=7) (h:SH) (hs:0<=h.size/\h.size<=1024) {W:WK} {y:WY} {r:R} (hS:jg b wt W y r) (pD:h.fr=W.at_) (he:(cl b h W).e=0):Out b wt (cl b h W) (mY b h y) (eR wt (iV b h W) r):=by
 obtain⟨⟨k45,_⟩,PO⟩:=aU he
 obtain⟨kst,Bs⟩:=aU PO
 obtain⟨kto,he3⟩:=aU Bs
 have eW:cl b h W=cu b W (if h.size≠0 then 2 else 0):=by
  unfold cl
  rw[bu kto,bu kst,bu (by exact (aU he).1)]
 have eC:iV b h W=aq [ak 0 (kO b W),db h (dG (cl b h W) h.stub (aX (iA b h.stub).form)),ak 1 0]:=if_neg (fun k=>k he)
 have tL:(if h.size≠0 then (2:Int) else 0)≠-1:=by split<;>decide
 obtain⟨c1,c2,c3,c4,c5⟩:=jv he3
 have Dy:(iA b W.at_).form=46\/(iA b W.at_).form=99:=by
  rcases c4 with k|k
  ·exact absurd k.1 tL
  ·exact k.2.1
 obtain⟨bT,bF⟩:=tx Dy
 have xM:=JZ k45 False
 have NK:=fL b W
 have Ti:=jr (cl b h W) h.stub (aX (iA b h.stub).form)
 rw[eC]
 have ss:dG (cl b h W) h.stub (aX (iA b h.stub).form)=dG (cu b W (if h.size≠0 then 2 else 0)) h.stub (aX (iA b h.stub).form):=by rw[eW]
 rw[eW]
 rw[ss] at Ti
 clear ss eC PO Bs he eW
 have tZ:=fun tk=>hS.br ca he3 tk
 have ya:=hS.j1
 have xK:=hS.bd ca
 have hyf:=hS.yf
 generalize cu b W (if h.size≠0 then 2 else 0)=W1 at *
 generalize hm:dG W1 h.stub (aX (iA b h.stub).form)=m at *
 generalize kO b W=n at *
 have tO:=kI NK ca
 have Tk:=kI Ti ca
 have Dm:g_ 8 [ak 0 n,db h m,ak 1 0]:=((Wd.flat (Int.le_refl 0) NK.1).cons ((Wd.one (c:=db h m) (show (5:Int)≠1 by decide) (show (5:Int)≠2 by decide)).cons ((Wd.flat (show (0:Int)<=1 by decide) (Int.le_refl 0)).cons .nil))).more (by omega)
 have hq:¬ (r.add (0+n*wt)).fin=true:=ya.1
 have cA:eR wt (aq [ak 0 n,db h m,ak 1 0]) r=bE wt [ak 1 0] (rI wt (db h m) (r.add (0+n*wt))):=by
  rw[fN ca Dm xK.2 ya.1,bZ ya.1,gx,bZ hq,jd]
  rfl
 rw[cA]
 have hqs:r.add (0+n*wt) = { r with sum:=r.sum+(0+n*wt) }:=iv r (by omega)
 have hqe:∀ t:T,t.bo (r.add (0+n*wt)).ws=t.bo y.ws:=fun t=>by show t.bo r.ws=_; rw[hS.ws]
 have hqv:(r.add (0+n*wt)).val (cJ h.A)=jQ y.ws (cJ h.A):=xk (r:=r.add (0+n*wt)) hS.ws _
 unfold mY
 by_cases g1:0 < h.size/\(cJ h.A).bo y.ws=none
 ·rw[if_pos g1]; exact .inr (.inl rfl)
 rw[if_neg g1]
 have s1:¬ (0 < (db h m).size/\¬ ((db h m).a.bo (r.add (0+n*wt)).ws).isSome=true):=fun k=>g1 ⟨k.1,by
  have k2:=k.2
  rw[show (db h m).a=cJ h.A from rfl,hqe] at k2
  exact Option.not_isSome_iff_eq_none.1 k2⟩
 have s2:((0 < (db h m).size/\(r.add (0+n*wt)).val (db h m).a < (db h m).size)\/((db h m).size=0/\((db h m).a.bo (r.add (0+n*wt)).ws).isSome=true/\(r.add (0+n*wt)).val (db h m).a≠0))↔¬ ((0 < h.size/\h.size<=jQ y.ws (cJ h.A))\/(h.size=0/\((cJ h.A).bo y.ws=none\/jQ y.ws (cJ h.A)=0))):=by
  rw[show (db h m).a=cJ h.A from rfl,show (db h m).size=h.size from rfl,hqe,hqv]
  have hsn:((cJ h.A).bo y.ws).isSome=true↔¬ (cJ h.A).bo y.ws=none:=by cases (cJ h.A).bo y.ws<;>simp
  rw[hsn]
  constructor
  ·rintro (⟨q1,q2⟩|⟨q1,q2,q3⟩)
   ·rintro (⟨_,q4⟩|⟨q4,_⟩)<;>omega
   ·rintro (⟨q4,_⟩|⟨_,q4|q4⟩)
    ·omega
    ·exact q2 q4
    ·exact q3 q4
  ·intro q
   by_cases hz:h.size=0
   ·exact .inr ⟨hz,fun q4=>q (.inr ⟨hz,.inl q4⟩),fun q4=>q (.inr ⟨hz,.inr q4⟩)⟩
   ·exact .inl ⟨by omega,by
     have:¬ h.size<=jQ y.ws (cJ h.A):=fun q4=>q (.inl ⟨by omega,q4⟩)
     omega⟩
 by_cases g2:(0 < h.size/\h.size<=jQ y.ws (cJ h.A))\/(h.size=0/\((cJ h.A).bo y.ws=none\/jQ y.ws (cJ h.A)=0))
 ·rw[if_pos g2,pD]
  have hfa:bE wt (db h m).l (r.add (0+n*wt))=(r.add (0+n*wt)).add (4+m*wt):=by
   show bE wt [ak 4 m] _=_
   rw[bZ hq,gx,iw]
  have e1:rI wt (db h m) (r.add (0+n*wt)) = { (r.add (0+n*wt)).add (4+m*wt) with ck:=if 0 < h.size then 1 else 2 }:=by
   unfold rI
   rw[if_neg s1,if_neg (fun k=>s2.1 k g2),hfa,if_neg (show ¬ ((r.add (0+n*wt)).add (4+m*wt)).fin=true from ya.1)]
   rfl
  have htr:(if 0 < h.size then (1:Int) else 2)=1\/(if 0 < h.size then (1:Int) else 2)=2:=by split<;>simp
  rw[e1,fm (j3 (show (if 0 < h.size then (1:Int) else 2)≠0 by rcases htr with k|k<;>omega))]
  have e2:=J0 kst (aK b y W.at_ True) False
  rcases tZ True with low|⟨S1,nfe⟩
  ·left
   rw[e2]
   show (aK b y W.at_ True).fuel - 1 < 0
   omega
  ·right; right; left
   refine⟨htr,rfl,?_⟩
   obtain⟨z1,z2,z3⟩:=S1.no nfe
   rw[bT] at z1
   have ea:(r.add (3+n*wt)).sum=r.sum+(3+n*wt):=by rw[iv r (by omega)]
   rw[ea] at z1
   rw[e2]
   show ((r.add (0+n*wt)).add (4+m*wt)).sum=(aK b y W.at_ True).aw+(dL b wt ((aK b y W.at_ True).tr++[(h.stub,False)])).2
   have jA:(dL b wt ((aK b y W.at_ True).tr++[(h.stub,False)])).2=(dL b wt (aK b y W.at_ True).tr).2+dt b h.stub False+eZ b (dL b wt (aK b y W.at_ True).tr).1 h.stub*wt:=by rw[tw]; rfl
   have pF:eZ b (dL b wt (aK b y W.at_ True).tr).1 h.stub=m:=by
    rw[← hm]
    unfold dG eZ
    have hfp:W1.full=(dL b wt (aK b y W.at_ True).tr).1.full:=propext z2
    rw[z3]
    congr 1
    exact hfp.symm
   rw[jA,pF,xM]
   unfold iH at z1
   have ea2:((r.add (0+n*wt)).add (4+m*wt)).sum=r.sum+(0+n*wt)+(4+m*wt):=by
    rw[hqs]
    rw[iv _ (by show r.sum+(0+n*wt)+(4+m*wt)<=_; omega)]
   rw[ea2]
   omega
 ·rw[if_neg g2,pD]
  have e1:rI wt (db h m) (r.add (0+n*wt))=r.add (0+n*wt):=by
   unfold rI
   rw[if_neg s1,if_pos (s2.2 g2)]
  rw[e1,bZ hq,gx,iw]
  rcases tZ False with low|⟨S1,nfe⟩
  ·exact .inl low
  ·right; right; right
   rw[bF] at S1
   have ea:(r.add (0+n*wt)).add (1+0*wt)=r.add (1+n*wt):=by
    rw[add_add r (by omega) (by omega)]
    rw[show 0+n*wt+(1+0*wt)=1+n*wt by omega]
   rw[ea]
   exact S1
def zt (b:List Int) (wt:Int) (F:WK->List C × WK) (D:WY->WY):Prop:=∀ (W:WK) (y:WY) (r:R),bX W.at_->jg b wt W y r->(F W).2.e=0->Out b wt (F W).2 (D y) (bE wt (F W).1 r)
def Idle (D:WY->WY):Prop:=∀ y:WY,y.fin->D y=y
def ZJ (b:List Int) (F:WK->List C × WK):Prop:=∀ W:WK,bX W.at_->jS b W->(F W).2.e=0->jS b (F W).2
theorem jg.off {b:List Int} {wt:Int} {W W':WK} {y:WY} {r:R} (h:jg b wt W y r) (h1:¬ W.aO) (h2:¬ W'.aO) (h3:W'.full=W.full) (h4:W'.line=W.line):jg b wt W' y r:=by
 refine⟨h.ws,h.wk,h.rt,h.re,h.yt,h.yf,h.cy,h.dv,fun k=>absurd k h2,fun k=>absurd k h2,fun _=>?_⟩
 obtain⟨a,c,d⟩:=h.no h1
 exact⟨a,by rw[h3]; exact c,by rw[h4]; exact d⟩
theorem jg.jump {b:List Int} {wt:Int} {W:WK} {y:WY} {r:R} (h:jg b wt W y r) (t:Int) (hc:¬ W.aO\/W.at_=t):jg b wt (bR W t) y r:=by
 by_cases k:W.at_=t
 ·rw[show bR W t = { W with at_:=t } from if_pos k]
  exact h.cast k.symm rfl rfl rfl
 ·rw[show bR W t = { W with aO:=False,at_:=t } from if_neg k]
  rcases hc with hc|hc
  ·exact h.off hc id rfl rfl
  ·exact absurd hc k
theorem Dz {b:List Int} {W:WK} (h:(cf b W).e=0):¬ (cf b W).aO:=by
 obtain⟨e1,e2,_⟩:=vc h
 have tO:aE W (eA b W.at_=0)=W:=bu e2
 unfold cf
 rw[tO,if_neg (fun k=>k e1)]
 split<;>exact id
theorem qy {b:List Int} {W:WK} {c:Int} (h:(cu b W c).e=0):¬ (cu b W c).aO:=Dz (aU h).2
theorem xm {b:List Int} {W:WK} (h:jS b W) (t:Int):jS b (bR W t):=by
 by_cases k:W.at_=t
 ·rw[show bR W t = { W with at_:=t } from if_pos k]
  subst k
  exact h
 ·rw[show bR W t = { W with aO:=False,at_:=t } from if_neg k]
  exact fun q=>q.elim
theorem xn {b:List Int} {W:WK} (h:jS b W) (he:(aD b W).e=0):(aD b W).aO/\jS b (aD b W):=by
 have mV:=dq he
 by_cases hW:W.aO
 ·have ew:aD b W=W:=by unfold aD; rw[if_pos hW]
  rw[ew]
  exact⟨hW,h⟩
 ·have cH:eA b W.at_=0:=by
   unfold aD at he
   rw[if_neg hW,if_neg (fun k=>k mV)] at he
   by_cases k:(aE W (eA b W.at_=0)).e≠0
   ·rw[if_pos k] at he; exact absurd he k
   ·exact (oh k).1
  have tO:aE W (eA b W.at_=0)=W:=bu cH
  have ew:aD b W = { xY W W.at_ (aX (iA b W.at_).form) with aO:=True }:=by unfold aD; rw[if_neg hW,if_neg (fun k=>k mV),tO,if_neg (fun k=>k mV)]
  rw[ew]
  exact⟨trivial,fun _=>⟨trivial,rfl⟩⟩
theorem cv {W:WK} {p:Prop} (h:(aE W p).e=0):aE W p=W:=bu (aU h).1
theorem HE {B wt:Int} (ca:0<=wt/\wt<=7) {cy n:Int} {l:List C} (hl:g_ B l) (hj:g_ B [ak cy n,aq l]) {r:R} (hr:r.sum<=1000000) (hf:¬ r.fin=true) (h1:(r.add (cy+n*wt)).sum<=1000000):eR wt (aq [ak cy n,aq l]) r=bE wt l (r.add (cy+n*wt)):=by
 have O1:¬ (r.add (cy+n*wt)).fin=true:=hf
 rw[fN ca hj hr hf,bZ hf,gx,bZ O1,fN ca hl h1 O1,iw]
theorem sh {B wt:Int} (ca:0<=wt/\wt<=7) {cy n:Int} {c:C} (hj:g_ B [c,ak cy n]) {r:R} (hr:r.sum<=1000000) (hf:¬ r.fin=true):eR wt (aq [c,ak cy n]) r=if (eR wt c r).fin=true then eR wt c r else (eR wt c r).add (cy+n*wt):=by
 rw[fN ca hj hr hf,bZ hf,bE]
 split
 ·rfl
 ·rw[gx,iw]
set_option maxHeartbeats 2000000 in
theorem Fz {b:List Int} (hl:b.length<=2000) {wt:Int} (ca:0<=wt/\wt<=7) {h:SH} {z:Prop} {BD EL:WK->List C × WK} {Ot ZK:WY->WY} (gB:fK b KS BD) (gE:fK b KS EL) (sB:zt b wt BD Ot) (sE:zt b wt EL ZK) (iB:Idle Ot) (iE:Idle ZK) (fB:ZJ b BD)
  {W:WK} {y:WY} {r:R} (hI:bX W.at_) (ht:bX h.till) (hS:jg b wt W y r) (pD:h.fr=W.at_) (he:(de b h z BD EL W).2.e=0):Out b wt (de b h z BD EL W).2 (iu b h Ot ZK y) (eR wt (de b h z BD EL W).1 r):=by
 unfold de at he ⊢
 simp only at he ⊢
 obtain⟨h7,h3⟩:=Dh he
 have h6:=dq h7
 rw[je] at h6
 have e5:zo (dK b W) (gw b h (pQ h z (BD (cu b W 0)).2))=gw b h (pQ h z (BD (cu b W 0)).2):=cv h6
 have h4:=(aU h6).2
 obtain⟨q3,_⟩:=Di h4
 have e3:pQ h z (BD (cu b W 0)).2=(BD (cu b W 0)).2:=cv q3
 obtain⟨⟨_,Tl⟩,qB⟩:=aU q3
 have fU:=k_ hl 0 hI
 obtain⟨p1,hch,_⟩:=gB.ok _ fU qB
 have g1:=dq h3
 rw[e5,e3] at h3 g1 h7 ⊢
 rw[e3] at h4 q3
 clear he h6 e5 e3
 have eE:Hx h (EL (kG (cu b W 0) (gw b h (BD (cu b W 0)).2))).2=(EL (kG (cu b W 0) (gw b h (BD (cu b W 0)).2))).2:=cv g1
 obtain⟨⟨g2,_⟩,g3⟩:=aU g1
 rw[eE] at h3 ⊢
 clear g1 eE
 have e8:Hy (Hw b h (gw b h (BD (cu b W 0)).2)) (aD b (EL (kG (cu b W 0) (gw b h (BD (cu b W 0)).2))).2)=Hw b h (gw b h (BD (cu b W 0)).2):=if_neg (fun k=>k h3)
 rw[e8]
 clear e8
 have ya:=hS.j1
 have xK:=hS.bd ca
 have hyf:=hS.yf
 obtain⟨c1,c2,c3,c4,c5⟩:=jv p1
 have Dy:(iA b W.at_).form=46\/(iA b W.at_).form=99:=by
  rcases c4 with k|k
  ·exact absurd k.1 (by decide)
  ·exact k.2.1
 obtain⟨bT,bF⟩:=tx Dy
 have tZ:=fun tk=>hS.br ca p1 tk
 have NK:=fL b W
 have tO:=kI NK ca
 have ZL:=qy p1
 have wB:=gB.wd hl (by decide) (cu b W 0) fU
 have sB1:=sB (cu b W 0)
 have fB1:=fB (cu b W 0) fU (fun k=>absurd k ZL) qB
 have gBI:=gB.I (cu b W 0) fU
 generalize kO b W=n at *
 generalize cu b W 0=W1 at *
 unfold Ob
 generalize hBl:(BD W1).1=Bl at *
 generalize hB2:(BD W1).2=B2 at *
 have tp:bX (gw b h B2).at_:=Dj hl gBI
 have wE:=gE.wd hl (by decide) (kG W1 (gw b h B2)) tp
 have sE1:=sE (kG W1 (gw b h B2))
 generalize hEl:(EL (kG W1 (gw b h B2))).1=El at *
 generalize Z_:(EL (kG W1 (gw b h B2))).2=E2 at *
 
 have f4:jS b (gw b h B2):=by
  unfold gw
  split
  ·rename_i k
   have FA:(aE (cu b B2 (-1)) (dK b B2=h.till)).e=0:=by
    unfold gw at h4
    rw[if_pos k] at h4
    exact h4
   rw[cv FA]
   exact fun q=>absurd q (qy (aU FA).2)
  ·exact fB1
 have Tm:(aD b (bR (gw b h B2) h.till)).e=0:=h7
 obtain⟨w7f,w7o⟩:=xn (xm f4 h.till) Tm
 have w7a:(aD b (bR (gw b h B2) h.till)).at_=h.till:=by rw[dU,ma]
 have n7:=dC b (bR (gw b h B2) h.till)
 have n7w:=kI n7 ca
 have nE:=dC b E2
 have nEw:=kI nE ca
 
 show Out b wt (aD b (bR (gw b h B2) h.till)) (iu b h Ot ZK y) (eR wt (C.mk 3 0 0 0 0 (cJ h.A) cM [aq [nm b h B2 (aq [ak 1 n,aq Bl]),ak 0 (bC b (bR (gw b h B2) h.till))],aq [aq [ak 3 n,aq El],ak 0 (bC b E2)]]) r)
 rw[jd]
 show Out b wt (aD b (bR (gw b h B2) h.till)) (iu b h Ot ZK y) (y8 wt (C.mk 3 0 0 0 0 (cJ h.A) cM [aq [nm b h B2 (aq [ak 1 n,aq Bl]),ak 0 (bC b (bR (gw b h B2) h.till))],aq [aq [ak 3 n,aq El],ak 0 (bC b E2)]]) r)
 unfold iu
 cases hv:(cJ h.A).bo y.ws with
 | none=>rw[if_pos rfl]; exact .inr (.inl rfl)
 | some v =>
  rw[if_neg nofun]
  have Fy:r.cb (cJ h.A)=r:=xl (by rw[hS.ws]; exact hv)
  have DA:r.val (cJ h.A)=v:=by unfold R.val; rw[hS.ws,hv]; rfl
  have hevV:jQ y.ws (cJ h.A)=v:=by unfold jQ; rw[hv]; rfl
  unfold y8
  rw[show (C.mk 3 0 0 0 0 (cJ h.A) cM [aq [nm b h B2 (aq [ak 1 n,aq Bl]),ak 0 (bC b (bR (gw b h B2) h.till))],aq [aq [ak 3 n,aq El],ak 0 (bC b E2)]]).a=cJ h.A from rfl,Fy,DA,hevV,if_neg ya.1,pD]
  by_cases hz:v=0
  ·rw[if_pos hz,if_neg (fun k=>k hz)]
   show Out b wt _ (ZK (aK b y W.at_ True)) (eR wt (aq [aq [ak 3 n,aq El],ak 0 (bC b E2)]) r)
   rcases tZ True with low|⟨S1,_⟩
   ·rw[iE _ (.inr low)]
    exact .inl low
   ·rw[bT] at S1
    have S2:jg b wt (kG W1 (gw b h B2)) (aK b y W.at_ True) (r.add (3+n*wt)):=S1.off ZL ZL rfl rfl
    have bd1:=S1.bd ca
    have wE':g_ 400000 El:=wE.more (by unfold KS; omega)
    have wX:g_ 500000 [ak 3 n,aq El]:=((Wd.flat (by decide) NK.1).cons (wE'.join.cons .nil)).more (by omega)
    have wY:g_ 500010 [aq [ak 3 n,aq El],ak 0 (bC b E2)]:=(wX.join.cons ((Wd.flat (Int.le_refl 0) nE.1).cons .nil)).more (by omega)
    rw[sh ca wY xK.2 ya.1,HE ca (wE'.more (by decide)) wX xK.2 ya.1 bd1.2]
    have o:=sE1 _ _ tp S2 g3
    generalize bE wt El (r.add (3+n*wt))=r2 at *
    generalize ZK (aK b y W.at_ True)=yE at *
    rcases o with o|o|⟨o1,o2,o3⟩|o
    ·exact .inl o
    ·exact .inr (.inl o)
    ·rw[if_pos (j3 (by rw[o2]; rcases o1 with o1|o1<;>rw[o1]<;>decide))]
     exact .inr (.inr (.inl ⟨o1,o2,o3⟩))
    ·rw[if_neg o.j1.1]
     obtain⟨S3,f3⟩:=o.pR ca h3
     exact .inr (.inr (.inr (S3.same f3 w7f (by rw[w7a,dU,g2]) w7o)))
  ·rw[if_neg hz,if_pos hz]
   show Out b wt _ _ (eR wt (aq [nm b h B2 (aq [ak 1 n,aq Bl]),ak 0 (bC b (bR (gw b h B2) h.till))]) r)
   rcases tZ False with low|⟨S1,_⟩
   ·rw[iB _ (.inr low),if_neg (fun k=>k.2 (.inr low))]
    exact .inl low
   rw[bF] at S1
   have bd1:=S1.bd ca
   have wB':g_ 400000 Bl:=wB.more (by unfold KS; omega)
   have wX:g_ 500000 [ak 1 n,aq Bl]:=((Wd.flat (by decide) NK.1).cons (wB'.join.cons .nil)).more (by omega)
   have tc:=HE ca (wB'.more (by decide)) wX xK.2 ya.1 bd1.2
   have o:=sB1 _ _ fU S1 qB
   generalize bE wt Bl (r.add (1+n*wt))=r2 at *
   generalize Ot (aK b y W.at_ False)=yB at *
   by_cases k1:h.skip = -1
   ·have ec:nm b h B2 (aq [ak 1 n,aq Bl])=aq [ak 1 n,aq Bl]:=if_neg (fun k=>k.1 k1)
    have ew:gw b h B2=B2:=if_neg (fun k=>k.1 k1)
    rw[ec,ew]
    rw[ew] at n7 n7w Tm
    have wY:g_ 500010 [aq [ak 1 n,aq Bl],ak 0 (bC b (bR B2 h.till))]:=(wX.join.cons ((Wd.flat (Int.le_refl 0) n7.1).cons .nil)).more (by omega)
    rw[sh ca wY xK.2 ya.1,tc,if_neg (by rintro⟨k,_⟩; omega)]
    rcases o with o|o|⟨o1,o2,o3⟩|o
    ·exact .inl o
    ·exact .inr (.inl o)
    ·rw[if_pos (j3 (by rw[o2]; rcases o1 with o1|o1<;>rw[o1]<;>decide))]
     exact .inr (.inr (.inl ⟨o1,o2,o3⟩))
    ·rw[if_neg o.j1.1]
     have z7:B2.at_=h.till:=by
      rcases Tl with k|k
      ·exfalso
       have:=hch.bd
       have:=(bN c2).1
       have:=gV (bN c2).2.1
       omega
      ·exact k.2.1
     obtain⟨S3,_⟩:=(o.jump h.till (.inr z7)).pR ca Tm
     exact .inr (.inr (.inr S3))
   ·have kk:h.skip≠-1/\B2.e=0:=⟨k1,qB⟩
    have ec:nm b h B2 (aq [ak 1 n,aq Bl])=aq [aq [ak 1 n,aq Bl],ak 3 (kO b B2)]:=if_pos kk
    have ew0:gw b h B2=aE (cu b B2 (-1)) (dK b B2=h.till):=if_pos kk
    have hb4:(aE (cu b B2 (-1)) (dK b B2=h.till)).e=0:=by rw[← ew0]; exact h4
    have ew:gw b h B2=cu b B2 (-1):=by rw[ew0,cv hb4]
    have hb5:=(aU hb4).2
    obtain⟨d1,d2,d3,d4,d5⟩:=jv hb5
    have hj:(iA b B2.at_).form=47\/(iA b B2.at_).form=100:=by
     rcases d4 with k|k
     ·exact k.2
     ·exact absurd rfl k.1
    have hskip:h.skip=B2.at_:=by
     rcases Tl with k|k
     ·exact k.symm
     ·exact absurd k.1 k1
    have h0:=(bN d2).1.1
    have mb:=fL b B2
    have mw:=kI mb ca
    rw[ec,ew]
    rw[ew] at n7 n7w Tm
    have wZ:g_ 500010 [aq [ak 1 n,aq Bl],ak 3 (kO b B2)]:=(wX.join.cons ((Wd.flat (by decide) mb.1).cons .nil)).more (by omega)
    have wY:g_ 500020 [aq [aq [ak 1 n,aq Bl],ak 3 (kO b B2)],ak 0 (bC b (bR (cu b B2 (-1)) h.till))]:=(wZ.join.cons ((Wd.flat (Int.le_refl 0) n7.1).cons .nil)).more (by omega)
    rw[sh ca wY xK.2 ya.1,sh ca wZ xK.2 ya.1,tc]
    rcases o with o|o|⟨o1,o2,o3⟩|o
    ·rw[if_neg (fun k=>k.2 (.inr o))]
     exact .inl o
    ·rw[if_neg (fun k=>k.2 (.inl (by rw[o]; decide)))]
     exact .inr (.inl o)
    ·have Kf:r2.fin=true:=j3 (by rw[o2]; rcases o1 with o1|o1<;>rw[o1]<;>decide)
     rw[if_neg (fun k=>k.2 (.inl (by rcases o1 with o1|o1<;>rw[o1]<;>decide))),if_pos Kf,if_pos Kf]
     exact .inr (.inr (.inl ⟨o1,o2,o3⟩))
    ·have Kf:=o.j1
     rw[if_pos ⟨by omega,Kf.2⟩,if_neg Kf.1,if_neg (show ¬ (r2.add (3+kO b B2*wt)).fin=true from Kf.1),hskip]
     rcases o.br ca hb5 True with low|⟨S3,nf3⟩
     ·exact .inl low
     ·rw[zr hj] at S3
      obtain⟨S4,_⟩:=(S3.jump h.till (.inl nf3)).pR ca Tm
      exact .inr (.inr (.inr S4))
def jx (D:WY->WY):Prop:=∀ y:WY,(D y).fuel<=max y.fuel (-1)
theorem jg.put {b:List Int} {wt:Int} {W:WK} {y:WY} {r:R} (h:jg b wt W y r) (n:Nat) {v:Int} (hv:0<=v/\v<=4294967295):jg b wt W (y.put n v) (r.put n v):=by
 refine⟨?_,⟨?_,fun x hx=>?_⟩,h.rt,h.re,h.yt,h.yf,h.cy,h.dv,h.RE,h.yes,h.no⟩
 ·show r.ws.set n v=y.ws.set n v
  rw[h.ws]
 ·show (y.ws.set n v).length=254
  rw[List.length_set]; exact h.wk.1
 ·rcases List.mem_or_eq_of_mem_set hx with k|k
  ·exact h.wk.2 x k
  ·rw[k]; exact hv
theorem Ou {f:R->R} {wo:Nat} {r:R} (h:r.fin=true):∀ (n:Nat) (i:Int),gK f wo n i r=r
 | 0,_=>rfl
 | n+1,i=>by rw[gK,if_pos h]
theorem ot {b:List Int} {h:SH} {hi iO:Int} {HD BD:WY->WY} {y:WY} (hf:y.fin):∀ (k:Nat) (i:Int),mZ b h hi iO HD BD k i y=y
 | 0,_=>rfl
 | k+1,i=>by rw[mZ,if_pos hf]
theorem ou {r:R} {t:Int} (h:t=1\/t=2) (h2:r.ck=t):r.fin=true:=j3 (by rw[h2]; rcases h with h|h<;>rw[h]<;>decide)
theorem o8 {y:WY} (h:y.ck=1\/y.ck=2):y.fin:=.inl (by rcases h with h|h<;>rw[h]<;>decide)
set_option maxHeartbeats 2000000 in
theorem RT {b:List Int} {wt:Int} (ca:0<=wt/\wt<=7) {h:SH} {HD BD:WY->WY} {W1 H2 w4 B2 Wf:WK} {Hl Bl:List C} {n m f9 hi iO:Int}
  (hA:∀ y r,jg b wt W1 y r->Out b wt H2 (HD y) (bE wt Hl r))
  (hT:∀ y r,jg b wt H2 y r->(aK b y h.stub True).fuel < 0\/jg b wt w4 (aK b y h.stub True) (r.add (3+n*wt)))
  (hF:∀ y r,jg b wt H2 y r->(aK b y h.stub False).fuel < 0\/jg b wt w4 (aK b y h.stub False) (r.add (1+n*wt)))
  (hB:∀ y r,jg b wt w4 y r->Out b wt B2 (BD y) (bE wt Bl r))
  (hK:∀ y r,jg b wt B2 y r->(aK b y h.skip True).fuel < 0\/jg b wt W1 (aK b y h.skip True) ((r.add (3+m*wt)).add (0+f9*wt)))
  (wH:g_ 400000 Hl) (wB:g_ 400000 Bl) (wO:g_ 900000 [aq Hl,ak 1 n,aq Bl,ak 3 m,ak 0 f9]) (iB:Idle BD) (fH:jx HD) (fB:jx BD)
  (nf4:¬ w4.aO) (nff:¬ Wf.aO) (ff:Wf.full=w4.full) (fl:Wf.line=w4.line) (Q5:hi<=4294967295) (CN:0<=iO/\iO<=4294967295) :
  ∀ (nn:Nat) (i:Int) (y:WY) (q:R) (kd:Nat),nn=(hi - i).toNat->0<=i/\i<=4294967295->jg b wt W1 y q->(y.fuel+2).toNat<=kd ->
   Out b wt Wf (mZ b h hi iO HD BD kd i y) (bE wt [aq Hl,ak 3 n] ((gK (fun r=>bE wt [aq [aq Hl,ak 1 n,aq Bl,ak 3 m,ak 0 f9]] r) h.word.toNat nn i q).put h.word.toNat iO)):=by
 intro nn
 induction nn with
 | zero =>
  intro i y q kd hnn D2 hS hkd
  have En:¬ i < hi:=by omega
  have hyf:=hS.yf
  obtain⟨k,rfl⟩:∃ k,kd=k+1:=⟨kd - 1,by omega⟩
  rw[mZ,if_neg hS.j1.2,if_neg En,if_neg En,gK]
  have Sp:=hS.put h.word.toNat CN
  have bdp:=Sp.bd ca
  have ZM:=Sp.j1
  have o:=hA _ _ Sp
  have hr:bE wt [aq Hl,ak 3 n] (q.put h.word.toNat iO)=if (bE wt Hl (q.put h.word.toNat iO)).fin=true then bE wt Hl (q.put h.word.toNat iO) else (bE wt Hl (q.put h.word.toNat iO)).add (3+n*wt):=by
   rw[bZ ZM.1,fN ca wH bdp.2 ZM.1,bE]
   split
   ·rfl
   ·rw[gx,iw]
  rw[hr]
  generalize bE wt Hl (q.put h.word.toNat iO)=r2 at *
  generalize HD (y.put h.word.toNat iO)=yh at *
  rcases o with o|o|⟨o1,o2,o3⟩|o
  ·rw[if_pos (show yh.fin from .inr o)]; exact .inl o
  ·rw[if_pos (show yh.fin from .inl (by rw[o]; decide))]; exact .inr (.inl o)
  ·rw[if_pos (o8 o1),if_pos (ou o1 o2)]; exact .inr (.inr (.inl ⟨o1,o2,o3⟩))
  ·rw[if_neg o.j1.2,if_neg o.j1.1]
   rcases hT _ _ o with low|S3
   ·exact .inl low
   ·exact .inr (.inr (.inr (S3.off nf4 nff ff fl)))
 | succ nn ih =>
  intro i y q kd hnn D2 hS hkd
  have ch:i < hi:=by omega
  have hyf:=hS.yf
  obtain⟨k,rfl⟩:∃ k,kd=k+1:=⟨kd - 1,by omega⟩
  rw[mZ,if_neg hS.j1.2,if_pos ch,if_pos ch,gK,if_neg hS.j1.1]
  have Sp:=hS.put h.word.toNat D2
  have bdp:=Sp.bd ca
  have ZM:=Sp.j1
  have o:=hA _ _ Sp
  have efq:bE wt [aq [aq Hl,ak 1 n,aq Bl,ak 3 m,ak 0 f9]] { q with ws:=q.ws.set h.word.toNat i }=bE wt [aq Hl,ak 1 n,aq Bl,ak 3 m,ak 0 f9] (q.put h.word.toNat i):=by
   show bE wt [aq [aq Hl,ak 1 n,aq Bl,ak 3 m,ak 0 f9]] (q.put h.word.toNat i)=_
   rw[bZ ZM.1,iw,fN ca wO (by omega) ZM.1]
  have e1:bE wt [aq Hl,ak 1 n,aq Bl,ak 3 m,ak 0 f9] (q.put h.word.toNat i)=bE wt [ak 1 n,aq Bl,ak 3 m,ak 0 f9] (bE wt Hl (q.put h.word.toNat i)):=by
   rw[bZ ZM.1,fN ca wH bdp.2 ZM.1]
  rw[efq,e1]
  have fhy:=fH (y.put h.word.toNat i)
  have hpf:(y.put h.word.toNat i).fuel=y.fuel:=rfl
  rw[hpf] at fhy
  clear efq e1
  generalize bE wt Hl (q.put h.word.toNat i)=r2 at *
  generalize HD (y.put h.word.toNat i)=yh at *
  
  have ended:∀ (y':WY) (r':R),(y'.fuel < 0\/y'.ck=3\/((y'.ck=1\/y'.ck=2)/\r'.ck=y'.ck/\r'.sum=iH b wt y'))->Out b wt Wf y' (bE wt [aq Hl,ak 3 n] ((gK (fun r=>bE wt [aq [aq Hl,ak 1 n,aq Bl,ak 3 m,ak 0 f9]] r) h.word.toNat nn (i+1) r').put h.word.toNat iO)):=fun y' r' hh=>by
   rcases hh with hh|hh|⟨o1,o2,o3⟩
   ·exact .inl hh
   ·exact .inr (.inl hh)
   ·have hf:=ou o1 o2
    rw[Ou hf,fm (show (r'.put h.word.toNat iO).fin=true from hf)]
    exact .inr (.inr (.inl ⟨o1,o2,o3⟩))
  rcases o with o|o|⟨o1,o2,o3⟩|o
  ·rw[if_pos (show yh.fin from .inr o)]; exact .inl o
  ·rw[if_pos (show yh.fin from .inl (by rw[o]; decide))]; exact .inr (.inl o)
  ·rw[if_pos (o8 o1),fm (ou o1 o2)]
   exact ended _ _ (.inr (.inr ⟨o1,o2,o3⟩))
  ·rw[if_neg o.j1.2,bZ o.j1.1,gx]
   have oyf:=o.yf
   rcases hF _ _ o with low|S3
   ·have jI:(aK b yh h.stub False).fin:=.inr low
    rw[iB _ jI,if_pos jI,ot jI]
    exact .inl low
   ·have bd3:=S3.bd ca
    have nf3:=S3.j1
    have s3f:=S3.yf
    have hy3:(aK b yh h.stub False).fuel<=yh.fuel:=by
     unfold aK at s3f ⊢
     split
     ·rename_i hh
      rw[if_pos hh] at s3f
      exact absurd (show (0:Int)<=-1 from s3f.1) (by decide)
     ·show yh.fuel - 1<=yh.fuel; omega
    have o2:=hB _ _ S3
    have fby:=fB (aK b yh h.stub False)
    rw[bZ nf3.1,fN ca wB bd3.2 nf3.1]
    generalize aK b yh h.stub False=y3 at *
    generalize bE wt Bl (r2.add (1+n*wt))=r4 at *
    generalize BD y3=yb at *
    rcases o2 with p|p|⟨p1,p2,p3⟩|p
    ·have jI:yb.fin:=.inr p
     rw[if_pos jI,ot jI]; exact .inl p
    ·have jI:yb.fin:=.inl (by rw[p]; decide)
     rw[if_pos jI,ot jI]; exact .inr (.inl p)
    ·have jI:=o8 p1
     rw[if_pos jI,ot jI,fm (ou p1 p2)]
     exact ended _ _ (.inr (.inr ⟨p1,p2,p3⟩))
    ·have pyf:=p.yf
     have pnf:=p.j1
     rw[if_neg pnf.2,bZ pnf.1,gx,bZ (show ¬ (r4.add (3+m*wt)).fin=true from pnf.1),gx,iw]
     rcases hK _ _ p with low|S5
     ·have jI:(aK b yb h.skip True).fin:=.inr low
      rw[ot jI]; exact .inl low
     ·have s5f:=S5.yf
      have hy5:(aK b yb h.skip True).fuel<=yb.fuel - 1:=by
       unfold aK at s5f ⊢
       split
       ·rename_i hh
        rw[if_pos hh] at s5f
        exact absurd (show (0:Int)<=-1 from s5f.1) (by decide)
       ·exact Int.le_refl _
      exact ih (i+1) (aK b yb h.skip True) _ k (by omega) (by omega) S5 (by omega)
set_option maxHeartbeats 2000000 in
theorem FB {b:List Int} (hl:b.length<=2000) {wt:Int} (ca:0<=wt/\wt<=7) {h:SH} {HD BD:WK->List C × WK} {HDd Ot:WY->WY} (gH:fK b KR HD) (gB:fK b KS BD) (sH:zt b wt HD HDd) (sB:zt b wt BD Ot) (iB:Idle Ot) (fH:jx HDd) (fB:jx Ot)
  {W:WK} {y:WY} {r:R} (hI:bX W.at_) (hA:(cJ h.A).Wf) (hBw:(cJ h.B).Wf) (hS:jg b wt W y r) (pD:h.fr=W.at_) (he:(cr b h HD BD W).2.e=0):Out b wt (cr b h HD BD W).2 (lf b h HDd Ot y) (eR wt (cr b h HD BD W).1 r):=by
 unfold cr at he ⊢
 simp only at he ⊢
 have h1:(aD b (bR (JP b h (dK b (lz h (HD (aD b W)).2)) (A6 h (BD (cu b (lz h (HD (aD b W)).2) 0)).2)) h.fr)).e=0:=he
 have h2:=dq h1
 rw[je] at h2
 have e8:JP b h (dK b (lz h (HD (aD b W)).2)) (A6 h (BD (cu b (lz h (HD (aD b W)).2) 0)).2)=cu b (A6 h (BD (cu b (lz h (HD (aD b W)).2) 0)).2) (-1):=cv h2
 have h4:=(aU h2).2
 have h5:=(jv h4).1
 have e6:A6 h (BD (cu b (lz h (HD (aD b W)).2) 0)).2=(BD (cu b (lz h (HD (aD b W)).2) 0)).2:=cv h5
 obtain⟨k6,h8⟩:=aU h5
 have fU:bX (aD b W).at_:=by rw[dU]; exact hI
 have HA:bX (lz h (HD (aD b W)).2).at_:=gH.I _ fU
 have tp:=k_ hl 0 HA
 obtain⟨p1,_,_⟩:=gB.ok _ tp h8
 have r1:=(jv p1).1
 have e3:lz h (HD (aD b W)).2=(HD (aD b W)).2:=cv r1
 obtain⟨k3,r4⟩:=aU r1
 obtain⟨k1,_,_⟩:=gH.ok _ fU r4
 rw[e8,e6,e3] at h1
 rw[e6,e3] at h4
 rw[e3] at p1 k6 h8 tp
 rw[e8,e6,e3]
 clear e8 e6 e3 h2 h5 r1 he HA
 
 have wH:=(gH.wd hl (by decide) _ fU).more (show KR+92092<=400000 by unfold KR; omega)
 have wB:=(gB.wd hl (by decide) _ tp).more (show KS+92092<=400000 by unfold KS; omega)
 have sH1:=sH (aD b W)
 have sB1:=sB (cu b (HD (aD b W)).2 0)
 obtain⟨S1,f1⟩:=hS.pR ca k1
 have a1:(aD b W).at_=W.at_:=dU ..
 have n0:=dC b W
 have ya:=hS.j1
 have xK:=hS.bd ca
 generalize bC b W=f0 at *
 generalize aD b W=W1 at *
 generalize hHl:(HD W1).1=Hl at *
 generalize hH2:(HD W1).2=H2 at *
 obtain⟨c1,c2,c3,c4,c5⟩:=jv p1
 have Dy:(iA b H2.at_).form=46\/(iA b H2.at_).form=99:=by
  rcases c4 with k|k
  ·exact absurd k.1 (by decide)
  ·exact k.2.1
 obtain⟨bT,bF⟩:=tx Dy
 have tZ:=fun (y:WY) (r:R) (s:jg b wt H2 y r) tk=>s.br ca p1 tk
 have nf4:=qy p1
 have nb:=fL b H2
 generalize kO b H2=n at *
 generalize cu b H2 0=w4 at *
 generalize hBl:(BD w4).1=Bl at *
 generalize hB2:(BD w4).2=B2 at *
 obtain⟨d1,d2,d3,d4,d5⟩:=jv h4
 have hj:(iA b B2.at_).form=47\/(iA b B2.at_).form=100:=by
  rcases d4 with k|k
  ·exact k.2
  ·exact absurd rfl k.1
 have xM:=fun (y:WY) (r:R) (s:jg b wt B2 y r)=>s.br ca h4 True
 have nf7:=qy h4
 have mb:=fL b B2
 generalize kO b B2=m at *
 generalize cu b B2 (-1)=w7 at *
 have n9:=dC b (bR w7 h.fr)
 have wO:g_ 900000 [aq Hl,ak 1 n,aq Bl,ak 3 m,ak 0 (bC b (bR w7 h.fr))]:=(wH.join.cons ((Wd.flat (by decide) nb.1).cons (wB.join.cons ((Wd.flat (by decide) mb.1).cons ((Wd.flat (by decide) n9.1).cons .nil))))).more (by omega)
 have hK:∀ (y:WY) (r:R),jg b wt B2 y r->(aK b y h.skip True).fuel < 0\/jg b wt W1 (aK b y h.skip True) ((r.add (3+m*wt)).add (0+bC b (bR w7 h.fr)*wt)):=fun y r s=>by
  rw[← k6]
  rcases xM y r s with low|⟨S5,nf5⟩
  ·exact .inl low
  ·rw[zr hj] at S5
   obtain⟨S6,f6⟩:=(S5.jump h.fr (.inl nf5)).pR ca h1
   exact .inr (S6.same f6 f1 (by rw[a1,dU,ma,pD]) S1.RE)
 generalize bC b (bR w7 h.fr)=f9 at *
 generalize hw10:aD b (bR w7 h.fr)=O' at *
 have wA:g_ 900000 [ak 0 f0,mU h (aq [aq Hl,ak 1 n,aq Bl,ak 3 m,ak 0 f9]),aq Hl,ak 3 n]:=((Wd.flat (by decide) n0.1).cons ((Wd.one (c:=mU h _) (show (4:Int)≠1 by decide) (show (4:Int)≠2 by decide)).cons (wH.join.cons ((Wd.flat (by decide) nb.1).cons .nil)))).more (by omega)
 generalize hon:aq [aq Hl,ak 1 n,aq Bl,ak 3 m,ak 0 f9]=once at *
 have S1n:=S1.j1
 rw[fN ca wA xK.2 ya.1,bZ ya.1,gx,bZ S1n.1]
 generalize r.add (0+f0*wt)=r0 at *
 unfold lf
 cases ha:(cJ h.A).bo y.ws with
 | none=>rw[if_pos (.inl rfl)]; exact .inr (.inl rfl)
 | some lo =>
  cases hb:(cJ h.B).bo y.ws with
  | none=>rw[if_pos (.inr rfl)]; exact .inr (.inl rfl)
  | some hi =>
   rw[if_neg (by rintro (k|k)<;>cases k)]
   have ZH:jQ y.ws (cJ h.A)=lo:=by unfold jQ; rw[ha]; rfl
   have ZI:jQ y.ws (cJ h.B)=hi:=by unfold jQ; rw[hb]; rfl
   have blo:=hS.wk.ev hA
   have bhi:=hS.wk.ev hBw
   rw[ZH] at blo
   rw[ZI] at bhi
   have el1:r0.cb (cJ h.A)=r0:=xl (by rw[S1.ws]; exact ha)
   have el2:r0.cb (cJ h.B)=r0:=xl (by rw[S1.ws]; exact hb)
   have v1:r0.val (cJ h.A)=lo:=by rw[xk S1.ws,ZH]
   have v2:r0.val (cJ h.B)=hi:=by rw[xk S1.ws,ZI]
   have esum:eR wt (mU h once) r0=(gK (fun r=>bE wt [once] r) h.word.toNat (hi - lo).toNat lo r0).put h.word.toNat ((y.ws[h.word.toNat]?).getD 0):=by
    rw[jd]
    show oU wt (mU h once) r0=_
    unfold oU
    rw[show (mU h once).a=cJ h.A from rfl,show (mU h once).b=cJ h.B from rfl,el1,if_neg S1n.1,el2,v1,v2,S1.ws]
    rfl
   have CN:0<=(y.ws[h.word.toNat]?).getD 0/\(y.ws[h.word.toNat]?).getD 0<=4294967295:=by
    cases hg:y.ws[h.word.toNat]? with
    | none=>exact⟨by decide,by decide⟩
    | some v=>exact hS.wk.2 v (List.mem_of_getElem? hg)
   rw[ZH,ZI,esum,← hon]
   exact RT ca (Wf:=ZA h w4 O') (H2:=H2) (B2:=B2) (w4:=w4) (f9:=f9) (m:=m)
    (fun y r s=>sH1 y r fU s r4)
    (fun y r s=>by
     rw[← k3]
     rcases tZ y r s True with low|⟨S3,_⟩
     ·exact .inl low
     ·rw[bT] at S3; exact .inr S3)
    (fun y r s=>by
     rw[← k3]
     rcases tZ y r s False with low|⟨S3,_⟩
     ·exact .inl low
     ·rw[bF] at S3; exact .inr S3)
    (fun y r s=>sB1 y r tp s h8)
    hK wH wB (by rw[← hon] at *; exact wO) iB fH fB nf4 id rfl rfl bhi.2 CN _ lo y r0 _ rfl blo S1 (Nat.le_refl _)
theorem fR (b:List Int) (y:WY) (n:Int) (tk:Prop):(aK b y n tk).fuel<=max y.fuel (-1):=by
 unfold aK
 split
 ·show (-1:Int)<=_; omega
 ·show y.fuel - 1<=_; omega
theorem tz (y:WY) (t:T):(bU y t).fuel=y.fuel:=by unfold bU; split<;>rfl
theorem Ov (y:WY) (d:DV):(mW y d).fuel=y.fuel:=by
 unfold mW
 split
 ·exact tz ..
 ·show (bU (bU y d.a) d.b).fuel=_
  rw[tz,tz]
theorem J2 (b:List Int) (n:Int) (y:WY) (ds:List DV):(jR b n y ds).1.fuel<=max y.fuel (-1):=by
 have h:=fR b y n False
 unfold jR
 split
 ·split
  ·exact h
  ·show (mW (aK b y n False) _).fuel<=_
   rw[Ov]; exact h
 ·exact h
theorem DB (b:List Int) (till:Int):∀ (k:Nat) (n:Int) (y:WY) (ds:List DV),(mX b till k n y ds).fuel<=max y.fuel (-1)
 | 0,_,y,_=>by rw[mX]; omega
 | k+1,n,y,ds=>by
  rw[mX]
  split
  ·have h1:=DB b till k (r_ b n) (jR b n y ds).1 (jR b n y ds).2
   have h2:=J2 b n y ds
   omega
  ·omega
theorem FC (b:List Int) (h:SH):jx (mY b h):=fun y=>by
 have h1:=fR b y h.fr True
 have h2:=fR b (aK b y h.fr True) h.stub False
 have h3:=fR b y h.fr False
 unfold mY
 split
 ·show y.fuel<=_; omega
 ·split
  ·show (aK b (aK b y h.fr True) h.stub False).fuel<=_
   omega
  ·exact h3
theorem DC {b:List Int} {h:SH} {BD EL:WY->WY} (hB:jx BD) (hE:jx EL):jx (iu b h BD EL):=fun y=>by
 have h1:=fR b y h.fr True
 have h3:=fR b y h.fr False
 have h4:=hE (aK b y h.fr True)
 have h5:=hB (aK b y h.fr False)
 have h6:=fR b (BD (aK b y h.fr False)) h.skip True
 unfold iu
 split
 ·show (aK b y h.fr False).fuel<=_; exact h3
 split
 ·omega
 split
 ·omega
 ·omega
theorem DD {b:List Int} {h:SH} {hi iO:Int} {HD BD:WY->WY} (hH:jx HD) (hB:jx BD):∀ (k:Nat) (i:Int),jx (mZ b h hi iO HD BD k i)
 | 0,i=>fun y=>by rw[mZ]; omega
 | k+1,i=>fun y=>by
  have h1:∀ v,(HD (y.put h.word.toNat v)).fuel<=max y.fuel (-1):=fun v=>hH (y.put h.word.toNat v)
  have h2:=fun v tk=>fR b (HD (y.put h.word.toNat v)) h.stub tk
  have h3:=fun v=>hB (aK b (HD (y.put h.word.toNat v)) h.stub False)
  have h4:=fun v=>fR b (BD (aK b (HD (y.put h.word.toNat v)) h.stub False)) h.skip True
  rw[mZ]
  by_cases hy:y.fin
  ·rw[if_pos hy]; omega
  rw[if_neg hy]
  by_cases ch:i < hi
  ·rw[if_pos ch,if_pos ch]
   by_cases hf:(HD (y.put h.word.toNat i)).fin
   ·rw[if_pos hf]; exact h1 i
   ·rw[if_neg hf]
    refine Int.le_trans (DD hH hB k (i+1) _) ?_
    have a1:=h1 i
    have a2:=h2 i False
    have a3:=h3 i
    have a4:=h4 i
    split
    ·omega
    ·omega
  ·rw[if_neg ch,if_neg ch]
   have a1:=h1 iO
   have a2:=h2 iO True
   split
   ·exact a1
   ·omega
theorem Ow (b:List Int):∀ s:ST,jx (x_ b s):=ST.ind fun s h1 h2 h3=>by
 have key:∀ l:List ST,(∀ x∈l,jx (x_ b x))->jx (bY b l):=fun l=>by
  induction l with
  | nil=>intro _ y; rw[bY]; omega
  | cons x l ih =>
   intro hx y
   rw[bY]
   split
   ·omega
   ·have a1:=ih (fun z hz=>hx z (List.mem_cons_of_mem _ hz)) (x_ b x y)
    have a2:=hx x (List.mem_cons_self ..) y
    omega
 have hH:=key _ h1
 have hB:=key _ h2
 have hE:=key _ h3
 rw[vi]
 intro y
 unfold JY
 split
 ·exact DB ..
 split
 ·exact FC b s.h y
 split
 ·exact DC hB hE y
 split
 ·unfold lf
  split
  ·show y.fuel<=_; omega
  ·exact DD hH hB _ _ y
 ·omega
theorem me (b:List Int):∀ l:List ST,jx (bY b l)
 | []=>fun y=>by rw[bY]; omega
 | s::l=>fun y=>by
  rw[bY]
  split
  ·omega
  ·have a1:=me b l (x_ b s y)
   have a2:=Ow b s y
   omega
theorem j' (b:List Int) (l:List ST):Idle (bY b l):=fun y hf=>by
 cases l with
 | nil=>rfl
 | cons s l=>rw[bY,if_pos hf]
theorem sj {b:List Int} {x:eN} (h:(aY b x).w.e=0):¬ (aY b x).w.aO:=by
 have key:(cf b (aE x.w (¬ x.w.last))).e=0/\((aY b x).w.aO=(cf b (aE x.w (¬ x.w.last))).aO):=by
  unfold aY at h ⊢
  simp only at h ⊢
  by_cases k:(iA b x.w.at_).form≠97
  ·rw[if_pos k] at h ⊢
   exact⟨(aU h).2,rfl⟩
  ·rw[if_neg k] at h ⊢
   cases hx:x.aw with
   | nil=>rw[hx] at h; exact absurd (show (201:Int)=0 from h) (by decide)
   | cons d l =>
    rw[hx] at h
    simp only at h ⊢
    by_cases k2:d.at_≠x.w.at_
    ·rw[if_pos k2] at h; exact absurd (show (201:Int)=0 from h) (by decide)
    ·rw[if_neg k2] at h ⊢
     exact⟨(aU h).2,rfl⟩
 rw[key.2]
 exact Dz key.1
theorem DE {b:List Int} {till:Int}:∀ (k:Nat) (x:eN),(x.w.e=0->jS b x.w)->(runN b till k x).w.e=0->jS b (runN b till k x).w
 | 0,x,h,he=>by rw[runN] at he ⊢; exact h he
 | k+1,x,h,he=>by
  rw[runN] at he ⊢
  split at he
  ·rename_i hc
   rw[if_pos hc]
   split at he
   ·rename_i hb
    rw[if_pos hb]
    exact fun q=>absurd q (sj he)
   ·rename_i hb
    rw[if_neg hb]
    exact DE k (aY b x) (fun e q=>absurd q (sj e)) he
  ·rename_i hc
   rw[if_neg hc]
   exact h he
theorem HF {b:List Int} {till:Int}:∀ (k:Nat) (x:eN),uE till x < k->(x.w.at_ < till\/(x.w.e=0->¬ x.w.aO))->(runN b till k x).w.e=0->¬ (runN b till k x).w.aO
 | 0,x,hf,_,_=>by omega
 | k+1,x,hf,h,he=>by
  rw[runN] at he ⊢
  split at he
  ·rename_i hc
   rw[if_pos hc]
   split at he
   ·rename_i hb
    rw[if_pos hb]
    exact sj he
   ·rename_i hb
    rw[if_neg hb]
    have:=oX (b:=b) hc
    exact HF k (aY b x) (by omega) (.inr fun e=>sj e) he
  ·rename_i hc
   rw[if_neg hc]
   rcases h with h|h
   ·exact absurd ⟨h,he⟩ hc
   ·exact h he
theorem AR:∀ {t:T},(fD t).Ok->t.Wf
 | .leaf o n,h=>h.2.1
 | .one o n a,h=>⟨h.2.1,AR (h.2.2.2).1⟩
 | .two o n a c,h=>⟨h.2.1,AR (h.2.2.2).1,AR (h.2.2.2).2.1⟩
theorem gf {g:G} (hO:g.Ok) (hm:eD g):(cJ g).Wf:=AR (by rw[← iU hm]; exact hO)
theorem zu {b:List Int} (hl:b.length<=2000) {W:WK} (hI:bX W.at_) (till:Int) (ds:List DV):g_ 115000 (jY b W till ds).out:=(xd (rR hl hI till ds).2.1).more (by have:=(rR hl hI till ds).1; omega)
theorem ix {b:List Int} (hl:b.length<=2000) {wt:Int}:∀ (l:List ST),c_ l->(∀ s∈l,∀ (W:WK) (y:WY) (r:R),bX W.at_->jg b wt W y r->(bG b s W).2.e=0->Out b wt (bG b s W).2 (x_ b s y) (eR wt (bG b s W).1 r))->zt b wt (ar b l) (bY b l)
 | [],_,_,W,y,r,_,hS,_=>by rw[ar,bY,iw]; exact .inr (.inr (.inr hS))
 | s::l,hO,h,W,y,r,hI,hS,he=>by
  by_cases h0:W.e=0
  ·have e1:ar b (s::l) W=((bG b s W).1::(ar b l (bG b s W).2).1,(ar b l (bG b s W).2).2):=by rw[ar,if_neg (fun k=>k h0)]
   rw[e1] at he ⊢
   have mc:=fM hl s hO.1
   have mn:=mc.I W hI
   have Ek:=bV hl l hO.2
   have Bs:=(Ek.ok _ mn he).1
   have o:=h s (List.mem_cons_self ..) W y r hI hS Bs
   rw[bY,if_neg hS.j1.2]
   show Out b wt (ar b l (bG b s W).2).2 (bY b l (x_ b s y)) (bE wt ((bG b s W).1::(ar b l (bG b s W).2).1) r)
   rw[bZ hS.j1.1]
   rcases o with o|o|⟨o1,o2,o3⟩|o
   ·rw[j' b l _ (.inr o)]; exact .inl o
   ·rw[j' b l _ (.inl (by rw[o]; decide))]; exact .inr (.inl o)
   ·rw[j' b l _ (o8 o1),fm (ou o1 o2)]; exact .inr (.inr (.inl ⟨o1,o2,o3⟩))
   ·exact ix hl l hO.2 (fun x hx=>h x (List.mem_cons_of_mem _ hx)) _ _ _ mn o he
  ·rw[ar,if_pos h0] at he; exact absurd he h0
theorem FD {b:List Int} (hl:b.length<=2000):∀ (l:List ST),c_ l->(∀ s∈l,∀ W:WK,bX W.at_->jS b W->(bG b s W).2.e=0->jS b (bG b s W).2)->ZJ b (ar b l)
 | [],_,_,W,_,hf,_=>by rw[ar]; exact hf
 | s::l,hO,h,W,hI,hf,he=>by
  by_cases h0:W.e=0
  ·have e1:ar b (s::l) W=((bG b s W).1::(ar b l (bG b s W).2).1,(ar b l (bG b s W).2).2):=by rw[ar,if_neg (fun k=>k h0)]
   rw[e1] at he ⊢
   have mc:=fM hl s hO.1
   have mn:=mc.I W hI
   have Bs:=((bV hl l hO.2).ok _ mn he).1
   exact FD hl l hO.2 (fun x hx=>h x (List.mem_cons_of_mem _ hx)) _ mn (h s (List.mem_cons_self ..) W hI hf Bs) he
  ·rw[ar,if_pos h0] at he; exact absurd he h0
theorem o9 {b:List Int} {s:ST} {HD BD EL:WK->List C × WK} {W:WK} (he:(stepG b s HD BD EL W).2.e=0):(s.h.fr=W.at_/\s.h.fr < s.h.till/\¬ W.last/\gv s)/\stepG b s HD BD EL W=fV b s HD BD EL W/\(fV b s HD BD EL W).2.at_=s.h.till:=by
 by_cases h:(fk s W).e≠0
 ·rw[tu h] at he; exact absurd he h
 ·obtain⟨h1,h2⟩:=lx (Classical.not_not.1 h)
  have e:=xg (b:=b) (HD:=HD) (BD:=BD) (EL:=EL) h
  rw[h2] at e
  rw[e] at he
  have h3:=(aU he).1
  refine⟨h1,?_,h3⟩
  rw[e,bu h3]
theorem Ox {b:List Int} (hl:b.length<=2000):∀ s:ST,s.Ok->∀ W:WK,bX W.at_->jS b W->(bG b s W).2.e=0->jS b (bG b s W).2:=ST.ind fun s uG tG HB hO W hI hf he=>by
 have jf:c_ s.hd/\c_ s.bd/\c_ s.el:=by cases s; exact hO.2.2
 have fB:=FD hl s.bd jf.2.1 fun x hx=>tG x hx (bs jf.2.1 x hx)
 have gB:=bV hl s.bd jf.2.1
 rw[fo] at he ⊢
 obtain⟨h1,h2,h3⟩:=o9 he
 rw[h2] at he ⊢
 unfold fV at he ⊢
 by_cases k1:s.h.kind=1
 ·rw[if_pos k1] at he ⊢
  have oE:(iS b W s.h.till (s.h.aw.map eg)).e=0:=he
  show jS b (iS b W s.h.till (s.h.aw.map eg))
  have e2:iS b W s.h.till (s.h.aw.map eg)=(jY b W s.h.till (s.h.aw.map eg)).w:=cv oE
  rw[e2] at oE ⊢
  exact DE _ _ (fun _=>hf) oE
 rw[if_neg k1] at he ⊢
 by_cases k2:s.h.kind=2
 ·rw[if_pos k2] at he ⊢
  have oE:(cl b s.h W).e=0:=he
  have e3:=(aU (aU (aU oE).2).2).2
  exact fun q=>absurd q (qy e3)
 rw[if_neg k2] at he ⊢
 by_cases k3:s.h.kind=3
 ·rw[if_pos k3] at he ⊢
  unfold de at he ⊢
  simp only at he ⊢
  obtain⟨h7,h8⟩:=Dh he
  have h6:=dq h7
  rw[je] at h6
  have h4:=(aU h6).2
  obtain⟨q3,_⟩:=Di h4
  have qB:=(aU q3).2
  have p1:=(gB.ok _ (k_ hl 0 hI) qB).1
  have fB1:=fB (cu b W 0) (k_ hl 0 hI) (fun k=>absurd k (qy p1)) qB
  have e8:∀ X,Hy (Hw b s.h X) (aD b (Hx s.h (ar b s.el (kG (cu b W 0) X)).2))=Hw b s.h X->True:=fun _ _=>trivial
  have eq8:Hy (Hw b s.h (zo (dK b W) (gw b s.h (pQ s.h (eT s.el=0) (ar b s.bd (cu b W 0)).2)))) (aD b (Hx s.h (ar b s.el (kG (cu b W 0) (zo (dK b W) (gw b s.h (pQ s.h (eT s.el=0) (ar b s.bd (cu b W 0)).2))))).2))=Hw b s.h (zo (dK b W) (gw b s.h (pQ s.h (eT s.el=0) (ar b s.bd (cu b W 0)).2))):=if_neg (fun k=>k h8)
  rw[eq8]
  refine (xn (xm ?_ s.h.till) h7).2
  rw[show zo (dK b W) (gw b s.h (pQ s.h (eT s.el=0) (ar b s.bd (cu b W 0)).2))=gw b s.h (pQ s.h (eT s.el=0) (ar b s.bd (cu b W 0)).2) from cv h6]
  have e3:pQ s.h (eT s.el=0) (ar b s.bd (cu b W 0)).2=(ar b s.bd (cu b W 0)).2:=cv q3
  rw[e3] at h4 ⊢
  unfold gw at h4 ⊢
  by_cases k:s.h.skip≠-1/\(ar b s.bd (cu b W 0)).2.e=0
  ·rw[if_pos k] at h4 ⊢
   rw[cv h4]
   exact fun q=>absurd q (qy (aU h4).2)
  ·rw[if_neg k]
   exact fB1
 rw[if_neg k3] at he ⊢
 by_cases k4:s.h.kind=4
 ·rw[if_pos k4]
  exact fun q=>q.elim
 ·rw[if_neg k4] at he
  exact absurd (show (201:Int)=0 from he) (by decide)
theorem J3 {b:List Int} (hl:b.length<=2000) (l:List ST) (hO:c_ l):ZJ b (ar b l):=FD hl l hO fun s hs=>Ox hl s (bs hO s hs)
def PP (c:C):Prop:=qx c/\c.Wf
theorem PP.kids:∀ c:C,PP c->∀ x∈c.l,PP x:=fun c h x hx=>⟨((rZ c).1 h.1).2 x hx,rF ((C.Av c).1 h.2).2.2 x hx⟩
theorem Oy:∀ {l:List C},(∀ c∈l,c.Wf)->wfL l
 | [],_=>trivial
 | c::l,h=>⟨h c (List.mem_cons_self ..),Oy fun x hx=>h x (List.mem_cons_of_mem _ hx)⟩
theorem PP.mk {c:C} (h:Ds c.kind c.eX c.eY c.word c.size c.a c.b (c.l.length:Nat)) (ha:c.a.Wf) (hb:c.b.Wf) (hl:∀ x∈c.l,PP x):PP c:=⟨(rZ c).2 ⟨h,fun x hx=>(hl x hx).1⟩,(C.Av c).2 ⟨ha,hb,Oy fun x hx=>(hl x hx).2⟩⟩
theorem mf:cM.Wf:=⟨by decide,by decide⟩
theorem mg:cK cM false=true:=by decide
theorem PP.flat {cy mi:Int} (h1:0<=cy/\cy<=2147483647) (h2:0<=mi/\mi<=2147483647):PP (ak cy mi) :=
 PP.mk (c:=ak cy mi) ⟨⟨(show (1:Int)<=1 by decide),(show (1:Int)<=6 by decide)⟩,⟨fun _=>⟨h1.1,h1.2,h2.1,h2.2⟩,fun k=>absurd rfl k,fun k=>absurd (show (1:Int)=4 from k) (by decide),fun _=>rfl,fun k=>absurd (show (1:Int)=5 from k) (by decide),fun _=>rfl⟩,
  ⟨fun _=>rfl,fun k=>absurd (show (1:Int)=2 from k) (by decide),fun k=>absurd (show (1:Int)=3 from k) (by decide),fun k=>absurd (show (1:Int)=4\/(1:Int)=5 from k) (by decide)⟩,⟨fun k=>absurd (show (3:Int)<=1 from k) (by decide),fun _=>mg⟩,⟨fun k=>absurd (show (1:Int)=4\/(1:Int)=6 from k) (by decide),fun _=>mg⟩⟩ mf mf (fun x hx=>by cases hx)
theorem PP.jj {c:C} (h:PP c) (hk:c.kind=1):cN c=1:=by
 obtain⟨_,_,⟨h1,_⟩,⟨_,h2⟩,⟨_,h3⟩⟩:=((rZ c).1 h.1).1
 have hl:c.l = []:=List.eq_nil_of_length_eq_zero (by have:=h1 (.inl hk); omega)
 have e2:cK c.a false=true:=h2 (by omega)
 have e3:cK c.b false=true:=h3 (by omega)
 simp only[cK,Bool.false_eq_true,if_false,decide_eq_true_eq] at e2 e3
 rw[rT,hl,ju,ju,if_pos e2.1,if_pos e3.1]
 rfl
theorem ZN {l:List C} (h:∀ c∈l,PP c):∀ x∈dI l,PP x:=Ay PP.kids (fun c _=>Rt PP.kids c) h
theorem DF {p:C->Prop}:∀ (S out:List C),(∀ x∈out,p x\/∃ cy mi,x=ak cy mi)->(∀ c∈S,p c\/∃ cy mi,c=ak cy mi)->∀ x∈S.foldl bW out,p x\/∃ cy mi,x=ak cy mi
 | [],out,ho,_,x,hx=>ho x hx
 | c::S,out,ho,hS,x,hx=>DF S (bW out c) (l5 ho (hS c (List.mem_cons_self ..)) fun d _ _ _=>.inr ⟨_,_,rfl⟩) (fun y hy=>hS y (List.mem_cons_of_mem _ hy)) x hx
theorem HG {B:Int} (hB:B<=1000000) {l:List C} (hw:g_ B l) (h:∀ c∈l,PP c):(∀ x∈gd l,PP x)/\(gd l).length<=1000000:=by
 have hj:g_ B [aq l]:=hw.join
 have e:dI [aq l]=gd l:=by rw[o6,rQ]
 have h1:=hj.flat
 have h2:=hj.wt
 rw[e] at h1 h2
 refine⟨fun x hx=>?_,by have:=vg h1; omega⟩
 rcases DF (p:=PP) (dI l) [] (fun y hy=>by cases hy) (fun c hc=>.inl (ZN h c hc)) x (List.mem_filter.1 hx).1 with k|⟨cy,mi,rfl⟩
 ·exact k
 ·have h3:=AI h1 _ hx
  have h4:=h1 _ hx rfl
  rw[Ht,if_pos (show (ak cy mi).kind=1 from rfl)] at h3
  have Kn:1+cy+mi<=k9 (gd l):=h3
  have FA:0<=cy/\0<=mi:=h4
  exact PP.flat ⟨FA.1,by omega⟩ ⟨FA.2,by omega⟩
theorem jh {B:Int} (hB:B<=1000000) {l:List C} (hw:g_ B l) (h:∀ c∈l,PP c):PP (aq l):=by
 obtain⟨h1,h2⟩:=HG hB hw h
 unfold aq
 split
 ·rename_i c hc
  exact h1 c (by rw[hc]; exact List.mem_singleton_self _)
 ·refine PP.mk (c:=.mk 2 0 0 0 0 cM cM (gd l)) ⟨⟨(show (1:Int)<=2 by decide),(show (2:Int)<=6 by decide)⟩,⟨fun k=>absurd (show (2:Int)=1 from k) (by decide),fun _=>⟨rfl,rfl⟩,fun k=>absurd (show (2:Int)=4 from k) (by decide),fun _=>rfl,fun k=>absurd (show (2:Int)=5 from k) (by decide),fun _=>rfl⟩,⟨fun k=>absurd (show (2:Int)=1\/(2:Int)=6 from k) (by decide),fun _=>by show ((gd l).length:Int)<=_; omega,fun k=>absurd (show (2:Int)=3 from k) (by decide),fun k=>absurd (show (2:Int)=4\/(2:Int)=5 from k) (by decide)⟩,⟨fun k=>absurd (show (3:Int)<=2 from k) (by decide),fun _=>mg⟩,⟨fun k=>absurd (show (2:Int)=4\/(2:Int)=6 from k) (by decide),fun _=>mg⟩⟩ mf mf h1
def Oz (c:C):Nat:=if c.kind=1 then 0 else cN c+1
def dM:List C->Nat
 | []=>0
 | c::l=>Oz c+dM l
theorem cW:∀ l m:List C,dM (l++m)=dM l+dM m
 | [],m=>by rw[List.nil_append,dM]; omega
 | c::l,m=>by rw[List.cons_append,dM,dM,cW l m]; omega
theorem J4 (out:List C) (c:C):dM (bW out c)=dM out+Oz c:=by
 unfold bW
 cases he:out.getLast? with
 | none=>simp only; rw[cW,dM,dM]; omega
 | some d =>
  simp only
  split
  ·rename_i hk
   obtain⟨pre,tc⟩:=List.getLast?_eq_some_iff.1 he
   rw[tc,List.dropLast_concat,cW,cW,dM,dM,dM,dM]
   rw[show Oz (ak (d.eX+c.eX) (d.eY+c.eY))=0 from if_pos rfl,show Oz d=0 from if_pos hk.2,show Oz c=0 from if_pos hk.1]
  ·rw[cW,dM,dM]; omega
theorem DH:∀ (S out:List C),dM (S.foldl bW out)=dM out+dM S
 | [],out=>by rw[List.foldl_nil,dM]; omega
 | c::S,out=>by rw[List.foldl_cons,DH S,J4,dM]; omega
theorem xo:∀ l:List C,dM (l.filter bq)<=dM l
 | []=>by simp[dM]
 | c::l=>by
  have h:=xo l
  by_cases hk:bq c=true
  ·rw[List.filter_cons_of_pos hk,dM,dM]; omega
  ·rw[List.filter_cons_of_neg hk,dM]; omega
theorem HH (l:List C):dM (gd l)<=dM (dI l):=by
 unfold gd
 have h1:=xo ((dI l).foldl bW [])
 rw[DH,dM] at h1
 omega
theorem jy (l:List C):dM (oV (aq l))<=dM (dI l):=by rw[rQ]; exact HH l
theorem OA:∀ {p:Bool} {l:List C},Fe p l->(∀ c∈l,c.kind=1->cN c=1)->pP l+(if p=true then 1 else 0)<=dM l+1
 | p,[],_,_=>by simp only[pP,dM]; split<;>omega
 | p,c::l,h,hf=>by
  have ih:=OA h.2 fun x hx=>hf x (List.mem_cons_of_mem _ hx)
  rw[pP,dM]
  by_cases hk:c.kind=1
  ·have h1:=hf c (List.mem_cons_self ..) hk
   rw[show decide (c.kind=1)=true from decide_eq_true hk] at ih
   rw[show Oz c=0 from if_pos hk]
   rw[if_pos rfl] at ih
   cases p with
   | true=>exact absurd hk (h.1 rfl)
   | false=>rw[if_neg (by decide)]; omega
  ·rw[show decide (c.kind=1)=false from decide_eq_false hk] at ih
   rw[if_neg (by decide)] at ih
   rw[show Oz c=cN c+1 from if_neg hk]
   split<;>omega
theorem AS {B:Int} (hB:B<=1000000) {l:List C} (hw:g_ B l) (h:∀ c∈l,PP c):cN (aq l)<=2+dM (dI l):=by
 obtain⟨h1,_⟩:=HG hB hw h
 have h2:Fe false (gd l):=qp (y_ (dI l) [] trivial)
 have h3:=OA h2 fun c hc hk=>(h1 c hc).jj hk
 have h4:=HH l
 rw[if_neg (by decide)] at h3
 unfold aq
 split
 ·rename_i c hc
  rw[hc] at h3
  simp only[pP] at h3
  rw[hc] at h4
  omega
 ·rw[rT]
  show 1+ju cM+ju cM+pP (gd l)<=_
  rw[show ju cM=0 from if_pos rfl]
  omega
theorem fO (c:C) (l:List C):dI (c::l)=oV c++dI l:=by rw[dI]
theorem sk {c:C} (h:c.kind≠2):oV c = [c]:=by rw[ik,if_neg h]
theorem mh (cy mi:Int):dM (oV (ak cy mi))=0:=by
 rw[sk (c:=ak cy mi) (show (1:Int)≠2 by decide),dM,dM,show Oz (ak cy mi)=0 from if_pos rfl]
mutual
def gN:G->Nat
 | .mk _ _ l=>1+OB l
def OB:List G->Nat
 | []=>0
 | g::l=>gN g+OB l
end
theorem tC:∀ t:T,gN (fD t)=t.size
 | .leaf o n=>rfl
 | .one o n a=>by show 1+(gN (fD a)+0)=1+a.size; rw[tC a]; rfl
 | .two o n a b=>by show 1+(gN (fD a)+(gN (fD b)+0))=1+a.size+b.size; rw[tC a,tC b]; omega
theorem tD {g:G} (h:eD g):ju (cJ g)<=gN g:=by
 have e:=iU h
 have h2:gN g=(cJ g).size:=by
  conv=>lhs; rw[e]
  exact tC _
 unfold ju
 split<;>omega
theorem vj:∀ {t:T},tm (fD t)->fI t=true
 | .leaf o n,h=>by
  have h1:o≠2\/n<=253:=h.1
  show decide (o≠2\/n < 254)=true
  exact decide_eq_true (h1.imp id fun k=>by omega)
 | .one o n a,h=>by
  have h1:o≠2\/n<=253:=h.1
  have h2:fI a=true:=vj h.2.1
  show (decide (o≠2\/n < 254) && fI a)=true
  rw[h2,decide_eq_true (h1.imp id fun k=>(by omega:n < 254))]
  rfl
 | .two o n a b,h=>by
  have h1:o≠2\/n<=253:=h.1
  have h2:fI a=true:=vj h.2.1
  have h3:fI b=true:=vj h.2.2.1
  show (decide (o≠2\/n < 254) && (fI a && fI b))=true
  rw[h2,h3,decide_eq_true (h1.imp id fun k=>(by omega:n < 254))]
  rfl
theorem j_ {g:G} (h:eD g):iD (cJ g):=by
 have e:=iU h
 obtain⟨⟨h1,h2⟩,h3⟩:=h
 rw[e] at h1 h2 h3
 exact⟨⟨h1,h2⟩,vj h3⟩
end Go.Proofs.YtnbhdacpogplgaaGreatDoor.Pw

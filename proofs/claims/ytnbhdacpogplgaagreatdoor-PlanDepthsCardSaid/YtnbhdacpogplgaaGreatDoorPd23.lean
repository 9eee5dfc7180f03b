/- What this claim is proved with: no condition. -/
import Derived.Test.YtnbhdacpogplgaaGreatDoorPd22
import Derived.Test.YtnbhdacpogplgaaGreatDoorPd11
import Derived.Test.YtnbhdacpogplgaaGreatDoorPd21
set_option maxRecDepth 100000
set_option maxHeartbeats 16000000
set_option linter.unusedVariables false
set_option linter.unusedSimpArgs false
namespace Go.Proofs.YtnbhdacpogplgaaGreatDoor.Pw
open Go Go.RowKit
theorem qx (b:List Int) (w:WK):Spec gT 46 [.ptr 0 0] [eC b w] [] fun y S'=>y = .tup []/\S' = [eC b { w with e:=201 }]:=by
 refine Spec.rT (Spec.enter al Xi 100 Tryz.func46 rfl (by kernel_rfl) ?_)
 exact rS
def iU (c:C):Prop:=((c.kind=1/\(0<=c.fj/\c.fj<=20)/\0<=c.fC/\c.fC<=2)\/c.kind=6)/\c.l = []
theorem o6:∀ {l:List C},(∀ c∈l,iU c)->ez l=l
 | [],_=>rfl
 | c::l,h=>by
  have h1:=h c (List.mem_cons_self ..)
  rw[ez,gJ,if_neg (by rcases h1.1 with h1|h1<;>omega),o6 (fun x hx=>h x (List.mem_cons_of_mem _ hx))]
  rfl
def jH (c:C):PV:=.agg [.int .i64 c.kind,.int .i64 c.fj,.int .i64 c.fC,.int .i64 c.word,.int .i64 c.size,.int .i64 c.a.op,.int .u32 c.a.num,.sl 3 (cb c.a),.int .i64 c.b.op,.int .u32 c.b.num,.sl 3 (cb c.b),if c.kind=6 then .nil else .sl 12 []]
theorem Jc {c:C} (h:c.l = []):kp pI [.int .i64 c.kind,.int .i64 c.fj,.int .i64 c.fC,.int .i64 c.word,.int .i64 c.size,.int .i64 c.a.op,.int .u32 c.a.num,.sl 3 (cb c.a),.int .i64 c.b.op,.int .u32 c.b.num,.sl 3 (cb c.b),if c.kind=6 then .nil else .sl 12 []] (Fe c):=by
 have e:gG c = []:=by rw[dh,h]; rfl
 unfold Fe
 rw[e]
 split
 ·repeat' first|exact trivial|exact rfl|refine And.intro ?_ ?_
 ·repeat' first|exact trivial|exact rfl|refine And.intro ?_ ?_
theorem wg:∀ {l:List C},(∀ c∈l,c.l = [])->BA (l.map jH) (l.map bo)
 | [],_=>trivial
 | c::l,h=>⟨Jc (h c (List.mem_cons_self ..)),wg fun x hx=>h x (List.mem_cons_of_mem _ hx)⟩
def dR5 (l:List C):ak:=⟨.dyn,30,12,.w,true,l.map jH⟩
structure SP where
 kind:Int
 fr:Int
 till:Int
 stub:Int
 skip:Int
 size:Int
 word:Int
 A:G
 B:G
 aN:List PV
 hd:List PV
 bd:List PV
 el:List PV
def Yr (s:SP):List PV:=[.int .i64 s.kind,.int .i64 s.fr,.int .i64 s.till,.int .i64 s.stub,.int .i64 s.skip,.int .i64 s.size,.int .i64 s.word,.int .i64 s.A.op,.int .u32 s.A.n,.sl 3 (eG s.A),.int .i64 s.B.op,.int .u32 s.B.n,.sl 3 (eG s.B),.sl 7 s.aN,.sl 17 s.hd,.sl 17 s.bd,.sl 17 s.el]
def BT (s:SP):PV:=.agg (Yr s)
def GC (s:SP):ak:=⟨.loc,37,1,.w,true,Yr s⟩
structure rf (b:List Int) (till:Int) (R:eY) (a0:Int) where
 x:eY
 n:Nat
 jI:we till x < n
 eq:runN b till n x=R
 hI:ck x.w.at_
 a:a0<=x.w.at_/\(x.w.at_=a0\/(0<=a0/\x.w.at_<=b.length+4))
 len:(x.out.length:Int)<=2*(x.w.at_ - a0)+2/\(x.w.e=0->(x.out.length:Int)<=2*(x.w.at_ - a0))
 outs:∀ c∈x.out,iU c
theorem kA {b:List Int} {x:eY} (h:∀ c∈x.out,iU c):(∀ c∈(bJ b x).out,iU c)/\(bJ b x).out.length<=x.out.length+2/\x.out.length+1<=(bJ b x).out.length:=by
 have hb:=Fp b x.w.at_
 have hn:0<=eX b (aC x.w (¬ x.w.last))/\eX b (aC x.w (¬ x.w.last))<=2:=by
  unfold eX
  split
  ·decide
  ·split
   ·decide
   ·exact iT ..
 have h1:∀ c∈x.out++[aE (dU b x.w.at_) (eX b (aC x.w (¬ x.w.last)))],iU c:=fun c hc=>by
  rcases List.mem_append.1 hc with hc|hc
  ·exact h c hc
  ·rw[List.mem_singleton] at hc
   rw[hc]
   exact⟨.inl ⟨rfl,hb,hn⟩,rfl⟩
 unfold bJ
 simp only
 split
 ·exact⟨h1,by rw[List.length_append,List.length_singleton]; omega,by rw[List.length_append,List.length_singleton]; omega⟩
 ·split
  ·exact⟨h1,by rw[List.length_append,List.length_singleton]; omega,by rw[List.length_append,List.length_singleton]; omega⟩
  ·split
   ·exact⟨h1,by rw[List.length_append,List.length_singleton]; omega,by rw[List.length_append,List.length_singleton]; omega⟩
   ·refine⟨fun c hc=>?_,by simp only[List.length_append,List.length_singleton]; omega,by simp only[List.length_append,List.length_singleton]; omega⟩
    rcases List.mem_append.1 hc with hc|hc
    ·exact h1 c hc
    ·rw[List.mem_singleton] at hc
     rw[hc]
     exact⟨.inr rfl,rfl⟩
theorem jn {l:List C} (hl:l.length<=1000000) (h:∀ c∈l,iU c):ai gT 45 [.sl 12 (l.map jH)] (bo (ba l)):=by
 have hj:=nz l (by rw[o6 h]; exact hl) (fun c hc hk=>by
  rw[o6 h] at hc
  rcases (h c hc).1 with ⟨_,h1,h2⟩|h1<;>omega)
 exact Spec.E1 hj ⟨Kf (wg fun c hc=>(h c hc).2),trivial⟩
noncomputable def rf.next {b:List Int} {till:Int} {R:eY} {a0:Int} (r:rf b till R a0) (hl:b.length<=2000) (h:r.x.w.at_ < till/\r.x.w.e=0) (hb:¬ yD b r.x):rf b till R a0:=by
 have AL:=qw b r.x
 have hn:=qv b (aC r.x.w (¬ r.x.w.last))
 rw[← AL] at hn
 have Cn:(bJ b r.x).w.at_=r.x.w.at_\/(eA b r.x.w.at_=0/\(bJ b r.x).w.at_=r.x.w.at_+aY (iA b r.x.w.at_).form):=hn
 have Fq:(bJ b r.x).w.at_=r.x.w.at_\/((0<=r.x.w.at_/\r.x.w.at_+2<=b.length)/\((bJ b r.x).w.at_=r.x.w.at_+2\/(bJ b r.x).w.at_=r.x.w.at_+4)):=by
  rcases Cn with h1|⟨h1,h2⟩
  ·exact .inl h1
  ·obtain⟨h3,h4,_⟩:=bz h1
   have:=eW h4
   exact .inr ⟨h3,by omega⟩
 have ho:=kA (b:=b) r.outs
 have Jd:=sC (b:=b) h
 have hr:=r.jI
 have ha:=r.a
 have hlen:=r.len.2 h.2
 have hI:=r.hI
 refine⟨bJ b r.x,r.n - 1,by omega,?_,?_,?_,?_,ho.1⟩
 ·have e:=r.eq
  obtain⟨k,hk⟩:∃ k,r.n=k+1:=⟨r.n - 1,by omega⟩
  rw[hk] at e ⊢
  rw[runN,if_pos h,if_neg hb] at e
  exact e
 ·unfold ck at hI ⊢; omega
 ·omega
 ·refine⟨by omega,fun he=>?_⟩
  obtain⟨q1,q2,_,q4⟩:=tZ he
  have hs:=eW (bz q1).2.1
  omega
theorem rf.o7 {b:List Int} {till:Int} {R:eY} {a0:Int} (r:rf b till R a0) (hl:b.length<=2000) (h:r.x.w.at_ < till/\r.x.w.e=0) (hb:¬ yD b r.x):∃ r':rf b till R a0,r'.x=bJ b r.x/\r'.n < r.n :=
 ⟨r.next hl h hb,rfl,by have:=r.jI; show r.n - 1 < r.n; omega⟩
noncomputable def nC (b:List Int) (w:WK) (till:Int) (aN:List DV):eY:=runN b till ((till - w.at_).toNat+1) ⟨w,[],aN⟩
noncomputable def kK (b:List Int) (w:WK) (till:Int) (aN:List DV):WK:=aC (nC b w till aN).w ((nC b w till aN).aN = [])
noncomputable def qy (b:List Int) (w:WK) (till:Int) (aN:List DV):C:=ba (nC b w till aN).out
open Classical in
theorem Fs (b:List Int) (hb:oK b) (hl:b.length<=2000) (w:WK) (hI:ck w.at_) (s:SP) (aN:List DV) (hs:s.aN=aN.map mU):Spec gT 80 [.ptr 0 0,BT s] [eC b w] [] fun y S'=>y=bo (qy b w s.till aN)/\S' = [eC b (kK b w s.till aN)]:=by
 unfold qy kK
 obtain⟨R,hR⟩:∃ R,nC b w s.till aN=R:=⟨_,rfl⟩
 rw[hR]
 unfold nC at hR
 refine Spec.rT (Spec.enter al ZD 100 Tryz.func80 rfl (by kernel_rfl) ?_)
 refine SW.qb al ZD (by kernel_rfl) (α:=rf b s.till R w.at_) (fun r=>[(0,.ptr 0 0),(3,.ptr 1 0),(4,.ptr 2 0),(5,.wref 3),(6,.sl 7 (r.x.aN.map mU))]) (fun r=>[eC b r.x.w,GC s,zC,dR5 r.x.out]) (fun r=>r.n) ⟨⟨w,[],aN⟩,(s.till - w.at_).toNat+1,by
  unfold we
  split
  ·show (s.till - w.at_).toNat < _; omega
  ·omega,hR,hI,⟨Int.le_refl _,.inl rfl⟩,by simp,by simp⟩ 100 [some 0,some 1,some 2,none] ?_ ?_
 ·repeat' first|exact trivial|exact rfl|exact Iff.rfl|exact not_false|refine And.intro ?_ ?_
  all_goals exact hs
 intro r
 have ka:=r.o7 (by omega)
 obtain⟨x,n,Jd,heq,Ys,Y',hlen,Ft⟩:=r
 have hol:x.out.length<=5000:=by omega
 have UN:¬ (x.w.at_ < s.till/\x.w.e=0)->R=x:=fun h=>by
  obtain⟨k,rfl⟩:∃ k,n=k+1:=⟨n - 1,by omega⟩
  rw[runN,if_neg h] at heq
  exact heq.symm
 have UO:x.w.at_ < s.till/\x.w.e=0->yD b x->R=bJ b x:=fun h hb=>by
  obtain⟨k,rfl⟩:∃ k,n=k+1:=⟨n - 1,by omega⟩
  rw[runN,if_pos h,if_pos hb] at heq
  exact heq.symm
 refine⟨fun h1=>And.intro (fun h2=>?_) (fun h2=>?_),fun h1=>?_⟩
 ·have hc:x.w.at_ < s.till/\x.w.e=0:=⟨h1,h2⟩
  obtain⟨eB,nY⟩:=yC b x.w.at_
  have gV:=kA (b:=b) Ft
  have xj:bJ b x=(let w1:=aC x.w (¬ x.w.last)
   let i:=iA b x.w.at_
   let w4:={ aC (dt b w1) (¬ BS i.form/\i.form≠45) with last:=dT i }
   let out:=x.out++[aE (dU b x.w.at_) (eX b w1)]
   if i.form≠97 then ⟨w4,out,x.aN⟩ else match x.aN with
    | []=>⟨{ w4 with e:=201 },out,[]⟩
    | d::l=>if d.at_≠x.w.at_ then ⟨{ w4 with e:=201 },out,d::l⟩ else ⟨w4,out++[qu d],l⟩):=rfl
  simp only at xj
  have wh:yD b x↔((iA b x.w.at_).form=97/\match x.aN with
   | []=>True
   | d::_=>d.at_≠x.w.at_):=Iff.rfl
  refine (bs b x.w (¬ x.w.last)).e ?_
  refine (z6 b hb (by omega) (aC x.w (¬ x.w.last)) Ys).e ?_
  have Yt:iA b (aC x.w (¬ x.w.last)).at_=iA b x.w.at_:=rfl
  rw[Yt]
  generalize eX b (aC x.w (¬ x.w.last))=nn at xj ⊢
  generalize dt b (aC x.w (¬ x.w.last))=w2 at xj ⊢
  generalize dU b x.w.at_=bb at xj nY ⊢
  generalize iA b x.w.at_=i at xj nY wh ⊢
  refine (Jb i).u ?_
  refine⟨fun VK=>?p1,fun VK=>?p2⟩
  case' p1 =>
   refine (bs b w2 (i.form≠45)).e ?_
   rw[show aC w2 (i.form≠45)=aC w2 (¬ BS i.form/\i.form≠45) from congrArg (aC w2) (propext ⟨fun h=>⟨VK,h⟩,fun h=>h.2⟩)]
  case' p2 =>
   refine (bO b w2).e ?_
   rw[show ({ w2 with e:=201 }:WK)=aC w2 (¬ BS i.form/\i.form≠45) from (cX fun h=>VK h.1).symm]
  all_goals
   clear VK
   generalize aC w2 (¬ BS i.form/\i.form≠45)=w3 at xj ⊢
   refine (sB i).u ?_
   refine⟨[],av,nY.use (by first|exact da rfl rfl|(repeat' first|exact trivial|exact rfl|exact Iff.rfl|exact Or.inl rfl|exact not_false|refine And.intro ?_ ?_)) rfl rfl ?_⟩
   refine (bu bb nn).u ?_
   refine⟨show (x.out.map jH).length+1<=maxLen by rw[List.length_map]; unfold maxLen; omega,show ((x.out.map jH).length+1)*144<=140737488355328 by rw[List.length_map]; omega,?_⟩
   refine⟨fun Gz=>?_,fun Gz=>?_⟩
   ·have Fu:i.form≠97:=Gz
    rw[if_pos Fu] at xj
    obtain⟨r,UP,Uz⟩:∃ r:rf b s.till R w.at_,r.x=bJ b x/\r.n < n:=ka hc (fun h=>Fu (wh.1 h).1)
    rw[xj] at UP
    obtain⟨x2,n2,Fv,Qm,Qn,Qo,Fw,yE⟩:=r
    obtain rfl:x2=_:=UP
    refine⟨⟨_,n2,Fv,Qm,Qn,Qo,Fw,yE⟩,[some 0,some 1,some 2,some 6],Uz,?_⟩
    repeat' first|exact trivial|exact rfl|exact Iff.rfl|exact not_false|refine And.intro ?_ ?_
    all_goals exact (show x.out.map jH++[jH (aE bb nn)]=(x.out++[aE bb nn]).map jH by rw[List.map_append]; rfl)
   ·have Fu:¬ i.form≠97:=Gz
    rw[if_neg Fu] at xj
    have UQ:i.form=97:=Classical.not_not.1 Fu
    have el:(x.aN.map mU).length=x.aN.length:=List.length_map ..
    refine fun hm=>?_
    refine⟨fun h0=>?_,fun h0=>?_⟩
    ·have QR:x.aN = []:=by
      have CD:(((x.aN.map mU).length:Nat):Int)=0:=h0
      exact List.eq_nil_of_length_eq_zero (by omega)
     have Yu:R=⟨{ ({ w3 with last:=dT i }:WK) with e:=201 },x.out++[aE bb nn],x.aN⟩:=by
      rw[UO hc (wh.2 ⟨UQ,by rw[QR]; trivial⟩),xj]
      rw[QR]
     have Yv:∀ c∈x.out++[aE bb nn],iU c:=fun c hc=>gV.1 c (by rw[xj]; rw[QR]; exact hc)
     have hj:=jn (by rw[List.length_append,List.length_singleton]; omega) Yv
     rw[List.map_append] at hj
     subst Yu
     refine (qx b { w3 with last:=dT i }).e ?_
     have ep:(((x.aN.map mU).length:Nat):Int)=0↔x.aN = []:=by rw[List.length_map]; cases x.aN<;>simp; omega
     refine fun Yw=>?_
     refine (bs b { ({ w3 with last:=dT i }:WK) with e:=201 } ((((x.aN.map mU).length:Nat):Int)=0)).e ?_
     rw[show aC { ({ w3 with last:=dT i }:WK) with e:=201 } ((((x.aN.map mU).length:Nat):Int)=0)=aC { ({ w3 with last:=dT i }:WK) with e:=201 } (x.aN = []) by rw[propext ep]]
     refine⟨[],av,hj.eT [6] rfl (by repeat' first|exact trivial|exact rfl|exact Iff.rfl|exact Or.inl rfl|refine And.intro ?_ ?_) rfl rfl ?_⟩
     exact rS
    ·have CD:¬ (((x.aN.map mU).length:Nat):Int)=0:=h0
     refine⟨DV,x.aN,mU,rfl,show (0:Int)<=0 by decide,show (0:Int) < (x.aN.length:Int) by omega,fun d hd=>?_⟩
     obtain⟨l,JN⟩:∃ l,x.aN=d::l:=by
      have ot:x.aN[0]?=some d:=hd
      cases hx:x.aN with
      | nil=>rw[hx] at ot; cases ot
      | cons a l=>rw[hx] at ot; cases ot; exact⟨l,rfl⟩
     refine⟨fun bZ=>?_,fun bZ=>?_⟩
     ·have uK:d.at_≠x.w.at_:=bZ
      have Yu:R=⟨{ ({ w3 with last:=dT i }:WK) with e:=201 },x.out++[aE bb nn],x.aN⟩:=by
       rw[UO hc (wh.2 ⟨UQ,by rw[JN]; exact uK⟩),xj]
       rw[JN]; simp only; rw[if_pos uK]
      have Yv:∀ c∈x.out++[aE bb nn],iU c:=fun c hc=>gV.1 c (by rw[xj]; rw[JN]; simp only; rw[if_pos uK]; exact hc)
      have hj:=jn (by rw[List.length_append,List.length_singleton]; omega) Yv
      rw[List.map_append] at hj
      subst Yu
      refine (qx b { w3 with last:=dT i }).e ?_
      have ep:(((x.aN.map mU).length:Nat):Int)=0↔x.aN = []:=by rw[List.length_map]; cases x.aN<;>simp; omega
      refine fun Yw=>?_
      refine (bs b { ({ w3 with last:=dT i }:WK) with e:=201 } ((((x.aN.map mU).length:Nat):Int)=0)).e ?_
      rw[show aC { ({ w3 with last:=dT i }:WK) with e:=201 } ((((x.aN.map mU).length:Nat):Int)=0)=aC { ({ w3 with last:=dT i }:WK) with e:=201 } (x.aN = []) by rw[propext ep]]
      refine⟨[],av,hj.eT [6] rfl (by repeat' first|exact trivial|exact rfl|exact Iff.rfl|exact Or.inl rfl|refine And.intro ?_ ?_) rfl rfl ?_⟩
      exact rS
     ·have uK:¬ d.at_≠x.w.at_:=bZ
      refine⟨DV,x.aN,mU,rfl,show (0:Int)<=0 by decide,show (0:Int) < (x.aN.length:Int) by omega,fun d2 uT=>?_⟩
      obtain rfl:d=d2:=Option.some.inj (hd.symm.trans uT)
      refine⟨DV,x.aN,mU,rfl,show (0:Int)<=0 by decide,show (0:Int) < (x.aN.length:Int) by omega,fun d2 uT=>?_⟩
      obtain rfl:d=d2:=Option.some.inj (hd.symm.trans uT)
      have eo:(x.out.map jH++[jH (aE bb nn)]).length=x.out.length+1:=by rw[List.length_append,List.length_map]; rfl
      refine⟨show (x.out.map jH++[jH (aE bb nn)]).length+1<=maxLen by rw[eo]; unfold maxLen; omega,show ((x.out.map jH++[jH (aE bb nn)]).length+1)*144<=140737488355328 by rw[eo]; omega,?_⟩
      refine⟨show (0:Int)<=1 by decide,show (1:Int)<=(((x.aN.map mU).length:Nat):Int) by omega,Int.le_refl _,?_⟩
      have Yx:bJ b x=⟨{ w3 with last:=dT i },x.out++[aE bb nn]++[qu d],l⟩:=by rw[xj,JN]; simp only; rw[if_neg uK]
      obtain⟨r,UP,Uz⟩:∃ r:rf b s.till R w.at_,r.x=bJ b x/\r.n < n:=ka hc (fun h=>uK (by have:=(wh.1 h).2; rw[JN] at this; exact this))
      rw[Yx] at UP
      obtain⟨x2,n2,Fv,Qm,Qn,Qo,Fw,yE⟩:=r
      obtain rfl:x2=_:=UP
      refine⟨⟨_,n2,Fv,Qm,Qn,Qo,Fw,yE⟩,[some 0,some 1,some 2,some 8],Uz,?_⟩
      repeat' first|exact trivial|exact rfl|exact Iff.rfl|exact not_false|refine And.intro ?_ ?_
      all_goals first
       | exact (show x.out.map jH++[jH (aE bb nn)]++[jH (qu d)]=(x.out++[aE bb nn]++[qu d]).map jH by rw[List.map_append,List.map_append]; rfl)
       | exact (show ((x.aN.map mU).drop 1).take ((((x.aN.map mU).length:Nat):Int) - 1).toNat=l.map mU by
         rw[JN]
         show (l.map mU).take _=_
         rw[List.take_of_length_le]
         simp only[List.map_cons,List.length_cons,List.length_map]
         omega)
 ·have jR:=UN (fun h=>h2 h.2)
  subst jR
  have ep:(((R.aN.map mU).length:Nat):Int)=0↔R.aN = []:=by rw[List.length_map]; cases R.aN<;>simp; omega
  refine fun Yw=>?_
  refine (bs b R.w ((((R.aN.map mU).length:Nat):Int)=0)).e ?_
  rw[show aC R.w ((((R.aN.map mU).length:Nat):Int)=0)=aC R.w (R.aN = []) by rw[propext ep]]
  refine⟨[],av,(jn (by omega) Ft).eT [3] rfl (by repeat' first|exact trivial|exact rfl|exact Iff.rfl|exact Or.inl rfl|refine And.intro ?_ ?_) rfl rfl ?_⟩
  exact rS
 ·have jR:=UN (fun h=>h1 h.1)
  subst jR
  have ep:(((R.aN.map mU).length:Nat):Int)=0↔R.aN = []:=by rw[List.length_map]; cases R.aN<;>simp; omega
  refine fun Yw=>?_
  refine (bs b R.w ((((R.aN.map mU).length:Nat):Int)=0)).e ?_
  rw[show aC R.w ((((R.aN.map mU).length:Nat):Int)=0)=aC R.w (R.aN = []) by rw[propext ep]]
  refine⟨[],av,(jn (by omega) Ft).eT [3] rfl (by repeat' first|exact trivial|exact rfl|exact Iff.rfl|exact Or.inl rfl|refine And.intro ?_ ?_) rfl rfl ?_⟩
  exact rS
def gZ:G:=.mk 0 0 []
def lF (a t:Int):SP:=⟨1,a,t,0,-1,0,0,gZ,gZ,[],[],[],[]⟩
def eZ:C:=.mk 0 0 0 0 0 gI gI []
theorem Fx:ai gT 115 [.agg [.int .i64 0,.int .u32 0,.sl 3 []]] .tt:=by
 refine Spec.enter al R7 100 Tryz.func115 rfl (by kernel_rfl) ?_
 repeat' ((conv=>whnf); first|(refine (And.intro (fun _=>?_) (fun _=>?_):(_->_)/\(_->_))<;>(first|(exfalso; first|contradiction|omega)|skip))|refine Or.inl (And.intro (by first|exact ay (by omega)|exact ah (by omega)|exact c_ (by omega)|exact ey (by omega)) ?_)|(refine And.intro (show (_:Int)≠0 by omega) (Or.inl (And.intro (show (0:Int)<=_ by omega) (And.intro (show (0:Int) < _ by omega) ?_))))|(refine And.intro (show (_:Int)≠0 by omega) (Or.inl (And.intro (show (0:Int)<=_ by omega) (And.intro (by first|exact (show (_:Int)<=9223372036854775807 by omega)|exact (show (_:Int)<=4294967295 by omega)) (And.intro (show (0:Int) < _ by omega) ?_)))))|(exact absurd rfl (by assumption))|(exact rA)|(intro _))
theorem Fy:ai gT 148 [.sl 7 [],.clo 138 []] (.int .i64 (-1)):=by
 refine Spec.enter al Hr 100 Tryz.func148 rfl (by kernel_rfl) ?_
 refine fun _=>SW.rounds al Hr (by kernel_rfl) (N:=60) 1 ?_
 repeat' ((conv=>whnf); first|(refine (And.intro (fun _=>?_) (fun _=>?_):(_->_)/\(_->_))<;>(first|(exfalso; first|contradiction|omega)|skip))|refine Or.inl (And.intro (by first|exact ay (by omega)|exact ah (by omega)|exact c_ (by omega)|exact ey (by omega)) ?_)|(refine And.intro (show (_:Int)≠0 by omega) (Or.inl (And.intro (show (0:Int)<=_ by omega) (And.intro (show (0:Int) < _ by omega) ?_))))|(refine And.intro (show (_:Int)≠0 by omega) (Or.inl (And.intro (show (0:Int)<=_ by omega) (And.intro (by first|exact (show (_:Int)<=9223372036854775807 by omega)|exact (show (_:Int)<=4294967295 by omega)) (And.intro (show (0:Int) < _ by omega) ?_)))))|(exact absurd rfl (by assumption))|(exact rA)|(intro _))
theorem Fz:ai gT 137 [.sl 7 [],.clo 138 []] .ff:=by
 refine Spec.enter al R9 100 Tryz.func137 rfl (by kernel_rfl) ?_
 refine Fy.u ?_
 refine aj ?_
 exact (show ¬ (0:Int)<=-1 by decide)
theorem FA:ai gT 116 [.sl 7 []] .tt:=by
 refine Spec.enter al R8 100 Tryz.func116 rfl (by kernel_rfl) ?_
 refine Fz.u ?_
 refine aj ?_
 repeat' first|exact trivial|exact rfl|exact not_false|refine And.intro ?_ ?_
theorem FB (a t:Int):ai gT 79 [BT (lF a t)] .tt:=by
 show ai gT 79 [.agg [.int .i64 1,.int .i64 a,.int .i64 t,.int .i64 0,.int .i64 (-1),.int .i64 0,.int .i64 0,.int .i64 0,.int .u32 0,.sl 3 [],.int .i64 0,.int .u32 0,.sl 3 [],.sl 7 [],.sl 17 [],.sl 17 [],.sl 17 []]] .tt
 refine Spec.enter al ZC 100 Tryz.func79 rfl (by kernel_rfl) ?_
 repeat' ((conv=>whnf); first|(refine (And.intro (fun _=>?_) (fun _=>?_):(_->_)/\(_->_))<;>(first|(exfalso; first|contradiction|omega)|skip))|refine Or.inl (And.intro (by first|exact ay (by omega)|exact ah (by omega)|exact c_ (by omega)|exact ey (by omega)) ?_)|(refine And.intro (show (_:Int)≠0 by omega) (Or.inl (And.intro (show (0:Int)<=_ by omega) (And.intro (show (0:Int) < _ by omega) ?_))))|(refine And.intro (show (_:Int)≠0 by omega) (Or.inl (And.intro (show (0:Int)<=_ by omega) (And.intro (by first|exact (show (_:Int)<=9223372036854775807 by omega)|exact (show (_:Int)<=4294967295 by omega)) (And.intro (show (0:Int) < _ by omega) ?_)))))|(exact absurd rfl (by assumption))|(refine⟨[],av,Fx.use (by repeat' first|exact trivial|exact rfl|exact Iff.rfl|exact Or.inl rfl|refine And.intro ?_ ?_) rfl rfl ?_⟩)|(refine⟨[],av,FA.use (by repeat' first|exact trivial|exact rfl|exact Iff.rfl|exact Or.inl rfl|refine And.intro ?_ ?_) rfl rfl ?_⟩)|(refine aj ?_; (repeat' first|exact trivial|exact rfl|exact iff_true_intro rfl|refine And.intro ?_ ?_))|(intro _))
noncomputable def fl (w:WK) (a t:Int):WK:=aC w (a=w.at_/\a < t/\¬ w.last)
open Classical in
noncomputable def j1 (b:List Int) (w:WK) (a t:Int):C:=if (fl w a t).e≠0 then eZ else qy b (fl w a t) t []
open Classical in
noncomputable def iN (b:List Int) (w:WK) (a t:Int):WK:=if (fl w a t).e≠0 then fl w a t else aC (kK b (fl w a t) t []) ((kK b (fl w a t) t []).at_=t)
theorem FC (b:List Int) (hb:oK b) (hl:b.length<=2000) (w:WK) (hI:ck w.at_) (a t:Int):Spec gT 44 [.ptr 0 0,BT (lF a t)] [eC b w] [] fun y S'=>y=bo (j1 b w a t)/\S' = [eC b (iN b w a t)]:=by
 have bx:Spec gT 80 [.ptr 0 0,BT (lF a t)] [eC b (fl w a t)] [] fun y S'=>y=bo (qy b (fl w a t) t [])/\S' = [eC b (kK b (fl w a t) t [])]:=Fs b hb hl (fl w a t) hI (lF a t) [] rfl
 unfold j1 iN
 have hn:∀ p,(p↔(a=w.at_/\a < t/\¬ w.last))->aC w p=fl w a t:=fun p h=>by unfold fl; rw[propext h]
 generalize fl w a t=w1 at *
 generalize qy b w1 t []=rc at *
 generalize kK b w1 t []=Rb at *
 refine Spec.rT (Spec.enter al P44 100 Tryz.func44 rfl (by kernel_rfl) ?_)
 have bad:¬ (a=w.at_/\a < t/\¬ w.last)->({ w with e:=201 }:WK)=w1:=fun h=>(cX (w:=w) (p:=a=w.at_/\a < t/\¬ w.last) h).symm.trans (hn _ Iff.rfl)
 have Kt:a=w.at_/\a < t/\¬ w.last->w=w1:=fun h=>(bR (w:=w) (p:=a=w.at_/\a < t/\¬ w.last) h).symm.trans (hn _ Iff.rfl)
 have ht:aC Rb (Rb.at_=t)=aC Rb (Rb.at_=(lF a t).till):=rfl
 refine⟨fun h1=>And.intro (fun h2=>?p1) (fun h2=>?p2),fun h1=>?p3⟩
 case' p1 =>
  refine⟨fun h3=>?p4,fun h3=>?p5⟩
  case' p4 =>
   refine (FB a t).u ?_
   refine (mF b w).e ?_
   rw[Kt ⟨h1,h2,h3⟩]
  case' p5 =>
   refine (bO b w).e ?_
   rw[bad fun h=>h3 h.2.2]
 case' p2 =>
  refine (bO b w).e ?_
  rw[bad fun h=>h2 h.2.1]
 case' p3 =>
  refine (bO b w).e ?_
  rw[bad fun h=>h1 h.1]
 all_goals
  refine⟨fun he=>?_,fun he=>?_⟩
  ·rw[if_pos he,if_pos he]
   exact rS
  ·rw[if_neg he,if_neg he]
   refine⟨fun hk=>?_,fun hk=>absurd (rfl:(lF a t).kind=1) hk⟩
   refine (bx).e ?_
   refine (bs b Rb (Rb.at_=(lF a t).till)).e ?_
   rw[← ht]
   exact rS
theorem yF:∀ {l:List C},(∀ c∈l,c.kind≠2)->ez l=l
 | [],_=>rfl
 | c::l,h=>by
  rw[ez,gJ,if_neg (h c (List.mem_cons_self ..)),yF (fun x hx=>h x (List.mem_cons_of_mem _ hx))]
  rfl
theorem wk (l:List C):Fh (ba l)=iq l:=by
 have hk:=@BO l
 unfold ba
 generalize iq l=o at hk
 split
 ·rw[gJ,if_neg (hk _ (List.mem_singleton_self _))]
 ·rw[gJ,if_pos (show (C.mk 2 0 0 0 0 gI gI o).kind=2 from rfl)]
  exact yF hk
theorem kB {S:List C} (hS:∀ c∈S,gL 20 c):∀ i:Nat,∀ x∈(S.take i).foldl bQ [],gL (i*20) x
 | 0,x,hx=>by simp at hx
 | i+1,x,hx=>by
  cases hc:S[i]? with
  | none =>
   have hl:S.length<=i:=List.getElem?_eq_none_iff.1 hc
   rw[List.take_of_length_le (by omega),← List.take_of_length_le (i:=i) hl] at hx
   exact (kB hS i x hx).more (by omega)
  | some c =>
   rw[kz hc] at hx
   have AE:=hS c (List.mem_of_getElem? hc)
   refine ky (p:=gL ((i+1:Nat)*20)) (fun y hy=>(kB hS i y hy).more (by omega)) (AE.more (by omega)) (fun d hd k1 k2 _=>?_) x hx
   have h1:=kB hS i d hd k2
   have h2:=AE k1
   show (0<=d.fj+c.fj/\d.fj+c.fj<=_)/\(0<=d.fC+c.fC/\d.fC+c.fC<=_)
   omega
def Je (c:C):Prop:=(Fh c).length<=1000000/\∀ x∈Fh c,gL 2147483647 x
theorem Je.join {l:List C} (hl:l.length<=5000) (h:∀ c∈l,iU c):Je (ba l):=by
 unfold Je
 rw[wk]
 unfold iq
 rw[o6 h]
 have hb:=kB (S:=l) (fun c hc k=>by rcases (h c hc).1 with ⟨_,h1,h2⟩|h1<;>omega) l.length
 have hn:=j_ l l.length
 rw[List.take_length] at hb hn
 refine⟨by have:=List.length_filter_le bf (l.foldl bQ []); omega,fun x hx=>(hb x (List.mem_filter.1 hx).1).more (by omega)⟩
theorem Je.zero:Je eZ:=⟨by show 1<=1000000; decide,fun x hx=>by
 have:x=eZ:=by simpa using (show x∈[eZ] from hx)
 subst this
 exact fun k=>absurd k (by decide)⟩
theorem FD {c:C} (h:Je c):ai gT 45 [.sl 12 [bo c]] (bo (ba [c])):=by
 have e:ez [c]=Fh c:=by rw[ez,ez,List.append_nil]
 exact nz [c] (by rw[e]; exact h.1) (by rw[e]; exact h.2)
theorem wm {b:List Int} {till:Int} {R:eY} {a0:Int} (hl:b.length<=2000):∀ (n:Nat) (r:rf b till R a0),r.n<=n->R.out.length<=5000/\(∀ c∈R.out,iU c)/\ck R.w.at_
 | 0,r,h=>by have:=r.jI; omega
 | n+1,r,h=>by
  have heq:=r.eq
  have hf:=r.jI
  obtain⟨k,hk⟩:∃ k,r.n=k+1:=⟨r.n - 1,by omega⟩
  rw[hk,runN] at heq
  have hlen:=r.len
  have ha:=r.a
  have hI:=r.hI
  split at heq
  ·rename_i hc
   split at heq
   ·rename_i hb
    have ho:=kA (b:=b) r.outs
    have AL:=qw b r.x
    have hn:=qv b (aC r.x.w (¬ r.x.w.last))
    rw[← AL] at hn
    have Cn:(bJ b r.x).w.at_=r.x.w.at_\/(eA b r.x.w.at_=0/\(bJ b r.x).w.at_=r.x.w.at_+aY (iA b r.x.w.at_).form):=hn
    rw[← heq]
    refine⟨by have:=hlen.2 hc.2; omega,ho.1,?_⟩
    rcases Cn with h1|⟨h1,h2⟩
    ·rw[h1]; exact hI
    ·obtain⟨h3,h4,_⟩:=bz h1
     have:=eW h4
     unfold ck; omega
   ·rename_i hb
    obtain⟨r',h1,h2⟩:=r.o7 hl hc hb
    exact wm hl n r' (by omega)
  ·rw[← heq]
   exact⟨by omega,r.outs,hI⟩
theorem z9 {b:List Int} (hl:b.length<=2000) {w:WK} (hI:ck w.at_) (till:Int) (aN:List DV):(nC b w till aN).out.length<=5000/\(∀ c∈(nC b w till aN).out,iU c)/\ck (nC b w till aN).w.at_ :=
 wm hl (R:=nC b w till aN) (a0:=w.at_) ((till - w.at_).toNat+1) ⟨⟨w,[],aN⟩,(till - w.at_).toNat+1,by
  unfold we
  split
  ·show (till - w.at_).toNat < _; omega
  ·omega,rfl,hI,⟨Int.le_refl _,.inl rfl⟩,by simp,by simp⟩ (Nat.le_refl _)
theorem Je.one {b:List Int} (hl:b.length<=2000) {w:WK} (hI:ck w.at_) (a t:Int):Je (j1 b w a t):=by
 unfold j1
 split
 ·exact .zero
 ·have h:=z9 hl (w:=fl w a t) (show ck (fl w a t).at_ from by unfold fl aC; exact hI) t []
  exact .join h.1 h.2.1
theorem qz {cy mi:Int} (h:0 < cy):ba [aE cy mi]=aE cy mi:=by
 have:iq [aE cy mi] = [aE cy mi]:=by
  unfold iq
  show [aE cy mi].filter bf=_
  rw[List.filter_cons_of_pos]
  ·rfl
  ·unfold bf
   rw[show decide ((aE cy mi).fj=0)=false from decide_eq_false (show ¬ cy=0 by omega)]
   simp
 unfold ba
 rw[this]
def kT (l:List (Int × Int)):List C:=l.map fun p=>aE p.1 p.2
theorem qA:∀ (l:List (Int × Int)) (c m:Int),(kT l).foldl bQ [aE c m] = [aE (c+(l.map (·.1)).sum) (m+(l.map (·.2)).sum)]
 | [],c,m=>by simp[kT]
 | p::l,c,m=>by
  show (kT l).foldl bQ (bQ [aE c m] (aE p.1 p.2))=_
  have:bQ [aE c m] (aE p.1 p.2) = [aE (c+p.1) (m+p.2)]:=rfl
  rw[this,qA l]
  simp only[List.map_cons,List.sum_cons,Int.add_assoc]
theorem wq {l:List (Int × Int)} (h:0 < (l.map (·.1)).sum):ba (kT l)=aE (l.map (·.1)).sum (l.map (·.2)).sum:=by
 cases l with
 | nil=>exact absurd h (by decide)
 | cons p l =>
  have e:ez (kT (p::l))=kT (p::l):=yF fun c hc=>by
   obtain⟨q,_,rfl⟩:=List.mem_map.1 hc
   exact (by decide:(1:Int)≠2)
  have e2:(ez (kT (p::l))).foldl bQ [] = [aE ((p::l).map (·.1)).sum ((p::l).map (·.2)).sum]:=by
   rw[e]
   show (kT l).foldl bQ [aE p.1 p.2]=_
   rw[qA]
   simp only[List.map_cons,List.sum_cons]
  have:=qz (mi:=((p::l).map (·.2)).sum) h
  unfold ba iq
  rw[e2]
  unfold ba iq at this
  exact this
def o8 (op u w:Int):T:=if op=1 then .leaf 1 u else if op=2 then .leaf 2 (IntKind.u32.wrap w) else if op=3\/op=4 then .one op 0 (.leaf 2 (IntKind.u32.wrap w)) else if 5<=op/\op<=17 then .two op 0 (.leaf 2 (IntKind.u32.wrap w)) (.leaf 1 u) else .leaf op 0
theorem wrap32 (w:Int):0<=IntKind.u32.wrap w/\IntKind.u32.wrap w<=4294967295:=by rw[IntKind.wrap_u32']; omega
theorem yG {op u w:Int} (h:0<=u/\u<=4294967295):(o8 op u w).Wf:=by
 have:=wrap32 w
 unfold o8
 repeat' split
 ·exact h
 ·exact this
 ·exact⟨by omega,this⟩
 ·exact⟨by omega,this,h⟩
 ·exact⟨by omega,by omega⟩
def nP (x:Int × Int × Int):PV:=.agg [.int .i64 x.1,.int .u32 x.2.1,.int .i64 x.2.2]
theorem gN:∀ t:T,t.size<=1000000->ai gT 125 [gF t] (.int .i64 t.size)
 | .leaf o n,hs=>by
  refine Spec.enter al qU 100 Tryz.func125 rfl (by kernel_rfl) ?_
  refine fun _=>SW.rounds al qU (by kernel_rfl) (N:=60) 3 ?_
  refine⟨fun h=>absurd (show (0:Int) < 0 from h) (by decide),fun _=>?_⟩
  exact aj rfl
 | .one o n a,hs=>by
  have sz:(T.one o n a).size=1+a.size:=rfl
  have Yy:=gN a (by omega)
  refine Spec.enter al qU 100 Tryz.func125 rfl (by kernel_rfl) ?_
  refine fun _=>SW.rounds al qU (by kernel_rfl) (N:=60) 3 ?_
  refine⟨fun _=>?_,fun h=>absurd (show (0:Int) < 1 by decide) h⟩
  refine⟨T,[a],gF,rfl,(show (0:Int)<=0 by decide),(show (0:Int) < 1 by decide),fun x hx=>?_⟩
  obtain rfl:a=x:=Option.some.inj hx
  refine⟨[],nofun,Yy.use ⟨⟨rfl,rfl,rfl,trivial⟩,trivial⟩ rfl rfl ?_⟩
  refine li ?_
  refine⟨fun h=>absurd (show (1:Int) < 1 from h) (by decide),fun _=>?_⟩
  refine aj ?_
  exact (show (1:Int)+a.size=((T.one o n a).size:Nat) by omega)
 | .two o n a b,hs=>by
  have sz:(T.two o n a b).size=1+a.size+b.size:=rfl
  have Yy:=gN a (by omega)
  have ihb:=gN b (by omega)
  refine Spec.enter al qU 100 Tryz.func125 rfl (by kernel_rfl) ?_
  refine fun _=>SW.rounds al qU (by kernel_rfl) (N:=60) 3 ?_
  refine⟨fun _=>?_,fun h=>absurd (show (0:Int) < 2 by decide) h⟩
  refine⟨T,[a,b],gF,rfl,(show (0:Int)<=0 by decide),(show (0:Int) < 2 by decide),fun x hx=>?_⟩
  obtain rfl:a=x:=Option.some.inj hx
  refine⟨[],nofun,Yy.use ⟨⟨rfl,rfl,rfl,trivial⟩,trivial⟩ rfl rfl ?_⟩
  refine li ?_
  refine⟨fun _=>?_,fun h=>absurd (show (1:Int) < 2 by decide) h⟩
  refine⟨T,[a,b],gF,rfl,(show (0:Int)<=1 by decide),(show (1:Int) < 2 by decide),fun x hx=>?_⟩
  obtain rfl:b=x:=Option.some.inj hx
  refine⟨[],nofun,ihb.use ⟨⟨rfl,rfl,rfl,trivial⟩,trivial⟩ rfl rfl ?_⟩
  refine li ?_
  refine⟨fun h=>absurd (show (2:Int) < 2 from h) (by decide),fun _=>?_⟩
  refine aj ?_
  exact (show (1:Int)+a.size+b.size=((T.two o n a b).size:Nat) by omega)
def dW:T->List (Int × Int × Int)
 | .leaf o n=>if o=0/\n=0 then [] else [(o,n,0)]
 | .one o n a=>(o,n,1)::dW a
 | .two o n a b=>(o,n,2)::(dW a++dW b)
mutual
def UR:C->List PV
 | .mk _ _ _ _ _ _ _ l=>FE l
def FE:List C->List PV
 | []=>[]
 | c::l=>.agg [.int .i64 c.kind,.int .i64 c.fj,.int .i64 c.fC,.int .i64 c.word,.int .i64 c.size,.sl 3 ((dW c.a).map nP),.sl 3 ((dW c.b).map nP),.sl 8 (UR c)]::FE l
end
mutual
def C.qC (p:T->Prop):C->Prop
 | .mk _ _ _ _ _ a b l=>p a/\p b/\kU p l
def kU (p:T->Prop):List C->Prop
 | []=>True
 | c::l=>c.qC p/\kU p l
end
theorem nD {p:T->Prop}:∀ {l:List C},kU p l->∀ c∈l,c.qC p
 | c::l,h,x,hx=>by
  simp only[kU] at h
  rcases List.mem_cons.1 hx with rfl|hx
  ·exact h.1
  ·exact nD h.2 x hx
theorem C.wu {p:T->Prop} (c:C):c.qC p↔p c.a/\p c.b/\kU p c.l:=by cases c; rfl
mutual
def C.Sm:C->Prop
 | .mk _ _ _ _ _ _ _ l=>l.length<=1000000/\Yz l
def Yz:List C->Prop
 | []=>True
 | c::l=>c.Sm/\Yz l
end
theorem C.YA (c:C):c.Sm↔c.l.length<=1000000/\Yz c.l:=by cases c; rfl
def t_ (t:T):Nat:=if t.op=0 then 0 else t.size
mutual
def cN:C->Nat
 | .mk _ _ _ _ _ a b l=>1+t_ a+t_ b+rh l
def rh:List C->Nat
 | []=>0
 | c::l=>cN c+rh l
end
theorem FF (c:C):cN c=1+t_ c.a+t_ c.b+rh c.l:=by cases c; rfl
theorem lG:∀ (l m:List C),rh (l++m)=rh l+rh m
 | [],m=>by simp[rh]
 | c::l,m=>by rw[List.cons_append,rh,rh,lG l m]; omega
theorem Qp (c:C):1<=cN c:=by rw[FF]; omega
theorem z_:∀ l:List C,l.length<=rh l
 | []=>Nat.le_refl _
 | c::l=>by have:=z_ l; have:=Qp c; rw[rh,List.length_cons]; omega
theorem ua:∀ {l:List C} {x:C},x∈l->cN x<=rh l
 | c::l,x,hx=>by
  rw[rh]
  rcases List.mem_cons.1 hx with rfl|hx
  ·omega
  ·have:=ua hx; omega
theorem FG {l:List C} {i:Nat} {x:C} (h:l[i]?=some x):rh (l.take (i+1))=rh (l.take i)+cN x:=by
 rw[List.take_add_one,h,lG]; simp[rh]
theorem oc (l:List C) (i:Nat):rh (l.take i)<=rh l:=by
 have:=lG (l.take i) (l.drop i)
 rw[List.take_append_drop] at this; omega
def MT (t:T):Prop:=∃ op u w,(0<=u/\u<=4294967295)/\t=o8 op u w
theorem MT.cases {t:T} (h:MT t):t.Wf/\t.size<=3/\((t = .leaf 0 0/\dW t = [])\/(t.op≠0/\dW t=t.nodes)):=by
 obtain⟨op,u,w,hu,rfl⟩:=h
 refine⟨yG hu,?_⟩
 unfold o8
 split
 ·refine⟨by simp[T.size],.inr ⟨by simp[T.op],by simp[dW,T.nodes]⟩⟩
 split
 ·refine⟨by simp[T.size],.inr ⟨by simp[T.op],by simp[dW,T.nodes]⟩⟩
 split
 ·refine⟨by simp[T.size],.inr ⟨by simp only[T.op]; omega,by simp[dW,T.nodes]⟩⟩
 split
 ·refine⟨by simp[T.size],.inr ⟨by simp only[T.op]; omega,by simp[dW,T.nodes]⟩⟩
 ·refine⟨by simp[T.size],?_⟩
  by_cases h0:op=0
  ·subst h0; exact .inl ⟨rfl,by simp[dW]⟩
  ·exact .inr ⟨h0,by simp[dW,T.nodes,h0]⟩
theorem MT.sz {t:T} (h:MT t):t_ t=(dW t).length/\t_ t<=3:=by
 obtain⟨_,h2,h3⟩:=h.cases
 rcases h3 with ⟨rfl,h3⟩|⟨h4,h3⟩
 ·rw[h3]; exact⟨rfl,by simp[t_,T.op]⟩
 ·rw[h3,T.dE,t_,if_neg h4]; exact⟨rfl,h2⟩
theorem MT.wf {t:T} (h:MT t):t.Wf:=h.cases.1
theorem MT.small {t:T} (h:MT t):t.size<=16384:=by have:=h.cases.2.1; omega
mutual
theorem C.qC.mono {p q:T->Prop} (h:∀ t,p t->q t):∀ c:C,c.qC p->c.qC q
 | .mk _ _ _ _ _ a b l,hc=>⟨h a hc.1,h b hc.2.1,kU.mono h l hc.2.2⟩
theorem kU.mono {p q:T->Prop} (h:∀ t,p t->q t):∀ l:List C,kU p l->kU q l
 | [],_=>trivial
 | c::l,hc=>⟨C.qC.mono h c hc.1,kU.mono h l hc.2⟩
end
theorem MT.zero:MT gI:=⟨0,0,0,by omega,rfl⟩
theorem wv (op:Int):ai gT 151 [.int .i64 op] (.int .i64 (nu op)):=by
 refine Spec.enter al R' 100 Tryz.func151 rfl (by kernel_rfl) ?_
 repeat' refine And.intro (fun _=>?_) (fun _=>?_)
 all_goals (refine aj ?_; unfold nu; show _=_; (repeat' split)<;>omega)
theorem sD {op:Int} (h1:1<=op) (h2:op<=17):nu op=tS op:=by
 unfold nu tS
 rw[if_neg (show ¬ (op < 1\/17 < op) by omega)]
 by_cases k1:op<=2
 ·rw[if_pos k1,if_pos (show op < 3 by omega)]
 ·rw[if_neg k1,if_neg (show ¬ op < 3 by omega)]
  by_cases k2:op<=4
  ·rw[if_pos k2,if_pos (show op < 5 by omega)]
  ·rw[if_neg k2,if_neg (show ¬ op < 5 by omega)]
theorem wx (t:T):t.root=true↔1<=t.op/\t.op<=17/\tS t.op=t.kids/\(2 < t.op->t.num=0)/\(t.op=2->t.num<=255):=by
 cases t<;>exact decide_eq_true_iff
theorem sE (t:T):((cb t).length:Int)=(t.kids:Nat):=by cases t<;>rfl
theorem wy {t:T} (h:t.shaped=true):t.root=true/\t.il=true:=by rw[T.sj,Bool.and_eq_true] at h; exact h
def BU:PV:=.clo 152 []
theorem kb (t:T) (hn:0<=t.num/\t.num<=4294967295) (hc:ai gT 144 [.sl 3 (cb t),BU] (.bool (¬ t.il=true))):ai gT 143 [gF t] (.bool (t.shaped=true)):=by
 have hk:=sE t
 have bad:∀ {p:Prop},(1<=t.op->t.op<=17->nu t.op=(cb t).length->(2 < t.op->t.num=0)->(t.op=2->t.num<=255)->False)->t.shaped=true->p:=fun h hs=>by
  have hr:=(wx t).1 (wy hs).1
  exact absurd hr.2.2.2.2 (fun h5=>h hr.1 hr.2.1 (by rw[sD hr.1 hr.2.1,hk]; exact hr.2.2.1) hr.2.2.2.1 h5)
 refine Spec.enter al Lg 100 Tryz.func143 rfl (by kernel_rfl) ?_
 refine⟨fun h1=>?_,fun h1=>And.intro (fun h2=>?_) (fun h2=>?_)⟩
 ·refine aj ?_
  exact fun hs=>bad (by omega) hs
 ·refine aj ?_
  exact fun hs=>bad (by omega) hs
 refine fun _=>?_
 refine⟨[],nofun,(wv t.op).use ⟨rfl,trivial⟩ rfl rfl ?_⟩
 have iH:∀ (h3:¬ ¬ ((cb t).length:Int)=nu t.op) (h4:2 < t.op->t.num=0) (h5:t.op=2->t.num<=255),(¬ ¬ t.il=true↔t.shaped=true):=fun h3 h4 h5=>by
  have hr:t.root=true:=(wx t).2 ⟨by omega,by omega,by rw[← sD (by omega) (by omega),← hk]; omega,h4,h5⟩
  rw[T.sj,hr,Bool.true_and]; exact Classical.not_not
 refine⟨fun h3=>?_,fun h3=>And.intro (fun h4=>And.intro (fun h5=>?_) (fun h5=>And.intro (fun h6=>?_) (fun h6=>?_))) (fun h4=>And.intro (fun h6=>And.intro (fun h7=>?_) (fun h7=>?_)) (fun h6=>?_))⟩
 ·refine aj ?_
  exact fun hs=>bad (by omega) hs
 ·refine aj ?_
  exact fun hs=>bad (by omega) hs
 ·exact absurd h6 (by omega)
 ·refine⟨[],nofun,hc.use ⟨rfl,trivial,trivial⟩ rfl rfl ?_⟩
  refine aj ?_
  exact iH h3 (by omega) (by omega)
 ·refine aj ?_
  exact fun hs=>bad (by omega) hs
 ·refine⟨[],nofun,hc.use ⟨rfl,trivial,trivial⟩ rfl rfl ?_⟩
  refine aj ?_
  exact iH h3 (by omega) (by omega)
 ·refine⟨[],nofun,hc.use ⟨rfl,trivial,trivial⟩ rfl rfl ?_⟩
  refine aj ?_
  exact iH h3 (by omega) (by omega)
theorem jo (a:T) (ha:ai gT 143 [gF a] (.bool (a.shaped=true))):ai gT 152 [gF a] (.bool (¬ a.shaped=true)):=by
 refine Spec.enter al Lh 100 Tryz.func152 rfl (by kernel_rfl) ?_
 refine⟨[],nofun,ha.use ⟨⟨rfl,rfl,rfl,trivial⟩,trivial⟩ rfl rfl ?_⟩
 exact aj Iff.rfl
def iV:T->Int
 | .leaf ..=>-1
 | .one _ _ a=>if a.shaped then -1 else 0
 | .two _ _ a b=>if a.shaped then (if b.shaped then -1 else 1) else 0
theorem FH (t:T):0<=iV t↔¬ t.il=true:=by
 cases t with
 | leaf=>simp[iV,T.il]
 | one o n a=>cases h:a.shaped<;>simp[iV,T.il,h]
 | two o n a b=>cases h:a.shaped<;>cases h2:b.shaped<;>simp[iV,T.il,h,h2]
theorem ir (t:T) (hi:ai gT 153 [.sl 3 (cb t),BU] (.int .i64 (iV t))):ai gT 144 [.sl 3 (cb t),BU] (.bool (¬ t.il=true)):=by
 refine Spec.enter al Hs 100 Tryz.func144 rfl (by kernel_rfl) ?_
 refine⟨[],nofun,hi.use ⟨rfl,trivial,trivial⟩ rfl rfl ?_⟩
 exact aj (FH t)
theorem yH (o n:Int)  :ai gT 153 [.sl 3 (cb (.leaf o n )),BU] (.int .i64 (iV (.leaf o n ))):=by
 refine Spec.enter al oE 100 Tryz.func153 rfl (by kernel_rfl) ?_
 refine fun _=>SW.rounds al oE (by kernel_rfl) (N:=60) 3 ?_
 refine⟨fun h=>absurd (show (0:Int) < 0 from h) (by decide),fun _=>?_⟩
 refine aj ?_
 exact (show (-1:Int)=iV _ by simp[iV])
theorem BV (o n:Int) (a:T) (ha:ai gT 152 [gF a] (.bool (¬ a.shaped=true))):ai gT 153 [.sl 3 (cb (.one o n a)),BU] (.int .i64 (iV (.one o n a))):=by
 refine Spec.enter al oE 100 Tryz.func153 rfl (by kernel_rfl) ?_
 refine fun _=>SW.rounds al oE (by kernel_rfl) (N:=60) 3 ?_
 refine⟨fun _=>?_,fun h=>absurd (show (0:Int) < 1 by decide) h⟩
 refine⟨T,[a],gF,rfl,(show (0:Int)<=0 by decide),(show (0:Int) < 1 by decide),fun x hx=>?_⟩
 obtain rfl:a=x:=Option.some.inj hx
 refine⟨[],nofun,ha.use ⟨⟨rfl,rfl,rfl,trivial⟩,trivial⟩ rfl rfl ?_⟩
 refine⟨fun s0=>?_,fun s0=>?_⟩
 ·refine aj ?_
  exact (show (0:Int)=iV _ by simp[iV,s0])
 replace s0:=Classical.not_not.1 s0
 refine⟨fun h=>absurd (show (1:Int) < 1 from h) (by decide),fun _=>?_⟩
 refine aj ?_
 exact (show (-1:Int)=iV _ by simp[iV,s0])
theorem BW (o n:Int) (a b:T) (ha:ai gT 152 [gF a] (.bool (¬ a.shaped=true))) (hb:ai gT 152 [gF b] (.bool (¬ b.shaped=true))):ai gT 153 [.sl 3 (cb (.two o n a b)),BU] (.int .i64 (iV (.two o n a b))):=by
 refine Spec.enter al oE 100 Tryz.func153 rfl (by kernel_rfl) ?_
 refine fun _=>SW.rounds al oE (by kernel_rfl) (N:=60) 3 ?_
 refine⟨fun _=>?_,fun h=>absurd (show (0:Int) < 2 by decide) h⟩
 refine⟨T,[a,b],gF,rfl,(show (0:Int)<=0 by decide),(show (0:Int) < 2 by decide),fun x hx=>?_⟩
 obtain rfl:a=x:=Option.some.inj hx
 refine⟨[],nofun,ha.use ⟨⟨rfl,rfl,rfl,trivial⟩,trivial⟩ rfl rfl ?_⟩
 refine⟨fun s0=>?_,fun s0=>?_⟩
 ·refine aj ?_
  exact (show (0:Int)=iV _ by simp[iV,s0])
 replace s0:=Classical.not_not.1 s0
 refine⟨fun _=>?_,fun h=>absurd (show (1:Int) < 2 by decide) h⟩
 refine⟨T,[a,b],gF,rfl,(show (0:Int)<=1 by decide),(show (1:Int) < 2 by decide),fun x hx=>?_⟩
 obtain rfl:b=x:=Option.some.inj hx
 refine⟨[],nofun,hb.use ⟨⟨rfl,rfl,rfl,trivial⟩,trivial⟩ rfl rfl ?_⟩
 refine⟨fun s1=>?_,fun s1=>?_⟩
 ·refine aj ?_
  exact (show (1:Int)=iV _ by simp[iV,s0,s1])
 replace s1:=Classical.not_not.1 s1
 refine⟨fun h=>absurd (show (2:Int) < 2 from h) (by decide),fun _=>?_⟩
 refine aj ?_
 exact (show (-1:Int)=iV _ by simp[iV,s0,s1])
theorem ic:∀ t:T,t.Wf->ai gT 143 [gF t] (.bool (t.shaped=true))
 | .leaf o n,h=>kb _ h (ir _ (yH o n))
 | .one o n a,h=>kb _ h.1 (ir _ (BV o n a (jo a (ic a h.2))))
 | .two o n a b,h=>kb _ h.1 (ir _ (BW o n a b (jo a (ic a h.2.1)) (jo b (ic b h.2.2))))
theorem wz (t:T) (h:t.Wf) (hs:t.size<=16384):ai gT 126 [gF t] (.bool (t.shaped=true)):=by
 refine Spec.enter al Lf 100 Tryz.func126 rfl (by kernel_rfl) ?_
 refine⟨[],nofun,(gN t (by omega)).use ⟨⟨rfl,rfl,rfl,trivial⟩,trivial⟩ rfl rfl ?_⟩
 refine⟨fun _=>?_,fun h=>absurd (show (t.size:Int)<=16384 by omega) h⟩
 refine⟨[],nofun,(ic t h).use ⟨⟨rfl,rfl,rfl,trivial⟩,trivial⟩ rfl rfl ?_⟩
 exact aj Iff.rfl
theorem cF (n lo hi:Int):ai gT 88 [.int .i64 n,.int .i64 lo,.int .i64 hi,.tt] (.bool (lo<=n/\n<=hi)):=by
 refine Spec.enter al ZN 100 Tryz.func88 rfl (by kernel_rfl) ?_
 refine⟨fun h1=>?_,fun h1=>?_⟩
 ·refine aj ?_
  exact (show n<=hi↔lo<=n/\n<=hi from ⟨fun h=>⟨h1,h⟩,fun h=>h.2⟩)
 ·refine aj ?_
  exact (show ¬ (lo<=n/\n<=hi) from fun h=>h1 h.1)
theorem cG (n lo hi:Int):ai gT 88 [.int .i64 n,.int .i64 lo,.int .i64 hi,.ff] (.bool (n=0)):=by
 refine Spec.enter al ZN 100 Tryz.func88 rfl (by kernel_rfl) ?_
 exact aj Iff.rfl
theorem qD (t:T):ft t=true↔(t.op≠2\/t.num < 254)/\∀ x∈eV t,ft x=true:=by
 cases t<;>simp[ft,eV,T.op,T.num]
theorem BX (t:T) (h:ai gT 127 [gF t] (.bool (ft t=true))):ai gT 145 [gF t] (.bool (¬ ft t=true)):=by
 refine Spec.enter al XD 100 Tryz.func145 rfl (by kernel_rfl) ?_
 refine h.u ?_
 exact aj Iff.rfl
theorem wA:∀ t:T,ai gT 127 [gF t] (.bool (ft t=true)):=T.nw fun t ih=>by
 have hh:=I8 (eV t) (fun x=>¬ ft x=true) fun x hx=>BX x (ih x hx)
 rw[← qk] at hh
 have e:(¬ ∃ x∈eV t,¬ ft x=true)↔∀ x∈eV t,ft x=true:=⟨fun h x hx=>Classical.not_not.1 fun hn=>h ⟨x,hx,hn⟩,fun h ⟨x,hx,hn⟩=>hn (h x hx)⟩
 refine Spec.enter al XC 100 Tryz.func127 rfl (by kernel_rfl) ?_
 refine⟨fun h1=>?_,fun h1=>And.intro (fun h2=>?_) (fun h2=>?_)⟩
 ·refine hh.u ?_
  refine aj ?_
  exact (show (¬ ∃ x∈eV t,¬ ft x=true)↔ft t=true by rw[e,qD]; exact⟨fun h=>⟨.inl h1,h⟩,fun h=>h.2⟩)
 ·refine hh.u ?_
  refine aj ?_
  exact (show (¬ ∃ x∈eV t,¬ ft x=true)↔ft t=true by rw[e,qD]; exact⟨fun h=>⟨.inr h2,h⟩,fun h=>h.2⟩)
 ·refine aj ?_
  exact (show ¬ ft t=true by rw[qD]; exact fun h=>h.1.elim h1 h2)
theorem cH (t:T) (h:t.Wf) (hs:t.size<=16384):ai gT 89 [gF t,.tt] (.bool (cQ t true=true)):=by
 refine Spec.enter al XB 100 Tryz.func89 rfl (by kernel_rfl) ?_
 have e:cQ t true=true↔t.shaped=true/\ft t=true:=by simp[cQ]
 refine (wz t h hs).u ?_
 refine⟨fun h1=>?_,fun h1=>?_⟩
 ·refine (wA t).u ?_
  refine aj ?_
  exact (show ft t=true↔cQ t true=true by rw[e]; exact⟨fun h=>⟨h1,h⟩,fun h=>h.2⟩)
 ·refine aj ?_
  exact (show ¬ cQ t true=true by rw[e]; exact fun h=>h1 h.1)
theorem cI (t:T):ai gT 89 [gF t,.ff] (.bool (cQ t false=true)):=by
 have e:cQ t false=true↔t.op=0/\t.num=0/\t.kids=0:=by simp[cQ]
 have hk:=sE t
 refine Spec.enter al XB 100 Tryz.func89 rfl (by kernel_rfl) ?_
 refine⟨fun h1=>And.intro (fun h2=>fun _=>?_) (fun h2=>?_),fun h1=>?_⟩
 ·refine aj ?_
  exact (show ((cb t).length:Int)=0↔cQ t false=true by rw[e]; exact⟨fun h=>⟨h1,h2,by omega⟩,fun h=>by omega⟩)
 ·refine aj ?_
  exact (show ¬ cQ t false=true by rw[e]; exact fun h=>h2 h.2.1)
 ·refine aj ?_
  exact (show ¬ cQ t false=true by rw[e]; exact fun h=>h1 h.1)
theorem qE (t:T) (hs:t.size<=1000000):ai gT 87 [gF t] (.int .i64 (t_ t)):=by
 refine Spec.enter al ZL 100 Tryz.func87 rfl (by kernel_rfl) ?_
 refine⟨fun h1=>?_,fun h1=>?_⟩
 ·refine aj ?_
  exact (show (0:Int)=(t_ t:Nat) by rw[t_,if_pos h1]; rfl)
 ·refine (gN t hs).u ?_
  refine aj ?_
  exact (show (t.size:Int)=(t_ t:Nat) by rw[t_,if_neg h1])
theorem yI:∀ c:C,c.qC (fun t=>t.size<=1000000)->cN c<=1000000->ai gT 47 [bo c] (.int .i64 (cN c)):=C.nw fun c ih hT hS=>by
 obtain⟨ha,hb,VL⟩:=(C.wu c).1 hT
 have hc:=FF c
 have hlen:=z_ c.l
 have ek:(gG c).length=c.l.length:=by rw[dh,List.length_map]
 refine Spec.enter al VC 100 Tryz.func47 rfl (by kernel_rfl) ?_
 refine (qE c.a ha).u ?_
 refine li ?_
 refine (qE c.b hb).u ?_
 refine li ?_
 refine fun _=>SW.hU al VC (by kernel_rfl) (fun i:Nat=>[(17,.int .i64 i),(3,.int .i64 (1+(t_ c.a:Int)+(t_ c.b:Int)+(rh (c.l.take i):Int)))]) (fun i=>c.l.length - i) 0 60 ?_ fun i=>?_
 ·repeat' first|exact trivial|exact rfl|refine And.intro ?_ ?_
 have hle:=oc c.l i
 refine⟨fun h=>?_,fun h=>?_⟩
 ·have h':(i:Int) < ((gG c).length:Nat):=h
  refine⟨C,c.l,bo,dh c,show (0:Int)<=(i:Int) by omega,show (i:Int) < (c.l.length:Int) by omega,fun x hx=>?_⟩
  have dp:c.l[i]?=some x:=hx
  have hm:=List.mem_of_getElem? dp
  have hcm:=ua hm
  have ht:=FG dp
  have ht2:=oc c.l (i+1)
  refine (ih x hm (nD VL x hm) (by omega)).u ?_
  refine li ?_
  refine .inl ⟨ay (by omega),⟨i+1,by omega,?_⟩⟩
  repeat' first|exact trivial|exact rfl|refine And.intro ?_ ?_
  exact (show _+_=1+(t_ c.a:Int)+(t_ c.b:Int)+(rh (c.l.take (i+1)):Int) by rw[ht]; omega)
 ·have h':¬ (i:Int) < ((gG c).length:Nat):=h
  refine aj ?_
  exact (show 1+(t_ c.a:Int)+(t_ c.b:Int)+(rh (c.l.take i):Int)=(cN c:Int) by rw[List.take_of_length_le (by omega),hc]; omega)
def Jf (x:Int × Int × Int):Prop:=¬ x.1=2\/x.2.1 < 254
theorem jq:∀ t:T,ft t=true↔∀ x∈t.nodes,Jf x
 | .leaf o n=>by simp[ft,T.nodes,Jf]
 | .one o n a=>by simp[ft,T.nodes,Jf,jq a]
 | .two o n a b=>by
  simp only[ft,Bool.and_eq_true,decide_eq_true_eq,jq a,jq b,T.nodes,List.mem_cons,List.mem_append]
  refine⟨fun ⟨h1,h2,h3⟩ x hx=>?_,fun h=>⟨h _ (.inl rfl),fun x hx=>h x (.inr (.inl hx)),fun x hx=>h x (.inr (.inr hx))⟩⟩
  rcases hx with rfl|hx|hx
  ·exact h1
  ·exact h2 x hx
  ·exact h3 x hx
theorem MT.term {t:T} (h:MT t):((∀ x∈dW t,Jf x)/\(dW t).length≠0/\(∀ x∈dW t,sh x=true)/\(dW t).length<=16384)↔cQ t true=true:=by
 obtain⟨_,h2,h3⟩:=h.cases
 have e:cQ t true=true↔t.shaped=true/\ft t=true:=by simp[cQ]
 rw[e]
 rcases h3 with ⟨rfl,h3⟩|⟨h4,h3⟩
 ·rw[h3]
  exact⟨fun hh=>absurd rfl hh.2.1,fun hh=>absurd hh.1 (by decide)⟩
 ·rw[h3,T.dE,jq,← T.fX,List.all_eq_true]
  have:1<=t.size:=by cases t<;>simp[T.size]<;>omega
  exact⟨fun hh=>⟨hh.2.2.1,hh.1⟩,fun hh=>⟨hh.2,by omega,hh.1,by omega⟩⟩
theorem MT.none {t:T} (h:MT t):(dW t).length=0↔cQ t false=true:=by
 obtain⟨_,h2,h3⟩:=h.cases
 have e:cQ t false=true↔t.op=0/\t.num=0/\t.kids=0:=by simp[cQ]
 rw[e]
 rcases h3 with ⟨rfl,h3⟩|⟨h4,h3⟩
 ·rw[h3]; exact⟨fun _=>⟨rfl,rfl,rfl⟩,fun _=>rfl⟩
 ·rw[h3,T.dE]
  have:1<=t.size:=by cases t<;>simp[T.size]<;>omega
  exact⟨fun hh=>by omega,fun hh=>absurd hh.1 h4⟩
theorem Aa:∀ l:List C,BM l=true↔∀ x∈l,iS x=true
 | []=>by simp[BM]
 | c::l=>by simp[BM,Aa l]
theorem Jg (c:C):iS c=true↔(1<=c.kind/\c.kind<=6)/\((c.kind=1->0<=c.fj/\c.fj<=2147483647/\0<=c.fC/\c.fC<=2147483647)/\(¬ c.kind=1->c.fj=0/\c.fC=0)/\(c.kind=4->4<=c.word/\c.word<=253)/\(¬ c.kind=4->c.word=0)/\(c.kind=5->0<=c.size/\c.size<=1024)/\(¬ c.kind=5->c.size=0))
  /\ ((c.kind=1\/c.kind=6->(c.l.length:Int)=0)/\(c.kind=2->(c.l.length:Int)<=2147483647)/\(c.kind=3->(c.l.length:Int)=2)/\(c.kind=4\/c.kind=5->(c.l.length:Int)=1))
  /\ ((3<=c.kind->cQ c.a true=true)/\(c.kind < 3->cQ c.a false=true))/\((c.kind=4\/c.kind=6->cQ c.b true=true)/\(¬ (c.kind=4\/c.kind=6)->cQ c.b false=true))/\∀ x∈c.l,iS x=true:=by
 rw[I6,← Aa]
 refine and_congr_right fun hk=>and_congr ?_ (and_congr ?_ (and_congr ?_ (and_congr ?_ Iff.rfl)))
 ·simp only[v_,BL,Bool.and_eq_true]
  by_cases h1:c.kind=1<;>by_cases h4:c.kind=4<;>by_cases h5:c.kind=5<;>simp[h1,h4,h5]<;>omega
 ·unfold yx Fg
  repeat' split
  all_goals omega
 ·by_cases h:3<=c.kind
  ·rw[decide_eq_true h]; exact⟨fun hh=>⟨fun _=>hh,fun h'=>by omega⟩,fun hh=>hh.1 h⟩
  ·rw[decide_eq_false h]; exact⟨fun hh=>⟨fun h'=>absurd h' h,fun _=>hh⟩,fun hh=>hh.2 (by omega)⟩
 ·by_cases h:c.kind=4\/c.kind=6
  ·rw[decide_eq_true h]; exact⟨fun hh=>⟨fun _=>hh,fun h'=>absurd h h'⟩,fun hh=>hh.1 h⟩
  ·rw[decide_eq_false h]; exact⟨fun hh=>⟨fun h'=>absurd h' h,fun _=>hh⟩,fun hh=>hh.2 h⟩
theorem ri (c:C) (h:ai gT 48 [bo c] (.bool (iS c=true))):ai gT 91 [bo c] (.bool (¬ iS c=true)):=by
 refine Spec.enter al ZO 100 Tryz.func91 rfl (by kernel_rfl) ?_
 refine h.u ?_
 exact aj Iff.rfl
theorem Kh {k:Int} (h1:¬ k < 1) (h2:¬ 6 < k) {p:Prop} (a:k=1->p) (b:k=2->p) (c:k=3->p) (d:k=4->p) (e:k=5->p) (f:k=6->p):p:=by
 rcases (by omega:k=1\/k=2\/k=3\/k=4\/k=5\/k=6) with h|h|h|h|h|h
 ·exact a h
 ·exact b h
 ·exact c h
 ·exact d h
 ·exact e h
 ·exact f h
theorem ub:∀ c:C,c.qC MT->cN c<=1000000->ai gT 48 [bo c] (.bool (iS c=true)):=C.nw fun c ih hT hN=>by
 obtain⟨ha,hb,VL⟩:=(C.wu c).1 hT
 have hc:=FF c
 have hh:=z5 c.l (fun x=>¬ iS x=true) fun x hx=>ri x (ih x hx (nD VL x hx) (by have:=ua hx; omega))
 rw[← dh] at hh
 have ek:(gG c).length=c.l.length:=by rw[dh,List.length_map]
 have S:=Jg c
 obtain⟨KL,Qq⟩:∃ KL,KL = ∀ x∈c.l,iS x=true:=⟨_,rfl⟩
 rw[← Qq] at S
 have e:(∃ x∈c.l,¬ iS x=true) = ¬ KL:=propext (by rw[Qq]; exact⟨fun ⟨x,hx,hn⟩ h=>hn (h x hx),fun h=>Classical.byContradiction fun hn=>h fun x hx=>Classical.byContradiction fun h'=>hn ⟨x,hx,h'⟩⟩)
 rw[e] at hh
 obtain⟨LN,YB⟩:∃ LN:Int,LN=((gG c).length:Int):=⟨_,rfl⟩
 rw[← ek,← YB] at S
 clear e Qq ih VL hT
 obtain⟨SC,YC⟩:∃ SC,SC=(iS c=true):=⟨_,rfl⟩
 rw[← YC] at S ⊢
 refine Spec.enter al ZM 100 Tryz.func48 rfl (by kernel_rfl) ?_
 refine⟨fun h1=>?_,fun h1=>And.intro (fun h2=>?_) (fun h2=>?_)⟩
 ·refine aj ?_
  exact (show ¬ SC by grind)
 ·refine aj ?_
  exact (show ¬ SC by grind)
 refine Kh h1 h2 (fun hk=>?_) (fun hk=>?_) (fun hk=>?_) (fun hk=>?_) (fun hk=>?_) (fun hk=>?_)
 ·simp only[hk] at S
  simp at S
  refine⟨by omega,by omega,.inl ⟨1,hk,?_⟩⟩
  repeat' (first
   | refine And.intro (fun _=>?_) (fun _=>?_)
   | refine⟨[],av,(cF _ _ _).use ⟨rfl,rfl,rfl,trivial,trivial⟩ rfl rfl ?_⟩
   | refine⟨[],av,(cG _ _ _).use ⟨rfl,rfl,rfl,trivial,trivial⟩ rfl rfl ?_⟩
   | refine⟨[],av,(cH _ ha.wf ha.small).use ⟨⟨rfl,rfl,rfl,trivial⟩,trivial,trivial⟩ rfl rfl ?_⟩
   | refine⟨[],av,(cH _ hb.wf hb.small).use ⟨⟨rfl,rfl,rfl,trivial⟩,trivial,trivial⟩ rfl rfl ?_⟩
   | refine⟨[],av,(cI _).use ⟨⟨rfl,rfl,rfl,trivial⟩,trivial,trivial⟩ rfl rfl ?_⟩
   | refine⟨[],av,(hh).use ⟨rfl,trivial,trivial⟩ rfl rfl ?_⟩
   | (refine aj ?_; first|exact (show ¬ SC by grind)|exact (show _↔SC by grind))
   | intro _)
 ·simp only[hk] at S
  simp at S
  refine⟨by omega,by omega,.inl ⟨2,hk,?_⟩⟩
  repeat' (first
   | refine And.intro (fun _=>?_) (fun _=>?_)
   | refine⟨[],av,(cF _ _ _).use ⟨rfl,rfl,rfl,trivial,trivial⟩ rfl rfl ?_⟩
   | refine⟨[],av,(cG _ _ _).use ⟨rfl,rfl,rfl,trivial,trivial⟩ rfl rfl ?_⟩
   | refine⟨[],av,(cH _ ha.wf ha.small).use ⟨⟨rfl,rfl,rfl,trivial⟩,trivial,trivial⟩ rfl rfl ?_⟩
   | refine⟨[],av,(cH _ hb.wf hb.small).use ⟨⟨rfl,rfl,rfl,trivial⟩,trivial,trivial⟩ rfl rfl ?_⟩
   | refine⟨[],av,(cI _).use ⟨⟨rfl,rfl,rfl,trivial⟩,trivial,trivial⟩ rfl rfl ?_⟩
   | refine⟨[],av,(hh).use ⟨rfl,trivial,trivial⟩ rfl rfl ?_⟩
   | (refine aj ?_; first|exact (show ¬ SC by grind)|exact (show _↔SC by grind))
   | intro _)
 ·simp only[hk] at S
  simp at S
  refine⟨by omega,by omega,.inl ⟨3,hk,?_⟩⟩
  repeat' (first
   | refine And.intro (fun _=>?_) (fun _=>?_)
   | refine⟨[],av,(cF _ _ _).use ⟨rfl,rfl,rfl,trivial,trivial⟩ rfl rfl ?_⟩
   | refine⟨[],av,(cG _ _ _).use ⟨rfl,rfl,rfl,trivial,trivial⟩ rfl rfl ?_⟩
   | refine⟨[],av,(cH _ ha.wf ha.small).use ⟨⟨rfl,rfl,rfl,trivial⟩,trivial,trivial⟩ rfl rfl ?_⟩
   | refine⟨[],av,(cH _ hb.wf hb.small).use ⟨⟨rfl,rfl,rfl,trivial⟩,trivial,trivial⟩ rfl rfl ?_⟩
   | refine⟨[],av,(cI _).use ⟨⟨rfl,rfl,rfl,trivial⟩,trivial,trivial⟩ rfl rfl ?_⟩
   | refine⟨[],av,(hh).use ⟨rfl,trivial,trivial⟩ rfl rfl ?_⟩
   | (refine aj ?_; first|exact (show ¬ SC by grind)|exact (show _↔SC by grind))
   | intro _)
 ·simp only[hk] at S
  simp at S
  refine⟨by omega,by omega,.inl ⟨4,hk,?_⟩⟩
  repeat' (first
   | refine And.intro (fun _=>?_) (fun _=>?_)
   | refine⟨[],av,(cF _ _ _).use ⟨rfl,rfl,rfl,trivial,trivial⟩ rfl rfl ?_⟩
   | refine⟨[],av,(cG _ _ _).use ⟨rfl,rfl,rfl,trivial,trivial⟩ rfl rfl ?_⟩
   | refine⟨[],av,(cH _ ha.wf ha.small).use ⟨⟨rfl,rfl,rfl,trivial⟩,trivial,trivial⟩ rfl rfl ?_⟩
   | refine⟨[],av,(cH _ hb.wf hb.small).use ⟨⟨rfl,rfl,rfl,trivial⟩,trivial,trivial⟩ rfl rfl ?_⟩
   | refine⟨[],av,(cI _).use ⟨⟨rfl,rfl,rfl,trivial⟩,trivial,trivial⟩ rfl rfl ?_⟩
   | refine⟨[],av,(hh).use ⟨rfl,trivial,trivial⟩ rfl rfl ?_⟩
   | (refine aj ?_; first|exact (show ¬ SC by grind)|exact (show _↔SC by grind))
   | intro _)
 ·simp only[hk] at S
  simp at S
  refine⟨by omega,by omega,.inl ⟨5,hk,?_⟩⟩
  repeat' (first
   | refine And.intro (fun _=>?_) (fun _=>?_)
   | refine⟨[],av,(cF _ _ _).use ⟨rfl,rfl,rfl,trivial,trivial⟩ rfl rfl ?_⟩
   | refine⟨[],av,(cG _ _ _).use ⟨rfl,rfl,rfl,trivial,trivial⟩ rfl rfl ?_⟩
   | refine⟨[],av,(cH _ ha.wf ha.small).use ⟨⟨rfl,rfl,rfl,trivial⟩,trivial,trivial⟩ rfl rfl ?_⟩
   | refine⟨[],av,(cH _ hb.wf hb.small).use ⟨⟨rfl,rfl,rfl,trivial⟩,trivial,trivial⟩ rfl rfl ?_⟩
   | refine⟨[],av,(cI _).use ⟨⟨rfl,rfl,rfl,trivial⟩,trivial,trivial⟩ rfl rfl ?_⟩
   | refine⟨[],av,(hh).use ⟨rfl,trivial,trivial⟩ rfl rfl ?_⟩
   | (refine aj ?_; first|exact (show ¬ SC by grind)|exact (show _↔SC by grind))
   | intro _)
 ·simp only[hk] at S
  simp at S
  refine⟨by omega,by omega,.inl ⟨6,hk,?_⟩⟩
  repeat' (first
   | refine And.intro (fun _=>?_) (fun _=>?_)
   | refine⟨[],av,(cF _ _ _).use ⟨rfl,rfl,rfl,trivial,trivial⟩ rfl rfl ?_⟩
   | refine⟨[],av,(cG _ _ _).use ⟨rfl,rfl,rfl,trivial,trivial⟩ rfl rfl ?_⟩
   | refine⟨[],av,(cH _ ha.wf ha.small).use ⟨⟨rfl,rfl,rfl,trivial⟩,trivial,trivial⟩ rfl rfl ?_⟩
   | refine⟨[],av,(cH _ hb.wf hb.small).use ⟨⟨rfl,rfl,rfl,trivial⟩,trivial,trivial⟩ rfl rfl ?_⟩
   | refine⟨[],av,(cI _).use ⟨⟨rfl,rfl,rfl,trivial⟩,trivial,trivial⟩ rfl rfl ?_⟩
   | refine⟨[],av,(hh).use ⟨rfl,trivial,trivial⟩ rfl rfl ?_⟩
   | (refine aj ?_; first|exact (show ¬ SC by grind)|exact (show _↔SC by grind))
   | intro _)
theorem MT.one {t:T} (h:MT t) (h1:cQ t true=true):¬ ((((dW t).map nP).length:Nat):Int)=0:=by
 rw[List.length_map]
 have:=(h.term.2 h1).2.1
 omega
theorem MT.nil {t:T} (h:MT t):((((dW t).map nP).length:Nat):Int)=0↔cQ t false=true:=by
 rw[List.length_map,← h.none]; omega
end Go.Proofs.YtnbhdacpogplgaaGreatDoor.Pw

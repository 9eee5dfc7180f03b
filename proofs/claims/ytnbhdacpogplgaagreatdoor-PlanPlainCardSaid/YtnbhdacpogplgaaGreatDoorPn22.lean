/- What this claim is proved with: no condition. -/
import Derived.Test.YtnbhdacpogplgaaGreatDoorPn21
import Derived.Test.YtnbhdacpogplgaaGreatDoorPn20
set_option maxRecDepth 100000
set_option maxHeartbeats 16000000
set_option linter.unusedVariables false
set_option linter.unusedSimpArgs false
namespace Go.Proofs.YtnbhdacpogplgaaGreatDoor.Pw
open Go Go.RowKit
noncomputable def oc (b:List Int) (w:WK) (till:Int) (a_:List DV):dJ:=runN b till ((till - w.at_).toNat+1) ⟨w,[],a_⟩
noncomputable def xX (b:List Int) (w:WK) (till:Int) (a_:List DV):WK:=aT (oc b w till a_).w ((oc b w till a_).a_ = [])
noncomputable def Bb (b:List Int) (w:WK) (till:Int) (a_:List DV):C:=c_ (oc b w till a_).out
open Classical in
theorem K7 (b:List Int) (hb:tc b) (hl:b.length<=2000) (w:WK) (hI:gM w.at_) (s:SP) (a_:List DV) (hs:s.a_=a_.map lR):Spec gT 80 [.ptr 0 0,te s] [nw b w] [] fun y S'=>y=bj (Bb b w s.till a_)/\S' = [nw b (xX b w s.till a_)]:=by
 unfold Bb xX
 obtain⟨R,hR⟩:∃ R,oc b w s.till a_=R:=⟨_,rfl⟩
 rw[hR]
 unfold oc at hR
 refine Spec.BP (Spec.enter aw S_ 100 Tryz.func80 rfl (by kernel_rfl) ?_)
 refine SW.E1 aw S_ (by kernel_rfl) (α:=oa b s.till R w.at_) (fun r=>[(0,.ptr 0 0),(3,.ptr 1 0),(4,.ptr 2 0),(5,.wref 3),(6,.sl 7 (r.x.a_.map lR))]) (fun r=>[nw b r.x.w,Wl s,zC,Wk r.x.out]) (fun r=>r.n) ⟨⟨w,[],a_⟩,(s.till - w.at_).toNat+1,by
  unfold sN
  split
  ·show (s.till - w.at_).toNat < _; omega
  ·omega,hR,hI,⟨Int.le_refl _,.inl rfl⟩,by simp,by simp⟩ 100 [some 0,some 1,some 2,none] ?_ ?_
 ·repeat' first|exact trivial|exact rfl|exact Iff.rfl|exact not_false|refine And.intro ?_ ?_
  all_goals exact hs
 intro r
 have E6:=r.v9 (by omega)
 obtain⟨x,n,O2,heq,Wm,Sx,hlen,Bc⟩:=r
 have W6:x.out.length<=5000:=by omega
 have O3:¬ (x.w.at_ < s.till/\x.w.e=0)->R=x:=fun h=>by
  obtain⟨k,rfl⟩:∃ k,n=k+1:=⟨n - 1,by omega⟩
  rw[runN,if_neg h] at heq
  exact heq.symm
 have O4:x.w.at_ < s.till/\x.w.e=0->xW b x->R=bB b x:=fun h hb=>by
  obtain⟨k,rfl⟩:∃ k,n=k+1:=⟨n - 1,by omega⟩
  rw[runN,if_pos h,if_pos hb] at heq
  exact heq.symm
 refine⟨fun h1=>And.intro (fun h2=>?_) (fun h2=>?_),fun h1=>?_⟩
 ·have hc:x.w.at_ < s.till/\x.w.e=0:=⟨h1,h2⟩
  obtain⟨eB,iV⟩:=nA b x.w.at_
  have fM:=kZ (b:=b) Bc
  have ta:bB b x=(let w1:=aT x.w (¬ x.w.last)
   let i:=iA b x.w.at_
   let w4:={ aT (da b w1) (¬ vZ i.form/\i.form≠45) with last:=dp i }
   let out:=x.out++[bh (cR b x.w.at_) (fx b w1)]
   if i.form≠97 then ⟨w4,out,x.a_⟩ else match x.a_ with
    | []=>⟨{ w4 with e:=201 },out,[]⟩
    | d::l=>if d.at_≠x.w.at_ then ⟨{ w4 with e:=201 },out,d::l⟩ else ⟨w4,out++[nB d],l⟩):=rfl
  simp only at ta
  have D8:xW b x↔((iA b x.w.at_).form=97/\match x.a_ with
   | []=>True
   | d::_=>d.at_≠x.w.at_):=Iff.rfl
  refine (dV b x.w (¬ x.w.last)).e ?_
  refine (D4 b hb (by omega) (aT x.w (¬ x.w.last)) Wm).e ?_
  have Wn:iA b (aT x.w (¬ x.w.last)).at_=iA b x.w.at_:=rfl
  rw[Wn]
  generalize fx b (aT x.w (¬ x.w.last))=nn at ta ⊢
  generalize da b (aT x.w (¬ x.w.last))=w2 at ta ⊢
  generalize cR b x.w.at_=bb at ta iV ⊢
  generalize iA b x.w.at_=i at ta iV D8 ⊢
  refine (v3 i).u ?_
  refine⟨fun K8=>?p1,fun K8=>?p2⟩
  case' p1 =>
   refine (dV b w2 (i.form≠45)).e ?_
   rw[show aT w2 (i.form≠45)=aT w2 (¬ vZ i.form/\i.form≠45) from congrArg (aT w2) (propext ⟨fun h=>⟨K8,h⟩,fun h=>h.2⟩)]
  case' p2 =>
   refine (ga b w2).e ?_
   rw[show ({ w2 with e:=201 }:WK)=aT w2 (¬ vZ i.form/\i.form≠45) from (il fun h=>K8 h.1).symm]
  all_goals
   clear K8
   generalize aT w2 (¬ vZ i.form/\i.form≠45)=w3 at ta ⊢
   refine (xU i).u ?_
   refine⟨[],aE,iV.use (by first|exact cP rfl rfl|(repeat' first|exact trivial|exact rfl|exact Iff.rfl|exact Or.inl rfl|exact not_false|refine And.intro ?_ ?_)) rfl rfl ?_⟩
   refine (gw bb nn).u ?_
   refine⟨show (x.out.map gJ).length+1<=maxLen by rw[List.length_map]; unfold maxLen; omega,show ((x.out.map gJ).length+1)*144<=140737488355328 by rw[List.length_map]; omega,?_⟩
   refine⟨fun vX=>?_,fun vX=>?_⟩
   ·have Bd:i.form≠97:=vX
    rw[if_pos Bd] at ta
    obtain⟨r,O5,ON⟩:∃ r:oa b s.till R w.at_,r.x=bB b x/\r.n < n:=E6 hc (fun h=>Bd (D8.1 h).1)
    rw[ta] at O5
    obtain⟨x2,n2,Be,K9,K_,La,Bf,uM⟩:=r
    obtain rfl:x2=_:=O5
    refine⟨⟨_,n2,Be,K9,K_,La,Bf,uM⟩,[some 0,some 1,some 2,some 6],ON,?_⟩
    repeat' first|exact trivial|exact rfl|exact Iff.rfl|exact not_false|refine And.intro ?_ ?_
    all_goals exact (show x.out.map gJ++[gJ (bh bb nn)]=(x.out++[bh bb nn]).map gJ by rw[List.map_append]; rfl)
   ·have Bd:¬ i.form≠97:=vX
    rw[if_neg Bd] at ta
    have O6:i.form=97:=Classical.not_not.1 Bd
    have el:(x.a_.map lR).length=x.a_.length:=List.length_map ..
    refine fun hm=>?_
    refine⟨fun h0=>?_,fun h0=>?_⟩
    ·have Lk:x.a_ = []:=by
      have yj:(((x.a_.map lR).length:Nat):Int)=0:=h0
      exact List.eq_nil_of_length_eq_zero (by omega)
     have Sh:R=⟨{ ({ w3 with last:=dp i }:WK) with e:=201 },x.out++[bh bb nn],x.a_⟩:=by
      rw[O4 hc (D8.2 ⟨O6,by rw[Lk]; trivial⟩),ta]
      rw[Lk]
     have Si:∀ c∈x.out++[bh bb nn],im c:=fun c hc=>fM.1 c (by rw[ta]; rw[Lk]; exact hc)
     have hj:=gx (by rw[List.length_append,List.length_singleton]; omega) Si
     rw[List.map_append] at hj
     subst Sh
     refine (sP b { w3 with last:=dp i }).e ?_
     have ep:(((x.a_.map lR).length:Nat):Int)=0↔x.a_ = []:=by rw[List.length_map]; cases x.a_<;>simp; omega
     refine fun Sj=>?_
     refine (dV b { ({ w3 with last:=dp i }:WK) with e:=201 } ((((x.a_.map lR).length:Nat):Int)=0)).e ?_
     rw[show aT { ({ w3 with last:=dp i }:WK) with e:=201 } ((((x.a_.map lR).length:Nat):Int)=0)=aT { ({ w3 with last:=dp i }:WK) with e:=201 } (x.a_ = []) by rw[propext ep]]
     refine⟨[],aE,hj.tX [6] rfl (by repeat' first|exact trivial|exact rfl|exact Iff.rfl|exact Or.inl rfl|refine And.intro ?_ ?_) rfl rfl ?_⟩
     exact rS
    ·have yj:¬ (((x.a_.map lR).length:Nat):Int)=0:=h0
     refine⟨DV,x.a_,lR,rfl,show (0:Int)<=0 by decide,show (0:Int) < (x.a_.length:Int) by omega,fun d hd=>?_⟩
     obtain⟨l,Ex⟩:∃ l,x.a_=d::l:=by
      have yw:x.a_[0]?=some d:=hd
      cases hx:x.a_ with
      | nil=>rw[hx] at yw; cases yw
      | cons a l=>rw[hx] at yw; cases yw; exact⟨l,rfl⟩
     refine⟨fun bR=>?_,fun bR=>?_⟩
     ·have qP:d.at_≠x.w.at_:=bR
      have Sh:R=⟨{ ({ w3 with last:=dp i }:WK) with e:=201 },x.out++[bh bb nn],x.a_⟩:=by
       rw[O4 hc (D8.2 ⟨O6,by rw[Ex]; exact qP⟩),ta]
       rw[Ex]; simp only; rw[if_pos qP]
      have Si:∀ c∈x.out++[bh bb nn],im c:=fun c hc=>fM.1 c (by rw[ta]; rw[Ex]; simp only; rw[if_pos qP]; exact hc)
      have hj:=gx (by rw[List.length_append,List.length_singleton]; omega) Si
      rw[List.map_append] at hj
      subst Sh
      refine (sP b { w3 with last:=dp i }).e ?_
      have ep:(((x.a_.map lR).length:Nat):Int)=0↔x.a_ = []:=by rw[List.length_map]; cases x.a_<;>simp; omega
      refine fun Sj=>?_
      refine (dV b { ({ w3 with last:=dp i }:WK) with e:=201 } ((((x.a_.map lR).length:Nat):Int)=0)).e ?_
      rw[show aT { ({ w3 with last:=dp i }:WK) with e:=201 } ((((x.a_.map lR).length:Nat):Int)=0)=aT { ({ w3 with last:=dp i }:WK) with e:=201 } (x.a_ = []) by rw[propext ep]]
      refine⟨[],aE,hj.tX [6] rfl (by repeat' first|exact trivial|exact rfl|exact Iff.rfl|exact Or.inl rfl|refine And.intro ?_ ?_) rfl rfl ?_⟩
      exact rS
     ·have qP:¬ d.at_≠x.w.at_:=bR
      refine⟨DV,x.a_,lR,rfl,show (0:Int)<=0 by decide,show (0:Int) < (x.a_.length:Int) by omega,fun d2 tH=>?_⟩
      obtain rfl:d=d2:=Option.some.inj (hd.symm.trans tH)
      refine⟨DV,x.a_,lR,rfl,show (0:Int)<=0 by decide,show (0:Int) < (x.a_.length:Int) by omega,fun d2 tH=>?_⟩
      obtain rfl:d=d2:=Option.some.inj (hd.symm.trans tH)
      have eo:(x.out.map gJ++[gJ (bh bb nn)]).length=x.out.length+1:=by rw[List.length_append,List.length_map]; rfl
      refine⟨show (x.out.map gJ++[gJ (bh bb nn)]).length+1<=maxLen by rw[eo]; unfold maxLen; omega,show ((x.out.map gJ++[gJ (bh bb nn)]).length+1)*144<=140737488355328 by rw[eo]; omega,?_⟩
      refine⟨show (0:Int)<=1 by decide,show (1:Int)<=(((x.a_.map lR).length:Nat):Int) by omega,Int.le_refl _,?_⟩
      have Sk:bB b x=⟨{ w3 with last:=dp i },x.out++[bh bb nn]++[nB d],l⟩:=by rw[ta,Ex]; simp only; rw[if_neg qP]
      obtain⟨r,O5,ON⟩:∃ r:oa b s.till R w.at_,r.x=bB b x/\r.n < n:=E6 hc (fun h=>qP (by have:=(D8.1 h).2; rw[Ex] at this; exact this))
      rw[Sk] at O5
      obtain⟨x2,n2,Be,K9,K_,La,Bf,uM⟩:=r
      obtain rfl:x2=_:=O5
      refine⟨⟨_,n2,Be,K9,K_,La,Bf,uM⟩,[some 0,some 1,some 2,some 8],ON,?_⟩
      repeat' first|exact trivial|exact rfl|exact Iff.rfl|exact not_false|refine And.intro ?_ ?_
      all_goals first
       | exact (show x.out.map gJ++[gJ (bh bb nn)]++[gJ (nB d)]=(x.out++[bh bb nn]++[nB d]).map gJ by rw[List.map_append,List.map_append]; rfl)
       | exact (show ((x.a_.map lR).drop 1).take ((((x.a_.map lR).length:Nat):Int) - 1).toNat=l.map lR by
         rw[Ex]
         show (l.map lR).take _=_
         rw[List.take_of_length_le]
         simp only[List.map_cons,List.length_cons,List.length_map]
         omega)
 ·have kF:=O3 (fun h=>h2 h.2)
  subst kF
  have ep:(((R.a_.map lR).length:Nat):Int)=0↔R.a_ = []:=by rw[List.length_map]; cases R.a_<;>simp; omega
  refine fun Sj=>?_
  refine (dV b R.w ((((R.a_.map lR).length:Nat):Int)=0)).e ?_
  rw[show aT R.w ((((R.a_.map lR).length:Nat):Int)=0)=aT R.w (R.a_ = []) by rw[propext ep]]
  refine⟨[],aE,(gx (by omega) Bc).tX [3] rfl (by repeat' first|exact trivial|exact rfl|exact Iff.rfl|exact Or.inl rfl|refine And.intro ?_ ?_) rfl rfl ?_⟩
  exact rS
 ·have kF:=O3 (fun h=>h1 h.1)
  subst kF
  have ep:(((R.a_.map lR).length:Nat):Int)=0↔R.a_ = []:=by rw[List.length_map]; cases R.a_<;>simp; omega
  refine fun Sj=>?_
  refine (dV b R.w ((((R.a_.map lR).length:Nat):Int)=0)).e ?_
  rw[show aT R.w ((((R.a_.map lR).length:Nat):Int)=0)=aT R.w (R.a_ = []) by rw[propext ep]]
  refine⟨[],aE,(gx (by omega) Bc).tX [3] rfl (by repeat' first|exact trivial|exact rfl|exact Iff.rfl|exact Or.inl rfl|refine And.intro ?_ ?_) rfl rfl ?_⟩
  exact rS
def gZ:G:=.mk 0 0 []
def gb (a t:Int):SP:=⟨1,a,t,0,-1,0,0,gZ,gZ,[],[],[],[]⟩
def o_:C:=.mk 0 0 0 0 0 f_ f_ []
theorem Bg:ai gT 115 [.agg [.int .i64 0,.int .u32 0,.sl 3 []]] .tt:=by
 refine Spec.enter aw QX 100 Tryz.func115 rfl (by kernel_rfl) ?_
 repeat' ((conv=>whnf); first|(refine (And.intro (fun _=>?_) (fun _=>?_):(_->_)/\(_->_))<;>(first|(exfalso; first|contradiction|omega)|skip))|refine Or.inl (And.intro (by first|exact aA (by omega)|exact ah (by omega)|exact cH (by omega)|exact dF (by omega)) ?_)|(refine And.intro (show (_:Int)≠0 by omega) (Or.inl (And.intro (show (0:Int)<=_ by omega) (And.intro (show (0:Int) < _ by omega) ?_))))|(refine And.intro (show (_:Int)≠0 by omega) (Or.inl (And.intro (show (0:Int)<=_ by omega) (And.intro (by first|exact (show (_:Int)<=9223372036854775807 by omega)|exact (show (_:Int)<=4294967295 by omega)) (And.intro (show (0:Int) < _ by omega) ?_)))))|(exact absurd rfl (by assumption))|(exact rA)|(intro _))
theorem Bh:ai gT 148 [.sl 7 [],.clo 138 []] (.int .i64 (-1)):=by
 refine Spec.enter aw Mv 100 Tryz.func148 rfl (by kernel_rfl) ?_
 refine fun _=>SW.rounds aw Mv (by kernel_rfl) (N:=60) 1 ?_
 repeat' ((conv=>whnf); first|(refine (And.intro (fun _=>?_) (fun _=>?_):(_->_)/\(_->_))<;>(first|(exfalso; first|contradiction|omega)|skip))|refine Or.inl (And.intro (by first|exact aA (by omega)|exact ah (by omega)|exact cH (by omega)|exact dF (by omega)) ?_)|(refine And.intro (show (_:Int)≠0 by omega) (Or.inl (And.intro (show (0:Int)<=_ by omega) (And.intro (show (0:Int) < _ by omega) ?_))))|(refine And.intro (show (_:Int)≠0 by omega) (Or.inl (And.intro (show (0:Int)<=_ by omega) (And.intro (by first|exact (show (_:Int)<=9223372036854775807 by omega)|exact (show (_:Int)<=4294967295 by omega)) (And.intro (show (0:Int) < _ by omega) ?_)))))|(exact absurd rfl (by assumption))|(exact rA)|(intro _))
theorem Bi:ai gT 137 [.sl 7 [],.clo 138 []] .ff:=by
 refine Spec.enter aw QZ 100 Tryz.func137 rfl (by kernel_rfl) ?_
 refine Bh.u ?_
 refine al ?_
 exact (show ¬ (0:Int)<=-1 by decide)
theorem Bj:ai gT 116 [.sl 7 []] .tt:=by
 refine Spec.enter aw QY 100 Tryz.func116 rfl (by kernel_rfl) ?_
 refine Bi.u ?_
 refine al ?_
 repeat' first|exact trivial|exact rfl|exact not_false|refine And.intro ?_ ?_
theorem Bk (a t:Int):ai gT 79 [te (gb a t)] .tt:=by
 show ai gT 79 [.agg [.int .i64 1,.int .i64 a,.int .i64 t,.int .i64 0,.int .i64 (-1),.int .i64 0,.int .i64 0,.int .i64 0,.int .u32 0,.sl 3 [],.int .i64 0,.int .u32 0,.sl 3 [],.sl 7 [],.sl 17 [],.sl 17 [],.sl 17 []]] .tt
 refine Spec.enter aw U' 100 Tryz.func79 rfl (by kernel_rfl) ?_
 repeat' ((conv=>whnf); first|(refine (And.intro (fun _=>?_) (fun _=>?_):(_->_)/\(_->_))<;>(first|(exfalso; first|contradiction|omega)|skip))|refine Or.inl (And.intro (by first|exact aA (by omega)|exact ah (by omega)|exact cH (by omega)|exact dF (by omega)) ?_)|(refine And.intro (show (_:Int)≠0 by omega) (Or.inl (And.intro (show (0:Int)<=_ by omega) (And.intro (show (0:Int) < _ by omega) ?_))))|(refine And.intro (show (_:Int)≠0 by omega) (Or.inl (And.intro (show (0:Int)<=_ by omega) (And.intro (by first|exact (show (_:Int)<=9223372036854775807 by omega)|exact (show (_:Int)<=4294967295 by omega)) (And.intro (show (0:Int) < _ by omega) ?_)))))|(exact absurd rfl (by assumption))|(refine⟨[],aE,Bg.use (by repeat' first|exact trivial|exact rfl|exact Iff.rfl|exact Or.inl rfl|refine And.intro ?_ ?_) rfl rfl ?_⟩)|(refine⟨[],aE,Bj.use (by repeat' first|exact trivial|exact rfl|exact Iff.rfl|exact Or.inl rfl|refine And.intro ?_ ?_) rfl rfl ?_⟩)|(refine al ?_; (repeat' first|exact trivial|exact rfl|exact iff_true_intro rfl|refine And.intro ?_ ?_))|(intro _))
noncomputable def dq (w:WK) (a t:Int):WK:=aT w (a=w.at_/\a < t/\¬ w.last)
open Classical in
noncomputable def gI (b:List Int) (w:WK) (a t:Int):C:=if (dq w a t).e≠0 then o_ else Bb b (dq w a t) t []
open Classical in
noncomputable def cT (b:List Int) (w:WK) (a t:Int):WK:=if (dq w a t).e≠0 then dq w a t else aT (xX b (dq w a t) t []) ((xX b (dq w a t) t []).at_=t)
theorem Bl (b:List Int) (hb:tc b) (hl:b.length<=2000) (w:WK) (hI:gM w.at_) (a t:Int):Spec gT 44 [.ptr 0 0,te (gb a t)] [nw b w] [] fun y S'=>y=bj (gI b w a t)/\S' = [nw b (cT b w a t)]:=by
 have bm:Spec gT 80 [.ptr 0 0,te (gb a t)] [nw b (dq w a t)] [] fun y S'=>y=bj (Bb b (dq w a t) t [])/\S' = [nw b (xX b (dq w a t) t [])]:=K7 b hb hl (dq w a t) hI (gb a t) [] rfl
 unfold gI cT
 have hn:∀ p,(p↔(a=w.at_/\a < t/\¬ w.last))->aT w p=dq w a t:=fun p h=>by unfold dq; rw[propext h]
 generalize dq w a t=w1 at *
 generalize Bb b w1 t []=rc at *
 generalize xX b w1 t []=LG at *
 refine Spec.BP (Spec.enter aw U9 100 Tryz.func44 rfl (by kernel_rfl) ?_)
 have bad:¬ (a=w.at_/\a < t/\¬ w.last)->({ w with e:=201 }:WK)=w1:=fun h=>(il (w:=w) (p:=a=w.at_/\a < t/\¬ w.last) h).symm.trans (hn _ Iff.rfl)
 have Fb:a=w.at_/\a < t/\¬ w.last->w=w1:=fun h=>(bM (w:=w) (p:=a=w.at_/\a < t/\¬ w.last) h).symm.trans (hn _ Iff.rfl)
 have ht:aT LG (LG.at_=t)=aT LG (LG.at_=(gb a t).till):=rfl
 refine⟨fun h1=>And.intro (fun h2=>?p1) (fun h2=>?p2),fun h1=>?p3⟩
 case' p1 =>
  refine⟨fun h3=>?p4,fun h3=>?p5⟩
  case' p4 =>
   refine (Bk a t).u ?_
   refine (ny b w).e ?_
   rw[Fb ⟨h1,h2,h3⟩]
  case' p5 =>
   refine (ga b w).e ?_
   rw[bad fun h=>h3 h.2.2]
 case' p2 =>
  refine (ga b w).e ?_
  rw[bad fun h=>h2 h.2.1]
 case' p3 =>
  refine (ga b w).e ?_
  rw[bad fun h=>h1 h.1]
 all_goals
  refine⟨fun he=>?_,fun he=>?_⟩
  ·rw[if_pos he,if_pos he]
   exact rS
  ·rw[if_neg he,if_neg he]
   refine⟨fun hk=>?_,fun hk=>absurd (rfl:(gb a t).kind=1) hk⟩
   refine (bm).e ?_
   refine (dV b LG (LG.at_=(gb a t).till)).e ?_
   rw[← ht]
   exact rS
theorem uN:∀ {l:List C},(∀ c∈l,c.kind≠2)->eH l=l
 | [],_=>rfl
 | c::l,h=>by
  rw[eH,ij,if_neg (h c (List.mem_cons_self ..)),uN (fun x hx=>h x (List.mem_cons_of_mem _ hx))]
  rfl
theorem Bm (l:List C):BQ (c_ l)=fH l:=by
 have hk:=@xO l
 unfold c_
 generalize fH l=o at hk
 split
 ·rw[ij,if_neg (hk _ (List.mem_singleton_self _))]
 ·rw[ij,if_pos (show (C.mk 2 0 0 0 0 f_ f_ o).kind=2 from rfl)]
  exact uN hk
theorem iL {S:List C} (hS:∀ c∈S,eZ 20 c):∀ i:Nat,∀ x∈(S.take i).foldl ca [],eZ (i*20) x
 | 0,x,hx=>by simp at hx
 | i+1,x,hx=>by
  cases hc:S[i]? with
  | none =>
   have hl:S.length<=i:=List.getElem?_eq_none_iff.1 hc
   rw[List.take_of_length_le (by omega),← List.take_of_length_le (i:=i) hl] at hx
   exact (iL hS i x hx).more (by omega)
  | some c =>
   rw[iK hc] at hx
   have K6:=hS c (List.mem_of_getElem? hc)
   refine kW (p:=eZ ((i+1:Nat)*20)) (fun y hy=>(iL hS i y hy).more (by omega)) (K6.more (by omega)) (fun d hd k1 k2 _=>?_) x hx
   have h1:=iL hS i d hd k2
   have h2:=K6 k1
   show (0<=d.fj+c.fj/\d.fj+c.fj<=_)/\(0<=d.fG+c.fG/\d.fG+c.fG<=_)
   omega
def D9 (c:C):Prop:=(BQ c).length<=1000000/\∀ x∈BQ c,eZ 2147483647 x
theorem D9.join {l:List C} (hl:l.length<=5000) (h:∀ c∈l,im c):D9 (c_ l):=by
 unfold D9
 rw[Bm]
 unfold fH
 rw[ma h]
 have hb:=iL (S:=l) (fun c hc k=>by rcases (h c hc).1 with ⟨_,h1,h2⟩|h1<;>omega) l.length
 have hn:=ik l l.length
 rw[List.take_length] at hb hn
 refine⟨by have:=List.length_filter_le aZ (l.foldl ca []); omega,fun x hx=>(hb x (List.mem_filter.1 hx).1).more (by omega)⟩
theorem D9.zero:D9 o_:=⟨by show 1<=1000000; decide,fun x hx=>by
 have:x=o_:=by simpa using (show x∈[o_] from hx)
 subst this
 exact fun k=>absurd k (by decide)⟩
theorem Bn {c:C} (h:D9 c):ai gT 45 [.sl 12 [bj c]] (bj (c_ [c])):=by
 have e:eH [c]=BQ c:=by rw[eH,eH,List.append_nil]
 exact o7 [c] (by rw[e]; exact h.1) (by rw[e]; exact h.2)
theorem sR {b:List Int} {till:Int} {R:dJ} {a0:Int} (hl:b.length<=2000):∀ (n:Nat) (r:oa b till R a0),r.n<=n->R.out.length<=5000/\(∀ c∈R.out,im c)/\gM R.w.at_
 | 0,r,h=>by have:=r.jE; omega
 | n+1,r,h=>by
  have heq:=r.eq
  have hf:=r.jE
  obtain⟨k,hk⟩:∃ k,r.n=k+1:=⟨r.n - 1,by omega⟩
  rw[hk,runN] at heq
  have hlen:=r.len
  have ha:=r.a
  have hI:=r.hI
  split at heq
  ·rename_i hc
   split at heq
   ·rename_i hb
    have ho:=kZ (b:=b) r.outs
    have lL:=nC b r.x
    have hn:=sO b (aT r.x.w (¬ r.x.w.last))
    rw[← lL] at hn
    have Fe:(bB b r.x).w.at_=r.x.w.at_\/(eA b r.x.w.at_=0/\(bB b r.x).w.at_=r.x.w.at_+br (iA b r.x.w.at_).form):=hn
    rw[← heq]
    refine⟨by have:=hlen.2 hc.2; omega,ho.1,?_⟩
    rcases Fe with h1|⟨h1,h2⟩
    ·rw[h1]; exact hI
    ·obtain⟨h3,h4,_⟩:=cQ h1
     have:=nx h4
     unfold gM; omega
   ·rename_i hb
    obtain⟨r',h1,h2⟩:=r.v9 hl hc hb
    exact sR hl n r' (by omega)
  ·rw[← heq]
   exact⟨by omega,r.outs,hI⟩
theorem D' {b:List Int} (hl:b.length<=2000) {w:WK} (hI:gM w.at_) (till:Int) (a_:List DV):(oc b w till a_).out.length<=5000/\(∀ c∈(oc b w till a_).out,im c)/\gM (oc b w till a_).w.at_ :=
 sR hl (R:=oc b w till a_) (a0:=w.at_) ((till - w.at_).toNat+1) ⟨⟨w,[],a_⟩,(till - w.at_).toNat+1,by
  unfold sN
  split
  ·show (till - w.at_).toNat < _; omega
  ·omega,rfl,hI,⟨Int.le_refl _,.inl rfl⟩,by simp,by simp⟩ (Nat.le_refl _)
theorem D9.one {b:List Int} (hl:b.length<=2000) {w:WK} (hI:gM w.at_) (a t:Int):D9 (gI b w a t):=by
 unfold gI
 split
 ·exact .zero
 ·have h:=D' hl (w:=dq w a t) (show gM (dq w a t).at_ from by unfold dq aT; exact hI) t []
  exact .join h.1 h.2.1
theorem nD {cy mi:Int} (h:0 < cy):c_ [bh cy mi]=bh cy mi:=by
 have:fH [bh cy mi] = [bh cy mi]:=by
  unfold fH
  show [bh cy mi].filter aZ=_
  rw[List.filter_cons_of_pos]
  ·rfl
  ·unfold aZ
   rw[show decide ((bh cy mi).fj=0)=false from decide_eq_false (show ¬ cy=0 by omega)]
   simp
 unfold c_
 rw[this]
def jb (l:List (Int × Int)):List C:=l.map fun p=>bh p.1 p.2
theorem nE:∀ (l:List (Int × Int)) (c m:Int),(jb l).foldl ca [bh c m] = [bh (c+(l.map (·.1)).sum) (m+(l.map (·.2)).sum)]
 | [],c,m=>by simp[jb]
 | p::l,c,m=>by
  show (jb l).foldl ca (ca [bh c m] (bh p.1 p.2))=_
  have:ca [bh c m] (bh p.1 p.2) = [bh (c+p.1) (m+p.2)]:=rfl
  rw[this,nE l]
  simp only[List.map_cons,List.sum_cons,Int.add_assoc]
theorem sS {l:List (Int × Int)} (h:0 < (l.map (·.1)).sum):c_ (jb l)=bh (l.map (·.1)).sum (l.map (·.2)).sum:=by
 cases l with
 | nil=>exact absurd h (by decide)
 | cons p l =>
  have e:eH (jb (p::l))=jb (p::l):=uN fun c hc=>by
   obtain⟨q,_,rfl⟩:=List.mem_map.1 hc
   exact (by decide:(1:Int)≠2)
  have e2:(eH (jb (p::l))).foldl ca [] = [bh ((p::l).map (·.1)).sum ((p::l).map (·.2)).sum]:=by
   rw[e]
   show (jb l).foldl ca [bh p.1 p.2]=_
   rw[nE]
   simp only[List.map_cons,List.sum_cons]
  have:=nD (mi:=((p::l).map (·.2)).sum) h
  unfold c_ fH
  rw[e2]
  unfold c_ fH at this
  exact this
def mb (op u w:Int):T:=if op=1 then .leaf 1 u else if op=2 then .leaf 2 (IntKind.u32.wrap w) else if op=3\/op=4 then .one op 0 (.leaf 2 (IntKind.u32.wrap w)) else if 5<=op/\op<=17 then .two op 0 (.leaf 2 (IntKind.u32.wrap w)) (.leaf 1 u) else .leaf op 0
theorem wrap32 (w:Int):0<=IntKind.u32.wrap w/\IntKind.u32.wrap w<=4294967295:=by rw[IntKind.wrap_u32']; omega
theorem uO {op u w:Int} (h:0<=u/\u<=4294967295):(mb op u w).Wf:=by
 have:=wrap32 w
 unfold mb
 repeat' split
 ·exact h
 ·exact this
 ·exact⟨by omega,this⟩
 ·exact⟨by omega,this,h⟩
 ·exact⟨by omega,by omega⟩
def nP (x:Int × Int × Int):PV:=.agg [.int .i64 x.1,.int .u32 x.2.1,.int .i64 x.2.2]
theorem e_:∀ t:T,t.size<=1000000->ai gT 125 [fF t] (.int .i64 t.size)
 | .leaf o n,hs=>by
  refine Spec.enter aw wG 100 Tryz.func125 rfl (by kernel_rfl) ?_
  refine fun _=>SW.rounds aw wG (by kernel_rfl) (N:=60) 3 ?_
  refine⟨fun h=>absurd (show (0:Int) < 0 from h) (by decide),fun _=>?_⟩
  exact al rfl
 | .one o n a,hs=>by
  have sz:(T.one o n a).size=1+a.size:=rfl
  have Sl:=e_ a (by omega)
  refine Spec.enter aw wG 100 Tryz.func125 rfl (by kernel_rfl) ?_
  refine fun _=>SW.rounds aw wG (by kernel_rfl) (N:=60) 3 ?_
  refine⟨fun _=>?_,fun h=>absurd (show (0:Int) < 1 by decide) h⟩
  refine⟨T,[a],fF,rfl,(show (0:Int)<=0 by decide),(show (0:Int) < 1 by decide),fun x hx=>?_⟩
  obtain rfl:a=x:=Option.some.inj hx
  refine⟨[],nofun,Sl.use ⟨⟨rfl,rfl,rfl,trivial⟩,trivial⟩ rfl rfl ?_⟩
  refine li ?_
  refine⟨fun h=>absurd (show (1:Int) < 1 from h) (by decide),fun _=>?_⟩
  refine al ?_
  exact (show (1:Int)+a.size=((T.one o n a).size:Nat) by omega)
 | .two o n a b,hs=>by
  have sz:(T.two o n a b).size=1+a.size+b.size:=rfl
  have Sl:=e_ a (by omega)
  have Wo:=e_ b (by omega)
  refine Spec.enter aw wG 100 Tryz.func125 rfl (by kernel_rfl) ?_
  refine fun _=>SW.rounds aw wG (by kernel_rfl) (N:=60) 3 ?_
  refine⟨fun _=>?_,fun h=>absurd (show (0:Int) < 2 by decide) h⟩
  refine⟨T,[a,b],fF,rfl,(show (0:Int)<=0 by decide),(show (0:Int) < 2 by decide),fun x hx=>?_⟩
  obtain rfl:a=x:=Option.some.inj hx
  refine⟨[],nofun,Sl.use ⟨⟨rfl,rfl,rfl,trivial⟩,trivial⟩ rfl rfl ?_⟩
  refine li ?_
  refine⟨fun _=>?_,fun h=>absurd (show (1:Int) < 2 by decide) h⟩
  refine⟨T,[a,b],fF,rfl,(show (0:Int)<=1 by decide),(show (1:Int) < 2 by decide),fun x hx=>?_⟩
  obtain rfl:b=x:=Option.some.inj hx
  refine⟨[],nofun,Wo.use ⟨⟨rfl,rfl,rfl,trivial⟩,trivial⟩ rfl rfl ?_⟩
  refine li ?_
  refine⟨fun h=>absurd (show (2:Int) < 2 from h) (by decide),fun _=>?_⟩
  refine al ?_
  exact (show (1:Int)+a.size+b.size=((T.two o n a b).size:Nat) by omega)
def db:T->List (Int × Int × Int)
 | .leaf o n=>if o=0/\n=0 then [] else [(o,n,0)]
 | .one o n a=>(o,n,1)::db a
 | .two o n a b=>(o,n,2)::(db a++db b)
mutual
def O7:C->List PV
 | .mk _ _ _ _ _ _ _ l=>Bo l
def Bo:List C->List PV
 | []=>[]
 | c::l=>.agg [.int .i64 c.kind,.int .i64 c.fj,.int .i64 c.fG,.int .i64 c.word,.int .i64 c.size,.sl 3 ((db c.a).map nP),.sl 3 ((db c.b).map nP),.sl 8 (O7 c)]::Bo l
end
mutual
def C.nF (p:T->Prop):C->Prop
 | .mk _ _ _ _ _ a b l=>p a/\p b/\jc p l
def jc (p:T->Prop):List C->Prop
 | []=>True
 | c::l=>c.nF p/\jc p l
end
theorem k7 {p:T->Prop}:∀ {l:List C},jc p l->∀ c∈l,c.nF p
 | c::l,h,x,hx=>by
  simp only[jc] at h
  rcases List.mem_cons.1 hx with rfl|hx
  ·exact h.1
  ·exact k7 h.2 x hx
theorem C.sT {p:T->Prop} (c:C):c.nF p↔p c.a/\p c.b/\jc p c.l:=by cases c; rfl
mutual
def C.Sm:C->Prop
 | .mk _ _ _ _ _ _ _ l=>l.length<=1000000/\Sn l
def Sn:List C->Prop
 | []=>True
 | c::l=>c.Sm/\Sn l
end
theorem C.So (c:C):c.Sm↔c.l.length<=1000000/\Sn c.l:=by cases c; rfl
def qp (t:T):Nat:=if t.op=0 then 0 else t.size
mutual
def cN:C->Nat
 | .mk _ _ _ _ _ a b l=>1+qp a+qp b+oe l
def oe:List C->Nat
 | []=>0
 | c::l=>cN c+oe l
end
theorem Bp (c:C):cN c=1+qp c.a+qp c.b+oe c.l:=by cases c; rfl
theorem jD:∀ (l m:List C),oe (l++m)=oe l+oe m
 | [],m=>by simp[oe]
 | c::l,m=>by rw[List.cons_append,oe,oe,jD l m]; omega
theorem Lb (c:C):1<=cN c:=by rw[Bp]; omega
theorem v_:∀ l:List C,l.length<=oe l
 | []=>Nat.le_refl _
 | c::l=>by have:=v_ l; have:=Lb c; rw[oe,List.length_cons]; omega
theorem qq:∀ {l:List C} {x:C},x∈l->cN x<=oe l
 | c::l,x,hx=>by
  rw[oe]
  rcases List.mem_cons.1 hx with rfl|hx
  ·omega
  ·have:=qq hx; omega
theorem Bq {l:List C} {i:Nat} {x:C} (h:l[i]?=some x):oe (l.take (i+1))=oe (l.take i)+cN x:=by
 rw[List.take_add_one,h,jD]; simp[oe]
theorem lA (l:List C) (i:Nat):oe (l.take i)<=oe l:=by
 have:=jD (l.take i) (l.drop i)
 rw[List.take_append_drop] at this; omega
def MT (t:T):Prop:=∃ op u w,(0<=u/\u<=4294967295)/\t=mb op u w
theorem MT.cases {t:T} (h:MT t):t.Wf/\t.size<=3/\((t = .leaf 0 0/\db t = [])\/(t.op≠0/\db t=t.nodes)):=by
 obtain⟨op,u,w,hu,rfl⟩:=h
 refine⟨uO hu,?_⟩
 unfold mb
 split
 ·refine⟨by simp[T.size],.inr ⟨by simp[T.op],by simp[db,T.nodes]⟩⟩
 split
 ·refine⟨by simp[T.size],.inr ⟨by simp[T.op],by simp[db,T.nodes]⟩⟩
 split
 ·refine⟨by simp[T.size],.inr ⟨by simp only[T.op]; omega,by simp[db,T.nodes]⟩⟩
 split
 ·refine⟨by simp[T.size],.inr ⟨by simp only[T.op]; omega,by simp[db,T.nodes]⟩⟩
 ·refine⟨by simp[T.size],?_⟩
  by_cases h0:op=0
  ·subst h0; exact .inl ⟨rfl,by simp[db]⟩
  ·exact .inr ⟨h0,by simp[db,T.nodes,h0]⟩
theorem MT.sz {t:T} (h:MT t):qp t=(db t).length/\qp t<=3:=by
 obtain⟨_,h2,h3⟩:=h.cases
 rcases h3 with ⟨rfl,h3⟩|⟨h4,h3⟩
 ·rw[h3]; exact⟨rfl,by simp[qp,T.op]⟩
 ·rw[h3,T.cU,qp,if_neg h4]; exact⟨rfl,h2⟩
theorem MT.wf {t:T} (h:MT t):t.Wf:=h.cases.1
theorem MT.small {t:T} (h:MT t):t.size<=16384:=by have:=h.cases.2.1; omega
mutual
theorem C.nF.mono {p q:T->Prop} (h:∀ t,p t->q t):∀ c:C,c.nF p->c.nF q
 | .mk _ _ _ _ _ a b l,hc=>⟨h a hc.1,h b hc.2.1,jc.mono h l hc.2.2⟩
theorem jc.mono {p q:T->Prop} (h:∀ t,p t->q t):∀ l:List C,jc p l->jc q l
 | [],_=>trivial
 | c::l,hc=>⟨C.nF.mono h c hc.1,jc.mono h l hc.2⟩
end
theorem MT.zero:MT f_:=⟨0,0,0,by omega,rfl⟩
theorem sU (op:Int):ai gT 151 [.int .i64 op] (.int .i64 (kU op)):=by
 refine Spec.enter aw Q2 100 Tryz.func151 rfl (by kernel_rfl) ?_
 repeat' refine And.intro (fun _=>?_) (fun _=>?_)
 all_goals (refine al ?_; unfold kU; show _=_; (repeat' split)<;>omega)
theorem pa {op:Int} (h1:1<=op) (h2:op<=17):kU op=qi op:=by
 unfold kU qi
 rw[if_neg (show ¬ (op < 1\/17 < op) by omega)]
 by_cases k1:op<=2
 ·rw[if_pos k1,if_pos (show op < 3 by omega)]
 ·rw[if_neg k1,if_neg (show ¬ op < 3 by omega)]
  by_cases k2:op<=4
  ·rw[if_pos k2,if_pos (show op < 5 by omega)]
  ·rw[if_neg k2,if_neg (show ¬ op < 5 by omega)]
theorem sV (t:T):t.root=true↔1<=t.op/\t.op<=17/\qi t.op=t.kids/\(2 < t.op->t.num=0)/\(t.op=2->t.num<=255):=by
 cases t<;>exact decide_eq_true_iff
theorem pd (t:T):((cD t).length:Int)=(t.kids:Nat):=by cases t<;>rfl
theorem sW {t:T} (h:t.shaped=true):t.root=true/\t.fD=true:=by rw[T.oV,Bool.and_eq_true] at h; exact h
def xY:PV:=.clo 152 []
theorem iq (t:T) (hn:0<=t.num/\t.num<=4294967295) (hc:ai gT 144 [.sl 3 (cD t),xY] (.bool (¬ t.fD=true))):ai gT 143 [fF t] (.bool (t.shaped=true)):=by
 have hk:=pd t
 have bad:∀ {p:Prop},(1<=t.op->t.op<=17->kU t.op=(cD t).length->(2 < t.op->t.num=0)->(t.op=2->t.num<=255)->False)->t.shaped=true->p:=fun h hs=>by
  have hr:=(sV t).1 (sW hs).1
  exact absurd hr.2.2.2.2 (fun h5=>h hr.1 hr.2.1 (by rw[pa hr.1 hr.2.1,hk]; exact hr.2.2.1) hr.2.2.2.1 h5)
 refine Spec.enter aw Q1 100 Tryz.func143 rfl (by kernel_rfl) ?_
 refine⟨fun h1=>?_,fun h1=>And.intro (fun h2=>?_) (fun h2=>?_)⟩
 ·refine al ?_
  exact fun hs=>bad (by omega) hs
 ·refine al ?_
  exact fun hs=>bad (by omega) hs
 refine fun _=>?_
 refine⟨[],nofun,(sU t.op).use ⟨rfl,trivial⟩ rfl rfl ?_⟩
 have lJ:∀ (h3:¬ ¬ ((cD t).length:Int)=kU t.op) (h4:2 < t.op->t.num=0) (h5:t.op=2->t.num<=255),(¬ ¬ t.fD=true↔t.shaped=true):=fun h3 h4 h5=>by
  have hr:t.root=true:=(sV t).2 ⟨by omega,by omega,by rw[← pa (by omega) (by omega),← hk]; omega,h4,h5⟩
  rw[T.oV,hr,Bool.true_and]; exact Classical.not_not
 refine⟨fun h3=>?_,fun h3=>And.intro (fun h4=>And.intro (fun h5=>?_) (fun h5=>And.intro (fun h6=>?_) (fun h6=>?_))) (fun h4=>And.intro (fun h6=>And.intro (fun h7=>?_) (fun h7=>?_)) (fun h6=>?_))⟩
 ·refine al ?_
  exact fun hs=>bad (by omega) hs
 ·refine al ?_
  exact fun hs=>bad (by omega) hs
 ·exact absurd h6 (by omega)
 ·refine⟨[],nofun,hc.use ⟨rfl,trivial,trivial⟩ rfl rfl ?_⟩
  refine al ?_
  exact lJ h3 (by omega) (by omega)
 ·refine al ?_
  exact fun hs=>bad (by omega) hs
 ·refine⟨[],nofun,hc.use ⟨rfl,trivial,trivial⟩ rfl rfl ?_⟩
  refine al ?_
  exact lJ h3 (by omega) (by omega)
 ·refine⟨[],nofun,hc.use ⟨rfl,trivial,trivial⟩ rfl rfl ?_⟩
  refine al ?_
  exact lJ h3 (by omega) (by omega)
theorem gy (a:T) (ha:ai gT 143 [fF a] (.bool (a.shaped=true))):ai gT 152 [fF a] (.bool (¬ a.shaped=true)):=by
 refine Spec.enter aw Q3 100 Tryz.func152 rfl (by kernel_rfl) ?_
 refine⟨[],nofun,ha.use ⟨⟨rfl,rfl,rfl,trivial⟩,trivial⟩ rfl rfl ?_⟩
 exact al Iff.rfl
def gd:T->Int
 | .leaf ..=>-1
 | .one _ _ a=>if a.shaped then -1 else 0
 | .two _ _ a b=>if a.shaped then (if b.shaped then -1 else 1) else 0
theorem Br (t:T):0<=gd t↔¬ t.fD=true:=by
 cases t with
 | leaf=>simp[gd,T.fD]
 | one o n a=>cases h:a.shaped<;>simp[gd,T.fD,h]
 | two o n a b=>cases h:a.shaped<;>cases h2:b.shaped<;>simp[gd,T.fD,h,h2]
theorem fI (t:T) (hi:ai gT 153 [.sl 3 (cD t),xY] (.int .i64 (gd t))):ai gT 144 [.sl 3 (cD t),xY] (.bool (¬ t.fD=true)):=by
 refine Spec.enter aw Mw 100 Tryz.func144 rfl (by kernel_rfl) ?_
 refine⟨[],nofun,hi.use ⟨rfl,trivial,trivial⟩ rfl rfl ?_⟩
 exact al (Br t)
theorem uP (o n:Int)  :ai gT 153 [.sl 3 (cD (.leaf o n )),xY] (.int .i64 (gd (.leaf o n ))):=by
 refine Spec.enter aw rI 100 Tryz.func153 rfl (by kernel_rfl) ?_
 refine fun _=>SW.rounds aw rI (by kernel_rfl) (N:=60) 3 ?_
 refine⟨fun h=>absurd (show (0:Int) < 0 from h) (by decide),fun _=>?_⟩
 refine al ?_
 exact (show (-1:Int)=gd _ by simp[gd])
theorem xZ (o n:Int) (a:T) (ha:ai gT 152 [fF a] (.bool (¬ a.shaped=true))):ai gT 153 [.sl 3 (cD (.one o n a)),xY] (.int .i64 (gd (.one o n a))):=by
 refine Spec.enter aw rI 100 Tryz.func153 rfl (by kernel_rfl) ?_
 refine fun _=>SW.rounds aw rI (by kernel_rfl) (N:=60) 3 ?_
 refine⟨fun _=>?_,fun h=>absurd (show (0:Int) < 1 by decide) h⟩
 refine⟨T,[a],fF,rfl,(show (0:Int)<=0 by decide),(show (0:Int) < 1 by decide),fun x hx=>?_⟩
 obtain rfl:a=x:=Option.some.inj hx
 refine⟨[],nofun,ha.use ⟨⟨rfl,rfl,rfl,trivial⟩,trivial⟩ rfl rfl ?_⟩
 refine⟨fun s0=>?_,fun s0=>?_⟩
 ·refine al ?_
  exact (show (0:Int)=gd _ by simp[gd,s0])
 replace s0:=Classical.not_not.1 s0
 refine⟨fun h=>absurd (show (1:Int) < 1 from h) (by decide),fun _=>?_⟩
 refine al ?_
 exact (show (-1:Int)=gd _ by simp[gd,s0])
theorem x4 (o n:Int) (a b:T) (ha:ai gT 152 [fF a] (.bool (¬ a.shaped=true))) (hb:ai gT 152 [fF b] (.bool (¬ b.shaped=true))):ai gT 153 [.sl 3 (cD (.two o n a b)),xY] (.int .i64 (gd (.two o n a b))):=by
 refine Spec.enter aw rI 100 Tryz.func153 rfl (by kernel_rfl) ?_
 refine fun _=>SW.rounds aw rI (by kernel_rfl) (N:=60) 3 ?_
 refine⟨fun _=>?_,fun h=>absurd (show (0:Int) < 2 by decide) h⟩
 refine⟨T,[a,b],fF,rfl,(show (0:Int)<=0 by decide),(show (0:Int) < 2 by decide),fun x hx=>?_⟩
 obtain rfl:a=x:=Option.some.inj hx
 refine⟨[],nofun,ha.use ⟨⟨rfl,rfl,rfl,trivial⟩,trivial⟩ rfl rfl ?_⟩
 refine⟨fun s0=>?_,fun s0=>?_⟩
 ·refine al ?_
  exact (show (0:Int)=gd _ by simp[gd,s0])
 replace s0:=Classical.not_not.1 s0
 refine⟨fun _=>?_,fun h=>absurd (show (1:Int) < 2 by decide) h⟩
 refine⟨T,[a,b],fF,rfl,(show (0:Int)<=1 by decide),(show (1:Int) < 2 by decide),fun x hx=>?_⟩
 obtain rfl:b=x:=Option.some.inj hx
 refine⟨[],nofun,hb.use ⟨⟨rfl,rfl,rfl,trivial⟩,trivial⟩ rfl rfl ?_⟩
 refine⟨fun s1=>?_,fun s1=>?_⟩
 ·refine al ?_
  exact (show (1:Int)=gd _ by simp[gd,s0,s1])
 replace s1:=Classical.not_not.1 s1
 refine⟨fun h=>absurd (show (2:Int) < 2 from h) (by decide),fun _=>?_⟩
 refine al ?_
 exact (show (-1:Int)=gd _ by simp[gd,s0,s1])
theorem fA:∀ t:T,t.Wf->ai gT 143 [fF t] (.bool (t.shaped=true))
 | .leaf o n,h=>iq _ h (fI _ (uP o n))
 | .one o n a,h=>iq _ h.1 (fI _ (xZ o n a (gy a (fA a h.2))))
 | .two o n a b,h=>iq _ h.1 (fI _ (x4 o n a b (gy a (fA a h.2.1)) (gy b (fA b h.2.2))))
theorem sX (t:T) (h:t.Wf) (hs:t.size<=16384):ai gT 126 [fF t] (.bool (t.shaped=true)):=by
 refine Spec.enter aw Q0 100 Tryz.func126 rfl (by kernel_rfl) ?_
 refine⟨[],nofun,(e_ t (by omega)).use ⟨⟨rfl,rfl,rfl,trivial⟩,trivial⟩ rfl rfl ?_⟩
 refine⟨fun _=>?_,fun h=>absurd (show (t.size:Int)<=16384 by omega) h⟩
 refine⟨[],nofun,(fA t h).use ⟨⟨rfl,rfl,rfl,trivial⟩,trivial⟩ rfl rfl ?_⟩
 exact al Iff.rfl
theorem eI (n lo hi:Int):ai gT 88 [.int .i64 n,.int .i64 lo,.int .i64 hi,.tt] (.bool (lo<=n/\n<=hi)):=by
 refine Spec.enter aw Th 100 Tryz.func88 rfl (by kernel_rfl) ?_
 refine⟨fun h1=>?_,fun h1=>?_⟩
 ·refine al ?_
  exact (show n<=hi↔lo<=n/\n<=hi from ⟨fun h=>⟨h1,h⟩,fun h=>h.2⟩)
 ·refine al ?_
  exact (show ¬ (lo<=n/\n<=hi) from fun h=>h1 h.1)
theorem eJ (n lo hi:Int):ai gT 88 [.int .i64 n,.int .i64 lo,.int .i64 hi,.ff] (.bool (n=0)):=by
 refine Spec.enter aw Th 100 Tryz.func88 rfl (by kernel_rfl) ?_
 exact al Iff.rfl
theorem nG (t:T):d_ t=true↔(t.op≠2\/t.num < 254)/\∀ x∈dI t,d_ x=true:=by
 cases t<;>simp[d_,dI,T.op,T.num]
theorem x5 (t:T) (h:ai gT 127 [fF t] (.bool (d_ t=true))):ai gT 145 [fF t] (.bool (¬ d_ t=true)):=by
 refine Spec.enter aw Rl 100 Tryz.func145 rfl (by kernel_rfl) ?_
 refine h.u ?_
 exact al Iff.rfl
theorem Bs:∀ t:T,ai gT 127 [fF t] (.bool (d_ t=true)):=T.nk fun t ih=>by
 have hh:=DZ (dI t) (fun x=>¬ d_ x=true) fun x hx=>x5 x (ih x hx)
 rw[← ni] at hh
 have e:(¬ ∃ x∈dI t,¬ d_ x=true)↔∀ x∈dI t,d_ x=true:=⟨fun h x hx=>Classical.not_not.1 fun hn=>h ⟨x,hx,hn⟩,fun h ⟨x,hx,hn⟩=>hn (h x hx)⟩
 refine Spec.enter aw Rk 100 Tryz.func127 rfl (by kernel_rfl) ?_
 refine⟨fun h1=>?_,fun h1=>And.intro (fun h2=>?_) (fun h2=>?_)⟩
 ·refine hh.u ?_
  refine al ?_
  exact (show (¬ ∃ x∈dI t,¬ d_ x=true)↔d_ t=true by rw[e,nG]; exact⟨fun h=>⟨.inl h1,h⟩,fun h=>h.2⟩)
 ·refine hh.u ?_
  refine al ?_
  exact (show (¬ ∃ x∈dI t,¬ d_ x=true)↔d_ t=true by rw[e,nG]; exact⟨fun h=>⟨.inr h2,h⟩,fun h=>h.2⟩)
 ·refine al ?_
  exact (show ¬ d_ t=true by rw[nG]; exact fun h=>h.1.elim h1 h2)
theorem cc (t:T) (h:t.Wf) (hs:t.size<=16384):ai gT 89 [fF t,.tt] (.bool (cq t true=true)):=by
 refine Spec.enter aw Ti 100 Tryz.func89 rfl (by kernel_rfl) ?_
 have e:cq t true=true↔t.shaped=true/\d_ t=true:=by simp[cq]
 refine (sX t h hs).u ?_
 refine⟨fun h1=>?_,fun h1=>?_⟩
 ·refine (Bs t).u ?_
  refine al ?_
  exact (show d_ t=true↔cq t true=true by rw[e]; exact⟨fun h=>⟨h1,h⟩,fun h=>h.2⟩)
 ·refine al ?_
  exact (show ¬ cq t true=true by rw[e]; exact fun h=>h1 h.1)
theorem eK (t:T):ai gT 89 [fF t,.ff] (.bool (cq t false=true)):=by
 have e:cq t false=true↔t.op=0/\t.num=0/\t.kids=0:=by simp[cq]
 have hk:=pd t
 refine Spec.enter aw Ti 100 Tryz.func89 rfl (by kernel_rfl) ?_
 refine⟨fun h1=>And.intro (fun h2=>fun _=>?_) (fun h2=>?_),fun h1=>?_⟩
 ·refine al ?_
  exact (show ((cD t).length:Int)=0↔cq t false=true by rw[e]; exact⟨fun h=>⟨h1,h2,by omega⟩,fun h=>by omega⟩)
 ·refine al ?_
  exact (show ¬ cq t false=true by rw[e]; exact fun h=>h2 h.2.1)
 ·refine al ?_
  exact (show ¬ cq t false=true by rw[e]; exact fun h=>h1 h.1)
theorem nH (t:T) (hs:t.size<=1000000):ai gT 87 [fF t] (.int .i64 (qp t)):=by
 refine Spec.enter aw VG 100 Tryz.func87 rfl (by kernel_rfl) ?_
 refine⟨fun h1=>?_,fun h1=>?_⟩
 ·refine al ?_
  exact (show (0:Int)=(qp t:Nat) by rw[qp,if_pos h1]; rfl)
 ·refine (e_ t hs).u ?_
  refine al ?_
  exact (show (t.size:Int)=(qp t:Nat) by rw[qp,if_neg h1])
theorem uQ:∀ c:C,c.nF (fun t=>t.size<=1000000)->cN c<=1000000->ai gT 47 [bj c] (.int .i64 (cN c)):=C.nk fun c ih hT hS=>by
 obtain⟨ha,hb,PE⟩:=(C.sT c).1 hT
 have hc:=Bp c
 have hlen:=v_ c.l
 have ek:(ja c).length=c.l.length:=by rw[dT,List.length_map]
 refine Spec.enter aw Tg 100 Tryz.func47 rfl (by kernel_rfl) ?_
 refine (nH c.a ha).u ?_
 refine li ?_
 refine (nH c.b hb).u ?_
 refine li ?_
 refine fun _=>SW.mU aw Tg (by kernel_rfl) (fun i:Nat=>[(17,.int .i64 i),(3,.int .i64 (1+(qp c.a:Int)+(qp c.b:Int)+(oe (c.l.take i):Int)))]) (fun i=>c.l.length - i) 0 60 ?_ fun i=>?_
 ·repeat' first|exact trivial|exact rfl|refine And.intro ?_ ?_
 have hle:=lA c.l i
 refine⟨fun h=>?_,fun h=>?_⟩
 ·have h':(i:Int) < ((ja c).length:Nat):=h
  refine⟨C,c.l,bj,dT c,show (0:Int)<=(i:Int) by omega,show (i:Int) < (c.l.length:Int) by omega,fun x hx=>?_⟩
  have fh:c.l[i]?=some x:=hx
  have hm:=List.mem_of_getElem? fh
  have W7:=qq hm
  have ht:=Bq fh
  have W8:=lA c.l (i+1)
  refine (ih x hm (k7 PE x hm) (by omega)).u ?_
  refine li ?_
  refine .inl ⟨aA (by omega),⟨i+1,by omega,?_⟩⟩
  repeat' first|exact trivial|exact rfl|refine And.intro ?_ ?_
  exact (show _+_=1+(qp c.a:Int)+(qp c.b:Int)+(oe (c.l.take (i+1)):Int) by rw[ht]; omega)
 ·have h':¬ (i:Int) < ((ja c).length:Nat):=h
  refine al ?_
  exact (show 1+(qp c.a:Int)+(qp c.b:Int)+(oe (c.l.take i):Int)=(cN c:Int) by rw[List.take_of_length_le (by omega),hc]; omega)
def D_ (x:Int × Int × Int):Prop:=¬ x.1=2\/x.2.1 < 254
theorem gz:∀ t:T,d_ t=true↔∀ x∈t.nodes,D_ x
 | .leaf o n=>by simp[d_,T.nodes,D_]
 | .one o n a=>by simp[d_,T.nodes,D_,gz a]
 | .two o n a b=>by
  simp only[d_,Bool.and_eq_true,decide_eq_true_eq,gz a,gz b,T.nodes,List.mem_cons,List.mem_append]
  refine⟨fun ⟨h1,h2,h3⟩ x hx=>?_,fun h=>⟨h _ (.inl rfl),fun x hx=>h x (.inr (.inl hx)),fun x hx=>h x (.inr (.inr hx))⟩⟩
  rcases hx with rfl|hx|hx
  ·exact h1
  ·exact h2 x hx
  ·exact h3 x hx
theorem MT.term {t:T} (h:MT t):((∀ x∈db t,D_ x)/\(db t).length≠0/\(∀ x∈db t,oU x=true)/\(db t).length<=16384)↔cq t true=true:=by
 obtain⟨_,h2,h3⟩:=h.cases
 have e:cq t true=true↔t.shaped=true/\d_ t=true:=by simp[cq]
 rw[e]
 rcases h3 with ⟨rfl,h3⟩|⟨h4,h3⟩
 ·rw[h3]
  exact⟨fun hh=>absurd rfl hh.2.1,fun hh=>absurd hh.1 (by decide)⟩
 ·rw[h3,T.cU,gz,← T.ez,List.all_eq_true]
  have:1<=t.size:=by cases t<;>simp[T.size]<;>omega
  exact⟨fun hh=>⟨hh.2.2.1,hh.1⟩,fun hh=>⟨hh.2,by omega,hh.1,by omega⟩⟩
theorem MT.none {t:T} (h:MT t):(db t).length=0↔cq t false=true:=by
 obtain⟨_,h2,h3⟩:=h.cases
 have e:cq t false=true↔t.op=0/\t.num=0/\t.kids=0:=by simp[cq]
 rw[e]
 rcases h3 with ⟨rfl,h3⟩|⟨h4,h3⟩
 ·rw[h3]; exact⟨fun _=>⟨rfl,rfl,rfl⟩,fun _=>rfl⟩
 ·rw[h3,T.cU]
  have:1<=t.size:=by cases t<;>simp[T.size]<;>omega
  exact⟨fun hh=>by omega,fun hh=>absurd hh.1 h4⟩
theorem wa:∀ l:List C,xM l=true↔∀ x∈l,fZ x=true
 | []=>by simp[xM]
 | c::l=>by simp[xM,wa l]
theorem Ea (c:C):fZ c=true↔(1<=c.kind/\c.kind<=6)/\((c.kind=1->0<=c.fj/\c.fj<=2147483647/\0<=c.fG/\c.fG<=2147483647)/\(¬ c.kind=1->c.fj=0/\c.fG=0)/\(c.kind=4->4<=c.word/\c.word<=253)/\(¬ c.kind=4->c.word=0)/\(c.kind=5->0<=c.size/\c.size<=1024)/\(¬ c.kind=5->c.size=0))
  /\ ((c.kind=1\/c.kind=6->(c.l.length:Int)=0)/\(c.kind=2->(c.l.length:Int)<=2147483647)/\(c.kind=3->(c.l.length:Int)=2)/\(c.kind=4\/c.kind=5->(c.l.length:Int)=1))
  /\ ((3<=c.kind->cq c.a true=true)/\(c.kind < 3->cq c.a false=true))/\((c.kind=4\/c.kind=6->cq c.b true=true)/\(¬ (c.kind=4\/c.kind=6)->cq c.b false=true))/\∀ x∈c.l,fZ x=true:=by
 rw[DX,← wa]
 refine and_congr_right fun hk=>and_congr ?_ (and_congr ?_ (and_congr ?_ (and_congr ?_ Iff.rfl)))
 ·simp only[sI,xL,Bool.and_eq_true]
  by_cases h1:c.kind=1<;>by_cases h4:c.kind=4<;>by_cases h5:c.kind=5<;>simp[h1,h4,h5]<;>omega
 ·unfold uJ AZ
  repeat' split
  all_goals omega
 ·by_cases h:3<=c.kind
  ·rw[decide_eq_true h]; exact⟨fun hh=>⟨fun _=>hh,fun h'=>by omega⟩,fun hh=>hh.1 h⟩
  ·rw[decide_eq_false h]; exact⟨fun hh=>⟨fun h'=>absurd h' h,fun _=>hh⟩,fun hh=>hh.2 (by omega)⟩
 ·by_cases h:c.kind=4\/c.kind=6
  ·rw[decide_eq_true h]; exact⟨fun hh=>⟨fun _=>hh,fun h'=>absurd h h'⟩,fun hh=>hh.1 h⟩
  ·rw[decide_eq_false h]; exact⟨fun hh=>⟨fun h'=>absurd h' h,fun _=>hh⟩,fun hh=>hh.2 h⟩
theorem og (c:C) (h:ai gT 48 [bj c] (.bool (fZ c=true))):ai gT 91 [bj c] (.bool (¬ fZ c=true)):=by
 refine Spec.enter aw VJ 100 Tryz.func91 rfl (by kernel_rfl) ?_
 refine h.u ?_
 exact al Iff.rfl
theorem O8 {k:Int} (h1:¬ k < 1) (h2:¬ 6 < k) {p:Prop} (a:k=1->p) (b:k=2->p) (c:k=3->p) (d:k=4->p) (e:k=5->p) (f:k=6->p):p:=by
 rcases (by omega:k=1\/k=2\/k=3\/k=4\/k=5\/k=6) with h|h|h|h|h|h
 ·exact a h
 ·exact b h
 ·exact c h
 ·exact d h
 ·exact e h
 ·exact f h
theorem qs:∀ c:C,c.nF MT->cN c<=1000000->ai gT 48 [bj c] (.bool (fZ c=true)):=C.nk fun c ih hT hN=>by
 obtain⟨ha,hb,PE⟩:=(C.sT c).1 hT
 have hc:=Bp c
 have hh:=D1 c.l (fun x=>¬ fZ x=true) fun x hx=>og x (ih x hx (k7 PE x hx) (by have:=qq hx; omega))
 rw[← dT] at hh
 have ek:(ja c).length=c.l.length:=by rw[dT,List.length_map]
 have S:=Ea c
 obtain⟨KL,Sp⟩:∃ KL,KL = ∀ x∈c.l,fZ x=true:=⟨_,rfl⟩
 rw[← Sp] at S
 have e:(∃ x∈c.l,¬ fZ x=true) = ¬ KL:=propext (by rw[Sp]; exact⟨fun ⟨x,hx,hn⟩ h=>hn (h x hx),fun h=>Classical.byContradiction fun hn=>h fun x hx=>Classical.byContradiction fun h'=>hn ⟨x,hx,h'⟩⟩)
 rw[e] at hh
 obtain⟨LN,Wp⟩:∃ LN:Int,LN=((ja c).length:Int):=⟨_,rfl⟩
 rw[← ek,← Wp] at S
 clear e Sp ih PE hT
 obtain⟨SC,Wq⟩:∃ SC,SC=(fZ c=true):=⟨_,rfl⟩
 rw[← Wq] at S ⊢
 refine Spec.enter aw VH 100 Tryz.func48 rfl (by kernel_rfl) ?_
 refine⟨fun h1=>?_,fun h1=>And.intro (fun h2=>?_) (fun h2=>?_)⟩
 ·refine al ?_
  exact (show ¬ SC by grind)
 ·refine al ?_
  exact (show ¬ SC by grind)
 refine O8 h1 h2 (fun hk=>?_) (fun hk=>?_) (fun hk=>?_) (fun hk=>?_) (fun hk=>?_) (fun hk=>?_)
 ·simp only[hk] at S
  simp at S
  refine⟨by omega,by omega,.inl ⟨1,hk,?_⟩⟩
  repeat' (first
   | refine And.intro (fun _=>?_) (fun _=>?_)
   | refine⟨[],aE,(eI _ _ _).use ⟨rfl,rfl,rfl,trivial,trivial⟩ rfl rfl ?_⟩
   | refine⟨[],aE,(eJ _ _ _).use ⟨rfl,rfl,rfl,trivial,trivial⟩ rfl rfl ?_⟩
   | refine⟨[],aE,(cc _ ha.wf ha.small).use ⟨⟨rfl,rfl,rfl,trivial⟩,trivial,trivial⟩ rfl rfl ?_⟩
   | refine⟨[],aE,(cc _ hb.wf hb.small).use ⟨⟨rfl,rfl,rfl,trivial⟩,trivial,trivial⟩ rfl rfl ?_⟩
   | refine⟨[],aE,(eK _).use ⟨⟨rfl,rfl,rfl,trivial⟩,trivial,trivial⟩ rfl rfl ?_⟩
   | refine⟨[],aE,(hh).use ⟨rfl,trivial,trivial⟩ rfl rfl ?_⟩
   | (refine al ?_; first|exact (show ¬ SC by grind)|exact (show _↔SC by grind))
   | intro _)
 ·simp only[hk] at S
  simp at S
  refine⟨by omega,by omega,.inl ⟨2,hk,?_⟩⟩
  repeat' (first
   | refine And.intro (fun _=>?_) (fun _=>?_)
   | refine⟨[],aE,(eI _ _ _).use ⟨rfl,rfl,rfl,trivial,trivial⟩ rfl rfl ?_⟩
   | refine⟨[],aE,(eJ _ _ _).use ⟨rfl,rfl,rfl,trivial,trivial⟩ rfl rfl ?_⟩
   | refine⟨[],aE,(cc _ ha.wf ha.small).use ⟨⟨rfl,rfl,rfl,trivial⟩,trivial,trivial⟩ rfl rfl ?_⟩
   | refine⟨[],aE,(cc _ hb.wf hb.small).use ⟨⟨rfl,rfl,rfl,trivial⟩,trivial,trivial⟩ rfl rfl ?_⟩
   | refine⟨[],aE,(eK _).use ⟨⟨rfl,rfl,rfl,trivial⟩,trivial,trivial⟩ rfl rfl ?_⟩
   | refine⟨[],aE,(hh).use ⟨rfl,trivial,trivial⟩ rfl rfl ?_⟩
   | (refine al ?_; first|exact (show ¬ SC by grind)|exact (show _↔SC by grind))
   | intro _)
 ·simp only[hk] at S
  simp at S
  refine⟨by omega,by omega,.inl ⟨3,hk,?_⟩⟩
  repeat' (first
   | refine And.intro (fun _=>?_) (fun _=>?_)
   | refine⟨[],aE,(eI _ _ _).use ⟨rfl,rfl,rfl,trivial,trivial⟩ rfl rfl ?_⟩
   | refine⟨[],aE,(eJ _ _ _).use ⟨rfl,rfl,rfl,trivial,trivial⟩ rfl rfl ?_⟩
   | refine⟨[],aE,(cc _ ha.wf ha.small).use ⟨⟨rfl,rfl,rfl,trivial⟩,trivial,trivial⟩ rfl rfl ?_⟩
   | refine⟨[],aE,(cc _ hb.wf hb.small).use ⟨⟨rfl,rfl,rfl,trivial⟩,trivial,trivial⟩ rfl rfl ?_⟩
   | refine⟨[],aE,(eK _).use ⟨⟨rfl,rfl,rfl,trivial⟩,trivial,trivial⟩ rfl rfl ?_⟩
   | refine⟨[],aE,(hh).use ⟨rfl,trivial,trivial⟩ rfl rfl ?_⟩
   | (refine al ?_; first|exact (show ¬ SC by grind)|exact (show _↔SC by grind))
   | intro _)
 ·simp only[hk] at S
  simp at S
  refine⟨by omega,by omega,.inl ⟨4,hk,?_⟩⟩
  repeat' (first
   | refine And.intro (fun _=>?_) (fun _=>?_)
   | refine⟨[],aE,(eI _ _ _).use ⟨rfl,rfl,rfl,trivial,trivial⟩ rfl rfl ?_⟩
   | refine⟨[],aE,(eJ _ _ _).use ⟨rfl,rfl,rfl,trivial,trivial⟩ rfl rfl ?_⟩
   | refine⟨[],aE,(cc _ ha.wf ha.small).use ⟨⟨rfl,rfl,rfl,trivial⟩,trivial,trivial⟩ rfl rfl ?_⟩
   | refine⟨[],aE,(cc _ hb.wf hb.small).use ⟨⟨rfl,rfl,rfl,trivial⟩,trivial,trivial⟩ rfl rfl ?_⟩
   | refine⟨[],aE,(eK _).use ⟨⟨rfl,rfl,rfl,trivial⟩,trivial,trivial⟩ rfl rfl ?_⟩
   | refine⟨[],aE,(hh).use ⟨rfl,trivial,trivial⟩ rfl rfl ?_⟩
   | (refine al ?_; first|exact (show ¬ SC by grind)|exact (show _↔SC by grind))
   | intro _)
 ·simp only[hk] at S
  simp at S
  refine⟨by omega,by omega,.inl ⟨5,hk,?_⟩⟩
  repeat' (first
   | refine And.intro (fun _=>?_) (fun _=>?_)
   | refine⟨[],aE,(eI _ _ _).use ⟨rfl,rfl,rfl,trivial,trivial⟩ rfl rfl ?_⟩
   | refine⟨[],aE,(eJ _ _ _).use ⟨rfl,rfl,rfl,trivial,trivial⟩ rfl rfl ?_⟩
   | refine⟨[],aE,(cc _ ha.wf ha.small).use ⟨⟨rfl,rfl,rfl,trivial⟩,trivial,trivial⟩ rfl rfl ?_⟩
   | refine⟨[],aE,(cc _ hb.wf hb.small).use ⟨⟨rfl,rfl,rfl,trivial⟩,trivial,trivial⟩ rfl rfl ?_⟩
   | refine⟨[],aE,(eK _).use ⟨⟨rfl,rfl,rfl,trivial⟩,trivial,trivial⟩ rfl rfl ?_⟩
   | refine⟨[],aE,(hh).use ⟨rfl,trivial,trivial⟩ rfl rfl ?_⟩
   | (refine al ?_; first|exact (show ¬ SC by grind)|exact (show _↔SC by grind))
   | intro _)
 ·simp only[hk] at S
  simp at S
  refine⟨by omega,by omega,.inl ⟨6,hk,?_⟩⟩
  repeat' (first
   | refine And.intro (fun _=>?_) (fun _=>?_)
   | refine⟨[],aE,(eI _ _ _).use ⟨rfl,rfl,rfl,trivial,trivial⟩ rfl rfl ?_⟩
   | refine⟨[],aE,(eJ _ _ _).use ⟨rfl,rfl,rfl,trivial,trivial⟩ rfl rfl ?_⟩
   | refine⟨[],aE,(cc _ ha.wf ha.small).use ⟨⟨rfl,rfl,rfl,trivial⟩,trivial,trivial⟩ rfl rfl ?_⟩
   | refine⟨[],aE,(cc _ hb.wf hb.small).use ⟨⟨rfl,rfl,rfl,trivial⟩,trivial,trivial⟩ rfl rfl ?_⟩
   | refine⟨[],aE,(eK _).use ⟨⟨rfl,rfl,rfl,trivial⟩,trivial,trivial⟩ rfl rfl ?_⟩
   | refine⟨[],aE,(hh).use ⟨rfl,trivial,trivial⟩ rfl rfl ?_⟩
   | (refine al ?_; first|exact (show ¬ SC by grind)|exact (show _↔SC by grind))
   | intro _)
theorem MT.one {t:T} (h:MT t) (h1:cq t true=true):¬ ((((db t).map nP).length:Nat):Int)=0:=by
 rw[List.length_map]
 have:=(h.term.2 h1).2.1
 omega
theorem MT.nil {t:T} (h:MT t):((((db t).map nP).length:Nat):Int)=0↔cq t false=true:=by
 rw[List.length_map,← h.none]; omega
theorem sY (c:C) (hT:c.nF MT) (Ws:c.nF fun t=>t.size<=1000000) (hN:cN c<=1000000):ai gT 23 [bj c] (.bool (cN c<=16384/\fZ c=true)):=by
 refine Spec.enter aw VF 100 Tryz.func23 rfl (by kernel_rfl) ?_
 refine (uQ c Ws hN).u ?_
 refine⟨fun h=>?_,fun h=>?_⟩
 ·refine (qs c hT hN).u ?_
  refine al ?_
  exact (show fZ c=true↔_ from ⟨fun hh=>⟨by omega,hh⟩,fun hh=>hh.2⟩)
 ·refine al ?_
  exact (show ¬ (cN c<=16384/\fZ c=true) from fun hh=>h (show (cN c:Int)<=16384 by omega))
end Go.Proofs.YtnbhdacpogplgaaGreatDoor.Pw

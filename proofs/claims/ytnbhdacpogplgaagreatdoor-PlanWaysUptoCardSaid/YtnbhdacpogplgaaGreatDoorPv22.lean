/- What this claim is proved with: no condition. -/
import Derived.Test.YtnbhdacpogplgaaGreatDoorPv21
import Derived.Test.YtnbhdacpogplgaaGreatDoorPv19
import Derived.Test.YtnbhdacpogplgaaGreatDoorPv17
import Derived.Test.YtnbhdacpogplgaaGreatDoorPv8
import Derived.Test.YtnbhdacpogplgaaGreatDoorPv18
import Derived.Test.YtnbhdacpogplgaaGreatDoorPv9
set_option maxRecDepth 100000
set_option maxHeartbeats 8000000
set_option linter.unusedVariables false
set_option linter.unusedSimpArgs false
namespace Go.Proofs.YtnbhdacpogplgaaGreatDoor.Pw
open Go Go.RowKit
def Tp (ds:List DG):Nat:=(ds.map fun d=>2+gN d.a+gN d.b).sum
mutual
def wS:ST->Nat
 | .mk h hd bd el=>6+gN h.A+gN h.B+Tp h.aw+HJ hd+HJ bd+HJ el
def HJ:List ST->Nat
 | []=>0
 | s::l=>wS s+HJ l
end
theorem wS_eq (s:ST):wS s=6+gN s.h.A+gN s.h.B+Tp s.h.aw+HJ s.hd+HJ s.bd+HJ s.el:=by cases s; rfl
def A7:List DV->Nat
 | []=>0
 | d::l=>(2+ju d.a+ju d.b)+A7 l
theorem OG:∀ {ds:List DG},gu ds->A7 (ds.map eg)<=Tp ds
 | [],_=>by simp[A7,Tp]
 | d::l,h=>by
  have h1:=h d (List.mem_cons_self ..)
  have h2:=tD h1.1
  have h3:=tD h1.2
  have h4:=OG (ds:=l) fun x hx=>h x (List.mem_cons_of_mem _ hx)
  unfold Tp at h4 ⊢
  rw[List.map_cons,List.map_cons,List.sum_cons,A7]
  show 2+ju (cJ d.a)+ju (cJ d.b)+A7 (l.map eg)<=_
  omega
theorem HK {c:C} (h:c.kind≠1):Oz c=cN c+1:=if_neg h
theorem ZQ (d:DV):Oz (di d)=2+ju d.a+ju d.b:=by
 rw[HK (c:=di d) (show (6:Int)≠1 by decide),rT]
 show 1+ju d.a+ju d.b+0+1=_
 omega
theorem J5 (b:List Int) (x:eN):dM (aY b x).out+A7 (aY b x).aw<=dM x.out+A7 x.aw:=by
 have hf:∀ cy mi,Oz (ak cy mi)=0:=fun _ _=>if_pos rfl
 unfold aY
 simp only
 split
 ·show dM (x.out++[ak _ _])+A7 x.aw<=_
  rw[cW,dM,dM,hf]; omega
 ·split
  ·rename_i hd
   rw[hd]
   show dM (x.out++[ak _ _])+A7 []<=_
   rw[cW,dM,dM,hf]; omega
  ·rename_i d l hd
   split
   ·rw[hd]
    show dM (x.out++[ak _ _])+A7 (d::l)<=_
    rw[cW,dM,dM,hf]; omega
   ·rw[hd]
    show dM (x.out++[ak _ _]++[di d])+A7 l<=_
    rw[cW,cW,dM,dM,dM,dM,hf,ZQ,A7]; omega
theorem DK {b:List Int} {till:Int}:∀ (k:Nat) (x:eN),dM (runN b till k x).out+A7 (runN b till k x).aw<=dM x.out+A7 x.aw
 | 0,x=>by rw[runN]; omega
 | k+1,x=>by
  rw[runN]
  have h:=J5 b x
  split
  ·split
   ·exact h
   ·exact Nat.le_trans (DK k (aY b x)) h
  ·omega
def DL (ds:List DV) (c:C):Prop:=(∃ cy mi,c=ak cy mi/\(0<=cy/\cy<=20)/\0<=mi/\mi<=2)\/∃ d∈ds,c=di d
theorem J6 {b:List Int} {x:eN} {ds:List DV} (h:∀ c∈x.out,DL ds c) (hd:∀ d∈x.aw,d∈ds):(∀ c∈(aY b x).out,DL ds c)/\∀ d∈(aY b x).aw,d∈ds:=by
 have hb:=CW b x.w.at_
 have hn:=xf b (aE x.w (¬ x.w.last))
 have h1:∀ c∈x.out++[ak (dz b x.w.at_) (cw b (aE x.w (¬ x.w.last)))],DL ds c:=fun c hc=>by
  rcases List.mem_append.1 hc with hc|hc
  ·exact h c hc
  ·rw[List.mem_singleton] at hc
   exact .inl ⟨_,_,hc,hb,hn⟩
 unfold aY
 simp only
 split
 ·exact⟨h1,hd⟩
 ·split
  ·exact⟨h1,fun d hd=>by cases hd⟩
  ·rename_i d l uo
   split
   ·exact⟨h1,fun x hx=>hd x (by rw[uo]; exact hx)⟩
   ·refine⟨fun c hc=>?_,fun x hx=>hd x (by rw[uo]; exact List.mem_cons_of_mem _ hx)⟩
    rcases List.mem_append.1 hc with hc|hc
    ·exact h1 c hc
    ·rw[List.mem_singleton] at hc
     exact .inr ⟨d,hd d (by rw[uo]; exact List.mem_cons_self ..),hc⟩
theorem DM {b:List Int} {till:Int} {ds:List DV}:∀ (k:Nat) (x:eN),(∀ c∈x.out,DL ds c)->(∀ d∈x.aw,d∈ds)->∀ c∈(runN b till k x).out,DL ds c
 | 0,x,h,_=>by rw[runN]; exact h
 | k+1,x,h,hd=>by
  rw[runN]
  obtain⟨h1,h2⟩:=J6 (b:=b) h hd
  split
  ·split
   ·exact h1
   ·exact DM k (aY b x) h1 h2
  ·exact h
theorem RW {h:SH} (hO:h.Ok) (hd:gu h.aw):∀ d∈h.aw.map eg,(iD d.a/\iD d.b)/\d.a.Wf/\d.b.Wf:=fun d hm=>by
 obtain⟨x,hx,rfl⟩:=List.mem_map.1 hm
 obtain⟨m1,m2⟩:=hd x hx
 obtain⟨_,o1,o2⟩:=hO.2.2.2.2 x hx
 exact⟨⟨j_ m1,j_ m2⟩,gf o1 m1,gf o2 m2⟩
theorem PP.div {d:DV} (h:iD d.a/\iD d.b) (hw:d.a.Wf/\d.b.Wf):PP (di d) :=
 PP.mk (c:=di d) ⟨⟨(show (1:Int)<=6 by decide),(show (6:Int)<=6 by decide)⟩,⟨fun k=>absurd (show (6:Int)=1 from k) (by decide),fun _=>⟨rfl,rfl⟩,fun k=>absurd (show (6:Int)=4 from k) (by decide),fun _=>rfl,fun k=>absurd (show (6:Int)=5 from k) (by decide),fun _=>rfl⟩,
  ⟨fun _=>rfl,fun k=>absurd (show (6:Int)=2 from k) (by decide),fun k=>absurd (show (6:Int)=3 from k) (by decide),fun k=>absurd (show (6:Int)=4\/(6:Int)=5 from k) (by decide)⟩,⟨fun _=>h.1,fun k=>absurd (show (6:Int) < 3 from k) (by decide)⟩,⟨fun _=>h.2,fun k=>absurd (.inr rfl) k⟩⟩ hw.1 hw.2 (fun x hx=>by cases hx)
theorem PP.stop {h:SH} {m:Int} (hm:0<=m/\m<=2) (hs:0<=h.size/\h.size<=1024) (ha:iD (cJ h.A)) (hw:(cJ h.A).Wf):PP (db h m) :=
 PP.mk (c:=db h m) ⟨⟨(show (1:Int)<=5 by decide),(show (5:Int)<=6 by decide)⟩,⟨fun k=>absurd (show (5:Int)=1 from k) (by decide),fun _=>⟨rfl,rfl⟩,fun k=>absurd (show (5:Int)=4 from k) (by decide),fun _=>rfl,fun _=>hs,fun k=>absurd rfl k⟩,
  ⟨fun k=>absurd (show (5:Int)=1\/(5:Int)=6 from k) (by decide),fun k=>absurd (show (5:Int)=2 from k) (by decide),fun k=>absurd (show (5:Int)=3 from k) (by decide),fun _=>rfl⟩,⟨fun _=>ha,fun k=>absurd (show (5:Int) < 3 from k) (by decide)⟩,⟨fun k=>absurd (show (5:Int)=4\/(5:Int)=6 from k) (by decide),fun _=>mg⟩⟩ hw mf (fun x hx=>by
   rw[show (db h m).l = [ak 4 m] from rfl,List.mem_singleton] at hx
   rw[hx]; exact PP.flat (by decide) ⟨hm.1,by omega⟩)
theorem PP.cond {t:T} {x y:C} (ha:iD t) (hw:t.Wf) (hx:PP x) (hy:PP y):PP (.mk 3 0 0 0 0 t cM [x,y]) :=
 PP.mk (c:=.mk 3 0 0 0 0 t cM [x,y]) ⟨⟨(show (1:Int)<=3 by decide),(show (3:Int)<=6 by decide)⟩,⟨fun k=>absurd (show (3:Int)=1 from k) (by decide),fun _=>⟨rfl,rfl⟩,fun k=>absurd (show (3:Int)=4 from k) (by decide),fun _=>rfl,fun k=>absurd (show (3:Int)=5 from k) (by decide),fun _=>rfl⟩,
  ⟨fun k=>absurd (show (3:Int)=1\/(3:Int)=6 from k) (by decide),fun k=>absurd (show (3:Int)=2 from k) (by decide),fun _=>rfl,fun k=>absurd (show (3:Int)=4\/(3:Int)=5 from k) (by decide)⟩,⟨fun _=>ha,fun k=>absurd (show (3:Int) < 3 from k) (by decide)⟩,⟨fun k=>absurd (show (3:Int)=4\/(3:Int)=6 from k) (by decide),fun _=>mg⟩⟩ hw mf (fun z hz=>by
   have Si:z∈[x,y]:=hz
   simp only[List.mem_cons,List.not_mem_nil,or_false] at Si
   rcases Si with rfl|rfl
   ·exact hx
   ·exact hy)
theorem PP.sum {h:SH} {x:C} (Dm:4<=h.word/\h.word<=253) (ha:iD (cJ h.A)) (hb:iD (cJ h.B)) (hwa:(cJ h.A).Wf) (hwb:(cJ h.B).Wf) (hx:PP x):PP (mU h x) :=
 PP.mk (c:=mU h x) ⟨⟨(show (1:Int)<=4 by decide),(show (4:Int)<=6 by decide)⟩,⟨fun k=>absurd (show (4:Int)=1 from k) (by decide),fun _=>⟨rfl,rfl⟩,fun _=>Dm,fun k=>absurd rfl k,fun k=>absurd (show (4:Int)=5 from k) (by decide),fun _=>rfl⟩,
  ⟨fun k=>absurd (show (4:Int)=1\/(4:Int)=6 from k) (by decide),fun k=>absurd (show (4:Int)=2 from k) (by decide),fun k=>absurd (show (4:Int)=3 from k) (by decide),fun _=>rfl⟩,⟨fun _=>ha,fun k=>absurd (show (4:Int) < 3 from k) (by decide)⟩,⟨fun _=>hb,fun k=>absurd (.inl rfl) k⟩⟩ hwa hwb (fun z hz=>by
   have Si:z∈[x]:=hz
   rw[List.mem_singleton] at Si
   rw[Si]; exact hx)
def ShS (b:List Int) (s:ST):Prop:=∀ W:WK,bX W.at_->(bG b s W).2.e=0->PP (bG b s W).1/\dM (oV (bG b s W).1)<=wS s
def ShL (b:List Int) (l:List ST):Prop:=∀ W:WK,bX W.at_->(ar b l W).2.e=0->(∀ c∈(ar b l W).1,PP c)/\dM (dI (ar b l W).1)<=HJ l
theorem xq {b:List Int} (hl:b.length<=2000):∀ (l:List ST),c_ l->(∀ s∈l,ShS b s)->ShL b l
 | [],_,_,W,_,_=>⟨fun c hc=>(by rw[ar] at hc; cases hc),by rw[ar]; simp[dI,dM]⟩
 | s::l,hO,h,W,hI,he=>by
  by_cases h0:W.e=0
  ·have e1:ar b (s::l) W=((bG b s W).1::(ar b l (bG b s W).2).1,(ar b l (bG b s W).2).2):=by rw[ar,if_neg (fun k=>k h0)]
   rw[e1] at he ⊢
   have mc:=fM hl s hO.1
   have mn:=mc.I W hI
   have Bs:=((bV hl l hO.2).ok _ mn he).1
   obtain⟨a1,a2⟩:=h s (List.mem_cons_self ..) W hI Bs
   obtain⟨b1,b2⟩:=xq hl l hO.2 (fun x hx=>h x (List.mem_cons_of_mem _ hx)) _ mn he
   refine⟨fun c hc=>?_,?_⟩
   ·rcases List.mem_cons.1 hc with rfl|hc
    ·exact a1
    ·exact b1 c hc
   ·rw[fO,cW,HJ]; omega
  ·rw[ar,if_pos h0] at he; exact absurd he h0
theorem HN {b:List Int} (hl:b.length<=2000) {W:WK} (hI:bX W.at_) (till:Int) (ds:List DV):dM (oV (pv b W till ds))<=A7 ds:=by
 have h1:=DK (b:=b) (till:=till) ((till - W.at_).toNat+1) ⟨W,[],ds⟩
 have h2:=jy (jY b W till ds).out
 rw[rP (rR hl hI till ds).2.1] at h2
 have h3:dM (jY b W till ds).out+A7 (jY b W till ds).aw<=0+A7 ds:=h1
 show dM (oV (aq (jY b W till ds).out))<=_
 omega
theorem DN {b:List Int} (hl:b.length<=2000):∀ (l:List ST),c_ l->mT l->∀ W:WK,bX W.at_->(ar b l W).2.e=0->dM (dI (ar b l W).1)=0
 | [],_,_,W,_,_=>by rw[ar]; simp[dI,dM]
 | s::l,hO,hp,W,hI,he=>by
  by_cases h0:W.e=0
  ·have e1:ar b (s::l) W=((bG b s W).1::(ar b l (bG b s W).2).1,(ar b l (bG b s W).2).2):=by rw[ar,if_neg (fun k=>k h0)]
   rw[e1] at he ⊢
   have mc:=fM hl s hO.1
   have mn:=mc.I W hI
   have Bs:=((bV hl l hO.2).ok _ mn he).1
   have hr:=DN hl l hO.2 (fun x hx=>hp x (List.mem_cons_of_mem _ hx)) _ mn he
   obtain⟨k1,k2⟩:=hp s (List.mem_cons_self ..)
   rw[fo] at Bs
   obtain⟨_,h2,_⟩:=o9 Bs
   have e2:(bG b s W).1=pv b W s.h.till []:=by
    rw[fo,h2]
    unfold fV
    rw[if_pos k1,k2]
    rfl
   rw[fO,cW,hr,e2]
   have:=HN hl hI s.h.till []
   simp only[A7] at this
   omega
  ·rw[ar,if_pos h0] at he; exact absurd he h0
theorem FG {b:List Int} (hl:b.length<=2000):∀ s:ST,s.Ok->ShS b s:=ST.ind fun s uG tG HB hO W hI he=>by
 have jf:c_ s.hd/\c_ s.bd/\c_ s.el:=by cases s; exact hO.2.2
 have uF:=s.rW hO
 have sH:=xq hl s.hd jf.1 fun x hx=>uG x hx (bs jf.1 x hx)
 have sB:=xq hl s.bd jf.2.1 fun x hx=>tG x hx (bs jf.2.1 x hx)
 have sE:=xq hl s.el jf.2.2 fun x hx=>HB x hx (bs jf.2.2 x hx)
 have gB:=bV hl s.bd jf.2.1
 have gE:=bV hl s.el jf.2.2
 rw[wS_eq]
 rw[fo] at he ⊢
 obtain⟨⟨pD,hft,_,bS⟩,h2,h3⟩:=o9 he
 rw[h2] at he ⊢
 unfold gv at bS
 unfold fV at he ⊢
 by_cases k1:s.h.kind=1
 ·rw[if_pos k1] at he bS ⊢
  have hd:=bS.2.2.2.2.2.2.1
  have Qa:=RW uF hd
  have gG:=DM (b:=b) (till:=s.h.till) (ds:=s.h.aw.map eg) ((s.h.till - W.at_).toNat+1) ⟨W,[],s.h.aw.map eg⟩ (by simp) (fun d hd=>hd)
  have hw:=zu hl hI s.h.till (s.h.aw.map eg)
  have hpp:∀ c∈(jY b W s.h.till (s.h.aw.map eg)).out,PP c:=fun c hc=>by
   rcases gG c hc with ⟨cy,mi,rfl,q1,q2⟩|⟨d,hd,rfl⟩
   ·exact PP.flat ⟨q1.1,by omega⟩ ⟨q2.1,by omega⟩
   ·exact PP.div (Qa d hd).1 (Qa d hd).2
  refine⟨jh (by decide) hw hpp,?_⟩
  have h4:=HN hl hI s.h.till (s.h.aw.map eg)
  have h5:=OG hd
  show dM (oV (pv b W s.h.till (s.h.aw.map eg)))<=_
  omega
 rw[if_neg k1] at he bS ⊢
 by_cases k2:s.h.kind=2
 ·rw[if_pos k2] at he bS ⊢
  have oE:(cl b s.h W).e=0:=he
  show PP (iV b s.h W)/\dM (oV (iV b s.h W))<=_
  have hA:=bS.2.2.2.2.1
  have eC:iV b s.h W=aq [ak 0 (kO b W),db s.h (dG (cl b s.h W) s.h.stub (aX (iA b s.h.stub).form)),ak 1 0]:=if_neg (fun k=>k oE)
  rw[eC]
  have nb:=fL b W
  have mb:=jr (cl b s.h W) s.h.stub (aX (iA b s.h.stub).form)
  generalize dG (cl b s.h W) s.h.stub (aX (iA b s.h.stub).form)=m at *
  generalize kO b W=n at *
  have Dm:g_ 8 [ak 0 n,db s.h m,ak 1 0]:=((Wd.flat (Int.le_refl 0) nb.1).cons ((Wd.one (c:=db s.h m) (show (5:Int)≠1 by decide) (show (5:Int)≠2 by decide)).cons ((Wd.flat (show (0:Int)<=1 by decide) (Int.le_refl 0)).cons .nil))).more (by omega)
  refine⟨jh (by decide) Dm fun c hc=>?_,?_⟩
  ·simp only[List.mem_cons,List.not_mem_nil,or_false] at hc
   rcases hc with rfl|rfl|rfl
   ·exact PP.flat (by decide) ⟨nb.1,by omega⟩
   ·exact PP.stop mb ⟨bS.2.1,bS.2.2.1⟩ (j_ hA) (gf uF.2.1 hA)
   ·exact PP.flat (by decide) (by decide)
  ·refine Nat.le_trans (jy _) ?_
   have hs:=tD hA
   have e1:dM (oV (db s.h m))=3+ju (cJ s.h.A):=by
    rw[sk (c:=db s.h m) (show (5:Int)≠2 by decide),dM,dM]
    rw[HK (c:=db s.h m) (show (5:Int)≠1 by decide),rT]
    show 1+ju (cJ s.h.A)+ju cM+(cN (ak 4 m)+0)+1+0=_
    rw[show ju cM=0 from if_pos rfl,show cN (ak 4 m)=1 by rfl]
    omega
   rw[fO,fO,fO,cW,cW,cW,mh,mh,e1,show dM (dI [])=0 from rfl]
   omega
 rw[if_neg k2] at he bS ⊢
 by_cases k3:s.h.kind=3
 ·rw[if_pos k3] at he bS ⊢
  have hA:=bS.2.2.2.1
  unfold de at he ⊢
  simp only at he ⊢
  obtain⟨h7,h8⟩:=Dh he
  have h6:=dq h7
  rw[je] at h6
  have e5:zo (dK b W) (gw b s.h (pQ s.h (eT s.el=0) (ar b s.bd (cu b W 0)).2))=gw b s.h (pQ s.h (eT s.el=0) (ar b s.bd (cu b W 0)).2):=cv h6
  have h4:=(aU h6).2
  obtain⟨q3,_⟩:=Di h4
  have qB:=(aU q3).2
  have e3:pQ s.h (eT s.el=0) (ar b s.bd (cu b W 0)).2=(ar b s.bd (cu b W 0)).2:=cv q3
  have fU:=k_ hl 0 hI
  have g1:=dq h8
  have g3:=(aU g1).2
  rw[e5,e3] at g3 ⊢
  have tp:bX (kG (cu b W 0) (gw b s.h (ar b s.bd (cu b W 0)).2)).at_:=Dj hl (gB.I _ fU)
  obtain⟨b1,b2⟩:=sB _ fU qB
  obtain⟨c1,c2⟩:=sE _ tp g3
  have wB:=(gB.wd hl (by decide) _ fU).more (show KS+92092<=400000 by unfold KS; omega)
  have wE:=(gE.wd hl (by decide) _ tp).more (show KS+92092<=400000 by unfold KS; omega)
  have nb:=fL b W
  generalize kO b W=n at *
  generalize (ar b s.bd (cu b W 0)).2=B2 at *
  generalize (ar b s.bd (cu b W 0)).1=Bl at *
  generalize (ar b s.el (kG (cu b W 0) (gw b s.h B2))).1=El at *
  generalize (ar b s.el (kG (cu b W 0) (gw b s.h B2))).2=E2 at *
  have m3:=fL b B2
  have f7:=dC b (bR (gw b s.h B2) s.h.till)
  have f8:=dC b (Hx s.h E2)
  unfold Ob
  generalize bC b (bR (gw b s.h B2) s.h.till)=x7 at *
  generalize bC b (Hx s.h E2)=x8 at *
  
  have two:∀ {B:Int} {c:C} {cy mi:Int},B<=900000->Wd B c->PP c->(0<=cy/\cy<=3)->(0<=mi/\mi<=2)->Wd (B+10) (aq [c,ak cy mi])/\PP (aq [c,ak cy mi])/\dM (oV (aq [c,ak cy mi]))<=dM (oV c)/\cN (aq [c,ak cy mi])<=2+dM (oV c):=fun {B c cy mi} hB hw hp h1 h2=>by
   have z6:g_ (B+10) [c,ak cy mi]:=(hw.cons ((Wd.flat h1.1 h2.1).cons .nil)).more (by omega)
   have lD:∀ x∈[c,ak cy mi],PP x:=fun x hx=>by
    simp only[List.mem_cons,List.not_mem_nil,or_false] at hx
    rcases hx with rfl|rfl
    ·exact hp
    ·exact PP.flat ⟨h1.1,by omega⟩ ⟨h2.1,by omega⟩
   have e:dM (dI [c,ak cy mi])=dM (oV c):=by
    rw[fO,fO,cW,cW,mh,show dM (dI [])=0 from rfl]
    omega
   refine⟨z6.join,jh (by omega) z6 lD,?_,?_⟩
   ·have:=jy [c,ak cy mi]; omega
   ·have:=AS (by omega) z6 lD; omega
  have pre:∀ {cy:Int} {l:List C},(0<=cy/\cy<=3)->g_ 400000 l->(∀ c∈l,PP c)->Wd 400010 (aq [ak cy n,aq l])/\PP (aq [ak cy n,aq l])/\dM (oV (aq [ak cy n,aq l]))<=dM (dI l):=fun {cy l} h1 hw hp=>by
   have z6:g_ 400010 [ak cy n,aq l]:=((Wd.flat h1.1 nb.1).cons (hw.join.cons .nil)).more (by omega)
   have lD:∀ x∈[ak cy n,aq l],PP x:=fun x hx=>by
    simp only[List.mem_cons,List.not_mem_nil,or_false] at hx
    rcases hx with rfl|rfl
    ·exact PP.flat ⟨h1.1,by omega⟩ ⟨nb.1,by omega⟩
    ·exact jh (by decide) hw hp
   refine⟨z6.join,jh (by decide) z6 lD,?_⟩
   have h1:=jy [ak cy n,aq l]
   have h2:=jy l
   rw[fO,fO,cW,cW,mh,show dM (dI [])=0 from rfl] at h1
   omega
  obtain⟨y1,y2,y3⟩:=pre (cy:=1) (by decide) wB b1
  obtain⟨z1,z2,z3⟩:=pre (cy:=3) (by decide) wE c1
  obtain⟨u1,u2,u3⟩:Wd 400020 (nm b s.h B2 (aq [ak 1 n,aq Bl]))/\PP (nm b s.h B2 (aq [ak 1 n,aq Bl]))/\dM (oV (nm b s.h B2 (aq [ak 1 n,aq Bl])))<=dM (dI Bl):=by
   unfold nm
   split
   ·obtain⟨a1,a2,a3,_⟩:=two (cy:=3) (mi:=kO b B2) (by decide) y1 y2 (by decide) m3
    exact⟨a1,a2,Nat.le_trans a3 y3⟩
   ·exact⟨y1.more (by decide),y2,y3⟩
  obtain⟨_,p1,_,p2⟩:=two (cy:=0) (mi:=x7) (by decide) u1 u2 (by decide) f7
  obtain⟨_,r1,_,r2⟩:=two (cy:=0) (mi:=x8) (by decide) z1 z2 (by decide) f8
  refine⟨PP.cond (j_ hA) (gf uF.2.1 hA) p1 r1,?_⟩
  have hs:=tD hA
  rw[sk (c:=C.mk 3 0 0 0 0 (cJ s.h.A) cM [aq [nm b s.h B2 (aq [ak 1 n,aq Bl]),ak 0 x7],aq [aq [ak 3 n,aq El],ak 0 x8]]) (show (3:Int)≠2 by decide),dM,dM]
  rw[HK (c:=C.mk 3 0 0 0 0 (cJ s.h.A) cM [aq [nm b s.h B2 (aq [ak 1 n,aq Bl]),ak 0 x7],aq [aq [ak 3 n,aq El],ak 0 x8]]) (show (3:Int)≠1 by decide),rT]
  show 1+ju (cJ s.h.A)+ju cM+(cN (aq [nm b s.h B2 (aq [ak 1 n,aq Bl]),ak 0 x7])+(cN (aq [aq [ak 3 n,aq El],ak 0 x8])+0))+1+0<=_
  rw[show ju cM=0 from if_pos rfl]
  omega
 rw[if_neg k3] at he bS ⊢
 by_cases k4:s.h.kind=4
 ·rw[if_pos k4] at he ⊢
  have hA:=bS.2.2.2.1
  have hBt:=bS.2.2.2.2.1
  have lD:=bS.2.2.2.2.2.2.1
  unfold cr at he ⊢
  simp only at he ⊢
  have h1:(aD b (bR (JP b s.h (dK b (lz s.h (ar b s.hd (aD b W)).2)) (A6 s.h (ar b s.bd (cu b (lz s.h (ar b s.hd (aD b W)).2) 0)).2)) s.h.fr)).e=0:=he
  have xS:=dq h1
  rw[je] at xS
  have h4:=(aU xS).2
  have h5:=(jv h4).1
  have h8:=(aU h5).2
  have fU:bX (aD b W).at_:=by rw[dU]; exact hI
  have gH:=lb hl s.hd lD
  have HA:bX (lz s.h (ar b s.hd (aD b W)).2).at_:=gH.I _ fU
  have tp:=k_ hl 0 HA
  obtain⟨p1,_,_⟩:=gB.ok _ tp h8
  have r1:=(jv p1).1
  have r4:=(aU r1).2
  obtain⟨a1,a2⟩:=sH _ fU r4
  have a3:=DN hl s.hd jf.1 lD _ fU r4
  obtain⟨b1,b2⟩:=sB _ tp h8
  have wH:=(gH.wd hl (by decide) _ fU).more (show KR+92092<=400000 by unfold KR; omega)
  have wB:=(gB.wd hl (by decide) _ tp).more (show KS+92092<=400000 by unfold KS; omega)
  have n0:=dC b W
  have n1:=fL b (lz s.h (ar b s.hd (aD b W)).2)
  have n2:=fL b (A6 s.h (ar b s.bd (cu b (lz s.h (ar b s.hd (aD b W)).2) 0)).2)
  have n3:=dC b (bR (JP b s.h (dK b (lz s.h (ar b s.hd (aD b W)).2)) (A6 s.h (ar b s.bd (cu b (lz s.h (ar b s.hd (aD b W)).2) 0)).2)) s.h.fr)
  generalize bC b (bR (JP b s.h (dK b (lz s.h (ar b s.hd (aD b W)).2)) (A6 s.h (ar b s.bd (cu b (lz s.h (ar b s.hd (aD b W)).2) 0)).2)) s.h.fr)=f9 at *
  generalize kO b (A6 s.h (ar b s.bd (cu b (lz s.h (ar b s.hd (aD b W)).2) 0)).2)=m at *
  generalize (ar b s.bd (cu b (lz s.h (ar b s.hd (aD b W)).2) 0)).1=Bl at *
  generalize kO b (lz s.h (ar b s.hd (aD b W)).2)=n at *
  generalize (ar b s.hd (aD b W)).1=Hl at *
  generalize bC b W=f0 at *
  have pH:PP (aq Hl):=jh (by decide) wH a1
  have pB:PP (aq Bl):=jh (by decide) wB b1
  have sHj:=jy Hl
  have sBj:=jy Bl
  have wO:g_ 900000 [aq Hl,ak 1 n,aq Bl,ak 3 m,ak 0 f9]:=(wH.join.cons ((Wd.flat (by decide) n1.1).cons (wB.join.cons ((Wd.flat (by decide) n2.1).cons ((Wd.flat (by decide) n3.1).cons .nil))))).more (by omega)
  have pO:∀ x∈[aq Hl,ak 1 n,aq Bl,ak 3 m,ak 0 f9],PP x:=fun x hx=>by
   simp only[List.mem_cons,List.not_mem_nil,or_false] at hx
   rcases hx with rfl|rfl|rfl|rfl|rfl
   ·exact pH
   ·exact PP.flat (by decide) ⟨n1.1,by omega⟩
   ·exact pB
   ·exact PP.flat (by decide) ⟨n2.1,by omega⟩
   ·exact PP.flat (by decide) ⟨n3.1,by omega⟩
  have eO:dM (dI [aq Hl,ak 1 n,aq Bl,ak 3 m,ak 0 f9])=dM (oV (aq Hl))+dM (oV (aq Bl)):=by
   simp only[fO,cW,mh]
   rw[show dM (dI [])=0 from rfl]; omega
  have cO:=AS (by decide) wO pO
  have ppO:=jh (by decide) wO pO
  generalize aq [aq Hl,ak 1 n,aq Bl,ak 3 m,ak 0 f9]=once at *
  have pS:=PP.sum (h:=s.h) ⟨bS.2.1,bS.2.2.1⟩ (j_ hA) (j_ hBt) (gf uF.2.1 hA) (gf uF.2.2.1 hBt) ppO
  have wA:g_ 900000 [ak 0 f0,mU s.h once,aq Hl,ak 3 n]:=((Wd.flat (by decide) n0.1).cons ((Wd.one (c:=mU s.h once) (show (4:Int)≠1 by decide) (show (4:Int)≠2 by decide)).cons (wH.join.cons ((Wd.flat (by decide) n1.1).cons .nil)))).more (by omega)
  have pA:∀ x∈[ak 0 f0,mU s.h once,aq Hl,ak 3 n],PP x:=fun x hx=>by
   simp only[List.mem_cons,List.not_mem_nil,or_false] at hx
   rcases hx with rfl|rfl|rfl|rfl
   ·exact PP.flat (by decide) ⟨n0.1,by omega⟩
   ·exact pS
   ·exact pH
   ·exact PP.flat (by decide) ⟨n1.1,by omega⟩
  refine⟨jh (by decide) wA pA,Nat.le_trans (jy _) ?_⟩
  have s1:=tD hA
  have s2:=tD hBt
  have eS:dM (oV (mU s.h once))=2+ju (cJ s.h.A)+ju (cJ s.h.B)+cN once:=by
   rw[sk (c:=mU s.h once) (show (4:Int)≠2 by decide),dM,dM]
   rw[HK (c:=mU s.h once) (show (4:Int)≠1 by decide),rT]
   show 1+ju (cJ s.h.A)+ju (cJ s.h.B)+(cN once+0)+1+0=_
   omega
  simp only[fO,cW,mh]
  rw[eS,show dM (dI [])=0 from rfl]
  omega
 ·rw[if_neg k4] at he
  exact absurd (show (201:Int)=0 from he) (by decide)
theorem DO {b:List Int} (hl:b.length<=2000) (l:List ST) (hO:c_ l):ShL b l:=xq hl l hO fun s hs=>FG hl s (bs hO s hs)
theorem m5:∀ g:G,g.Ok->aj gT 37 [gP g] (.int .i64 (gY g)):=G.ind fun g ih hO=>by
 obtain⟨o,n,l⟩:=g
 obtain⟨ho,hn,hl,hL⟩:=hO
 have T7:∀ x∈l,aj gT 37 [gP x] (.int .i64 (gY x)):=fun x hx=>ih x hx (oo hL x hx)
 clear ih
 show aj gT 37 [.agg [.int .i64 o,.int .u32 n,.sl 3 (jH l)]] (.int .i64 (ef l 1))
 rw[fi]
 obtain⟨R,hR⟩:∃ R,R=ef l 1:=⟨_,rfl⟩
 rw[← hR]
 have el:(l.map gP).length=l.length:=List.length_map ..
 refine Spec.enter ao P37 100 Tryz.func37 rfl (by kernel_rfl) ?_
 refine fun hm=>?_
 refine SW.ko ao P37 (by kernel_rfl) (α:={q:Nat × Int // R=ef (l.drop q.1) q.2}) (fun q=>[(3,.int .i64 q.1.2),(9,.int .i64 q.1.1)]) (fun q=>l.length - q.1.1) ⟨(0,1),hR⟩ 60 ?_ ?_
 ·repeat' first|exact trivial|exact rfl|refine And.intro ?_ ?_
 rintro⟨⟨i,a⟩,hi⟩
 refine⟨fun h=>?_,fun h=>?_⟩
 ·have h':(i:Int) < ((l.map gP).length:Nat):=h
  rw[el] at h'
  refine⟨G,l,gP,rfl,show (0:Int)<=(i:Int) by omega,show (i:Int) < (l.length:Int) by omega,fun x hx=>?_⟩
  have dE:l[i]?=some x:=hx
  refine (T7 x (List.mem_of_getElem? dE)).u ?_
  refine .inr ?_
  unfold maxLen at hl
  refine .inl ⟨aG (show _<=(i:Int)+1/\(i:Int)+1<=_ by omega),⟨⟨(i+1,IntKind.i64.wrap (a+gY x)),?_⟩,show l.length - (i+1) < l.length - i by omega,?_⟩⟩
  ·show R=ef (l.drop (i+1)) _
   rw[hi]
   show ef (l.drop i) a=_
   rw[List.drop_eq_getElem_cons (by omega),ef]
   rw[List.getElem?_eq_getElem (by omega)] at dE
   rw[Option.some.inj dE]
  ·repeat' first|exact trivial|exact rfl|refine And.intro ?_ ?_
 ·have h':¬ (i:Int) < ((l.map gP).length:Nat):=h
  rw[el] at h'
  refine al ?_
  exact (show a=R by rw[hi]; show a=ef (l.drop i) a; rw[List.drop_of_length_le (by omega),ef])
def Kp:List DG->Int->Int
 | [],a=>a
 | d::l,a=>Kp l (IntKind.i64.wrap (a+IntKind.i64.wrap (IntKind.i64.wrap (4+gY d.a)+gY d.b)))
mutual
def yc:List ST->Int->Int
 | [],a=>a
 | s::l,a=>yc l (wgS s a)
def wgS:ST->Int->Int
 | .mk h hd bd el,a=>Kp h.aw (IntKind.i64.wrap (a+IntKind.i64.wrap (IntKind.i64.wrap (IntKind.i64.wrap (IntKind.i64.wrap (IntKind.i64.wrap (16+gY h.A)+gY h.B)+yc hd 8)+yc bd 8)+yc el 8)))
end
theorem ZR (s:ST) (a:Int):wgS s a=Kp s.h.aw (IntKind.i64.wrap (a+IntKind.i64.wrap (IntKind.i64.wrap (IntKind.i64.wrap (IntKind.i64.wrap (IntKind.i64.wrap (16+gY s.h.A)+gY s.h.B)+yc s.hd 8)+yc s.bd 8)+yc s.el 8))):=by cases s; rfl
def AU (l:List ST):Prop:=aj gT 17 [.sl 17 (l.map sr)] (.int .i64 (yc l 8))
theorem o_ (l:List ST) (hO:c_ l) (h:∀ s∈l,AU s.hd/\AU s.bd/\AU s.el):AU l:=by
 unfold AU
 rw[o4]
 obtain⟨R,hR⟩:∃ R,R=yc l 8:=⟨_,rfl⟩
 rw[← hR]
 have el:(l.map iq).length=l.length:=List.length_map ..
 refine Spec.enter ao P17 100 Tryz.func17 rfl (by kernel_rfl) ?_
 refine fun hm=>?_
 refine SW.tU ao P17 (by kernel_rfl) (α:={q:Nat × Int // R=yc (l.drop q.1) q.2}) (fun q=>[(3,.int .i64 q.1.2),(8,.sl 17 (l.map iq)),(9,.int .i64 ((l.map iq).length:Nat)),(10,.int .i64 q.1.1)]) (fun _=>[]) (fun q=>l.length - q.1.1) ⟨(0,8),hR⟩ 100 [] ?_ ?_
 ·repeat' first|exact trivial|exact rfl|exact Iff.rfl|exact not_false|refine And.intro ?_ ?_
 rintro⟨⟨i,a⟩,hi⟩
 refine⟨fun h1=>?_,fun h1=>?_⟩
 ·have eU:(i:Int) < ((l.map iq).length:Nat):=h1
  rw[el] at eU
  refine⟨ST,l,iq,rfl,show (0:Int)<=(i:Int) by omega,show (i:Int) < (l.length:Int) by omega,fun x hx=>?_⟩
  have dE:l[i]?=some x:=hx
  have hxm:=List.mem_of_getElem? dE
  obtain⟨c1,c2,c3⟩:=h x hxm
  have hOx:=x.rW (bs hO x hxm)
  have sA:=m5 x.h.A hOx.2.1
  have sB:=m5 x.h.B hOx.2.2.1
  have hd:l.drop i=x::l.drop (i+1):=by
   obtain⟨h1,h2⟩:=List.getElem?_eq_some_iff.1 dE
   rw[List.drop_eq_getElem_cons h1,h2]
  replace hi:R=yc (l.drop i) a:=hi
  rw[hd,yc,ZR] at hi
  refine sA.u ?_
  refine .inr ?_
  refine sB.u ?_
  refine .inr ?_
  refine c1.u ?_
  refine .inr ?_
  refine c2.u ?_
  refine .inr ?_
  refine c3.u ?_
  refine .inr ?_
  refine .inr ?_
  generalize IntKind.i64.wrap (a+_)=z at hi ⊢
  obtain⟨Z,hZ⟩:∃ Z,Z=Kp x.h.aw z:=⟨_,rfl⟩
  rw[← hZ] at hi
  have eld:(x.h.aw.map rV).length=x.h.aw.length:=List.length_map ..
  have hOd:=hOx.2.2.2.2
  refine fun Ga=>?_
  refine SW.tU ao P17 (by kernel_rfl) (α:={q:Nat × Int // Z=Kp (x.h.aw.drop q.1) q.2}) (fun q=>[(3,.int .i64 q.1.2),(8,.sl 17 (l.map iq)),(9,.int .i64 ((l.map iq).length:Nat)),(10,.int .i64 i),(37,.sl 7 (x.h.aw.map rV)),(38,.int .i64 ((x.h.aw.map rV).length:Nat)),(39,.int .i64 q.1.1)]) (fun _=>[]) (fun q=>x.h.aw.length - q.1.1) ⟨(0,z),hZ⟩ 100 [] ?_ ?_
  ·repeat' first|exact trivial|exact rfl|exact Iff.rfl|exact not_false|refine And.intro ?_ ?_
  rintro⟨⟨j,c⟩,hj⟩
  refine⟨fun h2=>?_,fun h2=>?_⟩
  ·have xS:(j:Int) < ((x.h.aw.map rV).length:Nat):=h2
   rw[eld] at xS
   refine⟨DG,x.h.aw,rV,rfl,show (0:Int)<=(j:Int) by omega,show (j:Int) < (x.h.aw.length:Int) by omega,fun d hdd=>?_⟩
   have xC:x.h.aw[j]?=some d:=hdd
   obtain⟨_,oa,ob⟩:=hOd d (List.mem_of_getElem? xC)
   have dd:x.h.aw.drop j=d::x.h.aw.drop (j+1):=by
    obtain⟨h1,h2⟩:=List.getElem?_eq_some_iff.1 xC
    rw[List.drop_eq_getElem_cons h1,h2]
   replace hj:Z=Kp (x.h.aw.drop j) c:=hj
   rw[dd,Kp] at hj
   refine (m5 d.a oa).u ?_
   refine .inr ?_
   refine (m5 d.b ob).u ?_
   refine .inr ?_
   refine .inr ?_
   have hmd':(x.h.aw.map rV).length<=maxLen:=Ga
   rw[eld] at hmd'
   unfold maxLen at hmd'
   refine .inl ⟨aG (show _<=(j:Int)+1/\(j:Int)+1<=_ by omega),⟨⟨(j+1,IntKind.i64.wrap (c+IntKind.i64.wrap (IntKind.i64.wrap (4+gY d.a)+gY d.b))),hj⟩,[],show x.h.aw.length - (j+1) < x.h.aw.length - j by omega,?_⟩⟩
   repeat' first|exact trivial|exact rfl|exact Iff.rfl|exact not_false|refine And.intro ?_ ?_
  ·have xS:¬ (j:Int) < ((x.h.aw.map rV).length:Nat):=h2
   rw[eld] at xS
   replace hj:Z=Kp (x.h.aw.drop j) c:=hj
   rw[List.drop_of_length_le (by omega),Kp] at hj
   subst hj
   unfold maxLen at hm
   refine .inl ⟨aG (show _<=(i:Int)+1/\(i:Int)+1<=_ by omega),⟨⟨(i+1,Z),hi⟩,[],show l.length - (i+1) < l.length - i by omega,?_⟩⟩
   repeat' first|exact trivial|exact rfl|exact Iff.rfl|exact not_false|refine And.intro ?_ ?_
 ·have eU:¬ (i:Int) < ((l.map iq).length:Nat):=h1
  rw[el] at eU
  refine al ?_
  exact (show a=R by rw[hi]; show a=yc (l.drop i) a; rw[List.drop_of_length_le (by omega),yc])
theorem FH:∀ s:ST,s.Ok->AU s.hd/\AU s.bd/\AU s.el:=ST.ind fun s h1 h2 h3 hO=>by
 have jf:c_ s.hd/\c_ s.bd/\c_ s.el:=by cases s; exact hO.2.2
 exact⟨o_ _ jf.1 fun x hx=>h1 x hx (bs jf.1 x hx),o_ _ jf.2.1 fun x hx=>h2 x hx (bs jf.2.1 x hx),o_ _ jf.2.2 fun x hx=>h3 x hx (bs jf.2.2 x hx)⟩
theorem DP (l:List ST) (hO:c_ l):AU l:=o_ l hO fun s hs=>FH s (bs hO s hs)
theorem tE {o n:Int} {k:Nat} (h:xa o n k):nf (o,n,(k:Int))=true:=by
 unfold xa at h
 unfold nf
 have e:ql o=im o:=by
  unfold ql im
  rw[if_neg (show ¬ (o < 1\/17 < o) by omega)]
  by_cases h1:o < 3
  ·rw[if_pos h1,if_pos (show o<=2 by omega)]
  ·rw[if_neg h1,if_neg (show ¬ o<=2 by omega)]
   by_cases h2:o < 5
   ·rw[if_pos h2,if_pos (show o<=4 by omega)]
   ·rw[if_neg h2,if_neg (show ¬ o<=4 by omega)]
 refine decide_eq_true ⟨show 1<=o by omega,show o<=17 by omega,?_,?_,?_⟩
 ·show ql o=(k:Int)
  rw[e]; omega
 ·show 2 < o->n=0
  omega
 ·show o=2->n<=255
  omega
theorem m6:∀ {t:T},cq (fD t)->t.shaped=true
 | .leaf o n,h=>tE h.1
 | .one o n a,h=>by
  have h1:nf (o,n,1)=true:=tE h.1
  have h2:=m6 (t:=a) h.2.1
  show (nf (o,n,1) && a.shaped)=true
  rw[h1,h2]; rfl
 | .two o n a b,h=>by
  have h1:nf (o,n,2)=true:=tE h.1
  have h2:=m6 (t:=a) h.2.1
  have h3:=m6 (t:=b) h.2.2.1
  show (nf (o,n,2) && (a.shaped && b.shaped))=true
  rw[h1,h2,h3]; rfl
theorem RX {t:T} (h:iD t):cK t true=true:=by
 show (t.shaped && fI t)=true
 rw[m6 h.1.2,h.2]; rfl
theorem ZS:∀ c:C,qx c->gM c=true:=C.lZ fun c ih h=>by
 obtain⟨h1,h2⟩:=(rZ c).1 h
 have hl:∀ x∈c.l,gM x=true:=fun x hx=>ih x hx (h2 x hx)
 clear ih h h2
 obtain⟨k,cy,mi,wo,si,a,b,l⟩:=c
 replace h1:Ds k cy mi wo si a b (l.length:Nat):=h1
 replace hl:∀ x∈l,gM x=true:=hl
 have hL:ta l=true:=by
  induction l with
  | nil=>rfl
  | cons x l ihl =>
   have:=ihl
   show (gM x && ta l)=true
   rw[hl x (List.mem_cons_self ..)]
   have key:∀ m:List C,(∀ x∈m,gM x=true)->ta m=true:=fun m=>by
    induction m with
    | nil=>intro _; rfl
    | cons y m ihm =>
     intro hm
     show (gM y && ta m)=true
     rw[hm y (List.mem_cons_self ..),ihm fun z hz=>hm z (List.mem_cons_of_mem _ hz)]; rfl
   rw[key l fun z hz=>hl z (List.mem_cons_of_mem _ hz)]; rfl
 obtain⟨hk,⟨n1,n2,n3,n4,n5,n6⟩,⟨l1,l2,l3,l4⟩,⟨a1,a2⟩,b1,b2⟩:=h1
 show (decide (1<=k/\k<=6) && (pK k cy mi wo si && (decide (qo k<=(l.length:Nat)/\((l.length:Nat):Int)<=wv k) && (cK a (decide (3<=k)) && (cK b (decide (k=4\/k=6)) && ta l)))))=true
 have wtn:∀ (n lo hi:Int) (p:Prop) [Decidable p],(p->lo<=n/\n<=hi)->(¬ p->n=0)->uD n lo hi (decide p)=true:=fun n lo hi p _ g1 g2=>by
  by_cases hp:p
  ·rw[decide_eq_true hp]; exact decide_eq_true (g1 hp)
  ·rw[decide_eq_false hp]; exact decide_eq_true (g2 hp)
 have hn:pK k cy mi wo si=true:=by
  unfold pK
  rw[wtn cy 0 2147483647 (k=1) (fun q=>⟨(n1 q).1,(n1 q).2.1⟩) (fun q=>(n2 q).1),wtn mi 0 2147483647 (k=1) (fun q=>(n1 q).2.2) (fun q=>(n2 q).2),wtn wo 4 253 (k=4) n3 n4,wtn si 0 1024 (k=5) n5 n6]; rfl
 have hT:∀ (t:T) (p:Prop) [Decidable p],(p->iD t)->(¬ p->cK t false=true)->cK t (decide p)=true:=fun t p _ g1 g2=>by
  by_cases hp:p
  ·rw[decide_eq_true hp]; exact RX (g1 hp)
  ·rw[decide_eq_false hp]; exact g2 hp
 have hlen:qo k<=(l.length:Nat)/\((l.length:Nat):Int)<=wv k:=by
  unfold qo wv
  have:k=1\/k=2\/k=3\/k=4\/k=5\/k=6:=by omega
  rcases this with rfl|rfl|rfl|rfl|rfl|rfl<;>simp at *<;>omega
 rw[decide_eq_true hk,hn,decide_eq_true hlen,hT a (3<=k) a1 (fun q=>a2 (by omega)),hT b (k=4\/k=6) b1 b2,hL]; rfl
def vk:Int:=4611686018427387904
theorem eF {n:Int} (h:0<=n/\n<=vk):IntKind.i64.wrap n=n:=IntWalk.i64_in n (by unfold vk at h; omega)
mutual
theorem pa:∀ g:G,(gN g:Int)<=vk->gY g=gN g
 | .mk o n l,h=>by
  have h':((1+OB l:Nat):Int)<=vk:=h
  show ef l 1=((1+OB l:Nat):Int)
  rw[DQ l 1 (by decide) (by omega)]; omega
theorem DQ:∀ (l:List G) (a:Int),0<=a->a+OB l<=vk->ef l a=a+OB l
 | [],a,h,_=>by show a=a+((0:Nat):Int); omega
 | g::l,a,h,hl=>by
  have kf:a+((gN g+OB l:Nat):Int)<=vk:=hl
  show ef l (IntKind.i64.wrap (a+gY g))=a+((gN g+OB l:Nat):Int)
  rw[pa g (by omega),eF (by omega),DQ l _ (by omega) (by omega)]; omega
end
theorem OH {t:T} (h:(ju t:Int)<=vk):Dq t=ju t:=by
 unfold Dq
 unfold ju at h ⊢
 by_cases ho:t.op=0
 ·rw[if_pos ho,if_pos ho]; rfl
 ·rw[if_neg ho] at h ⊢
  rw[if_neg ho,pa _ (by rw[tC]; exact h),tC]
mutual
theorem HO:∀ c:C,(cN c:Int)<=vk->Tj c=cN c
 | .mk k cy mi wo si a b l,h=>by
  have h':((1+ju a+ju b+pP l:Nat):Int)<=vk:=h
  show tv l (IntKind.i64.wrap (IntKind.i64.wrap (1+Dq a)+Dq b))=((1+ju a+ju b+pP l:Nat):Int)
  rw[OH (t:=a) (by omega),OH (t:=b) (by omega),eF (n:=1+(ju a:Int)) (by omega),eF (by omega),HP l _ (by omega) (by omega)]; omega
theorem HP:∀ (l:List C) (a:Int),0<=a->a+pP l<=vk->tv l a=a+pP l
 | [],a,h,_=>by show a=a+((0:Nat):Int); omega
 | c::l,a,h,hl=>by
  have kf:a+((cN c+pP l:Nat):Int)<=vk:=hl
  show tv l (IntKind.i64.wrap (a+Tj c))=a+((cN c+pP l:Nat):Int)
  rw[HO c (by omega),eF (by omega),HP l _ (by omega) (by omega)]; omega
end
def HQ:List DG->Nat
 | []=>0
 | d::l=>4+gN d.a+gN d.b+HQ l
mutual
def Pf:ST->Nat
 | .mk h hd bd el=>40+gN h.A+gN h.B+HQ h.aw+fS hd+fS bd+fS el
def fS:List ST->Nat
 | []=>0
 | s::l=>Pf s+fS l
end
theorem OI:∀ (l:List DG) (a:Int),0<=a->a+HQ l<=vk->Kp l a=a+HQ l
 | [],a,h,_=>by show a=a+((0:Nat):Int); omega
 | d::l,a,h,hl=>by
  have kf:a+((4+gN d.a+gN d.b+HQ l:Nat):Int)<=vk:=hl
  show Kp l (IntKind.i64.wrap (a+IntKind.i64.wrap (IntKind.i64.wrap (4+gY d.a)+gY d.b)))=a+((4+gN d.a+gN d.b+HQ l:Nat):Int)
  rw[pa d.a (by omega),pa d.b (by omega),eF (n:=4+(gN d.a:Int)) (by omega),eF (n:=4+(gN d.a:Int)+gN d.b) (by omega),eF (by omega),OI l _ (by omega) (by omega)]; omega
mutual
theorem ZT:∀ (s:ST) (a:Int),0<=a->a+Pf s<=vk->wgS s a=a+Pf s
 | .mk h hd bd el,a,ha,hl=>by
  have kf:a+((40+gN h.A+gN h.B+HQ h.aw+fS hd+fS bd+fS el:Nat):Int)<=vk:=hl
  show Kp h.aw (IntKind.i64.wrap (a+IntKind.i64.wrap (IntKind.i64.wrap (IntKind.i64.wrap (IntKind.i64.wrap (IntKind.i64.wrap (16+gY h.A)+gY h.B)+yc hd 8)+yc bd 8)+yc el 8)))=a+((40+gN h.A+gN h.B+HQ h.aw+fS hd+fS bd+fS el:Nat):Int)
  rw[pa h.A (by omega),pa h.B (by omega),xr hd 8 (by decide) (by omega),xr bd 8 (by decide) (by omega),xr el 8 (by decide) (by omega)]
  rw[eF (n:=16+(gN h.A:Int)) (by omega),eF (n:=16+(gN h.A:Int)+gN h.B) (by omega),eF (n:=16+(gN h.A:Int)+gN h.B+(8+fS hd)) (by omega),eF (n:=16+(gN h.A:Int)+gN h.B+(8+fS hd)+(8+fS bd)) (by omega),eF (n:=16+(gN h.A:Int)+gN h.B+(8+fS hd)+(8+fS bd)+(8+fS el)) (by omega),eF (by omega),OI _ _ (by omega) (by omega)]
  omega
theorem xr:∀ (l:List ST) (a:Int),0<=a->a+fS l<=vk->yc l a=a+fS l
 | [],a,_,_=>by show a=a+((0:Nat):Int); omega
 | s::l,a,h,hl=>by
  have kf:a+((Pf s+fS l:Nat):Int)<=vk:=hl
  show yc l (wgS s a)=a+((Pf s+fS l:Nat):Int)
  rw[ZT s a h (by omega),xr l _ (by omega) (by omega)]; omega
end
theorem OJ:∀ ds:List DG,Tp ds<=HQ ds
 | []=>Nat.le_refl 0
 | d::l=>by
  have:=OJ l
  show (2+gN d.a+gN d.b)+Tp l<=4+gN d.a+gN d.b+HQ l
  omega
mutual
theorem wS_le:∀ s:ST,wS s<=Pf s
 | .mk h hd bd el=>by
  have h1:=xu hd
  have h2:=xu bd
  have h3:=xu el
  have h4:=OJ h.aw
  show 6+gN h.A+gN h.B+Tp h.aw+HJ hd+HJ bd+HJ el<=40+gN h.A+gN h.B+HQ h.aw+fS hd+fS bd+fS el
  omega
theorem xu:∀ l:List ST,HJ l<=fS l
 | []=>Nat.le_refl 0
 | s::l=>by
  have h1:=wS_le s
  have h2:=xu l
  show wS s+HJ l<=Pf s+fS l
  omega
end
theorem xv {b:List Int} (hl:b.length<=2000) {a:Int} (hI:bX a) {l:List ST} (hO:c_ l) (he:(jP b a l).e=0):PP (aq (ar b l (kN a)).1)/\cN (aq (ar b l (kN a)).1)<=8+fS l:=by
 have mV:=(aU he).2
 obtain⟨h1,h2⟩:=DO hl l hO (kN a) hI mV
 have Dm:=(bV hl l hO).wd hl (by decide) (kN a) hI
 have h3:=AS (by decide) Dm h1
 have h4:=xu l
 exact⟨jh (by decide) Dm h1,by omega⟩
theorem OK {b:List Int} (hl:b.length<=2000) {a:Int} (hI:bX a) {l:List ST} (hO:c_ l) (he:(jP b a l).e=0) (hw:8+(fS l:Int)<=vk) (hr:¬ xi (aq (ar b l (kN a)).1)):16384 < yc l 8:=by
 obtain⟨h1,h2⟩:=xv hl hI hO he
 have h3:¬ Tj (aq (ar b l (kN a)).1)<=16384:=fun k=>hr ⟨k,h1.1⟩
 rw[HO _ (by omega)] at h3
 rw[xr l 8 (by decide) hw]
 omega
namespace Agr
variable {P:Int->Prop} {r q:R}
end Agr
open Go Go.RowKit
variable {b:List Int}
def OL (tr:List (Int × Prop)):List PV:=tr.map fun x=>PV.int .i64 x.1
def Tq (tr:List (Int × Prop)):List PV:=tr.map fun x=>PV.bool x.2
theorem AW (tr:List (Int × Prop)):(OL tr).length=tr.length:=List.length_map ..
theorem AX (tr:List (Int × Prop)):(Tq tr).length=tr.length:=List.length_map ..
theorem RY (l m:List (Int × Prop)):OL (l++m)=OL l++OL m:=List.map_append ..
theorem RZ (l m:List (Int × Prop)):Tq (l++m)=Tq l++Tq m:=List.map_append ..
def wyB (b:List Int) (y:WY):an:=⟨.loc,61,1,.w,true,[.sl 1 (uC b),.wref 1,.wref 2,.wref 3,.int .i64 y.aw,.int .i64 y.ck,.int .i64 y.fuel]⟩
def kK (b:List Int) (y:WY):List an:=[wyB b y,⟨.dyn,24,1,.w,true,bh y.ws⟩,⟨.dyn,3,1,.w,true,OL y.tr⟩,⟨.dyn,4,1,.w,true,Tq y.tr⟩]
structure ZU (b:List Int) (y:WY):Prop where
 fuel:-2<=y.fuel/\y.fuel<=3000
 len:y.tr.length+y.fuel<=3000
 wk:Pd y.ws
 Un:∀ x∈y.tr,bX x.1/\eA b x.1=0
theorem jJ {n:Nat} {TN:List Nat} {st:List an} (hn:n<=2\/2∈TN) (hn3:n<=3\/3∈TN) (hb:∀ b,st[2]?=some b->b.m≠.p) (ml:∀ b,st[3]?=some b->b.m≠.p):∀ l∈[2,3],(n<=l\/l∈TN)/\∀ b,st[l]?=some b->b.m≠.p:=fun l hl=>by
 rw[List.mem_cons,List.mem_singleton] at hl
 rcases hl with rfl|rfl
 ·exact⟨hn,hb⟩
 ·exact⟨hn3,ml⟩
def ZV:List (Nat × aJ):=[(6,.pure 0 <| .pure 1 <| .pure 2 <| .pure 3 <| .pure 4 <| .pure 6 <| .pure 9 <| .pure 10 <| .pure 11 <| .pure 13 <| .load 5 [21,20,19,18,17,16,15,8] <| .load 12 [21,20,19,18,17,16,15] <| .aR 7 (.aR 8 (.aR 14 (.aR 15 (.pure 16 <| .pure 17 <| .aR 18 (.pure 19 <| .pure 20 <| .aR 21 (.done) (.nil)) (.nil)) (.nil)) (.nil)) (.sub 14 (.aR 8 (.aR 15 (.pure 16 <| .pure 17 <| .aR 18 (.pure 19 <| .pure 20 <| .aR 21 (.done) (.nil)) (.nil)) (.nil)) (.nil)) (.nil))) (.sub 14 (.aR 7 (.aR 8 (.aR 15 (.pure 16 <| .pure 17 <| .aR 18 (.pure 19 <| .pure 20 <| .aR 21 (.done) (.nil)) (.nil)) (.nil)) (.nil)) (.nil)) (.nil)))]
theorem iy (b:List Int) (y:WY):Spec gT 38 [.ptr 0 0] (kK b y) [] fun r S'=>r = .bool y.fin/\S'=kK b y:=by
 refine Spec.rf (Spec.enter ao P38 100 Tryz.func38 rfl (by kernel_rfl) ?_)
 refine⟨fun h=>?_,fun h=>?_⟩
 ·refine fy ?_ (by first|exact oQ rfl|(repeat' first|exact trivial|exact rfl|exact Iff.rfl|exact not_false|refine And.intro ?_ ?_))
  exact (show y.fin from .inl h)
 ·refine fy ?_ (by first|exact oQ rfl|(repeat' first|exact trivial|exact rfl|exact Iff.rfl|exact not_false|refine And.intro ?_ ?_))
  exact (show y.fuel < 0↔y.fin from ⟨.inr,fun k=>k.elim (fun k=>absurd k h) id⟩)
noncomputable def yStC (b:List Int) (y:WY) (n:Int) (i:IN):aN:=⟨(Tryz.f69).ntmps,ll [(1,.int .i64 n),(7,.ptr 4 0)] .nil,kK b y++[(⟨.loc,42,1,.w,true,inFs i⟩:an)],4,[2,3]⟩
theorem gy (b:List Int) (hb:pq b) (hl:b.length<=2000) (y:WY) (hy:ZU b y) (n:Int) (hn:bX n) (tk:Prop):Spec gT 69 [.ptr 0 0,.int .i64 n,.bool tk] (kK b y) [2,3] fun r S'=>r = .int .i64 (r_ b n)/\S'=kK b (aK b y n tk):=by
 have ha:=rN b hb (by omega) n hn
 have hf:=hy.fuel
 have hlen:=hy.len
 have hr:=@bN b n
 unfold r_ aK
 refine Spec.nQ ao ZV 100 Tryz.func69 rfl (by kernel_rfl) ?_
 refine li ?_
 refine ha.u ?_
 have ux:=gS (iA b n)
 generalize iA b n=i at hr ux ⊢
 generalize eA b n=e at hr ⊢
 refine⟨fun he=>?_,fun he=>?_⟩
 ·rw[if_pos (show e≠0 from he),if_pos (show e≠0 from he)]
  refine Exists.intro [some 0,some 1,some 2,some 3] (Exists.intro [(6,.int .i64 n)] (Exists.intro (kK b { y with fuel:=-1 }) (And.intro ?_ (And.intro (Nat.le_of_ble_eq_true rfl) (And.intro rfl rfl)))))
  repeat' first|exact trivial|exact rfl|exact Iff.rfl|refine And.intro ?_ ?_
 ·have he:e=0:=Classical.not_not.1 he
  rw[if_neg (fun k=>k he),if_neg (fun k=>k he)]
  have b1:(OL y.tr).length+1<=maxLen:=by rw[AW]; unfold maxLen; omega
  have b2:((OL y.tr).length+1)*8<=140737488355328:=by rw[AW]; omega
  have b3:(Tq y.tr).length+1<=maxLen:=by rw[AX]; unfold maxLen; omega
  have b4:((Tq y.tr).length+1)*1<=140737488355328:=by rw[AX]; omega
  have q1:=RY y.tr [(n,tk)]
  have q2:=RZ y.tr [(n,tk)]
  obtain⟨yy,hyy⟩:∃ yy,yy=({ y with fuel:=y.fuel - 1,tr:=y.tr++[(n,tk)] }:WY):=⟨_,rfl⟩
  rw[← hyy]
  refine⟨b1,b2,?_⟩
  refine⟨b3,b4,?_⟩
  refine Exists.intro (yStC b yy n i) (And.intro ?sub (And.intro (Exists.intro (yStC b yy n i) (And.intro Sub.refl (And.intro ?K (And.intro ?a2 ?r2)))) (And.intro ?a1 ?r1)))
  case sub =>
   refine aT ao.ok (π:=[some 0,some 1,some 6,some 8,some 4]) ?_
   rw[hyy]
   repeat' first|exact trivial|exact rfl|exact Iff.rfl|exact not_false|exact q1.symm|exact q2.symm|refine And.intro ?_ ?_
  case a2 =>
   refine⟨b1,b2,?_⟩
   refine⟨b3,b4,?_⟩
   refine aT ao.ok (π:=[some 0,some 1,some 7,some 8,some 4]) ?_
   rw[hyy]
   repeat' first|exact trivial|exact rfl|exact Iff.rfl|exact not_false|exact q1.symm|exact q2.symm|refine And.intro ?_ ?_
  case a1 =>
   refine⟨b1,b2,?_⟩
   refine⟨b3,b4,?_⟩
   refine aT ao.ok (π:=[some 0,some 1,some 7,some 8,some 4]) ?_
   rw[hyy]
   repeat' first|exact trivial|exact rfl|exact Iff.rfl|exact not_false|exact q1.symm|exact q2.symm|refine And.intro ?_ ?_
  case r2=>exact trivial
  case r1=>exact trivial
  case K =>
   obtain⟨⟨LS,SR⟩,hri,JA⟩:=hr he
   have hs:=gV hri
   refine ux.u ?_
   generalize aX i.form=z at hs ⊢
   refine li ?_
   refine Exists.intro [some 0,some 1,some 2,some 3] (Exists.intro [(6,.int .i64 (n+max z 2))] (Exists.intro (kK b yy) (And.intro ?_ (And.intro (Nat.le_of_ble_eq_true rfl) (And.intro rfl rfl)))))
   repeat' first|exact trivial|exact rfl|exact Iff.rfl|refine And.intro ?_ ?_
variable {b:List Int}
theorem DS (b:List Int) (y:WY) (hy:ZU b y) (t:T) (ht:t.Wf):Spec gT 70 [.ptr 0 0,jc t] (kK b y) [] fun r S'=>r = .int .u32 (jQ y.ws t)/\S'=kK b (bU y t):=by
 have he:=fp y.ws hy.wk.words t ht
 unfold bU jQ
 refine Spec.rf (Spec.enter ao P70 100 Tryz.func70 rfl (by kernel_rfl) ?_)
 refine⟨[],az,he.BV [1] (by repeat' first|exact trivial|exact rfl|exact Iff.rfl|exact Or.inl rfl|refine And.intro ?_ ?_) rfl rfl ?_⟩
 generalize t.bo y.ws=q
 cases q with
 | none =>
  refine⟨fun _=>?_,fun h=>absurd (show ¬ _ from nofun) h⟩
  refine (iy b y).e ?_
  refine⟨fun h=>?_,fun h=>?_⟩
  ·rw[if_pos ⟨rfl,h⟩]
   exact rS
  ·rw[if_neg (fun k=>h k.2)]
   exact rS
 | some v =>
  rw[if_neg (fun k=>nomatch k.1)]
  refine⟨fun h=>absurd rfl h,fun _=>?_⟩
  exact rS
variable {b:List Int}
structure YB (b:List Int) (y:WY):Prop where
 ok:ZU b y
 dv:0<=y.aw/\y.aw<=10*(3000 - y.fuel)
theorem zx {b:List Int} (hl:b.length<=2000) {n:Int} (hn:bX n):bX (r_ b n):=by
 unfold r_
 split
 ·exact hn
 ·rename_i he
  have he:eA b n=0:=Classical.not_not.1 he
  obtain⟨⟨h0,h1⟩,hr,JA⟩:=bN he
  have hs:=gV hr
  unfold bX
  omega
theorem YB.step {b:List Int} (hl:b.length<=2000) {y:WY} (h:YB b y) (hf:-1<=y.fuel) {n:Int} (hn:bX n) (tk:Prop):YB b (aK b y n tk):=by
 obtain⟨⟨h1,h2,h3,h4⟩,h5⟩:=h
 unfold aK
 split
 ·exact⟨⟨⟨show (-2:Int)<=-1 by decide,show (-1:Int)<=3000 by decide⟩,show (y.tr.length:Int)+(-1)<=3000 by omega,h3,h4⟩,show 0<=y.aw/\y.aw<=10*(3000 - (-1)) by omega⟩
 ·rename_i he
  have he:eA b n=0:=Classical.not_not.1 he
  refine⟨⟨⟨show (-2:Int)<=y.fuel - 1 by omega,show y.fuel - 1<=3000 by omega⟩,?_,h3,?_⟩,show 0<=y.aw/\y.aw<=10*(3000 - (y.fuel - 1)) by omega⟩
  ·show ((y.tr++[(n,tk)]).length:Int)+(y.fuel - 1)<=3000
   rw[List.length_append,List.length_singleton]
   omega
  ·intro x hx
   rcases List.mem_append.1 hx with hx|hx
   ·exact h4 x hx
   ·rw[List.mem_singleton] at hx
    subst hx
    exact⟨hn,he⟩
theorem YB.eval {y:WY} (h:YB b y) (t:T):YB b (bU y t):=by
 unfold bU
 split
 ·exact⟨⟨h.ok.fuel,h.ok.len,h.ok.wk,h.ok.Un⟩,h.dv⟩
 ·exact h
theorem qA (y:WY) (t:T):(bU y t).fuel=y.fuel/\(bU y t).aw=y.aw/\(bU y t).ws=y.ws/\(bU y t).tr=y.tr:=by
 unfold bU
 split<;>exact⟨rfl,rfl,rfl,rfl⟩
theorem tF {ws:List Int} (h:Pd ws) {t:T} (ht:t.Wf):0<=jQ ws t/\jQ ws t<=4294967295:=by
 unfold jQ
 cases e:t.bo ws with
 | none=>exact⟨by decide,by decide⟩
 | some v=>exact T.eL h.words ht e
theorem m7 {b:List Int} {y:WY} (h:0<=y.fuel) (n:Int) (tk:Prop):(aK b y n tk).fuel<=y.fuel - 1/\(aK b y n tk).aw=y.aw/\(aK b y n tk).ws=y.ws:=by
 unfold aK
 split
 ·exact⟨show (-1:Int)<=y.fuel - 1 by omega,rfl,rfl⟩
 ·exact⟨Int.le_refl _,rfl,rfl⟩
theorem R1 {y:WY} {d:DV} (h:YB b y) (hd:y.aw+10<=10*(3000 - y.fuel)) (hw:d.a.Wf/\d.b.Wf):YB b (mW y d)/\(mW y d).fuel=y.fuel:=by
 obtain⟨e1,e2,e3,e4⟩:=qA y d.a
 obtain⟨f1,f2,f3,f4⟩:=qA (bU y d.a) d.b
 have hA:=h.eval d.a
 have hB:=hA.eval d.b
 unfold mW
 split
 ·exact⟨hA,e1⟩
 ·refine⟨⟨⟨hB.ok.fuel,hB.ok.len,hB.ok.wk,hB.ok.Un⟩,?_⟩,f1.trans e1⟩
  have v1:=tF h.ok.wk hw.1
  have v2:=tF hA.ok.wk hw.2
  have v3:=AO v1.2 v2.2
  have v4:=h.dv
  show 0<=(bU y d.a).aw+(divC (jQ y.ws d.a) (jQ (bU y d.a).ws d.b) - 2)/\(bU y d.a).aw+(divC (jQ y.ws d.a) (jQ (bU y d.a).ws d.b) - 2)<=10*(3000 - (bU (bU y d.a) d.b).fuel)
  rw[f1,e1,e2]
  omega
theorem DT {b:List Int} (hl:b.length<=2000) {y:WY} (h:YB b y) (hf:0<=y.fuel) {n:Int} (hn:bX n) {ds:List DV} (hw:∀ d∈ds,d.a.Wf/\d.b.Wf):YB b (jR b n y ds).1/\(jR b n y ds).1.fuel<=y.fuel - 1/\∀ d∈(jR b n y ds).2,d.a.Wf/\d.b.Wf:=by
 have hB:=h.step hl (by omega) hn False
 obtain⟨e1,e2,e3⟩:=m7 (b:=b) hf n False
 have v4:=h.dv
 unfold jR
 split
 ·cases ds with
  | nil=>exact⟨hB,e1,hw⟩
  | cons d l =>
   obtain⟨h1,h2⟩:=R1 hB (by rw[e2]; omega) (hw d (List.mem_cons_self ..))
   exact⟨h1,by rw[h2]; exact e1,fun x hx=>hw x (List.mem_cons_of_mem _ hx)⟩
 ·exact⟨hB,e1,hw⟩
structure YR (b:List Int) (till:Int) (R:WY) where
 k:Nat
 n:Int
 y:WY
 ds:List DV
 eq:mX b till k n y ds=R
 py:y.fuel+2<=k
 I:bX n
 B:YB b y
 wf:∀ d∈ds,d.a.Wf/\d.b.Wf
def OM:pT:=.pure 0 <| .pure 1 <| .pure 2 <| .pure 4 <| .pure 5 <| .pure 6 <| .pure 7 <| .pure 8 <| .load 9 [16,15,14,13,12,11,10] <| .fork 3 (.aR 10 <| .aR 11 <| .pure 12 <| .pure 13 <| .pure 14 <| .pure 15 <| .aR 16 .done) 10 (.load 3 [16,15,14,13] <| .aR 11 <| .pure 12 <| .pure 13 <| .pure 14 <| .pure 15 <| .aR 16 .done)
theorem R2 (b:List Int) (hb:pq b) (hl:b.length<=2000) (y:WY) (hy:YB b y) (s:SP) (hI:bX s.fr) (ds:List DV) (hs:s.aw=ds.map l6) (hw:∀ d∈ds,d.a.Wf/\d.b.Wf):Spec gT 39 [.ptr 0 0,D7 s] (kK b y) [2,3] fun r S'=>r = .tup []/\S'=kK b (mX b s.till (y.fuel+2).toNat s.fr y ds):=by
 obtain⟨R,hR⟩:∃ R,mX b s.till (y.fuel+2).toNat s.fr y ds=R:=⟨_,rfl⟩
 rw[hR]
 have hfu:=hy.ok.fuel
 refine Spec.nQ ao [] 100 Tryz.func39 rfl (by kernel_rfl) ?_
 refine SW.loopH ao [] (by kernel_rfl) (α:=YR b s.till R) (fun r=>[(0,.ptr 0 0),(3,.ptr 4 0),(4,.sl 7 (r.ds.map l6)),(5,.int .i64 r.n)]) (fun r=>kK b r.y++[NF s]) (fun r=>r.k) ⟨(y.fuel+2).toNat,s.fr,y,ds,hR,by omega,hI,hy,hw⟩ 100 [some 0,some 1,some 2,some 3,some 4] ?_ ?_
 ·repeat' first|exact trivial|exact rfl|exact Iff.rfl|exact not_false|refine And.intro ?_ ?_
  all_goals exact hs
 rintro⟨k,n,y,ds,heq,NG,hI,hy,hw⟩
 have hfu:=hy.ok.fuel
 have NJ:¬ (n < s.till/\¬ y.fin)->R=y:=fun h=>by
  cases k with
  | zero=>exact heq.symm
  | succ k=>rw[mX,if_neg h] at heq; exact heq.symm
 have Kh:n < s.till->¬ y.fin->∃ r:YR b s.till R,r.n=r_ b n/\r.y=(jR b n y ds).1/\r.ds=(jR b n y ds).2/\r.k < k:=fun h1 h2=>by
  have hf0:0<=y.fuel:=by
   have:¬ y.fuel < 0:=fun k=>h2 (.inr k)
   omega
  obtain⟨g1,g2,g3⟩:=DT hl hy hf0 hI hw
  cases k with
  | zero=>omega
  | succ k =>
   rw[mX,if_pos ⟨h1,h2⟩] at heq
   exact⟨⟨k,_,_,_,heq,by omega,zx hl hI,g1,g3⟩,rfl,rfl,rfl,Nat.lt_succ_self k⟩
 refine⟨fun h1=>?_,fun h1=>?_⟩
 ·refine (iy b y).e ?_
  refine⟨fun h2=>?_,fun h2=>?_⟩
  ·have hf0:0<=y.fuel:=by
    have:¬ y.fuel < 0:=fun k=>h2 (.inr k)
    omega
   obtain⟨⟨k2,n2,y2,ds2,CZ,t_,mn,hB2,mu⟩,e1,e2,e3,hk⟩:=Kh h1 h2
   replace e1:n2=_:=e1
   replace e2:y2=_:=e2
   replace e3:ds2=_:=e3
   replace hk:k2 < k:=hk
   have ha:=rN b hb (by omega) n hI
   have um:=gy b hb hl y hy.ok n hI False
   have hyB:=hy.step hl (by omega) hI False
   refine ha.u ?_
   refine⟨[2,3],jJ (by first|exact .inl (Nat.zero_le _)|exact .inr (by simp)) (by first|exact .inl (Nat.zero_le _)|exact .inr (by simp)) (by rintro b ⟨⟩; nofun) (by rintro b ⟨⟩; nofun),(um).jF rfl rfl rfl rfl rfl (by first|exact ah rfl rfl|(repeat' first|exact trivial|exact rfl|exact Iff.rfl|exact Or.inl rfl|exact not_false|refine And.intro ?_ ?_)) (And.intro (by first|exact ah rfl rfl|(repeat' first|exact trivial|exact rfl|exact Iff.rfl|exact Or.inl rfl|exact not_false|refine And.intro ?_ ?_)) (And.intro (by first|exact ah rfl rfl|(repeat' first|exact trivial|exact rfl|exact Iff.rfl|exact Or.inl rfl|exact not_false|refine And.intro ?_ ?_)) (And.intro (by first|exact ah rfl rfl|(repeat' first|exact trivial|exact rfl|exact Iff.rfl|exact Or.inl rfl|exact not_false|refine And.intro ?_ ?_)) (And.intro (by first|exact ah rfl rfl|(repeat' first|exact trivial|exact rfl|exact Iff.rfl|exact Or.inl rfl|exact not_false|refine And.intro ?_ ?_)) (And.intro trivial ?_)))))⟩
   unfold jR at e2 e3
   generalize aK b y n False=y1 at e2 e3 hyB ⊢
   generalize iA b n=i at e2 e3 ⊢
   refine⟨fun h3=>?_,fun h3=>?_⟩
   ·rw[if_pos h3] at e2 e3
    have el:(ds.map l6).length=ds.length:=List.length_map ..
    refine fun hm=>?_
    refine⟨fun h4=>?_,fun h4=>?_⟩
    ·have FA:(0:Int) < ((ds.map l6).length:Nat):=h4
     rw[el] at FA
     refine⟨DV,ds,l6,rfl,show (0:Int)<=0 by decide,show (0:Int) < (ds.length:Int) from FA,fun d hd=>?_⟩
     obtain⟨l,uo⟩:∃ l,ds=d::l:=by
      have xC:ds[0]?=some d:=hd
      cases hx:ds with
      | nil=>rw[hx] at xC; cases xC
      | cons a l=>rw[hx] at xC; cases xC; exact⟨l,rfl⟩
     have Dm:=hw d (by rw[uo]; exact List.mem_cons_self ..)
     have e2':y2=mW y1 d:=by rw[e2,uo]
     have e3':ds2=l:=by rw[e3,uo]
     have F8:((ds.map l6).drop 1).take ((((ds.map l6).length:Nat):Int) - 1).toNat=l.map l6:=by
      rw[uo]
      show (l.map l6).take _=_
      rw[List.take_of_length_le]
      simp only[List.map_cons,List.length_cons,List.length_map]
      omega
     have hA:=hyB.eval d.a
     refine (DS b y1 hyB.ok d.a Dm.1).e ?_
     refine (iy b (bU y1 d.a)).e ?_
     refine⟨fun h5=>?_,fun h5=>?_⟩
     ·have R3:y2 = { bU (bU y1 d.a) d.b with aw:=(bU y1 d.a).aw+(divC (jQ y1.ws d.a) (jQ (bU y1 d.a).ws d.b) - 2) }:=by
       rw[e2']; unfold mW; rw[if_neg h5]
      have e7:(bU (bU y1 d.a) d.b).aw=(bU y1 d.a).aw:=(qA _ _).2.1
      have v1:=tF hyB.ok.wk Dm.1
      have v2:=tF hA.ok.wk Dm.2
      have v3:=AO v1.2 v2.2
      have v4:=hA.dv
      have v5:=hA.ok.fuel
      have Zn:=yX (jQ y1.ws d.a) (jQ (bU y1 d.a).ws d.b) v1 v2
      have hye:=DS b (bU y1 d.a) hA.ok d.b Dm.2
      generalize divC (jQ y1.ws d.a) (jQ (bU y1 d.a).ws d.b)=dc at R3 v3 Zn
      refine SW.RV ao OM (by kernel_rfl) (by kernel_rfl) ?_
      refine⟨DV,ds,l6,rfl,show (0:Int)<=0 by decide,show (0:Int) < (ds.length:Int) from FA,fun d2 Bt=>?_⟩
      obtain rfl:d=d2:=Option.some.inj (hd.symm.trans Bt)
      refine And.intro ?_ ?_
      all_goals
       refine (hye).e ?_
       refine Zn.u ?_
       refine li ?_
       refine li ?_
       refine⟨show (0:Int)<=1 by decide,show (1:Int)<=(((ds.map l6).length:Nat):Int) by omega,Int.le_refl _,?_⟩
       subst e1 R3 e3'
       refine⟨⟨k2,_,_,_,CZ,t_,mn,hB2,mu⟩,[some 0,some 1,some 2,some 3,some 4],hk,?_⟩
       repeat' first|exact trivial|exact rfl|exact Iff.rfl|exact not_false|exact F8|exact (show tR (PV.int .i64 ((bU (bU y1 d.a) d.b).aw+(dc - 2))) (PV.int .i64 ((bU y1 d.a).aw+(dc - 2))) by rw[e7]; exact rfl)|refine And.intro ?_ ?_
     ·have R3:y2=bU y1 d.a:=by rw[e2']; unfold mW; rw[if_pos (Classical.not_not.1 h5)]
      refine⟨show (0:Int)<=1 by decide,show (1:Int)<=(((ds.map l6).length:Nat):Int) by omega,Int.le_refl _,?_⟩
      subst e1 R3 e3'
      refine⟨⟨k2,_,_,_,CZ,t_,mn,hB2,mu⟩,[some 0,some 1,some 2,some 3,some 4],hk,?_⟩
      repeat' first|exact trivial|exact rfl|exact Iff.rfl|exact not_false|exact F8|refine And.intro ?_ ?_
    ·have FA:¬ (0:Int) < ((ds.map l6).length:Nat):=h4
     rw[el] at FA
     have F':ds = []:=List.eq_nil_of_length_eq_zero (by omega)
     rw[F'] at e2 e3
     replace e2:y2=y1:=e2
     replace e3:ds2 = []:=e3
     subst e1 e2 e3 F'
     refine⟨⟨k2,_,_,_,CZ,t_,mn,hB2,mu⟩,[some 0,some 1,some 2,some 3,some 4],hk,?_⟩
     repeat' first|exact trivial|exact rfl|exact Iff.rfl|exact not_false|refine And.intro ?_ ?_
   ·rw[if_neg h3] at e2 e3
    replace e2:y2=y1:=e2
    replace e3:ds2=ds:=e3
    subst e1 e2 e3
    refine⟨⟨k2,_,_,_,CZ,t_,mn,hB2,mu⟩,[some 0,some 1,some 2,some 3,some 4],hk,?_⟩
    repeat' first|exact trivial|exact rfl|exact Iff.rfl|exact not_false|refine And.intro ?_ ?_
  ·have kh:=NJ fun k=>h2 k.2
   subst kh
   refine Exists.intro [some 0,some 1,some 2,some 3] (Exists.intro [] (Exists.intro (kK b R) (And.intro ?_ (And.intro (Nat.le_of_ble_eq_true rfl) (And.intro rfl rfl)))))
   repeat' first|exact trivial|exact rfl|exact Iff.rfl|exact not_false|refine And.intro ?_ ?_
 ·have kh:=NJ fun k=>h1 k.1
  subst kh
  refine Exists.intro [some 0,some 1,some 2,some 3] (Exists.intro [] (Exists.intro (kK b R) (And.intro ?_ (And.intro (Nat.le_of_ble_eq_true rfl) (And.intro rfl rfl)))))
  repeat' first|exact trivial|exact rfl|exact Iff.rfl|exact not_false|refine And.intro ?_ ?_
variable {b:List Int}
theorem Ts {s:ST} {t:T} (hA:s.h.A=fD t):iq s = .agg [.int .i64 s.h.kind,.int .i64 s.h.fr,.int .i64 s.h.till,.int .i64 s.h.stub,.int .i64 s.h.skip,.int .i64 s.h.size,.int .i64 s.h.word,.int .i64 t.op,.int .u32 t.num,.sl 3 (cz t),.int .i64 s.h.B.op,.int .u32 s.h.B.n,.sl 3 (gn s.h.B),.sl 7 (s.h.aw.map rV),.sl 17 (s.hd.map sr),.sl 17 (s.bd.map sr),.sl 17 (s.el.map sr)]:=by
 unfold iq D7 spF qv
 simp only
 rw[hA,iT,l_,dA]
theorem J7 (b:List Int) (hb:pq b) (hl:b.length<=2000) (y:WY) (hy:YB b y) (hf:0<=y.fuel) (s:ST) (hO:s.Ok) (hA:eD s.h.A) (hz:0<=s.h.size/\s.h.size<=1024):Spec gT 40 [.ptr 0 0,iq s] (kK b y) [2,3] fun r S'=>r = .tup []/\S'=kK b (mY b s.h y):=by
 have uF:=s.rW hO
 have ca:=gf uF.2.1 hA
 have fU:bX s.h.fr:=uF.1.2.1
 have mn:bX s.h.stub:=uF.1.2.2.2.1
 rw[Ts (iU hA)]
 unfold mY
 generalize cJ s.h.A=t at ca ⊢
 generalize s.h.kind=kd
 generalize s.h.fr=fr at fU ⊢
 generalize s.h.stub=stub at mn ⊢
 generalize s.h.size=sz at hz ⊢
 have he:=fp y.ws hy.ok.wk.words t ca
 have s1:=gy b hb hl y hy.ok fr fU True
 have B1:=hy.step hl (by omega) fU True
 have F1:=(m7 (b:=b) hf fr True).1
 have s2:=gy b hb hl (aK b y fr True) B1.ok stub mn False
 have s3:=gy b hb hl y hy.ok fr fU False
 refine Spec.nQ ao P40 100 Tryz.func40 rfl (by kernel_rfl) ?_
 refine⟨[],az,he.BV [1] (by repeat' first|exact trivial|exact rfl|exact Iff.rfl|exact Or.inl rfl|refine And.intro ?_ ?_) rfl rfl ?_⟩
 have Fy:∀ v,t.bo y.ws=some v->0<=v/\v<=4294967295:=fun v h=>T.eL hy.ok.wk.words ca h
 unfold jQ
 generalize t.bo y.ws=q at Fy ⊢
 cases q with
 | none =>
  refine⟨fun h1=>?_,fun h1=>?_⟩
  ·have eU:0 < sz:=h1
   rw[if_pos ⟨eU,rfl⟩]
   refine⟨fun _=>?_,fun h=>absurd nofun h⟩
   refine Exists.intro [some 0,some 1,some 2,some 3] (Exists.intro [] (Exists.intro (kK b ({ y with ck:=3 })) (And.intro ?_ (And.intro (Nat.le_of_ble_eq_true rfl) (And.intro rfl rfl)))))
   repeat' first|exact trivial|exact rfl|exact Iff.rfl|exact not_false|refine And.intro ?_ ?_
  ·have h0:sz=0:=by have:¬ 0 < sz:=h1; omega
   subst h0
   rw[if_neg (fun k=>h1 k.1),if_pos (.inr ⟨rfl,.inl rfl⟩),if_neg (show ¬ (0:Int) < 0 by decide)]
   refine⟨fun h=>absurd h h1,fun _=>?_⟩
   refine⟨fun _=>?_,fun h=>absurd rfl h⟩
   refine⟨fun _=>?_,fun h=>absurd nofun h⟩
   refine⟨[2,3],jJ (by first|exact .inl (Nat.zero_le _)|exact .inr (by simp)) (by first|exact .inl (Nat.zero_le _)|exact .inr (by simp)) (by rintro b ⟨⟩; nofun) (by rintro b ⟨⟩; nofun),(s1).jF rfl rfl rfl rfl rfl (by first|exact ah rfl rfl|(repeat' first|exact trivial|exact rfl|exact Iff.rfl|exact Or.inl rfl|exact not_false|refine And.intro ?_ ?_)) (And.intro (by first|exact ah rfl rfl|(repeat' first|exact trivial|exact rfl|exact Iff.rfl|exact Or.inl rfl|exact not_false|refine And.intro ?_ ?_)) (And.intro (by first|exact ah rfl rfl|(repeat' first|exact trivial|exact rfl|exact Iff.rfl|exact Or.inl rfl|exact not_false|refine And.intro ?_ ?_)) (And.intro (by first|exact ah rfl rfl|(repeat' first|exact trivial|exact rfl|exact Iff.rfl|exact Or.inl rfl|exact not_false|refine And.intro ?_ ?_)) (And.intro (by first|exact ah rfl rfl|(repeat' first|exact trivial|exact rfl|exact Iff.rfl|exact Or.inl rfl|exact not_false|refine And.intro ?_ ?_)) (And.intro trivial ?_)))))⟩
   refine⟨[2,3],jJ (by first|exact .inl (Nat.zero_le _)|exact .inr (by simp)) (by first|exact .inl (Nat.zero_le _)|exact .inr (by simp)) (by rintro b ⟨⟩; nofun) (by rintro b ⟨⟩; nofun),(s2).jF rfl rfl rfl rfl rfl (by first|exact ah rfl rfl|(repeat' first|exact trivial|exact rfl|exact Iff.rfl|exact Or.inl rfl|exact not_false|refine And.intro ?_ ?_)) (And.intro (by first|exact ah rfl rfl|(repeat' first|exact trivial|exact rfl|exact Iff.rfl|exact Or.inl rfl|exact not_false|refine And.intro ?_ ?_)) (And.intro (by first|exact ah rfl rfl|(repeat' first|exact trivial|exact rfl|exact Iff.rfl|exact Or.inl rfl|exact not_false|refine And.intro ?_ ?_)) (And.intro (by first|exact ah rfl rfl|(repeat' first|exact trivial|exact rfl|exact Iff.rfl|exact Or.inl rfl|exact not_false|refine And.intro ?_ ?_)) (And.intro (by first|exact ah rfl rfl|(repeat' first|exact trivial|exact rfl|exact Iff.rfl|exact Or.inl rfl|exact not_false|refine And.intro ?_ ?_)) (And.intro trivial ?_)))))⟩
   refine⟨fun h=>absurd h (by decide),fun _=>?_⟩
   refine Exists.intro [some 0,some 1,some 2,some 3] (Exists.intro [] (Exists.intro (kK b ({ aK b (aK b y fr True) stub False with ck:=2 })) (And.intro ?_ (And.intro (Nat.le_of_ble_eq_true rfl) (And.intro rfl rfl)))))
   repeat' first|exact trivial|exact rfl|exact Iff.rfl|exact not_false|refine And.intro ?_ ?_
 | some v =>
  have hv:0<=v/\v<=4294967295:=Fy v rfl
  refine⟨fun h1=>?_,fun h1=>?_⟩
  ·have eU:0 < sz:=h1
   refine⟨fun h=>absurd rfl h,fun _=>?_⟩
   refine⟨fun _=>?_,fun h=>absurd h1 h⟩
   refine .inl ⟨ai (by omega),?_⟩
   refine⟨fun h3=>?_,fun h3=>?_⟩
   ·have Kn:max sz 0<=v:=h3
    rw[if_neg (fun k=>nomatch k.2),if_pos (.inl ⟨eU,show sz<=v by omega⟩),if_pos eU]
    refine⟨[2,3],jJ (by first|exact .inl (Nat.zero_le _)|exact .inr (by simp)) (by first|exact .inl (Nat.zero_le _)|exact .inr (by simp)) (by rintro b ⟨⟩; nofun) (by rintro b ⟨⟩; nofun),(s1).jF rfl rfl rfl rfl rfl (by first|exact ah rfl rfl|(repeat' first|exact trivial|exact rfl|exact Iff.rfl|exact Or.inl rfl|exact not_false|refine And.intro ?_ ?_)) (And.intro (by first|exact ah rfl rfl|(repeat' first|exact trivial|exact rfl|exact Iff.rfl|exact Or.inl rfl|exact not_false|refine And.intro ?_ ?_)) (And.intro (by first|exact ah rfl rfl|(repeat' first|exact trivial|exact rfl|exact Iff.rfl|exact Or.inl rfl|exact not_false|refine And.intro ?_ ?_)) (And.intro (by first|exact ah rfl rfl|(repeat' first|exact trivial|exact rfl|exact Iff.rfl|exact Or.inl rfl|exact not_false|refine And.intro ?_ ?_)) (And.intro (by first|exact ah rfl rfl|(repeat' first|exact trivial|exact rfl|exact Iff.rfl|exact Or.inl rfl|exact not_false|refine And.intro ?_ ?_)) (And.intro trivial ?_)))))⟩
    refine⟨[2,3],jJ (by first|exact .inl (Nat.zero_le _)|exact .inr (by simp)) (by first|exact .inl (Nat.zero_le _)|exact .inr (by simp)) (by rintro b ⟨⟩; nofun) (by rintro b ⟨⟩; nofun),(s2).jF rfl rfl rfl rfl rfl (by first|exact ah rfl rfl|(repeat' first|exact trivial|exact rfl|exact Iff.rfl|exact Or.inl rfl|exact not_false|refine And.intro ?_ ?_)) (And.intro (by first|exact ah rfl rfl|(repeat' first|exact trivial|exact rfl|exact Iff.rfl|exact Or.inl rfl|exact not_false|refine And.intro ?_ ?_)) (And.intro (by first|exact ah rfl rfl|(repeat' first|exact trivial|exact rfl|exact Iff.rfl|exact Or.inl rfl|exact not_false|refine And.intro ?_ ?_)) (And.intro (by first|exact ah rfl rfl|(repeat' first|exact trivial|exact rfl|exact Iff.rfl|exact Or.inl rfl|exact not_false|refine And.intro ?_ ?_)) (And.intro (by first|exact ah rfl rfl|(repeat' first|exact trivial|exact rfl|exact Iff.rfl|exact Or.inl rfl|exact not_false|refine And.intro ?_ ?_)) (And.intro trivial ?_)))))⟩
    refine⟨fun _=>?_,fun h=>absurd h1 h⟩
    refine Exists.intro [some 0,some 1,some 2,some 3] (Exists.intro [] (Exists.intro (kK b ({ aK b (aK b y fr True) stub False with ck:=1 })) (And.intro ?_ (And.intro (Nat.le_of_ble_eq_true rfl) (And.intro rfl rfl)))))
    repeat' first|exact trivial|exact rfl|exact Iff.rfl|exact not_false|refine And.intro ?_ ?_
   ·have Kn:¬ max sz 0<=v:=h3
    refine⟨fun h=>absurd h (show ¬ sz=0 by omega),fun _=>?_⟩
    rw[if_neg (fun k=>nomatch k.2),if_neg (fun k=>k.elim (fun k=>absurd (show sz<=v from k.2) (by omega)) (fun k=>absurd k.1 (by omega)))]
    refine⟨[2,3],jJ (by first|exact .inl (Nat.zero_le _)|exact .inr (by simp)) (by first|exact .inl (Nat.zero_le _)|exact .inr (by simp)) (by rintro b ⟨⟩; nofun) (by rintro b ⟨⟩; nofun),(s3).jF rfl rfl rfl rfl rfl (by first|exact ah rfl rfl|(repeat' first|exact trivial|exact rfl|exact Iff.rfl|exact Or.inl rfl|exact not_false|refine And.intro ?_ ?_)) (And.intro (by first|exact ah rfl rfl|(repeat' first|exact trivial|exact rfl|exact Iff.rfl|exact Or.inl rfl|exact not_false|refine And.intro ?_ ?_)) (And.intro (by first|exact ah rfl rfl|(repeat' first|exact trivial|exact rfl|exact Iff.rfl|exact Or.inl rfl|exact not_false|refine And.intro ?_ ?_)) (And.intro (by first|exact ah rfl rfl|(repeat' first|exact trivial|exact rfl|exact Iff.rfl|exact Or.inl rfl|exact not_false|refine And.intro ?_ ?_)) (And.intro (by first|exact ah rfl rfl|(repeat' first|exact trivial|exact rfl|exact Iff.rfl|exact Or.inl rfl|exact not_false|refine And.intro ?_ ?_)) (And.intro trivial ?_)))))⟩
    refine Exists.intro [some 0,some 1,some 2,some 3] (Exists.intro [] (Exists.intro (kK b (aK b y fr False)) (And.intro ?_ (And.intro (Nat.le_of_ble_eq_true rfl) (And.intro rfl rfl)))))
    repeat' first|exact trivial|exact rfl|exact Iff.rfl|exact not_false|refine And.intro ?_ ?_
  ·have h0:sz=0:=by have:¬ 0 < sz:=h1; omega
   subst h0
   rw[if_neg (fun k=>h1 k.1)]
   refine⟨fun h=>absurd h h1,fun _=>?_⟩
   refine⟨fun _=>?_,fun h=>absurd rfl h⟩
   refine⟨fun h=>absurd rfl h,fun _=>?_⟩
   refine⟨fun h4=>?_,fun h4=>?_⟩
   ·have FA:v=0:=h4
    rw[if_pos (.inr ⟨rfl,.inr FA⟩),if_neg (show ¬ (0:Int) < 0 by decide)]
    refine⟨[2,3],jJ (by first|exact .inl (Nat.zero_le _)|exact .inr (by simp)) (by first|exact .inl (Nat.zero_le _)|exact .inr (by simp)) (by rintro b ⟨⟩; nofun) (by rintro b ⟨⟩; nofun),(s1).jF rfl rfl rfl rfl rfl (by first|exact ah rfl rfl|(repeat' first|exact trivial|exact rfl|exact Iff.rfl|exact Or.inl rfl|exact not_false|refine And.intro ?_ ?_)) (And.intro (by first|exact ah rfl rfl|(repeat' first|exact trivial|exact rfl|exact Iff.rfl|exact Or.inl rfl|exact not_false|refine And.intro ?_ ?_)) (And.intro (by first|exact ah rfl rfl|(repeat' first|exact trivial|exact rfl|exact Iff.rfl|exact Or.inl rfl|exact not_false|refine And.intro ?_ ?_)) (And.intro (by first|exact ah rfl rfl|(repeat' first|exact trivial|exact rfl|exact Iff.rfl|exact Or.inl rfl|exact not_false|refine And.intro ?_ ?_)) (And.intro (by first|exact ah rfl rfl|(repeat' first|exact trivial|exact rfl|exact Iff.rfl|exact Or.inl rfl|exact not_false|refine And.intro ?_ ?_)) (And.intro trivial ?_)))))⟩
    refine⟨[2,3],jJ (by first|exact .inl (Nat.zero_le _)|exact .inr (by simp)) (by first|exact .inl (Nat.zero_le _)|exact .inr (by simp)) (by rintro b ⟨⟩; nofun) (by rintro b ⟨⟩; nofun),(s2).jF rfl rfl rfl rfl rfl (by first|exact ah rfl rfl|(repeat' first|exact trivial|exact rfl|exact Iff.rfl|exact Or.inl rfl|exact not_false|refine And.intro ?_ ?_)) (And.intro (by first|exact ah rfl rfl|(repeat' first|exact trivial|exact rfl|exact Iff.rfl|exact Or.inl rfl|exact not_false|refine And.intro ?_ ?_)) (And.intro (by first|exact ah rfl rfl|(repeat' first|exact trivial|exact rfl|exact Iff.rfl|exact Or.inl rfl|exact not_false|refine And.intro ?_ ?_)) (And.intro (by first|exact ah rfl rfl|(repeat' first|exact trivial|exact rfl|exact Iff.rfl|exact Or.inl rfl|exact not_false|refine And.intro ?_ ?_)) (And.intro (by first|exact ah rfl rfl|(repeat' first|exact trivial|exact rfl|exact Iff.rfl|exact Or.inl rfl|exact not_false|refine And.intro ?_ ?_)) (And.intro trivial ?_)))))⟩
    refine⟨fun h=>absurd h (by decide),fun _=>?_⟩
    refine Exists.intro [some 0,some 1,some 2,some 3] (Exists.intro [] (Exists.intro (kK b ({ aK b (aK b y fr True) stub False with ck:=2 })) (And.intro ?_ (And.intro (Nat.le_of_ble_eq_true rfl) (And.intro rfl rfl)))))
    repeat' first|exact trivial|exact rfl|exact Iff.rfl|exact not_false|refine And.intro ?_ ?_
   ·have FA:¬ v=0:=h4
    rw[if_neg (fun k=>k.elim (fun k=>absurd k.1 (by decide)) (fun k=>k.2.elim nofun FA))]
    refine⟨[2,3],jJ (by first|exact .inl (Nat.zero_le _)|exact .inr (by simp)) (by first|exact .inl (Nat.zero_le _)|exact .inr (by simp)) (by rintro b ⟨⟩; nofun) (by rintro b ⟨⟩; nofun),(s3).jF rfl rfl rfl rfl rfl (by first|exact ah rfl rfl|(repeat' first|exact trivial|exact rfl|exact Iff.rfl|exact Or.inl rfl|exact not_false|refine And.intro ?_ ?_)) (And.intro (by first|exact ah rfl rfl|(repeat' first|exact trivial|exact rfl|exact Iff.rfl|exact Or.inl rfl|exact not_false|refine And.intro ?_ ?_)) (And.intro (by first|exact ah rfl rfl|(repeat' first|exact trivial|exact rfl|exact Iff.rfl|exact Or.inl rfl|exact not_false|refine And.intro ?_ ?_)) (And.intro (by first|exact ah rfl rfl|(repeat' first|exact trivial|exact rfl|exact Iff.rfl|exact Or.inl rfl|exact not_false|refine And.intro ?_ ?_)) (And.intro (by first|exact ah rfl rfl|(repeat' first|exact trivial|exact rfl|exact Iff.rfl|exact Or.inl rfl|exact not_false|refine And.intro ?_ ?_)) (And.intro trivial ?_)))))⟩
    refine Exists.intro [some 0,some 1,some 2,some 3] (Exists.intro [] (Exists.intro (kK b (aK b y fr False)) (And.intro ?_ (And.intro (Nat.le_of_ble_eq_true rfl) (And.intro rfl rfl)))))
    repeat' first|exact trivial|exact rfl|exact Iff.rfl|exact not_false|refine And.intro ?_ ?_
variable {b:List Int}
def jK (b:List Int) (l:List ST) (F:WY->WY):Prop:=∀ y,YB b y->Spec gT 18 [.ptr 0 0,.sl 17 (l.map sr)] (kK b y) [2,3] fun r S'=>r = .tup []/\S'=kK b (F y)
def jz (b:List Int) (F:WY->WY):Prop:=∀ y,YB b y->YB b (F y)
theorem YB.R4 {y:WY} (h:YB b y) (n:Int):YB b { y with ck:=n }:=⟨⟨h.ok.fuel,h.ok.len,h.ok.wk,h.ok.Un⟩,h.dv⟩
theorem FI (b:List Int) (hb:pq b) (hl:b.length<=2000) (y:WY) (hy:YB b y) (hf:0<=y.fuel) (s:ST) (hO:s.Ok) (hA:eD s.h.A) (BD EL:WY->WY) (hB:jK b s.bd BD) (hE:jK b s.el EL) (kB:jz b BD):Spec gT 41 [.ptr 0 0,iq s] (kK b y) [2,3] fun r S'=>r = .tup []/\S'=kK b (iu b s.h BD EL y):=by
 have uF:=s.rW hO
 have ca:=gf uF.2.1 hA
 have fU:bX s.h.fr:=uF.1.2.1
 have mn:bX s.h.skip:=uF.1.2.2.2.2.1
 rw[Ts (iU hA)]
 unfold iu
 generalize cJ s.h.A=t at ca ⊢
 generalize s.h.kind=kd
 generalize s.h.fr=fr at fU ⊢
 generalize s.h.skip=skip at mn ⊢
 have he:=fp y.ws hy.ok.wk.words t ca
 have Fy:∀ v,t.bo y.ws=some v->0<=v/\v<=4294967295:=fun v h=>T.eL hy.ok.wk.words ca h
 refine Spec.nQ ao P41 100 Tryz.func41 rfl (by kernel_rfl) ?_
 refine⟨[],az,he.BV [1] (by repeat' first|exact trivial|exact rfl|exact Iff.rfl|exact Or.inl rfl|refine And.intro ?_ ?_) rfl rfl ?_⟩
 unfold jQ
 generalize t.bo y.ws=q at Fy ⊢
 cases q with
 | none =>
  have s1:=gy b hb hl y hy.ok fr fU False
  rw[if_pos rfl]
  refine⟨fun h=>absurd h nofun,fun _=>?_⟩
  refine⟨[2,3],jJ (by first|exact .inl (Nat.zero_le _)|exact .inr (by simp)) (by first|exact .inl (Nat.zero_le _)|exact .inr (by simp)) (by rintro b ⟨⟩; nofun) (by rintro b ⟨⟩; nofun),(s1).jF rfl rfl rfl rfl rfl (by first|exact ah rfl rfl|(repeat' first|exact trivial|exact rfl|exact Iff.rfl|exact Or.inl rfl|exact not_false|refine And.intro ?_ ?_)) (And.intro (by first|exact ah rfl rfl|(repeat' first|exact trivial|exact rfl|exact Iff.rfl|exact Or.inl rfl|exact not_false|refine And.intro ?_ ?_)) (And.intro (by first|exact ah rfl rfl|(repeat' first|exact trivial|exact rfl|exact Iff.rfl|exact Or.inl rfl|exact not_false|refine And.intro ?_ ?_)) (And.intro (by first|exact ah rfl rfl|(repeat' first|exact trivial|exact rfl|exact Iff.rfl|exact Or.inl rfl|exact not_false|refine And.intro ?_ ?_)) (And.intro (by first|exact ah rfl rfl|(repeat' first|exact trivial|exact rfl|exact Iff.rfl|exact Or.inl rfl|exact not_false|refine And.intro ?_ ?_)) (And.intro trivial ?_)))))⟩
  refine⟨fun _=>?_,fun h=>absurd nofun h⟩
  refine Exists.intro [some 0,some 1,some 2,some 3] (Exists.intro [] (Exists.intro (kK b ({ aK b y fr False with ck:=3 })) (And.intro ?_ (And.intro (Nat.le_of_ble_eq_true rfl) (And.intro rfl rfl)))))
  repeat' first|exact trivial|exact rfl|exact Iff.rfl|exact not_false|refine And.intro ?_ ?_
 | some v =>
  have hv:=Fy v rfl
  have s1:=gy b hb hl y hy.ok fr fU (v=0)
  have B1:=hy.step hl (by omega) fU (v=0)
  rw[if_neg nofun]
  refine⟨fun _=>?_,fun h=>absurd rfl h⟩
  refine⟨[2,3],jJ (by first|exact .inl (Nat.zero_le _)|exact .inr (by simp)) (by first|exact .inl (Nat.zero_le _)|exact .inr (by simp)) (by rintro b ⟨⟩; nofun) (by rintro b ⟨⟩; nofun),(s1).jF rfl rfl rfl rfl rfl (by first|exact ah rfl rfl|(repeat' first|exact trivial|exact rfl|exact Iff.rfl|exact Or.inl rfl|exact not_false|refine And.intro ?_ ?_)) (And.intro (by first|exact ah rfl rfl|(repeat' first|exact trivial|exact rfl|exact Iff.rfl|exact Or.inl rfl|exact not_false|refine And.intro ?_ ?_)) (And.intro (by first|exact ah rfl rfl|(repeat' first|exact trivial|exact rfl|exact Iff.rfl|exact Or.inl rfl|exact not_false|refine And.intro ?_ ?_)) (And.intro (by first|exact ah rfl rfl|(repeat' first|exact trivial|exact rfl|exact Iff.rfl|exact Or.inl rfl|exact not_false|refine And.intro ?_ ?_)) (And.intro (by first|exact ah rfl rfl|(repeat' first|exact trivial|exact rfl|exact Iff.rfl|exact Or.inl rfl|exact not_false|refine And.intro ?_ ?_)) (And.intro trivial ?_)))))⟩
  refine⟨fun h=>absurd rfl h,fun _=>?_⟩
  refine⟨fun h1=>?_,fun h1=>?_⟩
  ·have eU:v=0:=h1
   have e1:(v=0)=True:=propext ⟨fun _=>trivial,fun _=>eU⟩
   rw[if_pos (show (some v).getD 0=0 from eU)]
   rw[e1] at B1 ⊢
   refine⟨[2,3],jJ (by first|exact .inl (Nat.zero_le _)|exact .inr (by simp)) (by first|exact .inl (Nat.zero_le _)|exact .inr (by simp)) (by rintro b ⟨⟩; nofun) (by rintro b ⟨⟩; nofun),(hE _ B1).jF rfl rfl rfl rfl rfl (by first|exact ah rfl rfl|(repeat' first|exact trivial|exact rfl|exact Iff.rfl|exact Or.inl rfl|exact not_false|refine And.intro ?_ ?_)) (And.intro (by first|exact ah rfl rfl|(repeat' first|exact trivial|exact rfl|exact Iff.rfl|exact Or.inl rfl|exact not_false|refine And.intro ?_ ?_)) (And.intro (by first|exact ah rfl rfl|(repeat' first|exact trivial|exact rfl|exact Iff.rfl|exact Or.inl rfl|exact not_false|refine And.intro ?_ ?_)) (And.intro (by first|exact ah rfl rfl|(repeat' first|exact trivial|exact rfl|exact Iff.rfl|exact Or.inl rfl|exact not_false|refine And.intro ?_ ?_)) (And.intro (by first|exact ah rfl rfl|(repeat' first|exact trivial|exact rfl|exact Iff.rfl|exact Or.inl rfl|exact not_false|refine And.intro ?_ ?_)) (And.intro trivial ?_)))))⟩
   refine Exists.intro [some 0,some 1,some 2,some 3] (Exists.intro [] (Exists.intro (kK b (EL (aK b y fr True))) (And.intro ?_ (And.intro (Nat.le_of_ble_eq_true rfl) (And.intro rfl rfl)))))
   repeat' first|exact trivial|exact rfl|exact Iff.rfl|exact not_false|refine And.intro ?_ ?_
  ·have eU:¬ v=0:=h1
   have e1:(v=0)=False:=propext ⟨fun k=>eU k,fun k=>k.elim⟩
   rw[if_neg (show ¬ (some v).getD 0=0 from eU)]
   rw[e1] at B1 ⊢
   refine⟨[2,3],jJ (by first|exact .inl (Nat.zero_le _)|exact .inr (by simp)) (by first|exact .inl (Nat.zero_le _)|exact .inr (by simp)) (by rintro b ⟨⟩; nofun) (by rintro b ⟨⟩; nofun),(hB _ B1).jF rfl rfl rfl rfl rfl (by first|exact ah rfl rfl|(repeat' first|exact trivial|exact rfl|exact Iff.rfl|exact Or.inl rfl|exact not_false|refine And.intro ?_ ?_)) (And.intro (by first|exact ah rfl rfl|(repeat' first|exact trivial|exact rfl|exact Iff.rfl|exact Or.inl rfl|exact not_false|refine And.intro ?_ ?_)) (And.intro (by first|exact ah rfl rfl|(repeat' first|exact trivial|exact rfl|exact Iff.rfl|exact Or.inl rfl|exact not_false|refine And.intro ?_ ?_)) (And.intro (by first|exact ah rfl rfl|(repeat' first|exact trivial|exact rfl|exact Iff.rfl|exact Or.inl rfl|exact not_false|refine And.intro ?_ ?_)) (And.intro (by first|exact ah rfl rfl|(repeat' first|exact trivial|exact rfl|exact Iff.rfl|exact Or.inl rfl|exact not_false|refine And.intro ?_ ?_)) (And.intro trivial ?_)))))⟩
   have B2:=kB _ B1
   generalize BD (aK b y fr False)=y2 at B2 ⊢
   have s2:=gy b hb hl y2 B2.ok skip mn True
   refine⟨fun h2=>?_,fun h2=>?_⟩
   ·have xS:0<=skip:=h2
    refine (iy b y2).e ?_
    refine⟨fun h3=>?_,fun h3=>?_⟩
    ·rw[if_pos ⟨xS,h3⟩]
     refine⟨[2,3],jJ (by first|exact .inl (Nat.zero_le _)|exact .inr (by simp)) (by first|exact .inl (Nat.zero_le _)|exact .inr (by simp)) (by rintro b ⟨⟩; nofun) (by rintro b ⟨⟩; nofun),(s2).jF rfl rfl rfl rfl rfl (by first|exact ah rfl rfl|(repeat' first|exact trivial|exact rfl|exact Iff.rfl|exact Or.inl rfl|exact not_false|refine And.intro ?_ ?_)) (And.intro (by first|exact ah rfl rfl|(repeat' first|exact trivial|exact rfl|exact Iff.rfl|exact Or.inl rfl|exact not_false|refine And.intro ?_ ?_)) (And.intro (by first|exact ah rfl rfl|(repeat' first|exact trivial|exact rfl|exact Iff.rfl|exact Or.inl rfl|exact not_false|refine And.intro ?_ ?_)) (And.intro (by first|exact ah rfl rfl|(repeat' first|exact trivial|exact rfl|exact Iff.rfl|exact Or.inl rfl|exact not_false|refine And.intro ?_ ?_)) (And.intro (by first|exact ah rfl rfl|(repeat' first|exact trivial|exact rfl|exact Iff.rfl|exact Or.inl rfl|exact not_false|refine And.intro ?_ ?_)) (And.intro trivial ?_)))))⟩
     refine Exists.intro [some 0,some 1,some 2,some 3] (Exists.intro [] (Exists.intro (kK b (aK b y2 skip True)) (And.intro ?_ (And.intro (Nat.le_of_ble_eq_true rfl) (And.intro rfl rfl)))))
     repeat' first|exact trivial|exact rfl|exact Iff.rfl|exact not_false|refine And.intro ?_ ?_
    ·rw[if_neg (fun k=>h3 k.2)]
     refine Exists.intro [some 0,some 1,some 2,some 3] (Exists.intro [] (Exists.intro (kK b (y2)) (And.intro ?_ (And.intro (Nat.le_of_ble_eq_true rfl) (And.intro rfl rfl)))))
     repeat' first|exact trivial|exact rfl|exact Iff.rfl|exact not_false|refine And.intro ?_ ?_
   ·rw[if_neg (fun k=>h2 k.1)]
    refine Exists.intro [some 0,some 1,some 2,some 3] (Exists.intro [] (Exists.intro (kK b (y2)) (And.intro ?_ (And.intro (Nat.le_of_ble_eq_true rfl) (And.intro rfl rfl)))))
    repeat' first|exact trivial|exact rfl|exact Iff.rfl|exact not_false|refine And.intro ?_ ?_
end Go.Proofs.YtnbhdacpogplgaaGreatDoor.Pw

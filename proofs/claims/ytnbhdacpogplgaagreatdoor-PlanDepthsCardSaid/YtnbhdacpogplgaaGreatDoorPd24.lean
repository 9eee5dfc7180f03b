/- What this claim is proved with: no condition. -/
import Derived.Test.YtnbhdacpogplgaaGreatDoorPd23
import Derived.Test.YtnbhdacpogplgaaGreatDoorRows
import Derived.Test.YtnbhdacpogplgaaGreatDoorPd21
import Derived.Test.YtnbhdacpogplgaaGreatDoorPd9
import Derived.ProofKit
import Derived.LaidMore
import Derived.OpenShut
import Derived.Stop.Joined
import Derived.Lib.LaidTab
import Derived.Test.YtnbhdacpogplgaaGreatDoorPd12
set_option maxRecDepth 100000
set_option maxHeartbeats 8000000
set_option linter.unusedVariables false
set_option linter.unusedSimpArgs false
namespace Go.Proofs.YtnbhdacpogplgaaGreatDoor.Pw
open Go Go.RowKit
theorem wD (c:C) (hT:c.qC MT) (hT2:c.qC fun t=>t.size<=1000000) (hN:cN c<=1000000):ai gT 23 [bo c] (.bool (cN c<=16384/\iS c=true)):=by
 refine Spec.enter al ZK 100 Tryz.func23 rfl (by kernel_rfl) ?_
 refine (yI c hT2 hN).u ?_
 refine⟨fun h=>?_,fun h=>?_⟩
 ·refine (ub c hT hN).u ?_
  refine aj ?_
  exact (show iS c=true↔_ from ⟨fun hh=>⟨by omega,hh⟩,fun hh=>hh.2⟩)
 ·refine aj ?_
  exact (show ¬ (cN c<=16384/\iS c=true) from fun hh=>h (show (cN c:Int)<=16384 by omega))
open Classical in
theorem BY (b:List Int) (hb:oK b) (hl:b.length<=2000) (w:WK) (hI:ck w.at_) (he:w.e=0) (a t:Int):Spec gT 21 [.ptr 0 0,.sl 17 [BT (lF a t)]] [eC b w] [] fun y S'=>y=bo (ba [j1 b w a t])/\S' = [eC b (iN b w a t)]:=by
 have hs:=FC b hb hl w hI a t
 have hj:=FD (Je.one hl hI a t)
 generalize j1 b w a t=c at *
 generalize iN b w a t=w2 at *
 refine Spec.rT (Spec.enter al VA 100 Tryz.func21 rfl (by kernel_rfl) ?_)
 refine fun _=>?_
 refine SW.rounds al VA (by kernel_rfl) (N:=60) 3 ?_
 refine⟨fun _=>?_,fun h=>absurd (show (0:Int) < 1 by decide) h⟩
 refine⟨PV,[BT (lF a t)],id,rfl,Int.le_refl _,(show (0:Int) < 1 by decide),fun x hx=>?_⟩
 obtain rfl:BT (lF a t)=x:=by cases hx; rfl
 refine⟨fun h=>absurd he h,fun _=>?_⟩
 refine (hs).e ?_
 refine⟨fun h=>absurd (show (1:Int) < 1 from h) (by decide),fun _=>?_⟩
 refine⟨[],av,hj.eT [4] rfl (by repeat' first|exact trivial|exact rfl|exact Iff.rfl|exact Or.inl rfl|refine And.intro ?_ ?_) rfl rfl ?_⟩
 exact rS
def kL (a:Int):WK:=⟨a,False,0,False,False,0⟩
theorem BZ (b:List Int) (hb:oK b) (hl:b.length<=2000) (a t:Int) (hI:ck a) (he:(iN b (kL a) a t).e=0) (UT:(iN b (kL a) a t).last) {cy mi:Int} (h0:0 < cy/\0<=mi/\cy<=2147483647/\mi<=2147483647) (hc:j1 b (kL a) a t=aE cy mi):ai gT 7 [.sl 1 (mz b),.int .i64 a,.sl 17 [BT (lF a t)]] (.tup [bo (aE cy mi),.int .i64 (iN b (kL a) a t).at_,.int .i64 0]):=by
 have hs:=BY b hb hl (kL a) hI rfl a t
 rw[hc,qz h0.1] at hs
 have hr:ai gT 23 [bo (aE cy mi)] (.bool (cN (aE cy mi)<=16384/\iS (aE cy mi)=true)):=wD (aE cy mi) ⟨.zero,.zero,trivial⟩ ⟨by decide,by decide,trivial⟩ (show 1<=1000000 by decide)
 generalize iN b (kL a) a t=w2 at *
 refine Spec.enter al P7 100 Tryz.func7 rfl (by kernel_rfl) ?_
 refine⟨[],av,(hs).vW [1] rfl rfl rfl (by repeat' first|exact trivial|exact rfl|exact Iff.rfl|refine And.intro ?_ ?_) (And.intro (by first|(show dR _ _; exact da rfl rfl)|(repeat' first|exact trivial|exact rfl|exact Iff.rfl|exact Or.inl rfl|exact not_false|refine And.intro ?_ ?_)) ?_)⟩
 refine⟨fun h1=>fun _=>And.intro (fun _=>?_) (fun h=>absurd (show (0:Int) < 1 by decide) h),fun h1=>absurd UT h1⟩
 refine fun _=>?_
 refine li ?_ (show _<=(1:Int) - 1/\(1:Int) - 1<=_ by omega)
 refine⟨PV,[BT (lF a t)],id,rfl,(show (0:Int)<=max (1 - 1) 0 by decide),(show max ((1:Int) - 1) 0 < 1 by decide),fun x hx=>?_⟩
 obtain rfl:BT (lF a t)=x:=by cases hx; rfl
 refine⟨[],av,(mF b w2).vW [1] rfl rfl rfl (by repeat' first|exact trivial|exact rfl|exact Iff.rfl|refine And.intro ?_ ?_) (And.intro (by first|(show dR _ _; exact da rfl rfl)|(repeat' first|exact trivial|exact rfl|exact Iff.rfl|exact Or.inl rfl|exact not_false|refine And.intro ?_ ?_)) ?_)⟩
 refine⟨fun h=>absurd he h,fun _=>?_⟩
 refine hr.u ?_
 have hsh:iS (aE cy mi)=true:=by
  have e:v_ 1 cy mi 0 0=true:=by
   unfold v_ BL
   simp
   omega
  unfold aE iS
  rw[e]
  decide
 refine⟨fun h=>absurd (show cN (aE cy mi)<=16384/\iS (aE cy mi)=true from ⟨(show 1<=16384 by decide),hsh⟩) h,fun _=>?_⟩
 exact rA
open Classical in
theorem nE {w:WK} {p:Prop} (h:w.e=201):(aC w p).e=201:=by
 unfold aC
 show (if p then w.e else 201)=201
 split
 ·exact h
 ·rfl
theorem mH {w:WK} {p:Prop} (h:¬ p):(aC w p).e=201:=by rw[cX h]
theorem sF {b:List Int} {w:WK} (h:w.e=201\/eA b w.at_≠0):(dt b w).e=201:=by
 have h1:(aC w (eA b w.at_=0)).e=201:=by
  rcases h with h|h
  ·exact nE h
  ·exact mH h
 unfold dt
 rw[if_pos (show (aC w (eA b w.at_=0)).e≠0 by rw[h1]; decide)]
 exact h1
def uc (b:List Int) (x:eY):Prop:=x.w.last\/eA b x.w.at_≠0\/BS (iA b x.w.at_).form\/(iA b x.w.at_).form=45\/(iA b x.w.at_).form=97
theorem yJ {b:List Int} {x:eY} (hd:x.aN = []):(bJ b x).aN = []:=by
 unfold bJ
 simp only
 split
 ·exact hd
 ·rw[hd]
theorem B0 {b:List Int} {x:eY} (hd:x.aN = []) (h:uc b x):(bJ b x).w.e=201:=by
 have key:¬ (iA b x.w.at_).form=97->(aC (dt b (aC x.w (¬ x.w.last))) (¬ BS (iA b x.w.at_).form/\(iA b x.w.at_).form≠45)).e=201:=fun Gz=>by
  rcases h with h|h|h|h|h
  ·exact nE (sF (.inl (mH fun k=>k h)))
  ·exact nE (sF (.inr h))
  ·exact mH fun k=>k.1 h
  ·exact mH fun k=>k.2 h
  ·exact absurd h Gz
 unfold bJ
 simp only
 split
 ·rename_i Gz
  exact key Gz
 ·rw[hd]
theorem lI {b:List Int} {x:eY} (he:x.w.e=0) (hd:x.aN = []) (hf:¬ x.w.bN) (h:¬ uc b x):bJ b x=⟨⟨x.w.at_+aY (iA b x.w.at_).form,True,v8 (134217728+x.w.at_) (aY (iA b x.w.at_).form),False,dT (iA b x.w.at_),0⟩,x.out++[aE (dU b x.w.at_) (fk x.w x.w.at_ (aY (iA b x.w.at_).form))],[]⟩:=by
 unfold uc at h
 have h1:¬ x.w.last:=fun k=>h (.inl k)
 have h2:eA b x.w.at_=0:=Classical.not_not.1 fun k=>h (.inr (.inl k))
 have h3:¬ BS (iA b x.w.at_).form/\(iA b x.w.at_).form≠45:=⟨fun k=>h (.inr (.inr (.inl k))),fun k=>h (.inr (.inr (.inr (.inl k))))⟩
 have h4:(iA b x.w.at_).form≠97:=fun k=>h (.inr (.inr (.inr (.inr k))))
 have hn:¬ (aC x.w (eA b x.w.at_=0)).e≠0:=fun k=>k (by rw[bR h2]; exact he)
 have e1:dt b x.w = { yB x.w x.w.at_ (aY (iA b x.w.at_).form) with bN:=False,at_:=x.w.at_+aY (iA b x.w.at_).form }:=by
  unfold dt
  rw[if_neg hn,if_neg hf]
 have e2:eX b x.w=fk x.w x.w.at_ (aY (iA b x.w.at_).form):=by
  unfold eX
  rw[if_neg hn,if_neg hf]
 unfold bJ
 simp only
 rw[if_pos h4,bR h1,bR h3,e1,e2,hd]
 unfold yB
 rw[he]
theorem sG {b:List Int} {t:Int} {x:eY} (h:¬ (x.w.at_ < t/\x.w.e=0)):∀ n,runN b t n x=x
 | 0=>rfl
 | n+1=>by rw[runN,if_neg h]
structure qF (b:List Int) (t:Int) (R:eY) (a0:Int) where
 x:eY
 n:Nat
 jI:we t x < n
 eq:runN b t n x=R
 e:x.w.e=0
 aN:x.aN = []
 YD:¬ x.w.bN
 l:List (Int × Int)
 out:x.out=kT l
 bd:∀ p∈l,(1<=p.1/\p.1<=20)/\0<=p.2/\p.2<=2
 a:a0<=x.w.at_/\0<=a0/\x.w.at_ - a0<=b.length+4/\2*l.length<=x.w.at_ - a0/\(x.w.at_≠a0->l≠[])
theorem qF.stop {b:List Int} {t:Int} {R:eY} {a0:Int} (r:qF b t R a0) (h:¬ r.x.w.at_ < t):R=r.x:=by
 exact r.eq.symm.trans (sG (fun k=>h k.1) _)
theorem qF.bad {b:List Int} {t:Int} {R:eY} {a0:Int} (r:qF b t R a0) (h:r.x.w.at_ < t) (hb:uc b r.x):R.w.e=201/\R.aN = []:=by
 have h1:=B0 r.aN hb
 have h2:R=bJ b r.x:=by
  have hf:=r.jI
  obtain⟨k,hk⟩:∃ k,r.n=k+1:=⟨r.n - 1,by omega⟩
  have e:=r.eq
  rw[hk,runN,if_pos ⟨h,r.e⟩] at e
  refine e.symm.trans ?_
  split
  ·rfl
  ·exact sG (fun k=>by rw[h1] at k; exact absurd k.2 (by decide)) _
 rw[h2]
 exact⟨h1,yJ r.aN⟩
theorem B1 {b:List Int} {n:Int} (h:eA b n=0):1<=dU b n/\dU b n<=20:=by
 obtain⟨_,hr,hi⟩:=bz h
 have:=dA hr hi
 unfold dU
 rw[if_pos h]
 exact wc _ _ (by unfold cA; omega) (by unfold cA; omega) this.1 this.2
noncomputable def oe (b:List Int) (x:eY):Int × Int:=(dU b x.w.at_,fk x.w x.w.at_ (aY (iA b x.w.at_).form))
theorem qF.next {b:List Int} {t:Int} {R:eY} {a0:Int} (r:qF b t R a0) (h:r.x.w.at_ < t) (hb:¬ uc b r.x):∃ r':qF b t R a0,r'.x=bJ b r.x/\r'.l=r.l++[oe b r.x]/\r'.n < r.n:=by
 have he:eA b r.x.w.at_=0:=Classical.not_not.1 fun k=>hb (.inr (.inl k))
 have hg:=lI r.e r.aN r.YD hb
 have hf:=r.jI
 have hp:=B1 he
 have hm:=iT r.x.w r.x.w.at_ (aY (iA b r.x.w.at_).form)
 obtain⟨⟨p1,p2⟩,p3,_⟩:=bz he
 have hs:=eW p3
 have ha:=r.a
 have Jd:=sC (b:=b) (till:=t) (x:=r.x) ⟨h,r.e⟩
 have hlen:(r.l++[oe b r.x]).length=r.l.length+1:=by rw[List.length_append,List.length_singleton]
 have hw:(bJ b r.x).w.at_=r.x.w.at_+aY (iA b r.x.w.at_).form:=by rw[hg]
 refine⟨⟨bJ b r.x,r.n - 1,by omega,?_,by rw[hg],by rw[hg],by rw[hg]; exact id,r.l++[oe b r.x],?_,?_,?_⟩,rfl,rfl,by show r.n - 1 < r.n; omega⟩
 ·obtain⟨k,hk⟩:∃ k,r.n=k+1:=⟨r.n - 1,by omega⟩
  have e:=r.eq
  rw[hk] at e ⊢
  rw[runN,if_pos ⟨h,r.e⟩,if_neg (show ¬ yD b r.x from fun k=>hb (.inr (.inr (.inr (.inr k.1)))))] at e
  exact e
 ·rw[hg,r.out]
  unfold kT oe
  rw[List.map_append]
  rfl
 ·intro p dk
  rcases List.mem_append.1 dk with dk|dk
  ·exact r.bd p dk
  ·rw[List.mem_singleton] at dk
   rw[dk]
   exact⟨hp,hm⟩
 ·rw[hlen,hw]
  refine⟨by omega,ha.2.1,by omega,by omega,fun _ k=>?_⟩
  rw[k] at hlen
  cases hlen
theorem Ad:∀ {l:List (Int × Int)},(∀ p∈l,(1<=p.1/\p.1<=20)/\0<=p.2/\p.2<=2)->(l.length<=(l.map (·.1)).sum/\(l.map (·.1)).sum<=20*l.length)/\0<=(l.map (·.2)).sum/\(l.map (·.2)).sum<=2*l.length
 | [],_=>by simp
 | p::l,h=>by
  have h1:=Ad (l:=l) fun q hq=>h q (List.mem_cons_of_mem _ hq)
  have h2:=h p (List.mem_cons_self ..)
  simp only[List.map_cons,List.sum_cons,List.length_cons]
  omega
noncomputable def lJ (b:List Int) (a t:Int):eY:=nC b (kL a) t []
noncomputable def YE (b:List Int) (a t:Int) (h0:0<=a):qF b t (lJ b a t) a:=⟨⟨kL a,[],[]⟩,(t - a).toNat+1,by
  unfold we
  rw[if_pos (show (kL a).e=0 from rfl)]
  show (t - a).toNat < _; omega,rfl,rfl,rfl,fun k=>k,[],rfl,(fun p hp=>by cases hp),⟨Int.le_refl _,h0,by show a - a<=_; omega,by show 2*(([]:List (Int × Int)).length:Int)<=a - a; simp,fun k=>absurd rfl k⟩⟩
theorem Jh (a t:Int) (h:a < t):fl (kL a) a t=kL a:=by
 unfold fl
 exact bR ⟨rfl,h,fun k=>k⟩
theorem Ji (b:List Int) (a t:Int) (h:a < t):j1 b (kL a) a t=ba (lJ b a t).out/\iN b (kL a) a t=aC (aC (lJ b a t).w ((lJ b a t).aN = [])) ((lJ b a t).w.at_=t):=by
 unfold j1 iN
 rw[Jh a t h,if_neg (show ¬ (kL a).e≠0 from fun k=>k rfl),if_neg (show ¬ (kL a).e≠0 from fun k=>k rfl)]
 exact⟨rfl,rfl⟩
theorem FJ (b:List Int) (a t:Int) (h:a < t) (r:qF b t (lJ b a t) a) (hx:r.x=lJ b a t) (hR:(lJ b a t).w.at_=t/\(lJ b a t).w.last):iN b (kL a) a t=(lJ b a t).w/\j1 b (kL a) a t=aE (r.l.map (·.1)).sum (r.l.map (·.2)).sum/\0 < (r.l.map (·.1)).sum:=by
 have hs:=Ad r.bd
 have ha:=r.a
 rw[hx] at ha
 have hl:r.l≠[]:=ha.2.2.2.2 (by rw[hR.1]; omega)
 have iz:0 < r.l.length:=List.length_pos_iff.2 hl
 have ho:=r.out
 rw[hx] at ho
 have hd:=r.aN
 rw[hx] at hd
 obtain⟨h1,h2⟩:=Ji b a t h
 rw[h1,h2,bR hd,bR hR.1,ho]
 exact⟨rfl,wq (by omega),by omega⟩
theorem sH {b:List Int} {n:Nat} {i:IN} (h:bD i) (hg:i.an<=9223372036854775807) (hn:¬ 48<=i.form) (hl:n+2<=b.length) (hw:hN b n=cl i) (hb:¬ fY (cl i)):iA b n=i/\eA b n=0:=by
 have fst:=IY i h hg
 have bk:=back i h hg
 have e:(48<=i.form)=False:=eq_false hn
 rw[e] at fst
 unfold iA eA
 rw[if_pos (by omega),if_pos (by omega),Int.toNat_natCast]
 unfold CB CC
 rw[if_neg (by omega),hw,if_pos hb,if_neg (by omega),if_pos hb,tW fst,yv fst]
 exact⟨bk,rfl⟩
def wF:IN:=⟨42,0,0,0,0,0,0,0,0,0,16624⟩
def wG:IN:=⟨43,0,0,0,0,0,0,0,0,0,33008⟩
def sI:List Int:=[240,181,240,189]
theorem FK:bD wF:=by
 show aH _ (cW (af 42))
 rw[show af 42=11 by decide,show cW 11 = {j4 with an:=16639} from rfl]
 refine⟨by decide,.inr (.inr (.inr (by decide))),.inr (.inr (.inr (by decide))),.inr (.inr (.inr (by decide))),.inr (.inr (.inr (by decide))),by unfold fW; decide +kernel,.inl rfl,.inl (by decide),.inl rfl,.inr ⟨Bool.false_ne_true,rfl,.inl (by decide)⟩,?_⟩
 refine⟨by decide,by decide,by decide,by decide,?_⟩
 show af 42=18\/af 42=19\/af 42=20->_
 rw[show af 42=11 by decide]
 exact fun h=>absurd h (by decide)
theorem FM:bD wG:=by
 show aH _ (cW (af 43))
 rw[show af 43=12 by decide,show cW 12 = {j4 with an:=33023} from rfl]
 refine⟨by decide,.inr (.inr (.inr (by decide))),.inr (.inr (.inr (by decide))),.inr (.inr (.inr (by decide))),.inr (.inr (.inr (by decide))),by unfold fW; decide +kernel,.inl rfl,.inl (by decide),.inl rfl,.inr ⟨Bool.false_ne_true,rfl,.inl (by decide)⟩,?_⟩
 refine⟨by decide,by decide,by decide,by decide,?_⟩
 show af 43=18\/af 43=19\/af 43=20->_
 rw[show af 43=12 by decide]
 exact fun h=>absurd h (by decide)
theorem Ae:cl wF=46576:=by decide +kernel
theorem Af:cl wG=48624:=by decide +kernel
theorem sJ:iA sI 0=wF/\eA sI 0=0:=sH (n:=0) FK (by decide) (by decide) (by decide) (by rw[Ae]; decide) (by rw[Ae]; unfold fY; decide)
theorem sK:iA sI 2=wG/\eA sI 2=0:=sH (n:=2) FM (by decide) (by decide) (by decide) (by rw[Af]; decide) (by rw[Af]; unfold fY; decide)
theorem FN:∀ n:Int,0<=n->n<=65535->(BI n↔32768<=n):=by
 intro n h0 h1
 unfold BI
 rw[show Ev.aG .i64 15=32768 by decide]
 by_cases h:32768<=n
 ·rw[show n / 32768=1 by omega]
  exact⟨fun _=>h,fun _=>by decide⟩
 ·rw[show n / 32768=0 by omega]
  exact⟨fun k=>absurd k (by decide),fun k=>absurd k h⟩
theorem Ag:dU sI 0=6:=by unfold dU; rw[sJ.1,if_pos sJ.2]; decide +kernel
theorem Ah:dU sI 2=8:=by unfold dU; rw[sK.1,if_pos sK.2]; decide +kernel
theorem FO:∃ r:qF sI 4 (lJ sI 0 4) 0,r.x=lJ sI 0 4/\(lJ sI 0 4).w.at_=4/\(lJ sI 0 4).w.last/\(r.l.map (·.1)).sum=14/\(r.l.map (·.2)).sum=1:=by
 obtain⟨r0,xQ⟩:∃ r0:qF sI 4 (lJ sI 0 4) 0,r0.x=⟨kL 0,[],[]⟩/\r0.l = []:=⟨YE sI 0 4 (by decide),rfl,rfl⟩
 have a0:r0.x.w.at_=0:=by rw[xQ.1]; rfl
 have n0:¬ uc sI r0.x:=by
  unfold uc
  rw[a0,sJ.1,sJ.2,xQ.1]
  rintro (h|h|h|h|h)
  ·exact h
  ·exact h rfl
  ·revert h; unfold BS wF; decide
  ·revert h; unfold wF; decide
  ·revert h; unfold wF; decide
 obtain⟨r1,h1,l1,_⟩:=r0.next (by rw[a0]; decide) n0
 have g1:=lI r0.e r0.aN r0.YD n0
 rw[a0,sJ.1,Ag] at g1
 rw[← h1] at g1
 have a1:r1.x.w.at_=2:=by rw[g1]; rfl
 have n1:¬ uc sI r1.x:=by
  unfold uc
  rw[a1,sK.1,sK.2,g1]
  rintro (h|h|h|h|h)
  ·exact absurd (show (42:Int)=43 from h.1) (by decide)
  ·exact h rfl
  ·revert h; unfold BS wG; decide
  ·revert h; unfold wG; decide
  ·revert h; unfold wG; decide
 obtain⟨r2,h2,l2,_⟩:=r1.next (by rw[a1]; decide) n1
 have g2:=lI r1.e r1.aN r1.YD n1
 rw[a1,sK.1,Ah] at g2
 rw[← h2] at g2
 have a2:r2.x.w.at_=4:=by rw[g2]; rfl
 have hs:=r2.stop (by rw[a2]; decide)
 have ls:dT wG:=⟨rfl,(FN 33008 (by decide) (by decide)).2 (by decide)⟩
 have m0:oe sI r0.x=(6,1):=by
  unfold oe fk qj eU
  rw[a0,sJ.1,Ag,xQ.1,if_pos (show aY wF.form=2 by decide),if_neg (fun k=>k.1)]
 have m1:oe sI r1.x=(8,0):=by
  unfold oe fk qj eU
  rw[a1,sK.1,Ah,g1,if_pos (show aY wG.form=2 by decide),if_pos ⟨trivial,show v8 (134217728+0) (aY wF.form)=eF (134217728+2) by decide⟩]
 refine⟨r2,hs.symm,by rw[hs,a2],by rw[hs,g2]; exact ls,?_,?_⟩
 ·rw[l2,l1,xQ.2,m0,m1]; decide
 ·rw[l2,l1,xQ.2,m0,m1]; decide
def lSF (a t:Int):List PV:=[.int .i64 1,.int .i64 a,.int .i64 t,.int .i64 0,.int .i64 (-1),.int .i64 0,.int .i64 0,.int .i64 0,.int .u32 0,.nil,.int .i64 0,.int .u32 0,.nil,.nil,.nil,.nil,.nil]
theorem UU (a t:Int):kp pI (lSF a t) (Yr (lF a t)):=by
 repeat' first|exact trivial|exact rfl|exact Or.inl rfl|refine And.intro ?_ ?_
theorem YF {f:FuncId} {a t:Int} {b:List Int} {y:PV} (h:ai gT f [.sl 1 (mz b),.int .i64 a,.sl 17 [BT (lF a t)]] y):ai gT f [.sl 1 (mz b),.int .i64 a,.sl 17 [.agg (lSF a t)]] y :=
 Spec.E1 h ⟨pJ.refl _,pJ.refl _,Kf ⟨UU a t,trivial⟩,trivial⟩
theorem rk:ai gT 6 [] .tt:=by
 obtain⟨r,hx,AL,hla,s1,s2⟩:=FO
 obtain⟨g1,g2,g3⟩:=FJ sI 0 4 (by decide) r hx ⟨AL,hla⟩
 have he:=r.e
 rw[hx] at he
 rw[s1,s2] at g2
 have hc:=(BZ sI (by intro x hx; revert x; decide) (by decide) 0 4 ⟨by decide,by decide⟩ (by rw[g1]; exact he) (by rw[g1]; exact hla) ⟨by decide,by decide,by decide,by decide⟩ g2)
 rw[g1,AL] at hc
 have hc:=YF hc
 refine Spec.enter al P6 100 Tryz.func6 rfl (by kernel_rfl) ?_
 refine⟨[],av,hc.eT [0,1] rfl (And.intro (Or.inr (And.intro rfl rfl)) (And.intro rfl (And.intro (Or.inl rfl) trivial))) rfl rfl ?_⟩
 refine⟨fun _=>And.intro (fun _=>?_) (fun h=>absurd (rfl:(4:Int)=4) h),fun h=>absurd (rfl:(0:Int)=0) h⟩
 refine (bu 14 1).u ?_
 refine (yy (aE 14 1) (aE 14 1)).u ?_
 refine aj ?_
 exact rfl
end Go.Proofs.YtnbhdacpogplgaaGreatDoor.Pw
namespace Go.Proofs.YtnbhdacpogplgaaGreatDoor.fF
open Go.ChangeShapes Go.WideShapes Go.ChangeAt Go.RowKit Go.Deep
def iW:List (String × DataW Unit):=[("remontoire/imm.factors",Rows.laid_remontoire_imm_factors),("remontoire/inst.shapes",Rows.laid_remontoire_inst_shapes),("remontoire/cost.rules",Rows.laid_remontoire_cost_rules)]
def fuel:Nat:=3000
theorem FP (os:Os) (args:Array Value):laidMetH Tryz.prog iW ((World.doorLaid Tryz.prog fuel os).forCall (fun _ _=>0) ⟨#[],args,[]⟩).memory :=
 laidMetH_of_parts3 (fuel:=8) (laidMet_of_run' 8 (by kernel_rfl) (by kernel_rfl)) (by kernel_rfl) (by kernel_rfl)
end Go.Proofs.YtnbhdacpogplgaaGreatDoor.fF
namespace Go.Proofs.YtnbhdacpogplgaaGreatDoor.Pw
open Go Go.RowKit
theorem Jj {W:World} (h:laidMetH Tryz.prog fF.iW W):cL gT (In W) W :=
 xU (laid:=fF.iW) (by kernel_rfl) h fun x hx=>by
  have dp:x∈[(2,Lc),(1,ZB),(0,DJ)]:=hx
  simp only[List.mem_cons,List.not_mem_nil,or_false] at dp
  rcases dp with rfl|rfl|rfl
  ·exact⟨"remontoire/imm.factors",_,165,List.mem_cons_self,by kernel_rfl,by kernel_rfl,by kernel_rfl,nofun⟩
  ·exact⟨"remontoire/inst.shapes",_,138,List.mem_cons_of_mem _ List.mem_cons_self,by kernel_rfl,by kernel_rfl,by kernel_rfl,nofun⟩
  ·exact⟨"remontoire/cost.rules",_,129,List.mem_cons_of_mem _ (List.mem_cons_of_mem _ List.mem_cons_self),by kernel_rfl,by kernel_rfl,by kernel_rfl,nofun⟩
theorem Jk {z:Int} (h:rD .u8 z):0<=z/\z<=255:=by unfold rD Ev.jE Ev.jb at h; simp only[IntKind.signed,IntKind.bits] at h; simpa using h
theorem dX {z:Int} (h:rD .i64 z):ck z:=by unfold rD Ev.jE Ev.jb at h; simp only[IntKind.signed,IntKind.bits] at h; unfold ck; simpa using h
theorem iu:Op Tryz.prog 3 (SInt .i64):=DL Tryz.underlying3 (by kernel_rfl)
theorem FQ:Op Tryz.prog 22 (mh 1 1 (PV.int .u8) (fun z:Int=>0<=z/\z<=255)) :=
 xT (tx (DL Tryz.underlying5 (by kernel_rfl)) 1 1 (by kernel_rfl) Tryz.underlying22 (by kernel_rfl) (by decide) (by kernel_rfl)) fun x ⟨z,h,e⟩=>⟨z,Jk h,e⟩
def gP (g:G):PV:=.agg [.int .i64 g.op,.int .u32 g.n,.sl 3 (eG g)]
theorem dC:∀ l:List G,gM l=l.map gP
 | []=>rfl
 | g::l=>by rw[gM,dC l]; rfl
mutual
def G.Ok:G->Prop
 | .mk o n l=>ck o/\cA n/\l.length<=maxLen/\Jl l
def Jl:List G->Prop
 | []=>True
 | g::l=>g.Ok/\Jl l
end
theorem wI:∀ {l:List G},(∀ g∈l,g.Ok)->Jl l
 | [],_=>trivial
 | g::l,h=>⟨h g (List.mem_cons_self ..),wI fun x hx=>h x (List.mem_cons_of_mem _ hx)⟩
theorem mI:∀ {l:List G},Jl l->∀ g∈l,g.Ok
 | g::l,h,x,hx=>by
  rcases List.mem_cons.1 hx with rfl|hx
  ·exact h.1
  ·exact mI h.2 x hx
theorem G.ind {p:G->Prop} (h:∀ g,(∀ x∈g.l,p x)->p g):∀ g,p g:=fun g=>by
 refine G.rec (motive_1:=p) (motive_2:=fun l=>∀ x∈l,p x) ?_ ?_ ?_ g
 ·exact fun o n l hl=>h (.mk o n l) hl
 ·exact fun x hx=>by cases hx
 ·intro a l ha hl x hx
  rcases List.mem_cons.1 hx with rfl|hx
  ·exact ha
  ·exact hl x hx
def SG (x:PV):Prop:=∃ g:G,g.Ok/\x=gP g
theorem Qt:Op Tryz.prog 24 (SInt .u32):=DL Tryz.underlying24 (by kernel_rfl)
theorem FR {z:Int} (h:rD .u32 z):cA z:=by unfold rD Ev.jE Ev.jb at h; simp only[IntKind.signed,IntKind.bits] at h; unfold cA; simpa using h
theorem UW:∀ m,lH m Tryz.prog 27 SG
 | 0=>lH.zero
 | m+1=>by
  have h1:lH (m+1) Tryz.prog 25 (mh 3 40 gP G.Ok):=Ac (wC (UW m) 3 40 (by kernel_rfl) Tryz.underlying25 (by kernel_rfl) (by decide) (by kernel_rfl)) fun x h=>h
  have h2:lH (m+2) Tryz.prog 27 (AJ [SInt .i64,SInt .u32,mh 3 40 gP G.Ok]) :=
   FI (Ss:=[SInt .i64,SInt .u32,mh 3 40 gP G.Ok]) Tryz.underlying27 ⟨rfl,iu.CE _,(show _=_ by kernel_rfl),Qt.CE _,(show _=_ by kernel_rfl),h1,(show _=_ by kernel_rfl)⟩
  refine lH.less (n:=m+2) (lH.vk h2 fun x hx=>?_) (by omega)
  obtain⟨xs,q0,rfl⟩:=hx
  obtain⟨_,_,rfl,⟨o,ho,rfl⟩,q1⟩:=bC (S:=SInt .i64) (Ss:=[SInt .u32,mh 3 40 gP G.Ok]) q0
  obtain⟨_,_,rfl,⟨n,hn,rfl⟩,q2⟩:=bC (S:=SInt .u32) (Ss:=[mh 3 40 gP G.Ok]) q1
  obtain⟨_,_,rfl,⟨l,hl,KP,rfl⟩,q3⟩:=bC (S:=mh 3 40 gP G.Ok) (Ss:=[]) q2
  obtain rfl:=pV q3
  refine⟨.mk o n l,⟨dX ho,FR hn,hl.1,wI KP⟩,?_⟩
  show PV.agg _ = .agg [.int .i64 o,.int .u32 n,.sl 3 (gM l)]
  rw[dC]
  rfl
theorem VM:Op Tryz.prog 27 SG:=lH.all UW
structure DG where
 at_:Int
 a:G
 b:G
def kV (d:DG):PV:=.agg [.int .i64 d.at_,.int .i64 d.a.op,.int .u32 d.a.n,.sl 3 (eG d.a),.int .i64 d.b.op,.int .u32 d.b.n,.sl 3 (eG d.b)]
def DG.Ok (d:DG):Prop:=ck d.at_/\d.a.Ok/\d.b.Ok
structure SH where
 kind:Int
 fr:Int
 till:Int
 stub:Int
 skip:Int
 size:Int
 word:Int
 A:G
 B:G
 aN:List DG
def SH.Ok (h:SH):Prop:=(ck h.kind/\ck h.fr/\ck h.till/\ck h.stub/\ck h.skip/\ck h.size/\ck h.word)/\h.A.Ok/\h.B.Ok/\h.aN.length<=maxLen/\∀ d∈h.aN,d.Ok
inductive ST where
 | mk (h:SH) (hd bd el:List ST)
namespace ST
def h:ST->SH|.mk h _ _ _=>h
def hd:ST->List ST|.mk _ l _ _=>l
def bd:ST->List ST|.mk _ _ l _=>l
def el:ST->List ST|.mk _ _ _ l=>l
end ST
def YG (h:SH):List PV:=[.int .i64 h.kind,.int .i64 h.fr,.int .i64 h.till,.int .i64 h.stub,.int .i64 h.skip,.int .i64 h.size,.int .i64 h.word,.int .i64 h.A.op,.int .u32 h.A.n,.sl 3 (eG h.A),.int .i64 h.B.op,.int .u32 h.B.n,.sl 3 (eG h.B),.sl 7 (h.aN.map kV)]
mutual
def rp:ST->PV
 | .mk h hd bd el=>.agg (YG h++[.sl 17 (B2 hd),.sl 17 (B2 bd),.sl 17 (B2 el)])
def B2:List ST->List PV
 | []=>[]
 | s::l=>rp s::B2 l
end
theorem gQ:∀ l:List ST,B2 l=l.map rp
 | []=>rfl
 | s::l=>by rw[B2,gQ l]; rfl
def oL (s:ST):SP:=⟨s.h.kind,s.h.fr,s.h.till,s.h.stub,s.h.skip,s.h.size,s.h.word,s.h.A,s.h.B,s.h.aN.map kV,s.hd.map rp,s.bd.map rp,s.el.map rp⟩
theorem Qu (s:ST):rp s=BT (oL s):=by
 cases s with
 | mk h hd bd el =>
  rw[rp,gQ,gQ,gQ]; rfl
mutual
def ST.Ok:ST->Prop
 | .mk h hd bd el=>h.Ok/\(hd.length<=maxLen/\bd.length<=maxLen/\el.length<=maxLen)/\iv hd/\iv bd/\iv el
def iv:List ST->Prop
 | []=>True
 | s::l=>s.Ok/\iv l
end
theorem kc:∀ {l:List ST},(∀ g∈l,g.Ok)->iv l
 | [],_=>trivial
 | g::l,h=>⟨h g (List.mem_cons_self ..),kc fun x hx=>h x (List.mem_cons_of_mem _ hx)⟩
theorem e_:∀ {l:List ST},iv l->∀ g∈l,g.Ok
 | g::l,h,x,hx=>by
  rcases List.mem_cons.1 hx with rfl|hx
  ·exact h.1
  ·exact e_ h.2 x hx
theorem ST.ind {p:ST->Prop} (h:∀ s,(∀ x∈s.hd,p x)->(∀ x∈s.bd,p x)->(∀ x∈s.el,p x)->p s):∀ s,p s:=fun s=>by
 refine ST.rec (motive_1:=p) (motive_2:=fun l=>∀ x∈l,p x) ?_ ?_ ?_ s
 ·exact fun k hd bd el h1 h2 h3=>h (.mk k hd bd el) h1 h2 h3
 ·exact fun x hx=>by cases hx
 ·intro a l ha hl x hx
  rcases List.mem_cons.1 hx with rfl|hx
  ·exact ha
  ·exact hl x hx
def SD (x:PV):Prop:=∃ d:DG,d.Ok/\x=kV d
theorem opD:Op Tryz.prog 91 SD :=
 Op.vk (R5 (Ss:=[SInt .i64,SG,SG]) Tryz.underlying91 ⟨rfl,iu,(show _=_ by kernel_rfl),VM,(show _=_ by kernel_rfl),VM,(show _=_ by kernel_rfl)⟩) fun x hx=>by
  obtain⟨xs,q0,rfl⟩:=hx
  obtain⟨_,_,rfl,⟨a,ha,rfl⟩,q1⟩:=bC (S:=SInt .i64) (Ss:=[SG,SG]) q0
  obtain⟨_,_,rfl,⟨g1,h1,rfl⟩,q2⟩:=bC (S:=SG) (Ss:=[SG]) q1
  obtain⟨_,_,rfl,⟨g2,h2,rfl⟩,q3⟩:=bC (S:=SG) (Ss:=[]) q2
  obtain rfl:=pV q3
  exact⟨⟨a,g1,g2⟩,⟨dX ha,h1,h2⟩,rfl⟩
theorem YH:Op Tryz.prog 34 (mh 7 88 kV DG.Ok):=xT (tx opD 7 88 (by kernel_rfl) Tryz.underlying34 (by kernel_rfl) (by decide) (by kernel_rfl)) fun x h=>h
def SS (x:PV):Prop:=∃ s:ST,s.Ok/\x=rp s
def ig:PV->Prop:=mh 17 232 rp ST.Ok
theorem UX:∀ m,lH m Tryz.prog 37 SS
 | 0=>lH.zero
 | m+1=>by
  have h1:lH (m+1) Tryz.prog 35 ig:=Ac (wC (UX m) 17 232 (by kernel_rfl) Tryz.underlying35 (by kernel_rfl) (by decide) (by kernel_rfl)) fun x h=>h
  have h2:lH (m+2) Tryz.prog 37 (AJ [SInt .i64,SInt .i64,SInt .i64,SInt .i64,SInt .i64,SInt .i64,SInt .i64,SG,SG,mh 7 88 kV DG.Ok,ig,ig,ig]) :=
   FI (Ss:=[SInt .i64,SInt .i64,SInt .i64,SInt .i64,SInt .i64,SInt .i64,SInt .i64,SG,SG,mh 7 88 kV DG.Ok,ig,ig,ig]) Tryz.underlying37 ⟨rfl,iu.CE _,(show _=_ by kernel_rfl),iu.CE _,(show _=_ by kernel_rfl),iu.CE _,(show _=_ by kernel_rfl),iu.CE _,(show _=_ by kernel_rfl),iu.CE _,(show _=_ by kernel_rfl),iu.CE _,(show _=_ by kernel_rfl),iu.CE _,(show _=_ by kernel_rfl),VM.CE _,(show _=_ by kernel_rfl),VM.CE _,(show _=_ by kernel_rfl),YH.CE _,(show _=_ by kernel_rfl),h1,(show _=_ by kernel_rfl),h1,(show _=_ by kernel_rfl),h1,(show _=_ by kernel_rfl)⟩
  refine lH.less (n:=m+2) (lH.vk h2 fun x hx=>?_) (by omega)
  obtain⟨xs,q0,rfl⟩:=hx
  obtain⟨_,_,rfl,⟨a0,b0,rfl⟩,q1⟩:=bC (S:=SInt .i64) (Ss:=[SInt .i64,SInt .i64,SInt .i64,SInt .i64,SInt .i64,SInt .i64,SG,SG,mh 7 88 kV DG.Ok,ig,ig,ig]) q0
  obtain⟨_,_,rfl,⟨a1,b1,rfl⟩,q2⟩:=bC (S:=SInt .i64) (Ss:=[SInt .i64,SInt .i64,SInt .i64,SInt .i64,SInt .i64,SG,SG,mh 7 88 kV DG.Ok,ig,ig,ig]) q1
  obtain⟨_,_,rfl,⟨a2,b2,rfl⟩,q3⟩:=bC (S:=SInt .i64) (Ss:=[SInt .i64,SInt .i64,SInt .i64,SInt .i64,SG,SG,mh 7 88 kV DG.Ok,ig,ig,ig]) q2
  obtain⟨_,_,rfl,⟨a3,b3,rfl⟩,q4⟩:=bC (S:=SInt .i64) (Ss:=[SInt .i64,SInt .i64,SInt .i64,SG,SG,mh 7 88 kV DG.Ok,ig,ig,ig]) q3
  obtain⟨_,_,rfl,⟨a4,b4,rfl⟩,q5⟩:=bC (S:=SInt .i64) (Ss:=[SInt .i64,SInt .i64,SG,SG,mh 7 88 kV DG.Ok,ig,ig,ig]) q4
  obtain⟨_,_,rfl,⟨a5,b5,rfl⟩,q6⟩:=bC (S:=SInt .i64) (Ss:=[SInt .i64,SG,SG,mh 7 88 kV DG.Ok,ig,ig,ig]) q5
  obtain⟨_,_,rfl,⟨a6,b6,rfl⟩,q7⟩:=bC (S:=SInt .i64) (Ss:=[SG,SG,mh 7 88 kV DG.Ok,ig,ig,ig]) q6
  obtain⟨_,_,rfl,⟨gA,hA,rfl⟩,q8⟩:=bC (S:=SG) (Ss:=[SG,mh 7 88 kV DG.Ok,ig,ig,ig]) q7
  obtain⟨_,_,rfl,⟨gB,hB,rfl⟩,q9⟩:=bC (S:=SG) (Ss:=[mh 7 88 kV DG.Ok,ig,ig,ig]) q8
  obtain⟨_,_,rfl,⟨ds,RZ,hdo,rfl⟩,q10⟩:=bC (S:=mh 7 88 kV DG.Ok) (Ss:=[ig,ig,ig]) q9
  obtain⟨_,_,rfl,⟨hd,hhd,hho,rfl⟩,Q6⟩:=bC (S:=ig) (Ss:=[ig,ig]) q10
  obtain⟨_,_,rfl,⟨bd,JK,hbo,rfl⟩,J'⟩:=bC (S:=ig) (Ss:=[ig]) Q6
  obtain⟨_,_,rfl,⟨el,C',heo,rfl⟩,q13⟩:=bC (S:=ig) (Ss:=[]) J'
  obtain rfl:=pV q13
  refine⟨.mk ⟨a0,a1,a2,a3,a4,a5,a6,gA,gB,ds⟩ hd bd el,⟨⟨⟨dX b0,dX b1,dX b2,dX b3,dX b4,dX b5,dX b6⟩,hA,hB,RZ.1,hdo⟩,⟨hhd.1,JK.1,C'.1⟩,kc hho,kc hbo,kc heo⟩,?_⟩
  rw[rp,gQ,gQ,gQ]
  rfl
theorem opS:Op Tryz.prog 37 SS:=lH.all UX
theorem YI:Op Tryz.prog 35 ig:=xT (tx opS 17 232 (by kernel_rfl) Tryz.underlying35 (by kernel_rfl) (by decide) (by kernel_rfl)) fun x h=>h
open Go Go.RowKit
def fL (o:Int):Int:=if o<=2 then 0 else if o<=4 then 1 else 2
theorem og (o:Int):ai gT 151 [.int .i64 o] (.int .i64 (fL o)):=by
 refine Spec.enter al R' 100 Tryz.func151 rfl (by kernel_rfl) ?_
 refine⟨fun h1=>?_,fun h1=>And.intro (fun h2=>?_) (fun h2=>?_)⟩
 ·exact aj (show (0:Int)=fL o by unfold fL; rw[if_pos h1])
 ·exact aj (show (1:Int)=fL o by unfold fL; rw[if_neg h1,if_pos h2])
 ·exact aj (show (2:Int)=fL o by unfold fL; rw[if_neg h1,if_neg h2])
mutual
def nF:G->Int
 | .mk _ _ l=>fm l 1
def fm:List G->Int->Int
 | [],a=>a
 | g::l,a=>fm l (IntKind.i64.wrap (a+nF g))
end
def wJ (o n:Int) (k:Nat):Prop:=¬ (o < 1\/17 < o\/(k:Int)≠fL o\/(2 < o/\n≠0)\/(o=2/\255 < n))
mutual
def bI:G->Prop
 | .mk o n l=>wJ o n l.length/\gR l
def gR:List G->Prop
 | []=>True
 | g::l=>bI g/\gR l
end
mutual
def oM:G->Prop
 | .mk o n l=>(o≠2\/n<=253)/\sL l
def sL:List G->Prop
 | []=>True
 | g::l=>oM g/\sL l
end
theorem js:∀ {l:List G},gR l↔∀ x∈l,bI x
 | []=>by simp[gR]
 | g::l=>by rw[gR,js]; simp
theorem sM:∀ {l:List G},sL l↔∀ x∈l,oM x
 | []=>by simp[sL]
 | g::l=>by rw[sL,sM]; simp
def fM (g:G):Prop:=(nF g<=16384/\bI g)/\oM g
def wK (g:G):Prop:=g.op=0/\g.n=0/\g.l = []
theorem wL:∀ g:G,g.Ok->ai gT 125 [gP g] (.int .i64 (nF g)):=G.ind fun g ih hO=>by
 obtain⟨o,n,l⟩:=g
 obtain⟨ho,hn,hl,hL⟩:=hO
 have RV:∀ x∈l,ai gT 125 [gP x] (.int .i64 (nF x)):=fun x hx=>ih x hx (mI hL x hx)
 clear ih
 show ai gT 125 [.agg [.int .i64 o,.int .u32 n,.sl 3 (gM l)]] (.int .i64 (fm l 1))
 rw[dC]
 obtain⟨R,hR⟩:∃ R,R=fm l 1:=⟨_,rfl⟩
 rw[← hR]
 have el:(l.map gP).length=l.length:=List.length_map ..
 refine Spec.enter al qU 100 Tryz.func125 rfl (by kernel_rfl) ?_
 refine fun hm=>?_
 refine SW.hU al qU (by kernel_rfl) (α:={q:Nat × Int // R=fm (l.drop q.1) q.2}) (fun q=>[(3,.int .i64 q.1.2),(9,.int .i64 q.1.1)]) (fun q=>l.length - q.1.1) ⟨(0,1),hR⟩ 60 ?_ ?_
 ·repeat' first|exact trivial|exact rfl|refine And.intro ?_ ?_
 rintro⟨⟨i,a⟩,hi⟩
 refine⟨fun h=>?_,fun h=>?_⟩
 ·have h':(i:Int) < ((l.map gP).length:Nat):=h
  rw[el] at h'
  refine⟨G,l,gP,rfl,show (0:Int)<=(i:Int) by omega,show (i:Int) < (l.length:Int) by omega,fun x hx=>?_⟩
  have dp:l[i]?=some x:=hx
  refine (RV x (List.mem_of_getElem? dp)).u ?_
  refine .inr ?_
  unfold maxLen at hl
  refine .inl ⟨ay (show _<=(i:Int)+1/\(i:Int)+1<=_ by omega),⟨⟨(i+1,IntKind.i64.wrap (a+nF x)),?_⟩,show l.length - (i+1) < l.length - i by omega,?_⟩⟩
  ·show R=fm (l.drop (i+1)) _
   rw[hi]
   show fm (l.drop i) a=_
   rw[List.drop_eq_getElem_cons (by omega),fm]
   rw[List.getElem?_eq_getElem (by omega)] at dp
   rw[Option.some.inj dp]
  ·repeat' first|exact trivial|exact rfl|refine And.intro ?_ ?_
 ·have h':¬ (i:Int) < ((l.map gP).length:Nat):=h
  rw[el] at h'
  refine aj ?_
  exact (show a=R by rw[hi]; show a=fm (l.drop i) a; rw[List.drop_of_length_le (by omega),fm])
theorem Qv (L:List G) (p:G->Prop) (hp:∀ x∈L,ai gT 152 [gP x] (.bool (p x))):ai gT 153 [.sl 3 (L.map gP),.clo 152 []] (.int .i64 (cS p L 0)):=by
 refine Spec.enter al oE 100 Tryz.func153 rfl (by kernel_rfl) ?_
 intro hm
 rw[List.length_map] at hm
 obtain⟨z,hz⟩:∃ z,z=cS p L 0:=⟨_,rfl⟩
 rw[← hz]
 refine SW.hU al oE (by kernel_rfl) (α:={i:Nat // z=cS p (L.drop i) i}) (fun i=>[(8,.int .i64 i.1)]) (fun i=>L.length - i.1) ⟨0,hz⟩ 60 ?_ ?_
 ·repeat' first|exact trivial|exact rfl|refine And.intro ?_ ?_
 rintro⟨i,hi⟩
 refine⟨fun h=>?_,fun h=>?_⟩
 ·have h':(i:Int) < ((L.map gP).length:Nat):=h
  rw[List.length_map] at h'
  refine⟨G,L,gP,rfl,show (0:Int)<=(i:Int) by omega,show (i:Int) < (L.length:Int) by omega,fun x hx=>?_⟩
  have dp:L[i]?=some x:=hx
  obtain⟨s1,s2⟩:=fv (p:=p) dp
  refine (hp x (List.mem_of_getElem? dp)).u ?_
  refine⟨fun nx=>?_,fun nx=>?_⟩
  ·refine aj ?_
   exact (show (i:Int)=z by rw[hi,s1 nx])
  ·unfold maxLen at hm
   refine .inl ⟨ay (show _<=(i:Int)+1/\(i:Int)+1<=_ by omega),⟨⟨i+1,by rw[hi,s2 nx]⟩,show L.length - (i+1) < L.length - i by omega,?_⟩⟩
   repeat' first|exact trivial|exact rfl|refine And.intro ?_ ?_
 ·have h':¬ (i:Int) < ((L.map gP).length:Nat):=h
  rw[List.length_map] at h'
  refine aj ?_
  exact (show (-1:Int)=z by rw[hi,List.drop_of_length_le (by omega),cS])
theorem FT (L:List G) (p:G->Prop) (hp:∀ x∈L,ai gT 152 [gP x] (.bool (p x))):ai gT 144 [.sl 3 (L.map gP),.clo 152 []] (.bool (∃ x∈L,p x)):=by
 refine Spec.enter al Hs 100 Tryz.func144 rfl (by kernel_rfl) ?_
 refine (Qv L p hp).u ?_
 exact aj gK
theorem Qw (L:List G) (p:G->Prop) (hp:∀ x∈L,ai gT 149 [gP x] (.bool (p x))):ai gT 153 [.sl 3 (L.map gP),.clo 149 []] (.int .i64 (cS p L 0)):=by
 refine Spec.enter al oE 100 Tryz.func153 rfl (by kernel_rfl) ?_
 intro hm
 rw[List.length_map] at hm
 obtain⟨z,hz⟩:∃ z,z=cS p L 0:=⟨_,rfl⟩
 rw[← hz]
 refine SW.hU al oE (by kernel_rfl) (α:={i:Nat // z=cS p (L.drop i) i}) (fun i=>[(8,.int .i64 i.1)]) (fun i=>L.length - i.1) ⟨0,hz⟩ 60 ?_ ?_
 ·repeat' first|exact trivial|exact rfl|refine And.intro ?_ ?_
 rintro⟨i,hi⟩
 refine⟨fun h=>?_,fun h=>?_⟩
 ·have h':(i:Int) < ((L.map gP).length:Nat):=h
  rw[List.length_map] at h'
  refine⟨G,L,gP,rfl,show (0:Int)<=(i:Int) by omega,show (i:Int) < (L.length:Int) by omega,fun x hx=>?_⟩
  have dp:L[i]?=some x:=hx
  obtain⟨s1,s2⟩:=fv (p:=p) dp
  refine (hp x (List.mem_of_getElem? dp)).u ?_
  refine⟨fun nx=>?_,fun nx=>?_⟩
  ·refine aj ?_
   exact (show (i:Int)=z by rw[hi,s1 nx])
  ·unfold maxLen at hm
   refine .inl ⟨ay (show _<=(i:Int)+1/\(i:Int)+1<=_ by omega),⟨⟨i+1,by rw[hi,s2 nx]⟩,show L.length - (i+1) < L.length - i by omega,?_⟩⟩
   repeat' first|exact trivial|exact rfl|refine And.intro ?_ ?_
 ·have h':¬ (i:Int) < ((L.map gP).length:Nat):=h
  rw[List.length_map] at h'
  refine aj ?_
  exact (show (-1:Int)=z by rw[hi,List.drop_of_length_le (by omega),cS])
theorem Qx (L:List G) (p:G->Prop) (hp:∀ x∈L,ai gT 149 [gP x] (.bool (p x))):ai gT 144 [.sl 3 (L.map gP),.clo 149 []] (.bool (∃ x∈L,p x)):=by
 refine Spec.enter al Hs 100 Tryz.func144 rfl (by kernel_rfl) ?_
 refine (Qw L p hp).u ?_
 exact aj gK
theorem B3 (g:G) (h:ai gT 143 [gP g] (.bool (bI g))):ai gT 152 [gP g] (.bool (¬ bI g)):=by
 refine Spec.enter al Lh 100 Tryz.func152 rfl (by kernel_rfl) ?_
 refine h.u ?_
 exact aj Iff.rfl
theorem Qy (g:G) (h:ai gT 139 [gP g] (.bool (oM g))):ai gT 149 [gP g] (.bool (¬ oM g)):=by
 refine Spec.enter al Xd 100 Tryz.func149 rfl (by kernel_rfl) ?_
 refine h.u ?_
 exact aj Iff.rfl
theorem ud:∀ g:G,g.Ok->ai gT 143 [gP g] (.bool (bI g)):=G.ind fun g ih hO=>by
 obtain⟨o,n,l⟩:=g
 obtain⟨ho,hn,hl,hL⟩:=hO
 have hc:=FT l (fun x=>¬ bI x) fun x hx=>B3 x (ih x hx (mI hL x hx))
 clear ih
 show ai gT 143 [.agg [.int .i64 o,.int .u32 n,.sl 3 (gM l)]] (.bool (wJ o n l.length/\gR l))
 rw[dC,propext (@js l)]
 have el:(l.map gP).length=l.length:=List.length_map ..
 unfold wJ
 rw[← el]
 unfold cA at hn
 have FU:(¬ ∃ x∈l,¬ bI x)↔∀ x∈l,bI x:=by simp
 generalize (∃ x∈l,¬ bI x)=E at hc FU
 generalize (∀ x∈l,bI x)=A at FU
 refine Spec.enter al Lg 100 Tryz.func143 rfl (by kernel_rfl) ?_
 refine⟨fun h1=>?_,fun h1=>And.intro (fun h2=>?_) (fun h2=>?_)⟩
 ·exact aj (show ¬ _ from fun k=>k.1 (.inl h1))
 ·exact aj (show ¬ _ from fun k=>k.1 (.inr (.inl h2)))
 refine fun _=>?_
 refine (og o).u ?_
 generalize ((l.map gP).length:Int)=K at *
 generalize fL o=ne at *
 have bad:(o < 1\/17 < o\/K≠ne\/(2 < o/\n≠0)\/(o=2/\255 < n))->¬ (¬ (o < 1\/17 < o\/K≠ne\/(2 < o/\n≠0)\/(o=2/\255 < n))/\A):=fun h k=>k.1 h
 have iH:¬ (o < 1\/17 < o\/K≠ne\/(2 < o/\n≠0)\/(o=2/\255 < n))->(¬ E↔(¬ (o < 1\/17 < o\/K≠ne\/(2 < o/\n≠0)\/(o=2/\255 < n))/\A)):=fun h=>FU.trans ⟨fun k=>⟨h,k⟩,fun k=>k.2⟩
 refine⟨fun h3=>?_,fun h3=>And.intro (fun h4=>And.intro (fun h5=>?_) (fun h5=>And.intro (fun h6=>?_) (fun h6=>?_))) (fun h4=>And.intro (fun h6=>And.intro (fun h7=>?_) (fun h7=>?_)) (fun h6=>?_))⟩
 ·exact aj (bad (by omega))
 ·exact aj (bad (by omega))
 ·exact absurd h6 (by omega)
 ·refine hc.u ?_
  exact aj (iH (by omega))
 ·exact aj (bad (by omega))
 ·refine hc.u ?_
  exact aj (iH (by omega))
 ·refine hc.u ?_
  exact aj (iH (by omega))
theorem B4:∀ g:G,g.Ok->ai gT 139 [gP g] (.bool (oM g)):=G.ind fun g ih hO=>by
 obtain⟨o,n,l⟩:=g
 obtain⟨ho,hn,hl,hL⟩:=hO
 have hc:=Qx l (fun x=>¬ oM x) fun x hx=>Qy x (ih x hx (mI hL x hx))
 clear ih
 show ai gT 139 [.agg [.int .i64 o,.int .u32 n,.sl 3 (gM l)]] (.bool ((o≠2\/n<=253)/\sL l))
 rw[dC,propext (@sM l)]
 have FU:(¬ ∃ x∈l,¬ oM x)↔∀ x∈l,oM x:=by simp
 generalize (∃ x∈l,¬ oM x)=E at hc FU
 generalize (∀ x∈l,oM x)=A at FU
 refine Spec.enter al Xc 100 Tryz.func139 rfl (by kernel_rfl) ?_
 repeat' ((conv=>whnf); first|(refine (And.intro (fun _=>?_) (fun _=>?_):(_->_)/\(_->_))<;>(first|(exfalso; first|contradiction|omega)|skip))|refine Or.inl (And.intro (by first|exact ay (by omega)|exact ah (by omega)|exact c_ (by omega)|exact ey (by omega)) ?_)|(refine And.intro (show (_:Int)≠0 by omega) (Or.inl (And.intro (show (0:Int)<=_ by omega) (And.intro (show (0:Int) < _ by omega) ?_))))|(refine And.intro (show (_:Int)≠0 by omega) (Or.inl (And.intro (show (0:Int)<=_ by omega) (And.intro (by first|exact (show (_:Int)<=9223372036854775807 by omega)|exact (show (_:Int)<=4294967295 by omega)) (And.intro (show (0:Int) < _ by omega) ?_)))))|(refine aj ?_; exact (show ¬ ((o≠2\/n<=253)/\A) from fun k=>absurd k.1 (by omega)))|(refine⟨[],av,hc.use (And.intro rfl (And.intro (by exact⟨rfl,trivial⟩) trivial)) rfl rfl ?_⟩)|(refine⟨[],av,hc.use (by repeat' first|exact trivial|exact rfl|exact Iff.rfl|exact Or.inl rfl|refine And.intro ?_ ?_) rfl rfl ?_⟩)|(refine aj ?_; exact (show ¬ E↔((o≠2\/n<=253)/\A) from FU.trans ⟨fun k=>⟨by omega,k⟩,fun k=>k.2⟩))|(intro _))
theorem wM (g:G) (h:g.Ok):ai gT 126 [gP g] (.bool (nF g<=16384/\bI g)):=by
 have h1:=wL g h
 have h2:=ud g h
 refine Spec.enter al Lf 100 Tryz.func126 rfl (by kernel_rfl) ?_
 refine h1.u ?_
 refine⟨fun h=>?_,fun h=>?_⟩
 ·refine h2.u ?_
  exact aj (show bI g↔_ from ⟨fun k=>⟨h,k⟩,fun k=>k.2⟩)
 ·exact aj (show ¬ _ from fun k=>h k.1)
theorem kC (g:G) (h:g.Ok):ai gT 117 [gP g] (.bool (fM g)):=by
 have h1:=wM g h
 have h2:=B4 g h
 refine Spec.enter al Xb 100 Tryz.func117 rfl (by kernel_rfl) ?_
 refine h1.u ?_
 refine⟨fun h=>?_,fun h=>?_⟩
 ·refine h2.u ?_
  exact aj (show oM g↔_ from ⟨fun k=>⟨h,k⟩,fun k=>k.2⟩)
 ·exact aj (show ¬ fM g from fun k=>h k.1)
theorem qG (g:G) (h:g.Ok):ai gT 115 [gP g] (.bool (wK g)):=by
 obtain⟨o,n,l⟩:=g
 show ai gT 115 [.agg [.int .i64 o,.int .u32 n,.sl 3 (gM l)]] (.bool (o=0/\n=0/\l = []))
 rw[dC]
 have el:(((l.map gP).length:Nat):Int)=0↔l = []:=by rw[List.length_map]; cases l<;>simp; omega
 refine Spec.enter al R7 100 Tryz.func115 rfl (by kernel_rfl) ?_
 refine⟨fun h1=>And.intro (fun h2=>fun _=>?_) (fun h2=>?_),fun h1=>?_⟩
 ·exact aj (show (((l.map gP).length:Nat):Int)=0↔_ from el.trans ⟨fun k=>⟨h1,h2,k⟩,fun k=>k.2.2⟩)
 ·exact aj (show ¬ _ from fun k=>h2 k.2.1)
 ·exact aj (show ¬ _ from fun k=>h1 k.1)
def fG:T->G
 | .leaf o n=>.mk o n []
 | .one o n a=>.mk o n [fG a]
 | .two o n a b=>.mk o n [fG a,fG b]
theorem iw (t:T):(fG t).op=t.op:=by cases t<;>rfl
theorem kW (t:T):(fG t).n=t.num:=by cases t<;>rfl
theorem dj:∀ t:T,eG (fG t)=cb t
 | .leaf o n=>rfl
 | .one o n a=>by
  show [PV.agg [.int .i64 (fG a).op,.int .u32 (fG a).n,.sl 3 (eG (fG a))]]=_
  rw[iw,kW,dj a]; rfl
 | .two o n a b=>by
  show [PV.agg [.int .i64 (fG a).op,.int .u32 (fG a).n,.sl 3 (eG (fG a))],PV.agg [.int .i64 (fG b).op,.int .u32 (fG b).n,.sl 3 (eG (fG b))]]=_
  rw[iw,kW,dj a,iw,kW,dj b]; rfl
theorem FV (t:T):gP (fG t)=gF t:=by unfold gP gF; rw[iw,kW,dj]
theorem FW:∀ g:G,bI g->∃ t,g=fG t:=G.ind fun g ih h=>by
 obtain⟨o,n,l⟩:=g
 obtain⟨h1,h2⟩:=h
 have h3:(l.length:Int)=fL o:=Classical.not_not.1 fun k=>h1 (.inr (.inr (.inl k)))
 have hl:l.length<=2:=by unfold fL at h3; split at h3<;>first|omega|(split at h3<;>omega)
 match l,h2,hl,ih with
 | [],_,_,_=>exact⟨.leaf o n,rfl⟩
 | [a],h2,_,ih =>
  obtain⟨t,rfl⟩:=ih a (List.mem_cons_self ..) h2.1
  exact⟨.one o n t,rfl⟩
 | [a,b],h2,_,ih =>
  obtain⟨t,rfl⟩:=ih a (List.mem_cons_self ..) h2.1
  obtain⟨u,rfl⟩:=ih b (List.mem_cons_of_mem _ (List.mem_cons_self ..)) h2.2.1
  exact⟨.two o n t u,rfl⟩
theorem Ki {g:G} (h:fM g):∃ t,g=fG t:=FW g h.1.2
noncomputable def gh (g:G):T:=open Classical in if h:∃ t,g=fG t then h.choose else .leaf 0 0
theorem nG {g:G} (h:fM g):g=fG (gh g):=by
 unfold gh
 rw[dif_pos (Ki h)]
 exact (Ki h).choose_spec
def kd (l:List DG):Prop:=∀ d∈l,fM d.a/\fM d.b
noncomputable def mJ (d:DG):DV:=⟨d.at_,gh d.a,gh d.b⟩
theorem Qz {d:DG} (h:fM d.a/\fM d.b):kV d=mU (mJ d):=by
 have ha:=nG h.1
 have hb:=nG h.2
 unfold kV mU mJ
 simp only
 rw[← iw (gh d.a),← kW (gh d.a),← dj (gh d.a),← ha,← iw (gh d.b),← kW (gh d.b),← dj (gh d.b),← hb]
theorem Kj:∀ {l:List DG},kd l->l.map kV=(l.map mJ).map mU
 | [],_=>rfl
 | d::l,h=>by
  rw[List.map_cons,List.map_cons,List.map_cons,Qz (h d (List.mem_cons_self ..)),Kj fun x hx=>h x (List.mem_cons_of_mem _ hx)]
def jD (s:ST):PV:=BT (oL s)
theorem o9 (l:List ST):l.map rp=l.map jD:=List.map_congr_left fun s _=>Qu s
theorem UY (L:List DG) (p:DG->Prop) (hp:∀ x∈L,ai gT 138 [kV x] (.bool (p x))):ai gT 148 [.sl 7 (L.map kV),.clo 138 []] (.int .i64 (cS p L 0)):=by
 refine Spec.enter al Hr 100 Tryz.func148 rfl (by kernel_rfl) ?_
 intro hm
 rw[List.length_map] at hm
 obtain⟨z,hz⟩:∃ z,z=cS p L 0:=⟨_,rfl⟩
 rw[← hz]
 refine SW.hU al Hr (by kernel_rfl) (α:={i:Nat // z=cS p (L.drop i) i}) (fun i=>[(8,.int .i64 i.1)]) (fun i=>L.length - i.1) ⟨0,hz⟩ 60 ?_ ?_
 ·repeat' first|exact trivial|exact rfl|refine And.intro ?_ ?_
 rintro⟨i,hi⟩
 refine⟨fun h=>?_,fun h=>?_⟩
 ·have h':(i:Int) < ((L.map kV).length:Nat):=h
  rw[List.length_map] at h'
  refine⟨DG,L,kV,rfl,show (0:Int)<=(i:Int) by omega,show (i:Int) < (L.length:Int) by omega,fun x hx=>?_⟩
  have dp:L[i]?=some x:=hx
  obtain⟨s1,s2⟩:=fv (p:=p) dp
  refine (hp x (List.mem_of_getElem? dp)).u ?_
  refine⟨fun nx=>?_,fun nx=>?_⟩
  ·refine aj ?_
   exact (show (i:Int)=z by rw[hi,s1 nx])
  ·unfold maxLen at hm
   refine .inl ⟨ay (show _<=(i:Int)+1/\(i:Int)+1<=_ by omega),⟨⟨i+1,by rw[hi,s2 nx]⟩,show L.length - (i+1) < L.length - i by omega,?_⟩⟩
   repeat' first|exact trivial|exact rfl|refine And.intro ?_ ?_
 ·have h':¬ (i:Int) < ((L.map kV).length:Nat):=h
  rw[List.length_map] at h'
  refine aj ?_
  exact (show (-1:Int)=z by rw[hi,List.drop_of_length_le (by omega),cS])
theorem UZ (L:List DG) (p:DG->Prop) (hp:∀ x∈L,ai gT 138 [kV x] (.bool (p x))):ai gT 137 [.sl 7 (L.map kV),.clo 138 []] (.bool (∃ x∈L,p x)):=by
 refine Spec.enter al R9 100 Tryz.func137 rfl (by kernel_rfl) ?_
 refine (UY L p hp).u ?_
 exact aj gK
theorem U0 (L:List ST) (p:ST->Prop) (hp:∀ x∈L,ai gT 141 [jD x] (.bool (p x))):ai gT 150 [.sl 17 (L.map jD),.clo 141 []] (.int .i64 (cS p L 0)):=by
 refine Spec.enter al R_ 100 Tryz.func150 rfl (by kernel_rfl) ?_
 intro hm
 rw[List.length_map] at hm
 obtain⟨z,hz⟩:∃ z,z=cS p L 0:=⟨_,rfl⟩
 rw[← hz]
 refine SW.hU al R_ (by kernel_rfl) (α:={i:Nat // z=cS p (L.drop i) i}) (fun i=>[(8,.int .i64 i.1)]) (fun i=>L.length - i.1) ⟨0,hz⟩ 60 ?_ ?_
 ·repeat' first|exact trivial|exact rfl|refine And.intro ?_ ?_
 rintro⟨i,hi⟩
 refine⟨fun h=>?_,fun h=>?_⟩
 ·have h':(i:Int) < ((L.map jD).length:Nat):=h
  rw[List.length_map] at h'
  refine⟨ST,L,jD,rfl,show (0:Int)<=(i:Int) by omega,show (i:Int) < (L.length:Int) by omega,fun x hx=>?_⟩
  have dp:L[i]?=some x:=hx
  obtain⟨s1,s2⟩:=fv (p:=p) dp
  refine (hp x (List.mem_of_getElem? dp)).u ?_
  refine⟨fun nx=>?_,fun nx=>?_⟩
  ·refine aj ?_
   exact (show (i:Int)=z by rw[hi,s1 nx])
  ·unfold maxLen at hm
   refine .inl ⟨ay (show _<=(i:Int)+1/\(i:Int)+1<=_ by omega),⟨⟨i+1,by rw[hi,s2 nx]⟩,show L.length - (i+1) < L.length - i by omega,?_⟩⟩
   repeat' first|exact trivial|exact rfl|refine And.intro ?_ ?_
 ·have h':¬ (i:Int) < ((L.map jD).length:Nat):=h
  rw[List.length_map] at h'
  refine aj ?_
  exact (show (-1:Int)=z by rw[hi,List.drop_of_length_le (by omega),cS])
theorem U1 (L:List ST) (p:ST->Prop) (hp:∀ x∈L,ai gT 141 [jD x] (.bool (p x))):ai gT 140 [.sl 17 (L.map jD),.clo 141 []] (.bool (∃ x∈L,p x)):=by
 refine Spec.enter al Xf 100 Tryz.func140 rfl (by kernel_rfl) ?_
 refine (U0 L p hp).u ?_
 exact aj gK
theorem B5 (d:DG) (h:d.Ok):ai gT 138 [kV d] (.bool (¬ (fM d.a/\fM d.b))):=by
 have h1:=kC d.a h.2.1
 have h2:=kC d.b h.2.2
 refine Spec.enter al Xa 100 Tryz.func138 rfl (by kernel_rfl) ?_
 refine h1.u ?_
 refine⟨fun k=>?_,fun k=>?_⟩
 ·exact aj (show ¬ (fM d.a/\fM d.b) from fun q=>k q.1)
 ·refine h2.u ?_
  exact aj (show ¬ fM d.b↔¬ (fM d.a/\fM d.b) from ⟨fun q r=>q r.2,fun q r=>q ⟨Classical.not_not.1 k,r⟩⟩)
theorem ue (l:List DG) (h:∀ d∈l,d.Ok):ai gT 116 [.sl 7 (l.map kV)] (.bool (kd l)):=by
 have hc:=UZ l _ fun d hd=>B5 d (h d hd)
 refine Spec.enter al R8 100 Tryz.func116 rfl (by kernel_rfl) ?_
 refine hc.u ?_
 refine aj ?_
 exact (show (¬ ∃ d∈l,¬ (fM d.a/\fM d.b))↔kd l by unfold kd; simp)
def ke (l:List ST):Prop:=∀ s∈l,s.h.kind=1/\s.h.aN = []
theorem wN (s:ST):ai gT 141 [jD s] (.bool (¬ (s.h.kind=1/\s.h.aN = []))):=by
 have el:((0:Int) < ((s.h.aN.map kV).length:Nat))↔¬ s.h.aN = []:=by rw[List.length_map]; cases s.h.aN<;>simp
 refine Spec.enter al Xg 100 Tryz.func141 rfl (by kernel_rfl) ?_
 refine⟨fun k=>?_,fun k=>fun _=>?_⟩
 ·exact aj (show ¬ (s.h.kind=1/\s.h.aN = []) from fun q=>k q.1)
 ·refine aj ?_
  exact (show (0:Int) < ((s.h.aN.map kV).length:Nat)↔¬ (s.h.kind=1/\s.h.aN = []) from el.trans ⟨fun q r=>q r.2,fun q r=>q ⟨Classical.not_not.1 k,r⟩⟩)
theorem wO (l:List ST):ai gT 118 [.sl 17 (l.map jD)] (.bool (ke l)):=by
 have hc:=U1 l _ fun s _=>wN s
 refine Spec.enter al Xe 100 Tryz.func118 rfl (by kernel_rfl) ?_
 refine hc.u ?_
 refine aj ?_
 exact (show (¬ ∃ s∈l,¬ (s.h.kind=1/\s.h.aN = []))↔ke l by unfold ke; simp)
def fh (l:List ST):Int:=((l.map rp).length:Nat)
def Jm (l:List DG):Int:=((l.map kV).length:Nat)
def FX (s:ST):Prop:=s.h.stub=0/\s.h.skip = -1/\s.h.size=0/\s.h.word=0/\wK s.h.A/\wK s.h.B/\kd s.h.aN/\fh s.hd=0/\fh s.bd=0/\fh s.el=0
def FY (s:ST):Prop:=s.h.skip = -1/\0<=s.h.size/\s.h.size<=1024/\s.h.word=0/\fM s.h.A/\wK s.h.B/\Jm s.h.aN=0/\fh s.hd=0/\fh s.bd=0/\fh s.el=0
def FZ (s:ST):Prop:=s.h.stub=0/\s.h.size=0/\s.h.word=0/\fM s.h.A/\wK s.h.B/\Jm s.h.aN=0/\fh s.hd=0
def F0 (s:ST):Prop:=s.h.size=0/\4<=s.h.word/\s.h.word<=253/\fM s.h.A/\fM s.h.B/\Jm s.h.aN=0/\ke s.hd/\fh s.el=0
def fH (s:ST):Prop:=if s.h.kind=1 then FX s else if s.h.kind=2 then FY s else if s.h.kind=3 then FZ s else F0 s
theorem ST.B6 {s:ST} (h:s.Ok):s.h.Ok:=by cases s; exact h.1
theorem yK (s:ST) (h:s.Ok):ai gT 79 [jD s] (.bool (fH s)):=by
 have hO:=s.B6 h
 have nA:=qG s.h.A hO.2.1
 have nB:=qG s.h.B hO.2.2.1
 have mA:=kC s.h.A hO.2.1
 have mB:=kC s.h.B hO.2.2.1
 have dV:=ue s.h.aN hO.2.2.2.2
 have pL:=wO s.hd
 rw[← o9] at pL
 have eh:fh s.hd=((s.hd.map rp).length:Nat):=rfl
 have eb:fh s.bd=((s.bd.map rp).length:Nat):=rfl
 have ee:fh s.el=((s.el.map rp).length:Nat):=rfl
 have ed:Jm s.h.aN=((s.h.aN.map kV).length:Nat):=rfl
 have e1:s.h.kind=1->fH s=FX s:=fun k=>if_pos k
 have e2:s.h.kind≠1->s.h.kind=2->fH s=FY s:=fun k q=>by unfold fH; rw[if_neg k,if_pos q]
 have e3:s.h.kind≠1->s.h.kind≠2->s.h.kind=3->fH s=FZ s:=fun k q r=>by unfold fH; rw[if_neg k,if_neg q,if_pos r]
 have e4:s.h.kind≠1->s.h.kind≠2->s.h.kind≠3->fH s=F0 s:=fun k q r=>by unfold fH; rw[if_neg k,if_neg q,if_neg r]
 unfold FX at e1
 unfold FY at e2
 unfold FZ at e3
 unfold F0 at e4
 generalize fH s=B at *
 refine Spec.enter al ZC 100 Tryz.func79 rfl (by kernel_rfl) ?_
 refine fun _=>fun _=>fun _=>?_
 refine⟨fun k1=>?_,fun k1=>And.intro (fun k2=>?_) (fun k2=>And.intro (fun k3=>?_) (fun k3=>?_))⟩
 ·rw[e1 k1,eh,eb,ee]
  clear e1 e2 e3 e4 mA mB pL
  refine⟨fun a1=>?_,fun a1=>aj (show ¬ _ from fun k=>a1 k.1)⟩
  refine⟨fun a2=>?_,fun a2=>aj (show ¬ _ from fun k=>a2 k.2.1)⟩
  refine⟨fun a3=>?_,fun a3=>aj (show ¬ _ from fun k=>a3 k.2.2.1)⟩
  refine⟨fun a4=>?_,fun a4=>aj (show ¬ _ from fun k=>a4 k.2.2.2.1)⟩
  refine nA.u ?_
  refine⟨fun a5=>?_,fun a5=>aj (show ¬ _ from fun k=>a5 k.2.2.2.2.1)⟩
  refine nB.u ?_
  refine⟨fun a6=>?_,fun a6=>aj (show ¬ _ from fun k=>a6 k.2.2.2.2.2.1)⟩
  refine dV.u ?_
  refine⟨fun a7=>?_,fun a7=>aj (show ¬ _ from fun k=>a7 k.2.2.2.2.2.2.1)⟩
  refine aj ?_
  exact⟨fun k=>⟨a1,a2,a3,a4,a5,a6,a7,k.1.2 trivial,k.2.1.2 trivial,k.2.2.1.2 trivial⟩,fun k=>⟨iff_true_intro k.2.2.2.2.2.2.2.1,iff_true_intro k.2.2.2.2.2.2.2.2.1,iff_true_intro k.2.2.2.2.2.2.2.2.2,trivial⟩⟩
 ·rw[e2 k1 k2,eh,eb,ee,ed]
  clear e1 e2 e3 e4 dV mB pL
  refine⟨fun a1=>?_,fun a1=>aj (show ¬ _ from fun k=>a1 k.1)⟩
  refine⟨fun a2=>?_,fun a2=>aj (show ¬ _ from fun k=>a2 k.2.1)⟩
  refine⟨fun a3=>?_,fun a3=>aj (show ¬ _ from fun k=>a3 k.2.2.1)⟩
  refine⟨fun a4=>?_,fun a4=>aj (show ¬ _ from fun k=>a4 k.2.2.2.1)⟩
  refine mA.u ?_
  refine⟨fun a5=>?_,fun a5=>aj (show ¬ _ from fun k=>a5 k.2.2.2.2.1)⟩
  refine nB.u ?_
  refine⟨fun a6=>?_,fun a6=>aj (show ¬ _ from fun k=>a6 k.2.2.2.2.2.1)⟩
  refine fun _=>?_
  refine⟨fun a7=>?_,fun a7=>aj (show ¬ _ from fun k=>a7 k.2.2.2.2.2.2.1)⟩
  refine aj ?_
  exact⟨fun k=>⟨a1,a2,a3,a4,a5,a6,a7,k.1.2 trivial,k.2.1.2 trivial,k.2.2.1.2 trivial⟩,fun k=>⟨iff_true_intro k.2.2.2.2.2.2.2.1,iff_true_intro k.2.2.2.2.2.2.2.2.1,iff_true_intro k.2.2.2.2.2.2.2.2.2,trivial⟩⟩
 ·rw[e3 k1 k2 k3,eh,ed]
  clear e1 e2 e3 e4 dV mB pL
  refine⟨fun a1=>?_,fun a1=>aj (show ¬ _ from fun k=>a1 k.1)⟩
  refine⟨fun a2=>?_,fun a2=>aj (show ¬ _ from fun k=>a2 k.2.1)⟩
  refine⟨fun a3=>?_,fun a3=>aj (show ¬ _ from fun k=>a3 k.2.2.1)⟩
  refine mA.u ?_
  refine⟨fun a4=>?_,fun a4=>aj (show ¬ _ from fun k=>a4 k.2.2.2.1)⟩
  refine nB.u ?_
  refine⟨fun a5=>?_,fun a5=>aj (show ¬ _ from fun k=>a5 k.2.2.2.2.1)⟩
  refine fun _=>?_
  refine⟨fun a6=>?_,fun a6=>aj (show ¬ _ from fun k=>a6 k.2.2.2.2.2.1)⟩
  refine aj ?_
  exact⟨fun k=>⟨a1,a2,a3,a4,a5,a6,k⟩,fun k=>k.2.2.2.2.2.2⟩
 ·rw[e4 k1 k2 k3,ee,ed]
  clear e1 e2 e3 e4 dV nA nB
  refine⟨fun a1=>?_,fun a1=>aj (show ¬ _ from fun k=>a1 k.1)⟩
  refine⟨fun a2=>?_,fun a2=>aj (show ¬ _ from fun k=>a2 k.2.1)⟩
  refine⟨fun a3=>?_,fun a3=>aj (show ¬ _ from fun k=>a3 k.2.2.1)⟩
  refine mA.u ?_
  refine⟨fun a4=>?_,fun a4=>aj (show ¬ _ from fun k=>a4 k.2.2.2.1)⟩
  refine mB.u ?_
  refine⟨fun a5=>?_,fun a5=>aj (show ¬ _ from fun k=>a5 k.2.2.2.2.1)⟩
  refine fun _=>?_
  refine⟨fun a6=>?_,fun a6=>aj (show ¬ _ from fun k=>a6 k.2.2.2.2.2.1)⟩
  refine pL.u ?_
  refine⟨fun a7=>?_,fun a7=>aj (show ¬ _ from fun k=>a7 k.2.2.2.2.2.2.1)⟩
  refine aj ?_
  exact⟨fun k=>⟨a1,a2,a3,a4,a5,a6,a7,k⟩,fun k=>k.2.2.2.2.2.2.2⟩
end Go.Proofs.YtnbhdacpogplgaaGreatDoor.Pw

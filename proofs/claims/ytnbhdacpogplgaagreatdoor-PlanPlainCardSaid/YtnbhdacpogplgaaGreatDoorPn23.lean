/- What this claim is proved with: no condition. -/
import Derived.Test.YtnbhdacpogplgaaGreatDoorPn22
import Derived.Test.YtnbhdacpogplgaaGreatDoorRows
import Derived.Test.YtnbhdacpogplgaaGreatDoorPn20
import Derived.Test.YtnbhdacpogplgaaGreatDoorPn9
import Derived.ProofKit
import Derived.LaidMore
import Derived.OpenShut
import Derived.Stop.Joined
import Derived.Lib.LaidTab
set_option maxRecDepth 100000
set_option maxHeartbeats 16000000
set_option linter.unusedVariables false
set_option linter.unusedSimpArgs false
namespace Go.Proofs.YtnbhdacpogplgaaGreatDoor.Pw
open Go Go.RowKit
open Classical in
theorem pe (b:List Int) (hb:tc b) (hl:b.length<=2000) (w:WK) (hI:gM w.at_) (he:w.e=0) (a t:Int):Spec gT 21 [.ptr 0 0,.sl 17 [te (gb a t)]] [nw b w] [] fun y S'=>y=bj (c_ [gI b w a t])/\S' = [nw b (cT b w a t)]:=by
 have hs:=Bl b hb hl w hI a t
 have hj:=Bn (D9.one hl hI a t)
 generalize gI b w a t=c at *
 generalize cT b w a t=w2 at *
 refine Spec.BP (Spec.enter aw S9 100 Tryz.func21 rfl (by kernel_rfl) ?_)
 refine fun _=>?_
 refine SW.rounds aw S9 (by kernel_rfl) (N:=60) 3 ?_
 refine⟨fun _=>?_,fun h=>absurd (show (0:Int) < 1 by decide) h⟩
 refine⟨PV,[te (gb a t)],id,rfl,Int.le_refl _,(show (0:Int) < 1 by decide),fun x hx=>?_⟩
 obtain rfl:te (gb a t)=x:=by cases hx; rfl
 refine⟨fun h=>absurd he h,fun _=>?_⟩
 refine (hs).e ?_
 refine⟨fun h=>absurd (show (1:Int) < 1 from h) (by decide),fun _=>?_⟩
 refine⟨[],aE,hj.tX [4] rfl (by repeat' first|exact trivial|exact rfl|exact Iff.rfl|exact Or.inl rfl|refine And.intro ?_ ?_) rfl rfl ?_⟩
 exact rS
def ir (a:Int):WK:=⟨a,False,0,False,False,0⟩
noncomputable def fe (w:WK):WK:=aT w w.last
theorem Bt (b:List Int) (hb:tc b) (hl:b.length<=2000) (a t:Int) (hI:gM a) (Eb:(fe (cT b (ir a) a t)).e=201):ai gT 7 [.sl 1 (kr b),.int .i64 a,.sl 17 [te (gb a t)]] (.tup [bj o_,.int .i64 0,.int .i64 201]):=by
 have hs:=pe b hb hl (ir a) hI rfl a t
 unfold fe at Eb
 generalize c_ [gI b (ir a) a t]=c at *
 generalize cT b (ir a) a t=w2 at *
 refine Spec.enter aw P7 100 Tryz.func7 rfl (by kernel_rfl) ?_
 refine⟨[],aE,(hs).xA [1] rfl rfl rfl (by repeat' first|exact trivial|exact rfl|exact Iff.rfl|refine And.intro ?_ ?_) (And.intro (by first|(show dG _ _; exact cP rfl rfl)|(repeat' first|exact trivial|exact rfl|exact Iff.rfl|exact Or.inl rfl|exact not_false|refine And.intro ?_ ?_)) ?_)⟩
 refine⟨fun h1=>fun _=>And.intro (fun _=>?_) (fun h=>absurd (show (0:Int) < 1 by decide) h),fun h1=>?_⟩
 ·refine fun _=>?_
  refine li ?_ (show _<=(1:Int) - 1/\(1:Int) - 1<=_ by omega)
  refine⟨PV,[te (gb a t)],id,rfl,(show (0:Int)<=max (1 - 1) 0 by decide),(show max ((1:Int) - 1) 0 < 1 by decide),fun x hx=>?_⟩
  obtain rfl:te (gb a t)=x:=by cases hx; rfl
  rw[bM h1] at Eb
  refine⟨[],aE,(ny b w2).xA [1] rfl rfl rfl (by repeat' first|exact trivial|exact rfl|exact Iff.rfl|refine And.intro ?_ ?_) (And.intro (by first|(show dG _ _; exact cP rfl rfl)|(repeat' first|exact trivial|exact rfl|exact Iff.rfl|exact Or.inl rfl|exact not_false|refine And.intro ?_ ?_)) ?_)⟩
  refine⟨fun _=>?_,fun h=>absurd (show ¬ w2.e=0 by rw[Eb]; decide) h⟩
  rw[Eb]
  exact rA
 ·refine⟨[],aE,(ga b w2).xA [1] rfl rfl rfl (by repeat' first|exact trivial|exact rfl|exact Iff.rfl|refine And.intro ?_ ?_) (And.intro (by first|(show dG _ _; exact cP rfl rfl)|(repeat' first|exact trivial|exact rfl|exact Iff.rfl|exact Or.inl rfl|exact not_false|refine And.intro ?_ ?_)) ?_)⟩
  refine⟨fun _=>?_,fun h=>absurd (show ¬ (201:Int)=0 by decide) h⟩
  exact rA
theorem pf (b:List Int) (hb:tc b) (hl:b.length<=2000) (a t:Int) (hI:gM a) (he:(cT b (ir a) a t).e=0) (O9:(cT b (ir a) a t).last) {cy mi:Int} (h0:0 < cy/\0<=mi/\cy<=2147483647/\mi<=2147483647) (hc:gI b (ir a) a t=bh cy mi):ai gT 7 [.sl 1 (kr b),.int .i64 a,.sl 17 [te (gb a t)]] (.tup [bj (bh cy mi),.int .i64 (cT b (ir a) a t).at_,.int .i64 0]):=by
 have hs:=pe b hb hl (ir a) hI rfl a t
 rw[hc,nD h0.1] at hs
 have hr:ai gT 23 [bj (bh cy mi)] (.bool (cN (bh cy mi)<=16384/\fZ (bh cy mi)=true)):=sY (bh cy mi) ⟨.zero,.zero,trivial⟩ ⟨by decide,by decide,trivial⟩ (show 1<=1000000 by decide)
 generalize cT b (ir a) a t=w2 at *
 refine Spec.enter aw P7 100 Tryz.func7 rfl (by kernel_rfl) ?_
 refine⟨[],aE,(hs).xA [1] rfl rfl rfl (by repeat' first|exact trivial|exact rfl|exact Iff.rfl|refine And.intro ?_ ?_) (And.intro (by first|(show dG _ _; exact cP rfl rfl)|(repeat' first|exact trivial|exact rfl|exact Iff.rfl|exact Or.inl rfl|exact not_false|refine And.intro ?_ ?_)) ?_)⟩
 refine⟨fun h1=>fun _=>And.intro (fun _=>?_) (fun h=>absurd (show (0:Int) < 1 by decide) h),fun h1=>absurd O9 h1⟩
 refine fun _=>?_
 refine li ?_ (show _<=(1:Int) - 1/\(1:Int) - 1<=_ by omega)
 refine⟨PV,[te (gb a t)],id,rfl,(show (0:Int)<=max (1 - 1) 0 by decide),(show max ((1:Int) - 1) 0 < 1 by decide),fun x hx=>?_⟩
 obtain rfl:te (gb a t)=x:=by cases hx; rfl
 refine⟨[],aE,(ny b w2).xA [1] rfl rfl rfl (by repeat' first|exact trivial|exact rfl|exact Iff.rfl|refine And.intro ?_ ?_) (And.intro (by first|(show dG _ _; exact cP rfl rfl)|(repeat' first|exact trivial|exact rfl|exact Iff.rfl|exact Or.inl rfl|exact not_false|refine And.intro ?_ ?_)) ?_)⟩
 refine⟨fun h=>absurd he h,fun _=>?_⟩
 refine hr.u ?_
 have Wt:fZ (bh cy mi)=true:=by
  have e:sI 1 cy mi 0 0=true:=by
   unfold sI xL
   simp
   omega
  unfold bh fZ
  rw[e]
  decide
 refine⟨fun h=>absurd (show cN (bh cy mi)<=16384/\fZ (bh cy mi)=true from ⟨(show 1<=16384 by decide),Wt⟩) h,fun _=>?_⟩
 exact rA
open Classical in
theorem dt {w:WK} {p:Prop} (h:w.e=201):(aT w p).e=201:=by
 unfold aT
 show (if p then w.e else 201)=201
 split
 ·exact h
 ·rfl
theorem fg {w:WK} {p:Prop} (h:¬ p):(aT w p).e=201:=by rw[il h]
theorem nI (w:WK) (p:Prop):(aT w p).last=w.last:=rfl
theorem pg {b:List Int} {w:WK} (h:w.e=201\/eA b w.at_≠0):(da b w).e=201:=by
 have h1:(aT w (eA b w.at_=0)).e=201:=by
  rcases h with h|h
  ·exact dt h
  ·exact fg h
 unfold da
 rw[if_pos (show (aT w (eA b w.at_=0)).e≠0 by rw[h1]; decide)]
 exact h1
def k8 (b:List Int) (x:dJ):Prop:=x.w.last\/eA b x.w.at_≠0\/vZ (iA b x.w.at_).form\/(iA b x.w.at_).form=45\/(iA b x.w.at_).form=97
theorem uR {b:List Int} {x:dJ} (hd:x.a_ = []):(bB b x).a_ = []:=by
 unfold bB
 simp only
 split
 ·exact hd
 ·rw[hd]
theorem x6 {b:List Int} {x:dJ} (hd:x.a_ = []) (h:k8 b x):(bB b x).w.e=201:=by
 have key:¬ (iA b x.w.at_).form=97->(aT (da b (aT x.w (¬ x.w.last))) (¬ vZ (iA b x.w.at_).form/\(iA b x.w.at_).form≠45)).e=201:=fun vX=>by
  rcases h with h|h|h|h|h
  ·exact dt (pg (.inl (fg fun k=>k h)))
  ·exact dt (pg (.inr h))
  ·exact fg fun k=>k.1 h
  ·exact fg fun k=>k.2 h
  ·exact absurd h vX
 unfold bB
 simp only
 split
 ·rename_i vX
  exact key vX
 ·rw[hd]
theorem gA {b:List Int} {x:dJ} (he:x.w.e=0) (hd:x.a_ = []) (hf:¬ x.w.cz) (h:¬ k8 b x):bB b x=⟨⟨x.w.at_+br (iA b x.w.at_).form,True,sG (134217728+x.w.at_) (br (iA b x.w.at_).form),False,dp (iA b x.w.at_),0⟩,x.out++[bh (cR b x.w.at_) (fw x.w x.w.at_ (br (iA b x.w.at_).form))],[]⟩:=by
 unfold k8 at h
 have h1:¬ x.w.last:=fun k=>h (.inl k)
 have h2:eA b x.w.at_=0:=Classical.not_not.1 fun k=>h (.inr (.inl k))
 have h3:¬ vZ (iA b x.w.at_).form/\(iA b x.w.at_).form≠45:=⟨fun k=>h (.inr (.inr (.inl k))),fun k=>h (.inr (.inr (.inr (.inl k))))⟩
 have h4:(iA b x.w.at_).form≠97:=fun k=>h (.inr (.inr (.inr (.inr k))))
 have hn:¬ (aT x.w (eA b x.w.at_=0)).e≠0:=fun k=>k (by rw[bM h2]; exact he)
 have e1:da b x.w = { A6 x.w x.w.at_ (br (iA b x.w.at_).form) with cz:=False,at_:=x.w.at_+br (iA b x.w.at_).form }:=by
  unfold da
  rw[if_neg hn,if_neg hf]
 have e2:fx b x.w=fw x.w x.w.at_ (br (iA b x.w.at_).form):=by
  unfold fx
  rw[if_neg hn,if_neg hf]
 unfold bB
 simp only
 rw[if_pos h4,bM h1,bM h3,e1,e2,hd]
 unfold A6
 rw[he]
theorem ph {b:List Int} {t:Int} {x:dJ} (h:¬ (x.w.at_ < t/\x.w.e=0)):∀ n,runN b t n x=x
 | 0=>rfl
 | n+1=>by rw[runN,if_neg h]
structure km (b:List Int) (t:Int) (R:dJ) (a0:Int) where
 x:dJ
 n:Nat
 jE:sN t x < n
 eq:runN b t n x=R
 e:x.w.e=0
 a_:x.a_ = []
 PF:¬ x.w.cz
 l:List (Int × Int)
 out:x.out=jb l
 bd:∀ p∈l,(1<=p.1/\p.1<=20)/\0<=p.2/\p.2<=2
 a:a0<=x.w.at_/\0<=a0/\x.w.at_ - a0<=b.length+4/\2*l.length<=x.w.at_ - a0/\(x.w.at_≠a0->l≠[])
theorem km.stop {b:List Int} {t:Int} {R:dJ} {a0:Int} (r:km b t R a0) (h:¬ r.x.w.at_ < t):R=r.x:=by
 exact r.eq.symm.trans (ph (fun k=>h k.1) _)
theorem km.bad {b:List Int} {t:Int} {R:dJ} {a0:Int} (r:km b t R a0) (h:r.x.w.at_ < t) (hb:k8 b r.x):R.w.e=201/\R.a_ = []:=by
 have h1:=x6 r.a_ hb
 have h2:R=bB b r.x:=by
  have hf:=r.jE
  obtain⟨k,hk⟩:∃ k,r.n=k+1:=⟨r.n - 1,by omega⟩
  have e:=r.eq
  rw[hk,runN,if_pos ⟨h,r.e⟩] at e
  refine e.symm.trans ?_
  split
  ·rfl
  ·exact ph (fun k=>by rw[h1] at k; exact absurd k.2 (by decide)) _
 rw[h2]
 exact⟨h1,uR r.a_⟩
theorem pj {b:List Int} {n:Int} (h:eA b n=0):1<=cR b n/\cR b n<=20:=by
 obtain⟨_,hr,hi⟩:=cQ h
 have:=fy hr hi
 unfold cR
 rw[if_pos h]
 exact sM _ _ (by unfold cb; omega) (by unfold cb; omega) this.1 this.2
noncomputable def kn (b:List Int) (x:dJ):Int × Int:=(cR b x.w.at_,fw x.w x.w.at_ (br (iA b x.w.at_).form))
theorem km.next {b:List Int} {t:Int} {R:dJ} {a0:Int} (r:km b t R a0) (h:r.x.w.at_ < t) (hb:¬ k8 b r.x):∃ r':km b t R a0,r'.x=bB b r.x/\r'.l=r.l++[kn b r.x]/\r'.n < r.n:=by
 have he:eA b r.x.w.at_=0:=Classical.not_not.1 fun k=>hb (.inr (.inl k))
 have hg:=gA r.e r.a_ r.PF hb
 have hf:=r.jE
 have hp:=pj he
 have hm:=nz r.x.w r.x.w.at_ (br (iA b r.x.w.at_).form)
 obtain⟨⟨p1,p2⟩,p3,_⟩:=cQ he
 have hs:=nx p3
 have ha:=r.a
 have O2:=o9 (b:=b) (till:=t) (x:=r.x) ⟨h,r.e⟩
 have hlen:(r.l++[kn b r.x]).length=r.l.length+1:=by rw[List.length_append,List.length_singleton]
 have hw:(bB b r.x).w.at_=r.x.w.at_+br (iA b r.x.w.at_).form:=by rw[hg]
 refine⟨⟨bB b r.x,r.n - 1,by omega,?_,by rw[hg],by rw[hg],by rw[hg]; exact id,r.l++[kn b r.x],?_,?_,?_⟩,rfl,rfl,by show r.n - 1 < r.n; omega⟩
 ·obtain⟨k,hk⟩:∃ k,r.n=k+1:=⟨r.n - 1,by omega⟩
  have e:=r.eq
  rw[hk] at e ⊢
  rw[runN,if_pos ⟨h,r.e⟩,if_neg (show ¬ xW b r.x from fun k=>hb (.inr (.inr (.inr (.inr k.1)))))] at e
  exact e
 ·rw[hg,r.out]
  unfold jb kn
  rw[List.map_append]
  rfl
 ·intro p cE
  rcases List.mem_append.1 cE with cE|cE
  ·exact r.bd p cE
  ·rw[List.mem_singleton] at cE
   rw[cE]
   exact⟨hp,hm⟩
 ·rw[hlen,hw]
  refine⟨by omega,ha.2.1,by omega,by omega,fun _ k=>?_⟩
  rw[k] at hlen
  cases hlen
theorem mc:∀ {l:List (Int × Int)},(∀ p∈l,(1<=p.1/\p.1<=20)/\0<=p.2/\p.2<=2)->(l.length<=(l.map (·.1)).sum/\(l.map (·.1)).sum<=20*l.length)/\0<=(l.map (·.2)).sum/\(l.map (·.2)).sum<=2*l.length
 | [],_=>by simp
 | p::l,h=>by
  have h1:=mc (l:=l) fun q hq=>h q (List.mem_cons_of_mem _ hq)
  have h2:=h p (List.mem_cons_self ..)
  simp only[List.map_cons,List.sum_cons,List.length_cons]
  omega
theorem x7 (l:List (Int × Int)) (p:Int × Int):((l++[p]).map (·.1)).sum=(l.map (·.1)).sum+p.1/\((l++[p]).map (·.2)).sum=(l.map (·.2)).sum+p.2:=by
 simp[List.map_append,List.sum_append]
theorem Bu {b:List Int} {t:Int} {R:dJ} {a0:Int}:∀ (n:Nat) (r:km b t R a0),r.n<=n->(R.w.e=201/\R.a_ = [])\/∃ r':km b t R a0,r'.x=R/\¬ R.w.at_ < t
 | 0,r,h=>by have:=r.jE; omega
 | n+1,r,h=>by
  by_cases hc:r.x.w.at_ < t
  ·by_cases hb:k8 b r.x
   ·exact .inl (r.bad hc hb)
   ·obtain⟨r',h1,_,h3⟩:=r.next hc hb
    exact Bu n r' (by omega)
  ·have:=r.stop hc
   exact .inr ⟨r,this.symm,by rw[this]; exact hc⟩
noncomputable def eD (b:List Int) (a t:Int):dJ:=oc b (ir a) t []
noncomputable def Lc (b:List Int) (a t:Int) (h0:0<=a):km b t (eD b a t) a:=⟨⟨ir a,[],[]⟩,(t - a).toNat+1,by
  unfold sN
  rw[if_pos (show (ir a).e=0 from rfl)]
  show (t - a).toNat < _; omega,rfl,rfl,rfl,fun k=>k,[],rfl,(fun p hp=>by cases hp),⟨Int.le_refl _,h0,by show a - a<=_; omega,by show 2*(([]:List (Int × Int)).length:Int)<=a - a; simp,fun k=>absurd rfl k⟩⟩
theorem Ec (a t:Int) (h:a < t):dq (ir a) a t=ir a:=by
 unfold dq
 exact bM ⟨rfl,h,fun k=>k⟩
theorem ko (b:List Int) (a t:Int) (h:a < t):gI b (ir a) a t=c_ (eD b a t).out/\cT b (ir a) a t=aT (aT (eD b a t).w ((eD b a t).a_ = [])) ((eD b a t).w.at_=t):=by
 unfold gI cT
 rw[Ec a t h,if_neg (show ¬ (ir a).e≠0 from fun k=>k rfl),if_neg (show ¬ (ir a).e≠0 from fun k=>k rfl)]
 exact⟨rfl,rfl⟩
theorem sZ (b:List Int) (a t:Int) (h:¬ a < t):(fe (cT b (ir a) a t)).e=201:=by
 have e:(dq (ir a) a t).e=201:=fg fun k=>h k.2.1
 have:cT b (ir a) a t=dq (ir a) a t:=by
  unfold cT
  rw[if_pos (by rw[e]; decide)]
 unfold fe
 rw[this]
 exact dt e
theorem E7 (b:List Int) (a t:Int) (h:a < t) (hR:(eD b a t).w.e=201):(fe (cT b (ir a) a t)).e=201:=by
 rw[(ko b a t h).2]
 exact dt (dt (dt hR))
theorem qt (b:List Int) (a t:Int) (h:a < t) (hR:¬ ((eD b a t).w.at_=t/\(eD b a t).w.last)):(fe (cT b (ir a) a t)).e=201:=by
 rw[(ko b a t h).2]
 by_cases h1:(eD b a t).w.at_=t
 ·refine fg ?_
  rw[nI,nI]
  exact fun k=>hR ⟨h1,k⟩
 ·exact dt (fg h1)
theorem nJ (b:List Int) (a t:Int) (h:a < t) (r:km b t (eD b a t) a) (hx:r.x=eD b a t) (hR:(eD b a t).w.at_=t/\(eD b a t).w.last):cT b (ir a) a t=(eD b a t).w/\gI b (ir a) a t=bh (r.l.map (·.1)).sum (r.l.map (·.2)).sum/\0 < (r.l.map (·.1)).sum:=by
 have hs:=mc r.bd
 have ha:=r.a
 rw[hx] at ha
 have hl:r.l≠[]:=ha.2.2.2.2 (by rw[hR.1]; omega)
 have eF:0 < r.l.length:=List.length_pos_iff.2 hl
 have ho:=r.out
 rw[hx] at ho
 have hd:=r.a_
 rw[hx] at hd
 obtain⟨h1,h2⟩:=ko b a t h
 rw[h1,h2,bM hd,bM hR.1,ho]
 exact⟨rfl,sS (by omega),by omega⟩
theorem Bv (b:List Int) (hb:tc b) (hl:b.length<=2000) (a t:Int) (h0:0<=a) (hI:gM a):∃ (c:C) (en er:Int),ai gT 7 [.sl 1 (kr b),.int .i64 a,.sl 17 [te (gb a t)]] (.tup [bj c,.int .i64 en,.int .i64 er]) /\
  ((fe (cT b (ir a) a t)).e=201/\er=201/\en=0\/(fe (cT b (ir a) a t)).e=0/\er=0/\en=t/\a < t/\c=c_ (eD b a t).out):=by
 have bad:(fe (cT b (ir a) a t)).e=201->_:=fun h=>(⟨o_,0,201,Bt b hb hl a t hI h,.inl ⟨h,rfl,rfl⟩⟩:∃ (c:C) (en er:Int),ai gT 7 [.sl 1 (kr b),.int .i64 a,.sl 17 [te (gb a t)]] (.tup [bj c,.int .i64 en,.int .i64 er]) /\
  ((fe (cT b (ir a) a t)).e=201/\er=201/\en=0\/(fe (cT b (ir a) a t)).e=0/\er=0/\en=t/\a < t/\c=c_ (eD b a t).out))
 by_cases lL:a < t
 ·rcases Bu _ (Lc b a t h0) (Nat.le_refl _) with hR|⟨r,hr,tw⟩
  ·exact bad (E7 b a t lL hR.1)
  ·by_cases hR:(eD b a t).w.at_=t/\(eD b a t).w.last
   ·obtain⟨g1,g2,g3⟩:=nJ b a t lL r hr hR
    have hs:=mc r.bd
    have ha:=r.a
    have he:=r.e
    rw[hr] at he
    have hc:=pf b hb hl a t hI (by rw[g1]; exact he) (by rw[g1]; exact hR.2) ⟨g3,by omega,by omega,by omega⟩ g2
    refine⟨_,_,_,hc,.inr ⟨?_,rfl,?_,lL,(g2.symm.trans (ko b a t lL).1)⟩⟩
    ·unfold fe
     rw[g1,bM hR.2]
     exact he
    ·rw[g1]; exact hR.1
   ·exact bad (qt b a t lL hR)
 ·exact bad (sZ b a t lL)
theorem pk {b:List Int} {n:Nat} {i:IN} (h:bC i) (hg:i.aq<=9223372036854775807) (hn:¬ 48<=i.form) (hl:n+2<=b.length) (hw:hN b n=bZ i) (hb:¬ eC (bZ i)):iA b n=i/\eA b n=0:=by
 have fst:=DP i h hg
 have bk:=back i h hg
 have e:(48<=i.form)=False:=eq_false hn
 rw[e] at fst
 unfold iA eA
 rw[if_pos (by omega),if_pos (by omega),Int.toNat_natCast]
 unfold yh yi
 rw[if_neg (by omega),hw,if_pos hb,if_neg (by omega),if_pos hb,qm fst,uH fst]
 exact⟨bk,rfl⟩
def s4:IN:=⟨42,0,0,0,0,0,0,0,0,0,16624⟩
def s5:IN:=⟨43,0,0,0,0,0,0,0,0,0,33008⟩
def pn:List Int:=[240,181,240,189]
theorem Bw:bC s4:=by
 show aD _ (cw (af 42))
 rw[show af 42=11 by decide,show cw 11 = {hZ with aq:=16639} from rfl]
 refine⟨by decide,.inr (.inr (.inr (by decide))),.inr (.inr (.inr (by decide))),.inr (.inr (.inr (by decide))),.inr (.inr (.inr (by decide))),by unfold ey; decide +kernel,.inl rfl,.inl (by decide),.inl rfl,.inr ⟨Bool.false_ne_true,rfl,.inl (by decide)⟩,?_⟩
 refine⟨by decide,by decide,by decide,by decide,?_⟩
 show af 42=18\/af 42=19\/af 42=20->_
 rw[show af 42=11 by decide]
 exact fun h=>absurd h (by decide)
theorem Bx:bC s5:=by
 show aD _ (cw (af 43))
 rw[show af 43=12 by decide,show cw 12 = {hZ with aq:=33023} from rfl]
 refine⟨by decide,.inr (.inr (.inr (by decide))),.inr (.inr (.inr (by decide))),.inr (.inr (.inr (by decide))),.inr (.inr (.inr (by decide))),by unfold ey; decide +kernel,.inl rfl,.inl (by decide),.inl rfl,.inr ⟨Bool.false_ne_true,rfl,.inl (by decide)⟩,?_⟩
 refine⟨by decide,by decide,by decide,by decide,?_⟩
 show af 43=18\/af 43=19\/af 43=20->_
 rw[show af 43=12 by decide]
 exact fun h=>absurd h (by decide)
theorem wb:bZ s4=46576:=by decide +kernel
theorem wc:bZ s5=48624:=by decide +kernel
theorem po:iA pn 0=s4/\eA pn 0=0:=pk (n:=0) Bw (by decide) (by decide) (by decide) (by rw[wb]; decide) (by rw[wb]; unfold eC; decide)
theorem pq:iA pn 2=s5/\eA pn 2=0:=pk (n:=2) Bx (by decide) (by decide) (by decide) (by rw[wc]; decide) (by rw[wc]; unfold eC; decide)
theorem nK:∀ n:Int,0<=n->n<=65535->(xJ n↔32768<=n):=by
 intro n h0 h1
 unfold xJ
 rw[show Ev.aC .i64 15=32768 by decide]
 by_cases h:32768<=n
 ·rw[show n / 32768=1 by omega]
  exact⟨fun _=>h,fun _=>by decide⟩
 ·rw[show n / 32768=0 by omega]
  exact⟨fun k=>absurd k (by decide),fun k=>absurd k h⟩
theorem we:cR pn 0=6:=by unfold cR; rw[po.1,if_pos po.2]; decide +kernel
theorem wg:cR pn 2=8:=by unfold cR; rw[pq.1,if_pos pq.2]; decide +kernel
theorem By:∃ r:km pn 4 (eD pn 0 4) 0,r.x=eD pn 0 4/\(eD pn 0 4).w.at_=4/\(eD pn 0 4).w.last/\(r.l.map (·.1)).sum=14/\(r.l.map (·.2)).sum=1:=by
 obtain⟨r0,tT⟩:∃ r0:km pn 4 (eD pn 0 4) 0,r0.x=⟨ir 0,[],[]⟩/\r0.l = []:=⟨Lc pn 0 4 (by decide),rfl,rfl⟩
 have a0:r0.x.w.at_=0:=by rw[tT.1]; rfl
 have n0:¬ k8 pn r0.x:=by
  unfold k8
  rw[a0,po.1,po.2,tT.1]
  rintro (h|h|h|h|h)
  ·exact h
  ·exact h rfl
  ·revert h; unfold vZ s4; decide
  ·revert h; unfold s4; decide
  ·revert h; unfold s4; decide
 obtain⟨r1,h1,l1,_⟩:=r0.next (by rw[a0]; decide) n0
 have g1:=gA r0.e r0.a_ r0.PF n0
 rw[a0,po.1,we] at g1
 rw[← h1] at g1
 have a1:r1.x.w.at_=2:=by rw[g1]; rfl
 have n1:¬ k8 pn r1.x:=by
  unfold k8
  rw[a1,pq.1,pq.2,g1]
  rintro (h|h|h|h|h)
  ·exact absurd (show (42:Int)=43 from h.1) (by decide)
  ·exact h rfl
  ·revert h; unfold vZ s5; decide
  ·revert h; unfold s5; decide
  ·revert h; unfold s5; decide
 obtain⟨r2,h2,l2,_⟩:=r1.next (by rw[a1]; decide) n1
 have g2:=gA r1.e r1.a_ r1.PF n1
 rw[a1,pq.1,wg] at g2
 rw[← h2] at g2
 have a2:r2.x.w.at_=4:=by rw[g2]; rfl
 have hs:=r2.stop (by rw[a2]; decide)
 have ls:dp s5:=⟨rfl,(nK 33008 (by decide) (by decide)).2 (by decide)⟩
 have m0:kn pn r0.x=(6,1):=by
  unfold kn fw n_ dH
  rw[a0,po.1,we,tT.1,if_pos (show br s4.form=2 by decide),if_neg (fun k=>k.1)]
 have m1:kn pn r1.x=(8,0):=by
  unfold kn fw n_ dH
  rw[a1,pq.1,wg,g1,if_pos (show br s5.form=2 by decide),if_pos ⟨trivial,show sG (134217728+0) (br s4.form)=dn (134217728+2) by decide⟩]
 refine⟨r2,hs.symm,by rw[hs,a2],by rw[hs,g2]; exact ls,?_,?_⟩
 ·rw[l2,l1,tT.2,m0,m1]; decide
 ·rw[l2,l1,tT.2,m0,m1]; decide
def Ub (a t:Int):List PV:=[.int .i64 1,.int .i64 a,.int .i64 t,.int .i64 0,.int .i64 (-1),.int .i64 0,.int .i64 0,.int .i64 0,.int .u32 0,.nil,.int .i64 0,.int .u32 0,.nil,.nil,.nil,.nil,.nil]
theorem O' (a t:Int):iC pQ (Ub a t) (Sg (gb a t)):=by
 repeat' first|exact trivial|exact rfl|exact Or.inl rfl|refine And.intro ?_ ?_
theorem O_ {f:FuncId} {a t:Int} {b:List Int} {y:PV} (h:ai gT f [.sl 1 (kr b),.int .i64 a,.sl 17 [te (gb a t)]] y):ai gT f [.sl 1 (kr b),.int .i64 a,.sl 17 [.agg (Ub a t)]] y :=
 Spec.E4 h ⟨oH.refl _,oH.refl _,E3 ⟨O' a t,trivial⟩,trivial⟩
theorem oh:ai gT 6 [] .tt:=by
 obtain⟨r,hx,lL,LH,s1,s2⟩:=By
 obtain⟨g1,g2,g3⟩:=nJ pn 0 4 (by decide) r hx ⟨lL,LH⟩
 have he:=r.e
 rw[hx] at he
 rw[s1,s2] at g2
 have hc:=(pf pn (by intro x hx; revert x; decide) (by decide) 0 4 ⟨by decide,by decide⟩ (by rw[g1]; exact he) (by rw[g1]; exact LH) ⟨by decide,by decide,by decide,by decide⟩ g2)
 rw[g1,lL] at hc
 have hc:=O_ hc
 refine Spec.enter aw P6 100 Tryz.func6 rfl (by kernel_rfl) ?_
 refine⟨[],aE,hc.tX [0,1] rfl (And.intro (Or.inr (And.intro rfl rfl)) (And.intro rfl (And.intro (Or.inl rfl) trivial))) rfl rfl ?_⟩
 refine⟨fun _=>And.intro (fun _=>?_) (fun h=>absurd (rfl:(4:Int)=4) h),fun h=>absurd (rfl:(0:Int)=0) h⟩
 refine (gw 14 1).u ?_
 refine (ns (bh 14 1) (bh 14 1)).u ?_
 refine al ?_
 exact rfl
def Sq (w:WK):aj:=⟨.loc,39,1,.w,true,[.bool w.full,.int .u32 w.line]⟩
theorem nL (b:List Int) (hb:tc b) (a t:Int) (Wu:gM a) (W9:gM t):ai gT 3 [.sl 1 (kr b),.int .i64 a,.int .i64 t] .tt:=by
 have el:(kr b).length=b.length:=List.length_map ..
 refine Spec.enter aw P3 100 Tryz.func3 rfl (by kernel_rfl) ?_
 refine⟨[],aE,oh.use trivial rfl rfl ?_⟩
 refine fun lU=>?_
 refine⟨fun Pa=>?_,fun Pa=>?_⟩
 ·exact rA
 refine⟨fun ha=>?_,fun ha=>?_⟩
 ·exact rA
 refine fun qQ=>?_
 refine⟨fun ht=>?_,fun ht=>?_⟩
 ·exact rA
 have Pb:¬ (400:Int) < ((kr b).length:Nat):=Pa
 have s7:¬ ((kr b).length:Int) < t:=ht
 rw[el] at Pb s7
 have cW:¬ a < 0:=ha
 obtain⟨c,en,er,hc,Ba⟩:=Bv b hb (by omega) a t (by omega) Wu
 have hc:=O_ hc
 refine⟨[],aE,hc.tX [0] rfl (And.intro (by repeat' first|exact trivial|exact rfl|exact Iff.rfl|exact Or.inl rfl|refine And.intro ?_ ?_) (And.intro rfl (And.intro (Or.inl rfl) trivial))) rfl rfl ?_⟩
 refine SW.E1 aw P3 (by kernel_rfl) (α:=km b t (eD b a t) a) (fun r=>[(0,.sl 1 (kr b)),(1,.int .i64 a),(2,.int .i64 t),(7,.ptr 0 0),(8,.int .i64 en),(9,.int .i64 er),(10,.int .i64 (r.l.map (·.1)).sum),(11,.int .i64 (r.l.map (·.2)).sum),(12,.bool (r.x.w.at_<=t/\a < t)),(13,.ptr 1 0),(14,.bool r.x.w.last),(15,.int .i64 r.x.w.at_)]) (fun r=>[⟨.loc,30,1,.w,true,DW c⟩,Sq r.x.w]) (fun r=>r.n) (Lc b a t (by omega)) 100 [some 1,some 2] ?_ ?_
 ·repeat' first|exact trivial|exact rfl|exact Iff.rfl|exact not_false|refine And.intro ?_ ?_
  all_goals exact (show a < t↔(a<=t/\a < t) by omega)
 intro r
 have wh:(fe (cT b (ir a) a t)).e=201->er=201/\en=0:=fun h=>by
  rcases Ba with h'|h'
  ·exact h'.2
  ·rw[h] at h'; exact absurd h'.1 (by decide)
 have W_:=r.a
 have Xa:=mc r.bd
 refine⟨fun hg=>And.intro (fun hn=>?_) (fun hn=>?_),fun hg=>?_⟩
 ·have hA:=sL b hb (by omega) r.x.w.at_ (by unfold gM; omega)
  have Wv:=r.next hn
  have Lj:=r.bad hn
  have Ww:=gA (b:=b) r.e r.a_ r.PF
  have Wx:=@cQ b r.x.w.at_
  obtain⟨eB,iV⟩:=nA b r.x.w.at_
  have tA:=@pj b r.x.w.at_
  have x9:kn b r.x=(cR b r.x.w.at_,fw r.x.w r.x.w.at_ (br (iA b r.x.w.at_).form)):=rfl
  have LI:k8 b r.x↔(r.x.w.last\/eA b r.x.w.at_≠0\/vZ (iA b r.x.w.at_).form\/(iA b r.x.w.at_).form=45\/(iA b r.x.w.at_).form=97):=Iff.rfl
  have hE:k8 b r.x->er=201/\en=0:=fun h=>wh (E7 b a t hg.2 (Lj h).1)
  refine hA.u ?_
  generalize iA b r.x.w.at_=i at *
  generalize eA b r.x.w.at_=e at *
  generalize cR b r.x.w.at_=bb at *
  refine⟨fun he=>?_,fun he=>?_⟩
  ·have q:=hE (LI.2 (.inr (.inl he)))
   refine⟨fun _=>?_,fun h=>absurd q.1 h⟩
   exact al (show en=0 from q.2)
  have s8:e=0:=Classical.not_not.1 he
  obtain⟨⟨p0,p1⟩,p2,p3⟩:=Wx s8
  refine (v3 i).u ?_
  refine⟨fun D8=>?_,fun D8=>?_⟩
  ·have q:=hE (LI.2 (.inr (.inr (.inl D8))))
   refine⟨fun _=>?_,fun h=>absurd q.1 h⟩
   exact al (show en=0 from q.2)
  refine⟨fun Sr=>?_,fun Sr=>?_⟩
  ·have q:=hE (LI.2 (.inr (.inr (.inr (.inl Sr)))))
   refine⟨fun _=>?_,fun h=>absurd q.1 h⟩
   exact al (show en=0 from q.2)
  refine⟨fun vX=>?_,fun vX=>?_⟩
  ·have q:=hE (LI.2 (.inr (.inr (.inr (.inr vX)))))
   refine⟨fun _=>?_,fun h=>absurd q.1 h⟩
   exact al (show en=0 from q.2)
  refine⟨fun LH=>?_,fun LH=>?_⟩
  ·have q:=hE (LI.2 (.inl LH))
   refine⟨fun _=>?_,fun h=>absurd q.1 h⟩
   exact al (show en=0 from q.2)
  have K8:¬ k8 b r.x:=fun h=>by
   rcases LI.1 h with k|k|k|k|k
   ·exact LH k
   ·exact k s8
   ·exact D8 k
   ·exact Sr k
   ·exact vX k
  obtain⟨r',fh,eF,Fe⟩:=Wv K8
  rw[Ww K8] at fh
  have Xb:=tA s8
  have hs:=nx p2
  have D5:=lv i
  have hf:=@nh r.x.w.full (Classical.propDecidable _) r.x.w.line (134217728+r.x.w.at_) (br i.form) ⟨by omega,by omega⟩ hs
  have hm:@n_ r.x.w.full (Classical.propDecidable _) r.x.w.line (134217728+r.x.w.at_) (br i.form)=fw r.x.w r.x.w.at_ (br i.form):=rfl
  rw[hm] at hf
  have Xc:=nz r.x.w r.x.w.at_ (br i.form)
  generalize fw r.x.w r.x.w.at_ (br i.form)=mm at *
  generalize br i.form=z at *
  rw[x9] at eF
  obtain⟨e1,e2⟩:=x7 r.l (bb,mm)
  rw[← eF] at e1 e2
  have Ed:=fy p2 p3
  refine⟨[],aE,iV.use (by first|exact cP rfl rfl|(repeat' first|exact trivial|exact rfl|exact Iff.rfl|exact Or.inl rfl|exact not_false|refine And.intro ?_ ?_)) rfl rfl ?_⟩
  refine lu ?_ (show 0<=r.x.w.at_/\r.x.w.at_<=4294967295 by omega)
  refine lu ?_ (show 0<=134217728+r.x.w.at_/\134217728+r.x.w.at_<=4294967295 by omega)
  refine D5.u ?_
  refine hf.u ?_
  refine And.intro (And.intro ?_ (And.intro ?a5 ?t5)) (And.intro ?a6 ?t6)
  case t5=>(conv=>whnf); exact trivial
  case t6=>(conv=>whnf); exact trivial
  case a6 =>
   conv=>whnf
   refine hf.u ?_
   exact rfl
  case a5 =>
   conv=>whnf
   refine D5.u ?_
   refine hf.u ?_
   exact rfl
  refine li ?_ (show _<=(r.l.map (·.1)).sum+bb/\(r.l.map (·.1)).sum+bb<=_ by omega)
  refine li ?_ (show _<=(r.l.map (·.2)).sum+mm/\(r.l.map (·.2)).sum+mm<=_ by omega)
  refine⟨fun LF=>?p1,fun LF=>?p2⟩
  all_goals
   refine D5.u ?_
   refine li ?_ (show _<=r.x.w.at_+z/\r.x.w.at_+z<=_ by omega)
   refine⟨fun _=>?_,fun h=>absurd hg h⟩
   obtain⟨x2,n2,q1,q2,q3,q4,q5,l2,q6,q7,q8⟩:=r'
   obtain rfl:x2=_:=fh
   refine⟨⟨_,n2,q1,q2,q3,q4,q5,l2,q6,q7,q8⟩,[some 0,some 1],Fe,?_⟩
   repeat' first|exact trivial|exact rfl|exact Iff.rfl|exact not_false|refine And.intro ?_ ?_
   all_goals first
    | exact (show (r.l.map (·.1)).sum+bb=(l2.map (·.1)).sum from e1.symm)
    | exact (show (r.l.map (·.2)).sum+mm=(l2.map (·.2)).sum from e2.symm)
    | exact (show r.x.w.at_+z<=t↔(r.x.w.at_+z<=t/\a < t) from ⟨fun h=>⟨h,hg.2⟩,fun h=>h.1⟩)
    | exact (show 32768<=i.aq↔dp i from ⟨fun h=>⟨LF,(nK i.aq Ed.1 Ed.2).2 h⟩,fun h=>(nK i.aq Ed.1 Ed.2).1 h.2⟩)
    | exact (show ¬ dp i from fun h=>LF h.1)
 ·have lL:r.x.w.at_=t:=by omega
  have hR:=r.stop hn
  refine⟨fun h=>absurd hg h,fun _=>?_⟩
  refine⟨fun hl=>?_,fun hl=>?_⟩
  ·have q:=wh (qt b a t hg.2 (by rw[hR]; exact fun k=>hl k.2))
   refine⟨fun _=>?_,fun h=>absurd q.1 h⟩
   exact al (show en=0 from q.2)
  ·have eF:r.x.w.last:=Classical.not_not.1 hl
   obtain⟨g1,g2,_⟩:=nJ b a t hg.2 r hR.symm (by rw[hR]; exact⟨lL,eF⟩)
   have e0:(fe (cT b (ir a) a t)).e=0:=by
    unfold fe
    rw[g1,hR,bM eF]
    exact r.e
   rcases Ba with h'|⟨_,h1,h2,_,h3⟩
   ·rw[e0] at h'; exact absurd h'.1 (by decide)
   rw[← (ko b a t hg.2).1,g2] at h3
   refine⟨fun _=>And.intro (fun _=>?_) (fun h=>absurd h2 h),fun h=>absurd h1 h⟩
   refine (gw (r.l.map (·.1)).sum (r.l.map (·.2)).sum).u ?_
   refine (ns c (bh (r.l.map (·.1)).sum (r.l.map (·.2)).sum)).u ?_
   exact al (show c=_ from h3)
 ·have q:er=201/\en=0:=by
   by_cases lL:a < t
   ·refine wh (qt b a t lL ?_)
    rw[r.stop (by omega)]
    omega
   ·exact wh (sZ b a t lL)
  refine⟨fun _=>?_,fun h=>absurd hg h⟩
  refine⟨fun _=>?_,fun h=>absurd q.1 h⟩
  exact al (show en=0 from q.2)
end Go.Proofs.YtnbhdacpogplgaaGreatDoor.Pw
namespace Go.Proofs.YtnbhdacpogplgaaGreatDoor.dW
open Go.ChangeShapes Go.WideShapes Go.ChangeAt Go.RowKit Go.Deep
def gf:List (String × DataW Unit):=[("remontoire/imm.factors",Rows.laid_remontoire_imm_factors),("remontoire/inst.shapes",Rows.laid_remontoire_inst_shapes),("remontoire/cost.rules",Rows.laid_remontoire_cost_rules)]
def fuel:Nat:=3000
theorem Bz (os:Os) (args:Array Value):laidMetH Tryz.prog gf ((World.doorLaid Tryz.prog fuel os).forCall (fun _ _=>0) ⟨#[],args,[]⟩).memory :=
 laidMetH_of_parts3 (fuel:=8) (laidMet_of_run' 8 (by kernel_rfl) (by kernel_rfl)) (by kernel_rfl) (by kernel_rfl)
end Go.Proofs.YtnbhdacpogplgaaGreatDoor.dW
namespace Go.Proofs.YtnbhdacpogplgaaGreatDoor.Pw
open Go Go.RowKit
theorem Ee {W:World} (h:laidMetH Tryz.prog dW.gf W):cg gT (In W) W :=
 tV (laid:=dW.gf) (by kernel_rfl) h fun x hx=>by
  have fh:x∈[(2,FZ),(1,S6),(0,zp)]:=hx
  simp only[List.mem_cons,List.not_mem_nil,or_false] at fh
  rcases fh with rfl|rfl|rfl
  ·exact⟨"remontoire/imm.factors",_,165,List.mem_cons_self,by kernel_rfl,by kernel_rfl,by kernel_rfl,nofun⟩
  ·exact⟨"remontoire/inst.shapes",_,138,List.mem_cons_of_mem _ List.mem_cons_self,by kernel_rfl,by kernel_rfl,by kernel_rfl,nofun⟩
  ·exact⟨"remontoire/cost.rules",_,129,List.mem_cons_of_mem _ (List.mem_cons_of_mem _ List.mem_cons_self),by kernel_rfl,by kernel_rfl,by kernel_rfl,nofun⟩
theorem Ef {z:Int} (h:qu .u8 z):0<=z/\z<=255:=by unfold qu Ev.gN Ev.gF at h; simp only[IntKind.signed,IntKind.bits] at h; simpa using h
theorem s6 {z:Int} (h:qu .i64 z):gM z:=by unfold qu Ev.gN Ev.gF at h; simp only[IntKind.signed,IntKind.bits] at h; unfold gM; simpa using h
theorem BA:Op Tryz.prog 3 (SInt .i64):=EM Tryz.underlying3 (by kernel_rfl)
theorem BB:Op Tryz.prog 22 (Lq 1 1 (PV.int .u8) (fun z:Int=>0<=z/\z<=255)) :=
 F2 (CB (EM Tryz.underlying5 (by kernel_rfl)) 1 1 (by kernel_rfl) Tryz.underlying22 (by kernel_rfl) (by decide) (by kernel_rfl)) fun x ⟨z,h,e⟩=>⟨z,Ef h,e⟩
theorem lS (x:PV) (s:Lq 1 1 (PV.int .u8) (fun z:Int=>0<=z/\z<=255) x) (y:PV) (t:SInt .i64 y) (z:PV) (u:SInt .i64 z):ai gT 3 [x,y,z] .tt:=by
 obtain⟨l,h1,h2,rfl⟩:=s
 obtain⟨n,hn,rfl⟩:=t
 obtain⟨m,hm,rfl⟩:=u
 exact nL l h2 n m (s6 hn) (s6 hm)
end Go.Proofs.YtnbhdacpogplgaaGreatDoor.Pw

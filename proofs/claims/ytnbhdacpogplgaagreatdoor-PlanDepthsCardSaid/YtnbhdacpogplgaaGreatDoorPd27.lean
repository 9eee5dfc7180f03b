/- What this claim is proved with: no condition. -/
import Derived.Test.YtnbhdacpogplgaaGreatDoorPd26
import Derived.Test.YtnbhdacpogplgaaGreatDoorPd21
import Derived.Test.YtnbhdacpogplgaaGreatDoorPd24
set_option maxRecDepth 100000
set_option maxHeartbeats 16000000
set_option linter.unusedVariables false
set_option linter.unusedSimpArgs false
namespace Go.Proofs.YtnbhdacpogplgaaGreatDoor.Pw
open Go Go.RowKit
structure GS where
 at_:Int
 low:Int
 part:Int
 ok:Prop
def ja (g:GS) (part bm:Int) (ok:Prop):GS:=⟨g.at_+bm,max g.low (g.at_+bm),part,g.ok/\ok/\(g.part≠0\/part=1)/\g.part<=part⟩
def dH (i:IN) (g:GS):GS :=
 if i.form=42 then ja g 1 (4*aL i.an) (g.part=0)
 else if i.form=41 then ja g 1 i.aw (g.part=1)
 else if i.form=40 then ja g 3 (-i.aw) True
 else if i.form=43 then ja g 3 (-(4*aL i.an)) (dT i)
 else if i.form=28\/i.form=30 then ja g 2 0 (i.rd≠13)
 else ja g 2 0 True
def fR (i:IN):Int:=if i.form=42 then 4*aL i.an else if i.form=41 then i.aw else 0
def xk (i:IN):Int:=if i.form=43 then 4*aL i.an else if i.form=40 then i.aw else 0
theorem mQ {i:IN} (h:bD i) (hf:i.form=40\/i.form=41):0<=i.aw/\i.aw<=508:=by
 obtain⟨_,_,_,_,_,_,_,h8,_⟩:=h
 unfold hZ at h8
 rcases hf with hf|hf
 ·rw[hf] at h8
  have e0:(cW (af 40)).i0=0:=by decide
  have e1:(cW (af 40)).i1=508:=by decide
  rw[e0,e1] at h8
  omega
 ·rw[hf] at h8
  have e0:(cW (af 41)).i0=0:=by decide
  have e1:(cW (af 41)).i1=508:=by decide
  rw[e0,e1] at h8
  omega
theorem Km {i:IN} (h:bD i) (hi:Kc i):(0<=fR i/\fR i<=508)/\0<=xk i/\xk i<=508:=by
 obtain⟨r0,r1⟩:=dA h hi
 have hb:=dD i.an r0 r1
 unfold fR xk
 repeat' split
 all_goals first
  | omega
  | (have:=mQ h (.inl ‹_›); omega)
  | (have:=mQ h (.inr ‹_›); omega)
structure Ch (g:GS) (d u:Int):Prop where
 at_:g.at_=d - u
 dn:0<=d
 un:0<=u
 ok:g.ok->g.low=d/\(g.part<=1->u=0)
 part:0<=g.part
theorem Ch.take {g:GS} {d u:Int} (h:Ch g d u) {i:IN} (hr:bD i) (hi:Kc i):Ch (dH i g) (d+fR i) (u+xk i):=by
 obtain⟨h1,h2,h3,h4,h5⟩:=h
 obtain⟨r0,r1⟩:=dA hr hi
 have hb:=dD i.an r0 r1
 have Kn:=@mQ i hr
 unfold dH fR xk
 by_cases f42:i.form=42
 ·rw[if_pos f42,if_pos f42,if_neg (by omega),if_neg (by omega)]
  refine⟨?_,by omega,by omega,fun k=>?_,by show (0:Int)<=1; decide⟩
  ·show g.at_+4*aL i.an=_; omega
  ·obtain⟨k1,k2,_⟩:=k
   have k2':g.part=0:=k2
   obtain⟨q1,q2⟩:=h4 k1
   have:=q2 (by omega)
   refine⟨?_,fun _=>by omega⟩
   show max g.low (g.at_+4*aL i.an)=_
   omega
 rw[if_neg f42,if_neg f42]
 by_cases f41:i.form=41
 ·have hm:=Kn (.inr f41)
  rw[if_pos f41,if_pos f41,if_neg (by omega),if_neg (by omega)]
  refine⟨?_,by omega,by omega,fun k=>?_,by show (0:Int)<=1; decide⟩
  ·show g.at_+i.aw=_; omega
  ·obtain⟨k1,k2,_⟩:=k
   have k2':g.part=1:=k2
   obtain⟨q1,q2⟩:=h4 k1
   have:=q2 (by omega)
   refine⟨?_,fun _=>by omega⟩
   show max g.low (g.at_+i.aw)=_
   omega
 rw[if_neg f41,if_neg f41]
 by_cases f40:i.form=40
 ·have hm:=Kn (.inl f40)
  rw[if_pos f40,if_neg (by omega),if_pos f40]
  refine⟨?_,by omega,by omega,fun k=>?_,by show (0:Int)<=3; decide⟩
  ·show g.at_ + -i.aw=_; omega
  ·obtain⟨q1,q2⟩:=h4 k.1
   refine⟨?_,fun k3=>absurd (show (3:Int)<=1 from k3) (by decide)⟩
   show max g.low (g.at_ + -i.aw)=_
   omega
 rw[if_neg f40]
 by_cases f43:i.form=43
 ·rw[if_pos f43,if_pos f43]
  refine⟨?_,by omega,by omega,fun k=>?_,by show (0:Int)<=3; decide⟩
  ·show g.at_ + -(4*aL i.an)=_; omega
  ·obtain⟨q1,q2⟩:=h4 k.1
   refine⟨?_,fun k3=>absurd (show (3:Int)<=1 from k3) (by decide)⟩
   show max g.low (g.at_ + -(4*aL i.an))=_
   omega
 rw[if_neg f43,if_neg f43,if_neg f40]
 by_cases f28:i.form=28\/i.form=30
 ·rw[if_pos f28]
  refine⟨?_,by omega,by omega,fun k=>?_,by show (0:Int)<=2; decide⟩
  ·show g.at_+0=_; omega
  ·obtain⟨q1,q2⟩:=h4 k.1
   refine⟨?_,fun k3=>absurd (show (2:Int)<=1 from k3) (by decide)⟩
   show max g.low (g.at_+0)=_
   omega
 ·rw[if_neg f28]
  refine⟨?_,by omega,by omega,fun k=>?_,by show (0:Int)<=2; decide⟩
  ·show g.at_+0=_; omega
  ·obtain⟨q1,q2⟩:=h4 k.1
   refine⟨?_,fun k3=>absurd (show (2:Int)<=1 from k3) (by decide)⟩
   show max g.low (g.at_+0)=_
   omega
noncomputable def fN (b:List Int) (en:Int):Nat->Int->GS->GS
 | 0,_,g=>g
 | k+1,n,g=>if n < en then fN b en k (n+aY (iA b n).form) (dH (iA b n) g) else g
noncomputable def nK (b:List Int) (en:Int):Nat->Int->Int->Int->Int × Int
 | 0,_,d,u=>(d,u)
 | k+1,n,d,u=>if n < en then nK b en k (n+aY (iA b n).form) (d+fR (iA b n)) (u+xk (iA b n)) else (d,u)
theorem cc.step {b:List Int} {n m:Int} (h:cc b n m) (bG:n < m):eA b n=0/\cc b (n+aY (iA b n).form) m:=by
 cases h with
 | nil=>omega
 | cons e h=>exact⟨e,h⟩
theorem sS {b:List Int} {en:Int}:∀ (k:Nat) (n:Int) (g:GS) (d u:Int),cc b n en->Ch g d u->Ch (fN b en k n g) (nK b en k n d u).1 (nK b en k n d u).2
 | 0,_,_,_,_,_,h=>h
 | k+1,n,g,d,u,hc,h=>by
  rw[fN,nK]
  by_cases bG:n < en
  ·rw[if_pos bG,if_pos bG]
   obtain⟨e,rO⟩:=hc.step bG
   obtain⟨_,hr,hi⟩:=bz e
   exact sS k _ _ _ _ rO (h.take hr hi)
  ·rw[if_neg bG,if_neg bG]
   exact h
def g0:GS:=⟨0,0,0,True⟩
theorem QI:Ch g0 0 0:=⟨rfl,Int.le_refl _,Int.le_refl _,fun _=>⟨rfl,fun _=>rfl⟩,Int.le_refl _⟩
open Classical in
noncomputable def fw (b:List Int) (a:Int) (l:List ST):Int × Int :=
 if (bK b a l).2.2≠0 then (0,(bK b a l).2.2)
 else if ¬ (fN b (bK b a l).2.1 (((bK b a l).2.1 - a).toNat+1) a g0).ok\/(fN b (bK b a l).2.1 (((bK b a l).2.1 - a).toNat+1) a g0).at_≠0 then (0,201)
 else ((fN b (bK b a l).2.1 (((bK b a l).2.1 - a).toNat+1) a g0).low,0)
theorem Ci {b:List Int} (hl:b.length<=2000) {a:Int} (hI:ck a) {l:List ST} (hO:iv l) (h:(fw b a l).2=0):(bK b a l).2.2=0/\(fw b a l).1=(nK b (bK b a l).2.1 (((bK b a l).2.1 - a).toNat+1) a 0 0).1/\(nK b (bK b a l).2.1 (((bK b a l).2.1 - a).toNat+1) a 0 0).2=(nK b (bK b a l).2.1 (((bK b a l).2.1 - a).toNat+1) a 0 0).1:=by
 unfold fw at h ⊢
 by_cases h1:(bK b a l).2.2≠0
 ·rw[if_pos h1] at h; exact absurd h h1
 ·rw[if_neg h1] at h ⊢
  have hc:=kg hl hI hO (Classical.not_not.1 h1)
  have hg:=sS (((bK b a l).2.1 - a).toNat+1) a g0 0 0 hc QI
  generalize fN b (bK b a l).2.1 (((bK b a l).2.1 - a).toNat+1) a g0=G at *
  generalize nK b (bK b a l).2.1 (((bK b a l).2.1 - a).toNat+1) a 0 0=L at *
  by_cases h2:¬ G.ok\/G.at_≠0
  ·rw[if_pos h2] at h; exact absurd (show (201:Int)=0 from h) (by decide)
  ·rw[if_neg h2]
   have h3:G.ok:=Classical.not_not.1 fun k=>h2 (.inl k)
   have h4:G.at_=0:=Classical.not_not.1 fun k=>h2 (.inr k)
   obtain⟨q1,q2⟩:=hg.ok h3
   have:=hg.at_
   exact⟨Classical.not_not.1 h1,q1,by omega⟩
def gsL (g:GS):List PV:=[.int .i64 g.at_,.int .i64 g.low,.int .i64 g.part,.bool g.ok]
def Rf (g:GS):ak:=⟨.loc,87,1,.w,true,gsL g⟩
theorem Cj (x:Int) (h0:0<=x) (h1:x<=65535):ai gT 67 [.int .i64 x] (.int .i64 (4*aL x)):=by
 have hb:=dD x h0 h1
 refine Spec.enter al P67 100 Tryz.func67 rfl (by kernel_rfl) ?_
 refine lu ?_ (show 0<=x/\x<=4294967295 by omega)
 refine (v7 x h0 h1).u ?_
 refine li ?_ (show _<=4*aL x/\4*aL x<=_ by omega)
 exact rA
def Gi:List (Nat × aF):=[(3,.pure 0 <| .pure 1 <| .pure 2 <| .pure 3 <| .pure 5 <| .pure 6 <| .pure 7 <| .load 4 [12,11,10,9] <| .load 8 [12,11,10,9] <| .pure 9 <| .pure 10 <| .pure 11 <| .aR 12 (.done) (.nil)),(100001,.done)]
noncomputable def Ve (g:GS) (part bm:Int):aO:=⟨(Tryz.f66).ntmps,iL [(0,.ptr 0 0),(1,.int .i64 part),(2,.int .i64 bm)] .nil,[Rf g],1,[]⟩
theorem jv (g:GS) (part bm:Int) (Y5:Prop) (h:-9223372036854775808<=g.at_+bm/\g.at_+bm<=9223372036854775807):Spec gT 66 [.ptr 0 0,.int .i64 part,.int .i64 bm,.bool Y5] [Rf g] [] fun y S'=>y = .tup []/\S' = [Rf (ja g part bm Y5)]:=by
 refine Spec.rT (Spec.enter al Gi 100 Tryz.func66 rfl (by kernel_rfl) ?_)
 refine Exists.intro (Ve { g with ok:=g.ok/\Y5/\(g.part≠0\/part=1)/\g.part<=part } part bm) (And.intro ?_ ?_)
 ·refine⟨fun k1=>And.intro (fun k2=>And.intro (fun k3=>?_) (fun k3=>And.intro (fun k4=>?_) (fun k4=>?_))) (fun k2=>?_),fun k1=>?_⟩
  all_goals
   refine aM al.ok (π:=[some 0]) ?_
   repeat' first|exact trivial|exact rfl|exact not_false|refine And.intro ?_ ?_
  ·exact (show g.part<=part↔_ from ⟨fun q=>⟨k1,k2,.inl k3,q⟩,fun q=>q.2.2.2⟩)
  ·exact (show g.part<=part↔_ from ⟨fun q=>⟨k1,k2,.inr k4,q⟩,fun q=>q.2.2.2⟩)
  ·exact (show ¬ _ from fun q=>q.2.2.1.elim k3 k4)
  ·exact (show ¬ _ from fun q=>k2 q.2.1)
  ·exact (show ¬ _ from fun q=>k1 q.1)
 refine .inl ⟨ay h,?_⟩
 exact rS
theorem Vf {f:FuncId} {x y z:PV} {p:Prop} {S S1:List ak} {r:PV} (h:Spec gT f [x,y,z,.bool p] S [] fun y S'=>y=r/\S'=S1) (hp:p):Spec gT f [x,y,z,.tt] S [] fun y S'=>y=r/\S'=S1 :=
 Spec.E1 h ⟨pJ.refl _,pJ.refl _,pJ.refl _,ll hp,trivial⟩
theorem Jt (g:GS) (i:IN) (hr:bD i) (hi:Kc i) (h:-1000000<=g.at_/\g.at_<=1000000):Spec gT 36 [.ptr 0 0,bX i] [Rf g] [] fun y S'=>y = .tup []/\S' = [Rf (dH i g)]:=by
 obtain⟨r0,r1⟩:=dA hr hi
 have hb:=dD i.an r0 r1
 have Kn:=@mQ i hr
 have h1:=Cj i.an r0 r1
 have h2:=sB i
 have e1:i.form=42->dH i g=ja g 1 (4*aL i.an) (g.part=0):=fun k=>if_pos k
 have e2:¬ i.form=42->i.form=41->dH i g=ja g 1 i.aw (g.part=1):=fun k k2=>by unfold dH; rw[if_neg k,if_pos k2]
 have e3:¬ i.form=42->¬ i.form=41->i.form=40->dH i g=ja g 3 (-i.aw) True:=fun k k2 k3=>by unfold dH; rw[if_neg k,if_neg k2,if_pos k3]
 have e4:¬ i.form=42->¬ i.form=41->¬ i.form=40->i.form=43->dH i g=ja g 3 (-(4*aL i.an)) (dT i):=fun k k2 k3 k4=>by unfold dH; rw[if_neg k,if_neg k2,if_neg k3,if_pos k4]
 have e5:¬ i.form=42->¬ i.form=41->¬ i.form=40->¬ i.form=43->(i.form=28\/i.form=30)->dH i g=ja g 2 0 (i.rd≠13):=fun k k2 k3 k4 k5=>by unfold dH; rw[if_neg k,if_neg k2,if_neg k3,if_neg k4,if_pos k5]
 have e6:¬ i.form=42->¬ i.form=41->¬ i.form=40->¬ i.form=43->¬ (i.form=28\/i.form=30)->dH i g=ja g 2 0 True:=fun k k2 k3 k4 k5=>by unfold dH; rw[if_neg k,if_neg k2,if_neg k3,if_neg k4,if_neg k5]
 refine Spec.rT (Spec.enter al P36 100 Tryz.func36 rfl (by kernel_rfl) ?_)
 refine⟨fun k1=>?_,fun k1=>And.intro (fun k2=>?_) (fun k2=>And.intro (fun k3=>?_) (fun k3=>And.intro (fun k4=>?_) (fun k4=>And.intro (fun k5=>?_) (fun k5=>And.intro (fun k6=>?_) (fun k6=>?_)))))⟩
 ·rw[e1 k1]
  refine h1.u ?_
  refine (jv g 1 (4*aL i.an) (g.part=0) (by omega)).e ?_
  exact rS
 ·rw[e2 k1 k2]
  have hm:=Kn (.inr k2)
  refine (jv g 1 i.aw (g.part=1) (by omega)).e ?_
  exact rS
 ·rw[e3 k1 k2 k3]
  have hm:=Kn (.inl k3)
  refine li ?_ (show _<=-i.aw/\-i.aw<=_ by omega)
  refine (Vf (jv g 3 (-i.aw) True (by omega)) trivial).e ?_
  exact rS
 ·rw[e4 k1 k2 k3 k4]
  refine h1.u ?_
  refine li ?_ (show _<=-(4*aL i.an)/\-(4*aL i.an)<=_ by omega)
  refine h2.u ?_
  refine (jv g 3 (-(4*aL i.an)) (dT i) (by omega)).e ?_
  exact rS
 ·rw[e5 k1 k2 k3 k4 (.inl k5)]
  refine (jv g 2 0 (i.rd≠13) (by omega)).e ?_
  exact rS
 ·rw[e5 k1 k2 k3 k4 (.inr k6)]
  refine (jv g 2 0 (i.rd≠13) (by omega)).e ?_
  exact rS
 ·rw[e6 k1 k2 k3 k4 fun q=>q.elim k5 k6]
  refine (Vf (jv g 2 0 True (by omega)) trivial).e ?_
  exact rS
structure Ck (b:List Int) (a en:Int) (R:GS) where
 n:Int
 k:Nat
 g:GS
 jI:en - n < k
 eq:fN b en k n g=R
 ch:cc b n en
 a0:a<=n/\(a=n\/0<=a)
 bd:(-300*(n - a)<=g.at_/\g.at_<=300*(n - a))/\0<=g.low/\g.low<=300*(n - a)
theorem Gj {g:GS} {i:IN} (hr:bD i) (hi:Kc i):(dH i g).at_=g.at_+(fR i - xk i)/\(dH i g).low=max g.low (g.at_+(fR i - xk i)):=by
 have e:dH i g=dH i g:=rfl
 unfold dH fR xk
 by_cases f42:i.form=42
 ·rw[if_pos f42,if_pos f42,if_neg (by omega),if_neg (by omega)]
  rw[show 4*aL i.an - 0=4*aL i.an by omega]; exact⟨rfl,rfl⟩
 rw[if_neg f42,if_neg f42]
 by_cases f41:i.form=41
 ·rw[if_pos f41,if_pos f41,if_neg (by omega),if_neg (by omega)]
  rw[show i.aw - 0=i.aw by omega]; exact⟨rfl,rfl⟩
 rw[if_neg f41,if_neg f41]
 by_cases f40:i.form=40
 ·rw[if_pos f40,if_neg (by omega),if_pos f40]
  rw[show 0 - i.aw = -i.aw by omega]; exact⟨rfl,rfl⟩
 rw[if_neg f40]
 by_cases f43:i.form=43
 ·rw[if_pos f43,if_pos f43]
  rw[show 0 - 4*aL i.an = -(4*aL i.an) by omega]; exact⟨rfl,rfl⟩
 rw[if_neg f43,if_neg f43,if_neg f40,show (0:Int) - 0=0 by omega]
 by_cases f28:i.form=28\/i.form=30
 ·rw[if_pos f28]; exact⟨rfl,rfl⟩
 ·rw[if_neg f28]; exact⟨rfl,rfl⟩
theorem Ck.next {b:List Int} {a en:Int} {R:GS} (r:Ck b a en R) (h:r.n < en):(eA b r.n=0/\0<=r.n/\r.n<=b.length/\0<=a)/\∃ r':Ck b a en R,r'.n=r.n+aY (iA b r.n).form/\r'.g=dH (iA b r.n) r.g/\r'.k < r.k:=by
 obtain⟨e,hc⟩:=r.ch.step h
 obtain⟨⟨h1,h2⟩,h3,h4⟩:=bz e
 have hs:=eW h3
 have hf:=r.jI
 have ha:=r.a0
 have hb:=r.bd
 have hd:=Km h3 h4
 have ht:=@Gj r.g (iA b r.n) h3 h4
 have heq:=r.eq
 obtain⟨k,hk⟩:∃ k,r.k=k+1:=⟨r.k - 1,by omega⟩
 rw[hk,fN,if_pos h] at heq
 refine⟨⟨e,h1,by omega,by omega⟩,⟨r.n+aY (iA b r.n).form,k,dH (iA b r.n) r.g,by omega,heq,hc,by omega,?_⟩,rfl,rfl,by rw[hk]; show k < k+1; omega⟩
 rw[ht.1,ht.2]
 omega
theorem Ck.stop {b:List Int} {a en:Int} {R:GS} (r:Ck b a en R) (h:¬ r.n < en):R=r.g:=by
 have heq:=r.eq
 have hf:=r.jI
 cases hk:r.k with
 | zero=>rw[hk,fN] at heq; exact heq.symm
 | succ k=>rw[hk,fN,if_neg h] at heq; exact heq.symm
theorem Vg {b:List Int} (hl:b.length<=2000):b.length<=100000:=by omega
theorem yQ (b:List Int) (hb:oK b) (hl:b.length<=2000) (a:Int) (hI:ck a) (l:List ST) (hO:iv l):ai gT 16 [.sl 1 (mz b),.int .i64 a,.sl 17 (l.map rp)] (.tup [.int .i64 (fw b a l).1,.int .i64 (fw b a l).2]):=by
 have hc:=sR b hb hl a hI l hO
 have Ju:=@kg b hl a hI l hO
 have hIe:=@Ap b hl a hI l hO
 unfold fw
 generalize (bK b a l).1=c at *
 generalize (bK b a l).2.1=en at *
 generalize (bK b a l).2.2=er at *
 refine Spec.enter al ZS 100 Tryz.func16 rfl (by kernel_rfl) ?_
 refine hc.u ?_
 refine⟨fun he=>?_,fun he=>?_⟩
 ·rw[if_pos he]
  exact rA
 rw[if_neg he]
 have Ju:=Ju (Classical.not_not.1 he)
 obtain⟨R,hR⟩:∃ R,fN b en ((en - a).toNat+1) a g0=R:=⟨_,rfl⟩
 rw[hR]
 have hle:a<=en:=by have:=Ju.bd; omega
 refine SW.qb al ZS (by kernel_rfl) (α:=Ck b a en R) (fun r=>[(0,.sl 1 (mz b)),(9,.int .i64 en),(11,.ptr 1 0),(12,.int .i64 r.n)]) (fun r=>[f_ c,Rf r.g]) (fun r=>r.k) ⟨a,(en - a).toNat+1,g0,by omega,hR,Ju,⟨Int.le_refl _,.inl rfl⟩,by show (_<=(0:Int)/\(0:Int)<=_)/\(0:Int)<=0/\(0:Int)<=_; omega⟩ 100 [some 0,some 1] ?_ ?_
 ·repeat' first|exact trivial|exact rfl|exact Iff.rfl|exact not_false|refine And.intro ?_ ?_
 intro r
 have ka:=r.next
 have sT:=r.stop
 obtain⟨n,k,g,Jd,heq,Wq,hra,JK⟩:=r
 simp only at ka sT
 refine⟨fun h1=>?_,fun h1=>?_⟩
 ·obtain⟨⟨q1,q2,q3,q4⟩,r',Cn,AD,fg⟩:=ka h1
  have hA:=qs b hb (Vg hl) n ⟨by omega,by omega⟩
  obtain⟨_,Rg,GB⟩:=bz q1
  have hs:=eW Rg
  have J6:=Jt g (iA b n) Rg GB (by omega)
  have qt:=eE (iA b n)
  rw[← AD] at J6
  generalize aY (iA b n).form=z at *
  generalize iA b n=i at *
  refine hA.u ?_
  refine (J6).q [1] ?_
  refine qt.u ?_
  refine .inl ⟨ay (show _<=n+max z 1/\n+max z 1<=_ by omega),⟨r',[some 0,some 1],fg,?_⟩⟩
  repeat' first|exact trivial|exact rfl|exact Iff.rfl|exact not_false|refine And.intro ?_ ?_
  all_goals exact (show n+max z 1=r'.n by omega)
 ·have jR:=sT h1
  subst jR
  refine⟨fun h2=>?_,fun h2=>And.intro (fun h3=>?_) (fun h3=>?_)⟩
  ·rw[if_pos (show ¬ R.ok\/R.at_≠0 from .inl h2)]
   exact rA
  ·rw[if_pos (show ¬ R.ok\/R.at_≠0 from .inr h3)]
   exact rA
  ·rw[if_neg (show ¬ (¬ R.ok\/R.at_≠0) from fun k=>k.elim h2 h3)]
   exact rA
mutual
def Jv:ST->Int
 | .mk _ hd bd el=>IntKind.i64.wrap (IntKind.i64.wrap (IntKind.i64.wrap (1+fo hd 0)+fo bd 0)+fo el 0)
def fo:List ST->Int->Int
 | [],a=>a
 | s::l,a=>fo l (IntKind.i64.wrap (a+Jv s))
end
theorem Jw (s:ST):Jv s=IntKind.i64.wrap (IntKind.i64.wrap (IntKind.i64.wrap (1+fo s.hd 0)+fo s.bd 0)+fo s.el 0):=by cases s; rfl
def mR (l:List ST):Prop:=ai gT 15 [.sl 17 (l.map rp)] (.int .i64 (fo l 0))
theorem kE (l:List ST) (h:∀ s∈l,mR s.hd/\mR s.bd/\mR s.el):mR l:=by
 unfold mR
 rw[o9]
 obtain⟨R,hR⟩:∃ R,R=fo l 0:=⟨_,rfl⟩
 rw[← hR]
 have el:(l.map jD).length=l.length:=List.length_map ..
 refine Spec.enter al ZR 100 Tryz.func15 rfl (by kernel_rfl) ?_
 refine fun hm=>?_
 refine SW.qb al ZR (by kernel_rfl) (α:={q:Nat × Int // R=fo (l.drop q.1) q.2}) (fun q=>[(3,.int .i64 q.1.2),(6,.sl 17 (l.map jD)),(7,.int .i64 ((l.map jD).length:Nat)),(8,.int .i64 q.1.1)]) (fun _=>[]) (fun q=>l.length - q.1.1) ⟨(0,0),hR⟩ 100 [] ?_ ?_
 ·repeat' first|exact trivial|exact rfl|exact Iff.rfl|exact not_false|refine And.intro ?_ ?_
 rintro⟨⟨i,a⟩,hi⟩
 refine⟨fun h1=>?_,fun h1=>?_⟩
 ·have gf:(i:Int) < ((l.map jD).length:Nat):=h1
  rw[el] at gf
  refine⟨ST,l,jD,rfl,show (0:Int)<=(i:Int) by omega,show (i:Int) < (l.length:Int) by omega,fun x hx=>?_⟩
  have dp:l[i]?=some x:=hx
  obtain⟨c1,c2,c3⟩:=h x (List.mem_of_getElem? dp)
  refine c1.u ?_
  refine .inr ?_
  refine c2.u ?_
  refine .inr ?_
  refine c3.u ?_
  refine .inr ?_
  refine .inr ?_
  unfold maxLen at hm
  refine .inl ⟨ay (show _<=(i:Int)+1/\(i:Int)+1<=_ by omega),⟨⟨(i+1,IntKind.i64.wrap (a+Jv x)),?_⟩,[],show l.length - (i+1) < l.length - i by omega,?_⟩⟩
  ·show R=fo (l.drop (i+1)) _
   rw[hi]
   show fo (l.drop i) a=_
   rw[List.drop_eq_getElem_cons (by omega),fo]
   rw[List.getElem?_eq_getElem (by omega)] at dp
   rw[Option.some.inj dp]
  ·repeat' first|exact trivial|exact rfl|exact Iff.rfl|exact not_false|refine And.intro ?_ ?_
   all_goals exact (show IntKind.i64.wrap (a+IntKind.i64.wrap (IntKind.i64.wrap (IntKind.i64.wrap (1+fo x.hd 0)+fo x.bd 0)+fo x.el 0))=IntKind.i64.wrap (a+Jv x) by rw[Jw])
 ·have gf:¬ (i:Int) < ((l.map jD).length:Nat):=h1
  rw[el] at gf
  refine aj ?_
  exact (show a=R by rw[hi]; show a=fo (l.drop i) a; rw[List.drop_of_length_le (by omega),fo])
theorem yR:∀ s:ST,mR s.hd/\mR s.bd/\mR s.el:=ST.ind fun s h1 h2 h3=>⟨kE _ h1,kE _ h2,kE _ h3⟩
theorem Cl (l:List ST):mR l:=kE l fun s _=>yR s
theorem xa {b:List Int} {a:Int} {l:List ST} (h:(fw b a l).2≠0):(((bK b a l).2.2≠0/\(fw b a l).2=(bK b a l).2.2)\/((bK b a l).2.2=0/\(fw b a l).2=201))/\(fw b a l).1=0:=by
 unfold fw at h ⊢
 by_cases h1:(bK b a l).2.2≠0
 ·rw[if_pos h1]; exact⟨.inl ⟨h1,rfl⟩,rfl⟩
 ·rw[if_neg h1] at h ⊢
  split
  ·exact⟨.inr ⟨Classical.not_not.1 h1,rfl⟩,rfl⟩
  ·rename_i h2
   rw[if_neg h2] at h
   exact absurd rfl h
structure Rh (b:List Int) (a en:Int) (R:Int × Int) where
 n:Int
 k:Nat
 d:Int
 u:Int
 jI:en - n < k
 eq:nK b en k n d u=R
 ch:cc b n en
 a0:a<=n/\(a=n\/0<=a)
 bd:(0<=d/\d<=300*(n - a))/\0<=u/\u<=300*(n - a)
theorem Rh.next {b:List Int} {a en:Int} {R:Int × Int} (r:Rh b a en R) (h:r.n < en):(eA b r.n=0/\0<=r.n/\r.n<=b.length/\0<=a)/\∃ r':Rh b a en R,r'.n=r.n+aY (iA b r.n).form/\r'.d=r.d+fR (iA b r.n)/\r'.u=r.u+xk (iA b r.n)/\r'.k < r.k:=by
 obtain⟨e,hc⟩:=r.ch.step h
 obtain⟨⟨h1,h2⟩,h3,h4⟩:=bz e
 have hs:=eW h3
 have hf:=r.jI
 have ha:=r.a0
 have hb:=r.bd
 have hd:=Km h3 h4
 have heq:=r.eq
 obtain⟨k,hk⟩:∃ k,r.k=k+1:=⟨r.k - 1,by omega⟩
 rw[hk,nK,if_pos h] at heq
 exact⟨⟨e,h1,by omega,by omega⟩,⟨r.n+aY (iA b r.n).form,k,r.d+fR (iA b r.n),r.u+xk (iA b r.n),by omega,heq,hc,by omega,by omega⟩,rfl,rfl,rfl,by rw[hk]; show k < k+1; omega⟩
theorem Rh.stop {b:List Int} {a en:Int} {R:Int × Int} (r:Rh b a en R) (h:¬ r.n < en):R=(r.d,r.u):=by
 have heq:=r.eq
 have hf:=r.jI
 cases hk:r.k with
 | zero=>rw[hk,nK] at heq; exact heq.symm
 | succ k=>rw[hk,nK,if_neg h] at heq; exact heq.symm
theorem xb (x:Int) (h0:0<=x) (h1:x<=65535):aL x=x % 2+aL (x / 2):=by
 unfold aL
 omega
def Vh (i:IN):ak:=⟨.loc,42,1,.w,true,Si i⟩
theorem oN (b:List Int) (hb:oK b) (a:Int) (hI:ck a) (l:List ST) (hO:iv l):ai gT 4 [.sl 1 (mz b),.int .i64 a,.sl 17 (l.map rp)] .tt:=by
 have el:(mz b).length=b.length:=List.length_map ..
 refine Spec.enter al P4 100 Tryz.func4 rfl (by kernel_rfl) ?_
 refine⟨[],av,rk.use trivial rfl rfl ?_⟩
 refine fun oP=>?_
 refine⟨fun h1=>?_,fun h1=>?_⟩
 ·exact rA
 have gf:¬ (2000:Int) < ((mz b).length:Nat):=h1
 rw[el] at gf
 have hl:b.length<=2000:=by omega
 refine (Cl l).u ?_
 refine⟨fun h2=>?_,fun h2=>?_⟩
 ·exact rA
 refine (yQ b hb hl a hI l hO).u ?_
 refine (sR b hb hl a hI l hO).u ?_
 have Fq:=@xa b a l
 have Vi:=@Ci b hl a hI l hO
 have Ju:=@kg b hl a hI l hO
 have hIe:=@Ap b hl a hI l hO
 generalize (fw b a l).1=d0 at *
 generalize (fw b a l).2=de at *
 generalize (bK b a l).1=c at *
 generalize (bK b a l).2.1=en at *
 generalize (bK b a l).2.2=ce at *
 refine⟨fun h3=>?_,fun h3=>?_⟩
 ·have hc:=Fq h3
  refine⟨fun k1=>?_,fun k1=>And.intro (fun k2=>And.intro (fun k3=>?_) (fun k3=>?_)) (fun k2=>?_)⟩
  all_goals first
   | exact aj (show d0=0 from hc.2)
   | (have k1:¬ de=ce:=k1
      have k2:ce=0:=k2
      have k3:¬ de=201:=k3
      exfalso; omega)
   | (have k1:¬ de=ce:=k1
      have k2:¬ ce=0:=k2
      exfalso; omega)
 have h3':de=0:=Classical.not_not.1 h3
 obtain⟨q1,q2,q3⟩:=Vi h3'
 refine⟨fun h4=>absurd q1 h4,fun _=>?_⟩
 have Ju:=Ju q1
 obtain⟨R,hR⟩:∃ R,nK b en ((en - a).toNat+1) a 0 0=R:=⟨_,rfl⟩
 rw[hR] at q2 q3
 have hle:a<=en:=by have:=Ju.bd; omega
 refine SW.qb al P4 (by kernel_rfl) (α:=Rh b a en R) (fun r=>[(0,.sl 1 (mz b)),(7,.int .i64 d0),(10,.int .i64 en),(12,.int .i64 r.d),(13,.int .i64 r.u),(14,.int .i64 r.n)]) (fun r=>[f_ c]) (fun r=>r.k) ⟨a,(en - a).toNat+1,0,0,by omega,hR,Ju,⟨Int.le_refl _,.inl rfl⟩,by omega⟩ 100 [some 0] ?_ ?_
 ·repeat' first|exact trivial|exact rfl|exact Iff.rfl|exact not_false|refine And.intro ?_ ?_
 intro r
 have ka:=r.next
 have sT:=r.stop
 obtain⟨n,k,d,u,Jd,heq,Wq,hra,JK⟩:=r
 simp only at ka sT
 refine⟨fun h5=>?_,fun h5=>?_⟩
 ·have h5':n < en:=h5
  obtain⟨⟨p1,p2,p3,p4⟩,r',Cn,ot,lR,fg⟩:=ka h5'
  clear ka sT Fq Vi
  have hA:=qs b hb (Vg hl) n ⟨by omega,by omega⟩
  obtain⟨_,Rg,GB⟩:=bz p1
  have hs:=eW Rg
  have qt:=eE (iA b n)
  obtain⟨r0,r1⟩:=dA Rg GB
  have QM:=dD (iA b n).an r0 r1
  have Kn:=@mQ (iA b n) Rg
  generalize aY (iA b n).form=z at *
  generalize iA b n=i at *
  refine hA.u ?_
  refine⟨fun h6=>absurd p1 h6,fun _=>?_⟩
  have inner:∀ (x k0:Int),0 < x->x<=65535->k0+4*aL x=4*aL i.an->(k0+4*(x % 2))+4*aL (x / 2)=4*aL i.an:=fun x k0 h0 h1 h2=>by
   rw[xb x (by omega) h1] at h2; omega
  have hz:-9223372036854775808<=n+z/\n+z<=9223372036854775807:=by omega
  have Zl:i.form=42->r'.d=d+4*aL i.an/\r'.u=u:=fun q=>by unfold fR at ot; unfold xk at lR; rw[if_pos q] at ot; rw[if_neg (by omega),if_neg (by omega)] at lR; exact⟨ot,by omega⟩
  have uT:i.form=43->r'.d=d/\r'.u=u+4*aL i.an:=fun q=>by unfold fR at ot; unfold xk at lR; rw[if_neg (by omega),if_neg (by omega)] at ot; rw[if_pos q] at lR; exact⟨by omega,lR⟩
  have Vu:i.form=41->r'.d=d+i.aw/\r'.u=u:=fun q=>by unfold fR at ot; unfold xk at lR; rw[if_neg (by omega),if_pos q] at ot; rw[if_neg (by omega),if_neg (by omega)] at lR; exact⟨ot,by omega⟩
  have hd4:i.form=40->r'.d=d/\r'.u=u+i.aw:=fun q=>by unfold fR at ot; unfold xk at lR; rw[if_neg (by omega),if_neg (by omega)] at ot; rw[if_neg (by omega),if_pos q] at lR; exact⟨by omega,lR⟩
  have hd5:¬ i.form=42->¬ i.form=43->¬ i.form=41->¬ i.form=40->r'.d=d/\r'.u=u:=fun q q2 q3 q4=>by unfold fR at ot; unfold xk at lR; rw[if_neg q,if_neg q3] at ot; rw[if_neg q2,if_neg q4] at lR; exact⟨by omega,by omega⟩
  have w1:-9223372036854775808<=d+4*aL i.an/\d+4*aL i.an<=9223372036854775807:=by omega
  have w2:-9223372036854775808<=u+4*aL i.an/\u+4*aL i.an<=9223372036854775807:=by omega
  have w3:i.form=41->-9223372036854775808<=d+i.aw/\d+i.aw<=9223372036854775807:=fun q=>by have:=Kn (.inr q); omega
  have w4:i.form=40->-9223372036854775808<=u+i.aw/\u+i.aw<=9223372036854775807:=fun q=>by have:=Kn (.inl q); omega
  clear ot lR
  refine⟨fun Vj=>?_,fun Vj=>And.intro (fun Y6=>?_) (fun Y6=>And.intro (fun VO=>?_) (fun VO=>And.intro (fun VP=>?_) (fun VP=>?_)))⟩
  ·obtain⟨Gk,re⟩:=Zl Vj
   refine SW.qb al P4 (by kernel_rfl) (α:={q:Int × Int // (0<=q.1/\q.1<=65535)/\(0<=q.2/\q.2<=64)/\q.2+4*aL q.1=4*aL i.an}) (fun q=>[(0,.sl 1 (mz b)),(7,.int .i64 d0),(10,.int .i64 en),(12,.int .i64 d),(13,.int .i64 u),(14,.int .i64 n),(15,.ptr 1 0),(17,.int .i64 q.1.2),(18,.int .i64 q.1.1)]) (fun _=>[f_ c,Vh i]) (fun q=>q.1.1.toNat) ⟨(i.an,0),⟨r0,r1⟩,⟨Int.le_refl _,(by decide:(0:Int)<=64)⟩,by show 0+4*aL i.an=_; omega⟩ 100 [some 0,some 1] ?_ ?_
   ·repeat' first|exact trivial|exact rfl|exact Iff.rfl|exact not_false|refine And.intro ?_ ?_
   rintro⟨⟨x,k0⟩,⟨x0,x1⟩,⟨y0,y1⟩,hx⟩
   have x0:0<=x:=x0
   have x1:x<=65535:=x1
   have y0:0<=k0:=y0
   have y1:k0<=64:=y1
   have hx:k0+4*aL x=4*aL i.an:=hx
   refine⟨fun m5=>?_,fun m5=>?_⟩
   ·have xd:0 < x:=m5
    have GA:=inner x k0 xd x1 hx
    have cR:=dD (x / 2) (by omega) (by omega)
    refine⟨by decide,.inl ⟨show 0<=x from x0,by decide,?_⟩⟩
    refine li ?_ (show _<=4*(x % 2)/\4*(x % 2)<=_ by omega)
    refine li ?_ (show _<=k0+4*(x % 2)/\k0+4*(x % 2)<=_ by omega)
    refine⟨by decide,.inl ⟨show 0<=x from x0,show x<=9223372036854775807 by omega,by decide,?_⟩⟩
    refine⟨⟨(x / 2,k0+4*(x % 2)),⟨show 0<=x / 2 by omega,show x / 2<=65535 by omega⟩,⟨show 0<=k0+4*(x % 2) by omega,show k0+4*(x % 2)<=64 by omega⟩,GA⟩,[some 0,some 1],show (x / 2).toNat < x.toNat by omega,?_⟩
    repeat' first|exact trivial|exact rfl|exact Iff.rfl|exact not_false|refine And.intro ?_ ?_
   ·have xd:¬ 0 < x:=m5
    have ex:x=0:=by omega
    subst ex
    have xg:k0=4*aL i.an:=by rw[← hx]; show k0=k0+4*aL 0; rw[show aL 0=0 by decide]; omega
    refine⟨fun _=>?_,fun h=>absurd Vj h⟩
    refine li ?_ (show _<=d+k0/\d+k0<=_ by rw[xg]; exact w1)
    refine qt.u ?_
    refine .inl ⟨ay hz,⟨r',[some 0],fg,?_⟩⟩
    repeat' first|exact trivial|exact rfl|exact Iff.rfl|exact not_false|refine And.intro ?_ ?_
    all_goals first|exact (show n+z=r'.n from Cn.symm)|exact Gk.symm|exact re.symm|exact (show d+k0=r'.d by rw[xg]; exact Gk.symm)|exact (show u+k0=r'.u by rw[xg]; exact re.symm)
  ·obtain⟨Gk,re⟩:=uT Y6
   refine SW.qb al P4 (by kernel_rfl) (α:={q:Int × Int // (0<=q.1/\q.1<=65535)/\(0<=q.2/\q.2<=64)/\q.2+4*aL q.1=4*aL i.an}) (fun q=>[(0,.sl 1 (mz b)),(7,.int .i64 d0),(10,.int .i64 en),(12,.int .i64 d),(13,.int .i64 u),(14,.int .i64 n),(15,.ptr 1 0),(17,.int .i64 q.1.2),(18,.int .i64 q.1.1)]) (fun _=>[f_ c,Vh i]) (fun q=>q.1.1.toNat) ⟨(i.an,0),⟨r0,r1⟩,⟨Int.le_refl _,(by decide:(0:Int)<=64)⟩,by show 0+4*aL i.an=_; omega⟩ 100 [some 0,some 1] ?_ ?_
   ·repeat' first|exact trivial|exact rfl|exact Iff.rfl|exact not_false|refine And.intro ?_ ?_
   rintro⟨⟨x,k0⟩,⟨x0,x1⟩,⟨y0,y1⟩,hx⟩
   have x0:0<=x:=x0
   have x1:x<=65535:=x1
   have y0:0<=k0:=y0
   have y1:k0<=64:=y1
   have hx:k0+4*aL x=4*aL i.an:=hx
   refine⟨fun m5=>?_,fun m5=>?_⟩
   ·have xd:0 < x:=m5
    have GA:=inner x k0 xd x1 hx
    have cR:=dD (x / 2) (by omega) (by omega)
    refine⟨by decide,.inl ⟨show 0<=x from x0,by decide,?_⟩⟩
    refine li ?_ (show _<=4*(x % 2)/\4*(x % 2)<=_ by omega)
    refine li ?_ (show _<=k0+4*(x % 2)/\k0+4*(x % 2)<=_ by omega)
    refine⟨by decide,.inl ⟨show 0<=x from x0,show x<=9223372036854775807 by omega,by decide,?_⟩⟩
    refine⟨⟨(x / 2,k0+4*(x % 2)),⟨show 0<=x / 2 by omega,show x / 2<=65535 by omega⟩,⟨show 0<=k0+4*(x % 2) by omega,show k0+4*(x % 2)<=64 by omega⟩,GA⟩,[some 0,some 1],show (x / 2).toNat < x.toNat by omega,?_⟩
    repeat' first|exact trivial|exact rfl|exact Iff.rfl|exact not_false|refine And.intro ?_ ?_
   ·have xd:¬ 0 < x:=m5
    have ex:x=0:=by omega
    subst ex
    have xg:k0=4*aL i.an:=by rw[← hx]; show k0=k0+4*aL 0; rw[show aL 0=0 by decide]; omega
    refine⟨fun h=>absurd h Vj,fun _=>?_⟩
    refine li ?_ (show _<=u+k0/\u+k0<=_ by rw[xg]; exact w2)
    refine qt.u ?_
    refine .inl ⟨ay hz,⟨r',[some 0],fg,?_⟩⟩
    repeat' first|exact trivial|exact rfl|exact Iff.rfl|exact not_false|refine And.intro ?_ ?_
    all_goals first|exact (show n+z=r'.n from Cn.symm)|exact Gk.symm|exact re.symm|exact (show d+k0=r'.d by rw[xg]; exact Gk.symm)|exact (show u+k0=r'.u by rw[xg]; exact re.symm)
  ·obtain⟨Gk,re⟩:=Vu VO
   refine li ?_ (show _<=d+i.aw/\d+i.aw<=_ from w3 VO)
   refine qt.u ?_
   refine .inl ⟨ay hz,⟨r',[some 0],fg,?_⟩⟩
   repeat' first|exact trivial|exact rfl|exact Iff.rfl|exact not_false|refine And.intro ?_ ?_
   all_goals first|exact (show n+z=r'.n from Cn.symm)|exact Gk.symm|exact re.symm
  ·obtain⟨Gk,re⟩:=hd4 VP
   refine li ?_ (show _<=u+i.aw/\u+i.aw<=_ from w4 VP)
   refine qt.u ?_
   refine .inl ⟨ay hz,⟨r',[some 0],fg,?_⟩⟩
   repeat' first|exact trivial|exact rfl|exact Iff.rfl|exact not_false|refine And.intro ?_ ?_
   all_goals first|exact (show n+z=r'.n from Cn.symm)|exact Gk.symm|exact re.symm
  ·obtain⟨Gk,re⟩:=hd5 Vj Y6 VO VP
   refine qt.u ?_
   refine .inl ⟨ay hz,⟨r',[some 0],fg,?_⟩⟩
   repeat' first|exact trivial|exact rfl|exact Iff.rfl|exact not_false|refine And.intro ?_ ?_
   all_goals first|exact (show n+z=r'.n from Cn.symm)|exact Gk.symm|exact re.symm
 ·have jR:=sT h5
  subst jR
  refine⟨fun k1=>?_,fun k1=>absurd (show d0=d from q2) k1⟩
  exact aj (show u=d from q3)
theorem nL (x:PV) (s:mh 1 1 (PV.int .u8) (fun z:Int=>0<=z/\z<=255) x) (y:PV) (t:SInt .i64 y) (z:PV) (u:mh 17 232 rp ST.Ok z):ai gT 4 [x,y,z] .tt:=by
 obtain⟨b,h1,h2,rfl⟩:=s
 obtain⟨n,hn,rfl⟩:=t
 obtain⟨l,h3,h4,rfl⟩:=u
 exact oN b h2 n (dX hn) l (kc h4)
end Go.Proofs.YtnbhdacpogplgaaGreatDoor.Pw

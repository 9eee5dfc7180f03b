/- What this claim is proved with: no condition. -/
import Derived.Test.YtnbhdacpogplgaaGreatDoorPv18
import Derived.Test.YtnbhdacpogplgaaGreatDoorRows
import Derived.Test.YtnbhdacpogplgaaGreatDoorPv16
import Derived.Test.YtnbhdacpogplgaaGreatDoorPv6
import Derived.ProofKit
import Derived.LaidMore
import Derived.OpenShut
import Derived.Stop.Joined
import Derived.Lib.LaidTab
import Derived.Test.YtnbhdacpogplgaaGreatDoorPv8
set_option maxRecDepth 100000
set_option maxHeartbeats 8000000
set_option linter.unusedVariables false
set_option linter.unusedSimpArgs false
namespace Go.Proofs.YtnbhdacpogplgaaGreatDoor.Pw
open Go Go.RowKit
open Classical in
theorem tl {w:WK} {p:Prop} (h:w.e=201):(aE w p).e=201:=by
 unfold aE
 show (if p then w.e else 201)=201
 split
 ·exact h
 ·rfl
theorem rU {w:WK} {p:Prop} (h:¬ p):(aE w p).e=201:=by rw[eM h]
theorem zf {b:List Int} {w:WK} (h:w.e=201\/eA b w.at_≠0):(cf b w).e=201:=by
 have h1:(aE w (eA b w.at_=0)).e=201:=by
  rcases h with h|h
  ·exact tl h
  ·exact rU h
 unfold cf
 rw[if_pos (show (aE w (eA b w.at_=0)).e≠0 by rw[h1]; decide)]
 exact h1
def AE (b:List Int) (x:eN):Prop:=x.w.last\/eA b x.w.at_≠0\/Fi (iA b x.w.at_).form\/(iA b x.w.at_).form=45\/(iA b x.w.at_).form=97
theorem Fq {b:List Int} {x:eN} (hd:x.aw = []):(aY b x).aw = []:=by
 unfold aY
 simp only
 split
 ·exact hd
 ·rw[hd]
theorem JJ {b:List Int} {x:eN} (hd:x.aw = []) (h:AE b x):(aY b x).w.e=201:=by
 have key:¬ (iA b x.w.at_).form=97->(aE (cf b (aE x.w (¬ x.w.last))) (¬ Fi (iA b x.w.at_).form/\(iA b x.w.at_).form≠45)).e=201:=fun E_=>by
  rcases h with h|h|h|h|h
  ·exact tl (zf (.inl (rU fun k=>k h)))
  ·exact tl (zf (.inr h))
  ·exact rU fun k=>k.1 h
  ·exact rU fun k=>k.2 h
  ·exact absurd h E_
 unfold aY
 simp only
 split
 ·rename_i E_
  exact key E_
 ·rw[hd]
theorem qt {b:List Int} {x:eN} (he:x.w.e=0) (hd:x.aw = []) (hf:¬ x.w.aO) (h:¬ AE b x):aY b x=⟨⟨x.w.at_+aX (iA b x.w.at_).form,True,wm (134217728+x.w.at_) (aX (iA b x.w.at_).form),False,iz (iA b x.w.at_),0⟩,x.out++[ak (dz b x.w.at_) (dG x.w x.w.at_ (aX (iA b x.w.at_).form))],[]⟩:=by
 unfold AE at h
 have h1:¬ x.w.last:=fun k=>h (.inl k)
 have h2:eA b x.w.at_=0:=Classical.not_not.1 fun k=>h (.inr (.inl k))
 have h3:¬ Fi (iA b x.w.at_).form/\(iA b x.w.at_).form≠45:=⟨fun k=>h (.inr (.inr (.inl k))),fun k=>h (.inr (.inr (.inr (.inl k))))⟩
 have h4:(iA b x.w.at_).form≠97:=fun k=>h (.inr (.inr (.inr (.inr k))))
 have hn:¬ (aE x.w (eA b x.w.at_=0)).e≠0:=fun k=>k (by rw[bu h2]; exact he)
 have e1:cf b x.w = { xY x.w x.w.at_ (aX (iA b x.w.at_).form) with aO:=False,at_:=x.w.at_+aX (iA b x.w.at_).form }:=by
  unfold cf
  rw[if_neg hn,if_neg hf]
 have e2:cw b x.w=dG x.w x.w.at_ (aX (iA b x.w.at_).form):=by
  unfold cw
  rw[if_neg hn,if_neg hf]
 unfold aY
 simp only
 rw[if_pos h4,bu h1,bu h3,e1,e2,hd]
 unfold xY
 rw[he]
theorem zg {b:List Int} {t:Int} {x:eN} (h:¬ (x.w.at_ < t/\x.w.e=0)):∀ n,runN b t n x=x
 | 0=>rfl
 | n+1=>by rw[runN,if_neg h]
structure wW (b:List Int) (t:Int) (R:eN) (a0:Int) where
 x:eN
 n:Nat
 py:uE t x < n
 eq:runN b t n x=R
 e:x.w.e=0
 aw:x.aw = []
 RE:¬ x.w.aO
 l:List (Int × Int)
 out:x.out=pM l
 bd:∀ p∈l,(1<=p.1/\p.1<=20)/\0<=p.2/\p.2<=2
 a:a0<=x.w.at_/\0<=a0/\x.w.at_ - a0<=b.length+4/\2*l.length<=x.w.at_ - a0/\(x.w.at_≠a0->l≠[])
theorem wW.stop {b:List Int} {t:Int} {R:eN} {a0:Int} (r:wW b t R a0) (h:¬ r.x.w.at_ < t):R=r.x:=by
 exact r.eq.symm.trans (zg (fun k=>h k.1) _)
theorem wW.bad {b:List Int} {t:Int} {R:eN} {a0:Int} (r:wW b t R a0) (h:r.x.w.at_ < t) (hb:AE b r.x):R.w.e=201/\R.aw = []:=by
 have h1:=JJ r.aw hb
 have h2:R=aY b r.x:=by
  have hf:=r.py
  obtain⟨k,hk⟩:∃ k,r.n=k+1:=⟨r.n - 1,by omega⟩
  have e:=r.eq
  rw[hk,runN,if_pos ⟨h,r.e⟩] at e
  refine e.symm.trans ?_
  split
  ·rfl
  ·exact zg (fun k=>by rw[h1] at k; exact absurd k.2 (by decide)) _
 rw[h2]
 exact⟨h1,Fq r.aw⟩
theorem JK {b:List Int} {n:Int} (h:eA b n=0):1<=dz b n/\dz b n<=20:=by
 obtain⟨_,hr,hi⟩:=bN h
 have:=js hr hi
 unfold dz
 rw[if_pos h]
 exact wL _ _ (by unfold dH; omega) (by unfold dH; omega) this.1 this.2
noncomputable def ub (b:List Int) (x:eN):Int × Int:=(dz b x.w.at_,dG x.w x.w.at_ (aX (iA b x.w.at_).form))
theorem wW.next {b:List Int} {t:Int} {R:eN} {a0:Int} (r:wW b t R a0) (h:r.x.w.at_ < t) (hb:¬ AE b r.x):∃ r':wW b t R a0,r'.x=aY b r.x/\r'.l=r.l++[ub b r.x]/\r'.n < r.n:=by
 have he:eA b r.x.w.at_=0:=Classical.not_not.1 fun k=>hb (.inr (.inl k))
 have hg:=qt r.e r.aw r.RE hb
 have hf:=r.py
 have hp:=JK he
 have hm:=jr r.x.w r.x.w.at_ (aX (iA b r.x.w.at_).form)
 obtain⟨⟨p1,p2⟩,p3,_⟩:=bN he
 have hs:=gV p3
 have ha:=r.a
 have NG:=oX (b:=b) (till:=t) (x:=r.x) ⟨h,r.e⟩
 have hlen:(r.l++[ub b r.x]).length=r.l.length+1:=by rw[List.length_append,List.length_singleton]
 have hw:(aY b r.x).w.at_=r.x.w.at_+aX (iA b r.x.w.at_).form:=by rw[hg]
 refine⟨⟨aY b r.x,r.n - 1,by omega,?_,by rw[hg],by rw[hg],by rw[hg]; exact id,r.l++[ub b r.x],?_,?_,?_⟩,rfl,rfl,by show r.n - 1 < r.n; omega⟩
 ·obtain⟨k,hk⟩:∃ k,r.n=k+1:=⟨r.n - 1,by omega⟩
  have e:=r.eq
  rw[hk] at e ⊢
  rw[runN,if_pos ⟨h,r.e⟩,if_neg (show ¬ CX b r.x from fun k=>hb (.inr (.inr (.inr (.inr k.1)))))] at e
  exact e
 ·rw[hg,r.out]
  unfold pM ub
  rw[List.map_append]
  rfl
 ·intro p e_
  rcases List.mem_append.1 e_ with e_|e_
  ·exact r.bd p e_
  ·rw[List.mem_singleton] at e_
   rw[e_]
   exact⟨hp,hm⟩
 ·rw[hlen,hw]
  refine⟨by omega,ha.2.1,by omega,by omega,fun _ k=>?_⟩
  rw[k] at hlen
  cases hlen
theorem Hn:∀ {l:List (Int × Int)},(∀ p∈l,(1<=p.1/\p.1<=20)/\0<=p.2/\p.2<=2)->(l.length<=(l.map (·.1)).sum/\(l.map (·.1)).sum<=20*l.length)/\0<=(l.map (·.2)).sum/\(l.map (·.2)).sum<=2*l.length
 | [],_=>by simp
 | p::l,h=>by
  have h1:=Hn (l:=l) fun q hq=>h q (List.mem_cons_of_mem _ hq)
  have h2:=h p (List.mem_cons_self ..)
  simp only[List.map_cons,List.sum_cons,List.length_cons]
  omega
noncomputable def qu (b:List Int) (a t:Int):eN:=jY b (kN a) t []
noncomputable def law0 (b:List Int) (a t:Int) (h0:0<=a):wW b t (qu b a t) a:=⟨⟨kN a,[],[]⟩,(t - a).toNat+1,by
  unfold uE
  rw[if_pos (show (kN a).e=0 from rfl)]
  show (t - a).toNat < _; omega,rfl,rfl,rfl,fun k=>k,[],rfl,(fun p hp=>by cases hp),⟨Int.le_refl _,h0,by show a - a<=_; omega,by show 2*(([]:List (Int × Int)).length:Int)<=a - a; simp,fun k=>absurd rfl k⟩⟩
theorem RF (a t:Int) (h:a < t):iC (kN a) a t=kN a:=by
 unfold iC
 exact bu ⟨rfl,h,fun k=>k⟩
theorem RG (b:List Int) (a t:Int) (h:a < t):nR b (kN a) a t=aq (qu b a t).out/\jn b (kN a) a t=aE (aE (qu b a t).w ((qu b a t).aw = [])) ((qu b a t).w.at_=t):=by
 unfold nR jn
 rw[RF a t h,if_neg (show ¬ (kN a).e≠0 from fun k=>k rfl),if_neg (show ¬ (kN a).e≠0 from fun k=>k rfl)]
 exact⟨rfl,rfl⟩
theorem NW (b:List Int) (a t:Int) (h:a < t) (r:wW b t (qu b a t) a) (hx:r.x=qu b a t) (hR:(qu b a t).w.at_=t/\(qu b a t).w.last):jn b (kN a) a t=(qu b a t).w/\nR b (kN a) a t=ak (r.l.map (·.1)).sum (r.l.map (·.2)).sum/\0 < (r.l.map (·.1)).sum:=by
 have hs:=Hn r.bd
 have ha:=r.a
 rw[hx] at ha
 have hl:r.l≠[]:=ha.2.2.2.2 (by rw[hR.1]; omega)
 have kf:0 < r.l.length:=List.length_pos_iff.2 hl
 have ho:=r.out
 rw[hx] at ho
 have hd:=r.aw
 rw[hx] at hd
 obtain⟨h1,h2⟩:=RG b a t h
 rw[h1,h2,bu hd,bu hR.1,ho]
 exact⟨rfl,C1 (by omega),by omega⟩
theorem zh {b:List Int} {n:Nat} {i:IN} (h:cD i) (hg:i.aA<=9223372036854775807) (hn:¬ 48<=i.form) (hl:n+2<=b.length) (hw:hN b n=dn i) (hb:¬ jX (dn i)):iA b n=i/\eA b n=0:=by
 have fst:=Rk i h hg
 have bk:=back i h hg
 have e:(48<=i.form)=False:=eq_false hn
 rw[e] at fst
 unfold iA eA
 rw[if_pos (by omega),if_pos (by omega),Int.toNat_natCast]
 unfold Kl Km
 rw[if_neg (by omega),hw,if_pos hb,if_neg (by omega),if_pos hb,Ar fst,E' fst]
 exact⟨bk,rfl⟩
def C9:IN:=⟨42,0,0,0,0,0,0,0,0,0,16624⟩
def C':IN:=⟨43,0,0,0,0,0,0,0,0,0,33008⟩
def zi:List Int:=[240,181,240,189]
theorem NX:cD C9:=by
 show aS _ (fg (af 42))
 rw[show af 42=11 by decide,show fg 11 = {nT with aA:=16639} from rfl]
 refine⟨by decide,.inr (.inr (.inr (by decide))),.inr (.inr (.inr (by decide))),.inr (.inr (.inr (by decide))),.inr (.inr (.inr (by decide))),by unfold jV; decide +kernel,.inl rfl,.inl (by decide),.inl rfl,.inr ⟨Bool.false_ne_true,rfl,.inl (by decide)⟩,?_⟩
 refine⟨by decide,by decide,by decide,by decide,?_⟩
 show af 42=18\/af 42=19\/af 42=20->_
 rw[show af 42=11 by decide]
 exact fun h=>absurd h (by decide)
theorem NY:cD C':=by
 show aS _ (fg (af 43))
 rw[show af 43=12 by decide,show fg 12 = {nT with aA:=33023} from rfl]
 refine⟨by decide,.inr (.inr (.inr (by decide))),.inr (.inr (.inr (by decide))),.inr (.inr (.inr (by decide))),.inr (.inr (.inr (by decide))),by unfold jV; decide +kernel,.inl rfl,.inl (by decide),.inl rfl,.inr ⟨Bool.false_ne_true,rfl,.inl (by decide)⟩,?_⟩
 refine⟨by decide,by decide,by decide,by decide,?_⟩
 show af 43=18\/af 43=19\/af 43=20->_
 rw[show af 43=12 by decide]
 exact fun h=>absurd h (by decide)
theorem Ho:dn C9=46576:=by decide +kernel
theorem Hp:dn C'=48624:=by decide +kernel
theorem zj:iA zi 0=C9/\eA zi 0=0:=zh (n:=0) NX (by decide) (by decide) (by decide) (by rw[Ho]; decide) (by rw[Ho]; unfold jX; decide)
theorem zk:iA zi 2=C'/\eA zi 2=0:=zh (n:=2) NY (by decide) (by decide) (by decide) (by rw[Hp]; decide) (by rw[Hp]; unfold jX; decide)
theorem NZ:∀ n:Int,0<=n->n<=65535->(Jo n↔32768<=n):=by
 intro n h0 h1
 unfold Jo
 rw[show Ev.aQ .i64 15=32768 by decide]
 by_cases h:32768<=n
 ·rw[show n / 32768=1 by omega]
  exact⟨fun _=>h,fun _=>by decide⟩
 ·rw[show n / 32768=0 by omega]
  exact⟨fun k=>absurd k (by decide),fun k=>absurd k h⟩
theorem Hq:dz zi 0=6:=by unfold dz; rw[zj.1,if_pos zj.2]; decide +kernel
theorem Hr:dz zi 2=8:=by unfold dz; rw[zk.1,if_pos zk.2]; decide +kernel
theorem N0:∃ r:wW zi 4 (qu zi 0 4) 0,r.x=qu zi 0 4/\(qu zi 0 4).w.at_=4/\(qu zi 0 4).w.last/\(r.l.map (·.1)).sum=14/\(r.l.map (·.2)).sum=1:=by
 obtain⟨r0,z4⟩:∃ r0:wW zi 4 (qu zi 0 4) 0,r0.x=⟨kN 0,[],[]⟩/\r0.l = []:=⟨law0 zi 0 4 (by decide),rfl,rfl⟩
 have a0:r0.x.w.at_=0:=by rw[z4.1]; rfl
 have n0:¬ AE zi r0.x:=by
  unfold AE
  rw[a0,zj.1,zj.2,z4.1]
  rintro (h|h|h|h|h)
  ·exact h
  ·exact h rfl
  ·revert h; unfold Fi C9; decide
  ·revert h; unfold C9; decide
  ·revert h; unfold C9; decide
 obtain⟨r1,h1,l1,_⟩:=r0.next (by rw[a0]; decide) n0
 have g1:=qt r0.e r0.aw r0.RE n0
 rw[a0,zj.1,Hq] at g1
 rw[← h1] at g1
 have a1:r1.x.w.at_=2:=by rw[g1]; rfl
 have n1:¬ AE zi r1.x:=by
  unfold AE
  rw[a1,zk.1,zk.2,g1]
  rintro (h|h|h|h|h)
  ·exact absurd (show (42:Int)=43 from h.1) (by decide)
  ·exact h rfl
  ·revert h; unfold Fi C'; decide
  ·revert h; unfold C'; decide
  ·revert h; unfold C'; decide
 obtain⟨r2,h2,l2,_⟩:=r1.next (by rw[a1]; decide) n1
 have g2:=qt r1.e r1.aw r1.RE n1
 rw[a1,zk.1,Hr] at g2
 rw[← h2] at g2
 have a2:r2.x.w.at_=4:=by rw[g2]; rfl
 have hs:=r2.stop (by rw[a2]; decide)
 have ls:iz C':=⟨rfl,(NZ 33008 (by decide) (by decide)).2 (by decide)⟩
 have m0:ub zi r0.x=(6,1):=by
  unfold ub dG rE gm
  rw[a0,zj.1,Hq,z4.1,if_pos (show aX C9.form=2 by decide),if_neg (fun k=>k.1)]
 have m1:ub zi r1.x=(8,0):=by
  unfold ub dG rE gm
  rw[a1,zk.1,Hr,g1,if_pos (show aX C'.form=2 by decide),if_pos ⟨trivial,show wm (134217728+0) (aX C9.form)=gU (134217728+2) by decide⟩]
 refine⟨r2,hs.symm,by rw[hs,a2],by rw[hs,g2]; exact ls,?_,?_⟩
 ·rw[l2,l1,z4.2,m0,m1]; decide
 ·rw[l2,l1,z4.2,m0,m1]; decide
def lSF (a t:Int):List PV:=[.int .i64 1,.int .i64 a,.int .i64 t,.int .i64 0,.int .i64 (-1),.int .i64 0,.int .i64 0,.int .i64 0,.int .u32 0,.nil,.int .i64 0,.int .u32 0,.nil,.nil,.nil,.nil,.nil]
theorem lS_le (a t:Int):na tR (lSF a t) (spF (qq a t)):=by
 repeat' first|exact trivial|exact rfl|exact Or.inl rfl|refine And.intro ?_ ?_
theorem argL {f:FuncId} {a t:Int} {b:List Int} {y:PV} (h:aj gT f [.sl 1 (uC b),.int .i64 a,.sl 17 [D7 (qq a t)]] y):aj gT f [.sl 1 (uC b),.int .i64 a,.sl 17 [.agg (lSF a t)]] y :=
 Spec.Tb h ⟨yA.refl _,yA.refl _,Ta ⟨lS_le a t,trivial⟩,trivial⟩
theorem x6:aj gT 6 [] .tt:=by
 obtain⟨r,hx,z7,hla,s1,s2⟩:=N0
 obtain⟨g1,g2,g3⟩:=NW zi 0 4 (by decide) r hx ⟨z7,hla⟩
 have he:=r.e
 rw[hx] at he
 rw[s1,s2] at g2
 have hc:=(JI zi (by intro x hx; revert x; decide) (by decide) 0 4 ⟨by decide,by decide⟩ (by rw[g1]; exact he) (by rw[g1]; exact hla) ⟨by decide,by decide,by decide,by decide⟩ g2)
 rw[g1,z7] at hc
 have hc:=argL hc
 refine Spec.enter ao P6 100 Tryz.func6 rfl (by kernel_rfl) ?_
 refine⟨[],az,hc.ic [0,1] rfl (And.intro (Or.inr (And.intro rfl rfl)) (And.intro rfl (And.intro (Or.inl rfl) trivial))) rfl rfl ?_⟩
 refine⟨fun _=>And.intro (fun _=>?_) (fun h=>absurd (rfl:(4:Int)=4) h),fun h=>absurd (rfl:(0:Int)=0) h⟩
 refine (bQ 14 1).u ?_
 refine (Ff (ak 14 1) (ak 14 1)).u ?_
 refine al ?_
 exact rfl
end Go.Proofs.YtnbhdacpogplgaaGreatDoor.Pw
namespace Go.Proofs.YtnbhdacpogplgaaGreatDoor.l9
open Go.ChangeShapes Go.WideShapes Go.ChangeAt Go.RowKit Go.Deep
def w_:List (String × DataW Unit):=[("remontoire/imm.factors",Rows.laid_remontoire_imm_factors),("remontoire/inst.shapes",Rows.laid_remontoire_inst_shapes),("remontoire/cost.rules",Rows.laid_remontoire_cost_rules)]
def fuel:Nat:=3000
theorem N1 (os:Os) (args:Array Value):laidMetH Tryz.prog w_ ((World.doorLaid Tryz.prog fuel os).forCall (fun _ _=>0) ⟨#[],args,[]⟩).memory :=
 laidMetH_of_parts3 (fuel:=8) (laidMet_of_run' 8 (by kernel_rfl) (by kernel_rfl)) (by kernel_rfl) (by kernel_rfl)
end Go.Proofs.YtnbhdacpogplgaaGreatDoor.l9
namespace Go.Proofs.YtnbhdacpogplgaaGreatDoor.Pw
open Go Go.RowKit
theorem RH {W:World} (h:laidMetH Tryz.prog l9.w_ W):d_ gT (In W) W :=
 EA (laid:=l9.w_) (by kernel_rfl) h fun x hx=>by
  have dE:x∈[(2,Ue),(1,shP),(0,LA)]:=hx
  simp only[List.mem_cons,List.not_mem_nil,or_false] at dE
  rcases dE with rfl|rfl|rfl
  ·exact⟨"remontoire/imm.factors",_,165,List.mem_cons_self,by kernel_rfl,by kernel_rfl,by kernel_rfl,nofun⟩
  ·exact⟨"remontoire/inst.shapes",_,138,List.mem_cons_of_mem _ List.mem_cons_self,by kernel_rfl,by kernel_rfl,by kernel_rfl,nofun⟩
  ·exact⟨"remontoire/cost.rules",_,129,List.mem_cons_of_mem _ (List.mem_cons_of_mem _ List.mem_cons_self),by kernel_rfl,by kernel_rfl,by kernel_rfl,nofun⟩
theorem RI {z:Int} (h:ym .u8 z):0<=z/\z<=255:=by unfold ym Ev.ng Ev.mo at h; simp only[IntKind.signed,IntKind.bits] at h; simpa using h
theorem gr {z:Int} (h:ym .i64 z):bX z:=by unfold ym Ev.ng Ev.mo at h; simp only[IntKind.signed,IntKind.bits] at h; unfold bX; simpa using h
theorem kC:Op Tryz.prog 3 (SInt .i64):=Gj Tryz.underlying3 (by kernel_rfl)
theorem N2:Op Tryz.prog 22 (P0 1 1 (PV.int .u8) (fun z:Int=>0<=z/\z<=255)) :=
 LC (Gk (Gj Tryz.underlying5 (by kernel_rfl)) 1 1 (by kernel_rfl) Tryz.underlying22 (by kernel_rfl) (by decide) (by kernel_rfl)) fun x ⟨z,h,e⟩=>⟨z,RI h,e⟩
def gP (g:G):PV:=.agg [.int .i64 g.op,.int .u32 g.n,.sl 3 (gn g)]
theorem fi:∀ l:List G,jH l=l.map gP
 | []=>rfl
 | g::l=>by rw[jH,fi l]; rfl
mutual
def G.Ok:G->Prop
 | .mk o n l=>bX o/\dH n/\l.length<=maxLen/\RJ l
def RJ:List G->Prop
 | []=>True
 | g::l=>g.Ok/\RJ l
end
theorem C_:∀ {l:List G},(∀ g∈l,g.Ok)->RJ l
 | [],_=>trivial
 | g::l,h=>⟨h g (List.mem_cons_self ..),C_ fun x hx=>h x (List.mem_cons_of_mem _ hx)⟩
theorem oo:∀ {l:List G},RJ l->∀ g∈l,g.Ok
 | g::l,h,x,hx=>by
  rcases List.mem_cons.1 hx with rfl|hx
  ·exact h.1
  ·exact oo h.2 x hx
theorem G.ind {p:G->Prop} (h:∀ g,(∀ x∈g.l,p x)->p g):∀ g,p g:=fun g=>by
 refine G.rec (motive_1:=p) (motive_2:=fun l=>∀ x∈l,p x) ?_ ?_ ?_ g
 ·exact fun o n l hl=>h (.mk o n l) hl
 ·exact fun x hx=>by cases hx
 ·intro a l ha hl x hx
  rcases List.mem_cons.1 hx with rfl|hx
  ·exact ha
  ·exact hl x hx
theorem Zs:Op Tryz.prog 24 (SInt .u32):=Gj Tryz.underlying24 (by kernel_rfl)
theorem Da {z:Int} (h:ym .u32 z):dH z:=by unfold ym Ev.ng Ev.mo at h; simp only[IntKind.signed,IntKind.bits] at h; unfold dH; simpa using h
structure DG where
 at_:Int
 a:G
 b:G
def rV (d:DG):PV:=.agg [.int .i64 d.at_,.int .i64 d.a.op,.int .u32 d.a.n,.sl 3 (gn d.a),.int .i64 d.b.op,.int .u32 d.b.n,.sl 3 (gn d.b)]
def DG.Ok (d:DG):Prop:=bX d.at_/\d.a.Ok/\d.b.Ok
structure SH where
 kind:Int
 fr:Int
 till:Int
 stub:Int
 skip:Int
 size:Int
 word:Int
 A:G
 B:G
 aw:List DG
def SH.Ok (h:SH):Prop:=(bX h.kind/\bX h.fr/\bX h.till/\bX h.stub/\bX h.skip/\bX h.size/\bX h.word)/\h.A.Ok/\h.B.Ok/\h.aw.length<=maxLen/\∀ d∈h.aw,d.Ok
inductive ST where
 | mk (h:SH) (hd bd el:List ST)
namespace ST
def h:ST->SH|.mk h _ _ _=>h
def hd:ST->List ST|.mk _ l _ _=>l
def bd:ST->List ST|.mk _ _ l _=>l
def el:ST->List ST|.mk _ _ _ l=>l
end ST
def shdL (h:SH):List PV:=[.int .i64 h.kind,.int .i64 h.fr,.int .i64 h.till,.int .i64 h.stub,.int .i64 h.skip,.int .i64 h.size,.int .i64 h.word,.int .i64 h.A.op,.int .u32 h.A.n,.sl 3 (gn h.A),.int .i64 h.B.op,.int .u32 h.B.n,.sl 3 (gn h.B),.sl 7 (h.aw.map rV)]
mutual
def sr:ST->PV
 | .mk h hd bd el=>.agg (shdL h++[.sl 17 (JL hd),.sl 17 (JL bd),.sl 17 (JL el)])
def JL:List ST->List PV
 | []=>[]
 | s::l=>sr s::JL l
end
theorem kD:∀ l:List ST,JL l=l.map sr
 | []=>rfl
 | s::l=>by rw[JL,kD l]; rfl
def qv (s:ST):SP:=⟨s.h.kind,s.h.fr,s.h.till,s.h.stub,s.h.skip,s.h.size,s.h.word,s.h.A,s.h.B,s.h.aw.map rV,s.hd.map sr,s.bd.map sr,s.el.map sr⟩
theorem Zt (s:ST):sr s=D7 (qv s):=by
 cases s with
 | mk h hd bd el =>
  rw[sr,kD,kD,kD]; rfl
mutual
def ST.Ok:ST->Prop
 | .mk h hd bd el=>h.Ok/\(hd.length<=maxLen/\bd.length<=maxLen/\el.length<=maxLen)/\c_ hd/\c_ bd/\c_ el
def c_:List ST->Prop
 | []=>True
 | s::l=>s.Ok/\c_ l
end
theorem oq:∀ {l:List ST},(∀ g∈l,g.Ok)->c_ l
 | [],_=>trivial
 | g::l,h=>⟨h g (List.mem_cons_self ..),oq fun x hx=>h x (List.mem_cons_of_mem _ hx)⟩
theorem bs:∀ {l:List ST},c_ l->∀ g∈l,g.Ok
 | g::l,h,x,hx=>by
  rcases List.mem_cons.1 hx with rfl|hx
  ·exact h.1
  ·exact bs h.2 x hx
theorem ST.ind {p:ST->Prop} (h:∀ s,(∀ x∈s.hd,p x)->(∀ x∈s.bd,p x)->(∀ x∈s.el,p x)->p s):∀ s,p s:=fun s=>by
 refine ST.rec (motive_1:=p) (motive_2:=fun l=>∀ x∈l,p x) ?_ ?_ ?_ s
 ·exact fun k hd bd el h1 h2 h3=>h (.mk k hd bd el) h1 h2 h3
 ·exact fun x hx=>by cases hx
 ·intro a l ha hl x hx
  rcases List.mem_cons.1 hx with rfl|hx
  ·exact ha
  ·exact hl x hx
open Go Go.RowKit
def im (o:Int):Int:=if o<=2 then 0 else if o<=4 then 1 else 2
theorem uc (o:Int):aj gT 151 [.int .i64 o] (.int .i64 (im o)):=by
 refine Spec.enter ao P151 100 Tryz.func151 rfl (by kernel_rfl) ?_
 refine⟨fun h1=>?_,fun h1=>And.intro (fun h2=>?_) (fun h2=>?_)⟩
 ·exact al (show (0:Int)=im o by unfold im; rw[if_pos h1])
 ·exact al (show (1:Int)=im o by unfold im; rw[if_neg h1,if_pos h2])
 ·exact al (show (2:Int)=im o by unfold im; rw[if_neg h1,if_neg h2])
mutual
def gY:G->Int
 | .mk _ _ l=>ef l 1
def ef:List G->Int->Int
 | [],a=>a
 | g::l,a=>ef l (IntKind.i64.wrap (a+gY g))
end
def xa (o n:Int) (k:Nat):Prop:=¬ (o < 1\/17 < o\/(k:Int)≠im o\/(2 < o/\n≠0)\/(o=2/\255 < n))
mutual
def cq:G->Prop
 | .mk o n l=>xa o n l.length/\kF l
def kF:List G->Prop
 | []=>True
 | g::l=>cq g/\kF l
end
mutual
def tm:G->Prop
 | .mk o n l=>(o≠2\/n<=253)/\zl l
def zl:List G->Prop
 | []=>True
 | g::l=>tm g/\zl l
end
theorem mS:∀ {l:List G},kF l↔∀ x∈l,cq x
 | []=>by simp[kF]
 | g::l=>by rw[kF,mS]; simp
theorem zm:∀ {l:List G},zl l↔∀ x∈l,tm x
 | []=>by simp[zl]
 | g::l=>by rw[zl,zm]; simp
def eD (g:G):Prop:=(gY g<=16384/\cq g)/\tm g
def Db (g:G):Prop:=g.op=0/\g.n=0/\g.l = []
theorem Dc:∀ g:G,g.Ok->aj gT 125 [gP g] (.int .i64 (gY g)):=G.ind fun g ih hO=>by
 obtain⟨o,n,l⟩:=g
 obtain⟨ho,hn,hl,hL⟩:=hO
 have T7:∀ x∈l,aj gT 125 [gP x] (.int .i64 (gY x)):=fun x hx=>ih x hx (oo hL x hx)
 clear ih
 show aj gT 125 [.agg [.int .i64 o,.int .u32 n,.sl 3 (jH l)]] (.int .i64 (ef l 1))
 rw[fi]
 obtain⟨R,hR⟩:∃ R,R=ef l 1:=⟨_,rfl⟩
 rw[← hR]
 have el:(l.map gP).length=l.length:=List.length_map ..
 refine Spec.enter ao xO 100 Tryz.func125 rfl (by kernel_rfl) ?_
 refine fun hm=>?_
 refine SW.ko ao xO (by kernel_rfl) (α:={q:Nat × Int // R=ef (l.drop q.1) q.2}) (fun q=>[(3,.int .i64 q.1.2),(9,.int .i64 q.1.1)]) (fun q=>l.length - q.1.1) ⟨(0,1),hR⟩ 60 ?_ ?_
 ·repeat' first|exact trivial|exact rfl|refine And.intro ?_ ?_
 rintro⟨⟨i,a⟩,hi⟩
 refine⟨fun h=>?_,fun h=>?_⟩
 ·have h':(i:Int) < ((l.map gP).length:Nat):=h
  rw[el] at h'
  refine⟨G,l,gP,rfl,show (0:Int)<=(i:Int) by omega,show (i:Int) < (l.length:Int) by omega,fun x hx=>?_⟩
  have dE:l[i]?=some x:=hx
  refine (T7 x (List.mem_of_getElem? dE)).u ?_
  refine .inr ?_
  unfold maxLen at hl
  refine .inl ⟨aG (show _<=(i:Int)+1/\(i:Int)+1<=_ by omega),⟨⟨(i+1,IntKind.i64.wrap (a+gY x)),?_⟩,show l.length - (i+1) < l.length - i by omega,?_⟩⟩
  ·show R=ef (l.drop (i+1)) _
   rw[hi]
   show ef (l.drop i) a=_
   rw[List.drop_eq_getElem_cons (by omega),ef]
   rw[List.getElem?_eq_getElem (by omega)] at dE
   rw[Option.some.inj dE]
  ·repeat' first|exact trivial|exact rfl|refine And.intro ?_ ?_
 ·have h':¬ (i:Int) < ((l.map gP).length:Nat):=h
  rw[el] at h'
  refine al ?_
  exact (show a=R by rw[hi]; show a=ef (l.drop i) a; rw[List.drop_of_length_le (by omega),ef])
theorem Zu (L:List G) (p:G->Prop) (hp:∀ x∈L,aj gT 152 [gP x] (.bool (p x))):aj gT 153 [.sl 3 (L.map gP),.clo 152 []] (.int .i64 (ez p L 0)):=by
 refine Spec.enter ao uu 100 Tryz.func153 rfl (by kernel_rfl) ?_
 intro hm
 rw[List.length_map] at hm
 obtain⟨z,hz⟩:∃ z,z=ez p L 0:=⟨_,rfl⟩
 rw[← hz]
 refine SW.ko ao uu (by kernel_rfl) (α:={i:Nat // z=ez p (L.drop i) i}) (fun i=>[(8,.int .i64 i.1)]) (fun i=>L.length - i.1) ⟨0,hz⟩ 60 ?_ ?_
 ·repeat' first|exact trivial|exact rfl|refine And.intro ?_ ?_
 rintro⟨i,hi⟩
 refine⟨fun h=>?_,fun h=>?_⟩
 ·have h':(i:Int) < ((L.map gP).length:Nat):=h
  rw[List.length_map] at h'
  refine⟨G,L,gP,rfl,show (0:Int)<=(i:Int) by omega,show (i:Int) < (L.length:Int) by omega,fun x hx=>?_⟩
  have dE:L[i]?=some x:=hx
  obtain⟨s1,s2⟩:=iR (p:=p) dE
  refine (hp x (List.mem_of_getElem? dE)).u ?_
  refine⟨fun te=>?_,fun te=>?_⟩
  ·refine al ?_
   exact (show (i:Int)=z by rw[hi,s1 te])
  ·unfold maxLen at hm
   refine .inl ⟨aG (show _<=(i:Int)+1/\(i:Int)+1<=_ by omega),⟨⟨i+1,by rw[hi,s2 te]⟩,show L.length - (i+1) < L.length - i by omega,?_⟩⟩
   repeat' first|exact trivial|exact rfl|refine And.intro ?_ ?_
 ·have h':¬ (i:Int) < ((L.map gP).length:Nat):=h
  rw[List.length_map] at h'
  refine al ?_
  exact (show (-1:Int)=z by rw[hi,List.drop_of_length_le (by omega),ez])
theorem N3 (L:List G) (p:G->Prop) (hp:∀ x∈L,aj gT 152 [gP x] (.bool (p x))):aj gT 144 [.sl 3 (L.map gP),.clo 152 []] (.bool (∃ x∈L,p x)):=by
 refine Spec.enter ao P2 100 Tryz.func144 rfl (by kernel_rfl) ?_
 refine (Zu L p hp).u ?_
 exact al ky
theorem Zv (L:List G) (p:G->Prop) (hp:∀ x∈L,aj gT 149 [gP x] (.bool (p x))):aj gT 153 [.sl 3 (L.map gP),.clo 149 []] (.int .i64 (ez p L 0)):=by
 refine Spec.enter ao uu 100 Tryz.func153 rfl (by kernel_rfl) ?_
 intro hm
 rw[List.length_map] at hm
 obtain⟨z,hz⟩:∃ z,z=ez p L 0:=⟨_,rfl⟩
 rw[← hz]
 refine SW.ko ao uu (by kernel_rfl) (α:={i:Nat // z=ez p (L.drop i) i}) (fun i=>[(8,.int .i64 i.1)]) (fun i=>L.length - i.1) ⟨0,hz⟩ 60 ?_ ?_
 ·repeat' first|exact trivial|exact rfl|refine And.intro ?_ ?_
 rintro⟨i,hi⟩
 refine⟨fun h=>?_,fun h=>?_⟩
 ·have h':(i:Int) < ((L.map gP).length:Nat):=h
  rw[List.length_map] at h'
  refine⟨G,L,gP,rfl,show (0:Int)<=(i:Int) by omega,show (i:Int) < (L.length:Int) by omega,fun x hx=>?_⟩
  have dE:L[i]?=some x:=hx
  obtain⟨s1,s2⟩:=iR (p:=p) dE
  refine (hp x (List.mem_of_getElem? dE)).u ?_
  refine⟨fun te=>?_,fun te=>?_⟩
  ·refine al ?_
   exact (show (i:Int)=z by rw[hi,s1 te])
  ·unfold maxLen at hm
   refine .inl ⟨aG (show _<=(i:Int)+1/\(i:Int)+1<=_ by omega),⟨⟨i+1,by rw[hi,s2 te]⟩,show L.length - (i+1) < L.length - i by omega,?_⟩⟩
   repeat' first|exact trivial|exact rfl|refine And.intro ?_ ?_
 ·have h':¬ (i:Int) < ((L.map gP).length:Nat):=h
  rw[List.length_map] at h'
  refine al ?_
  exact (show (-1:Int)=z by rw[hi,List.drop_of_length_le (by omega),ez])
theorem Zw (L:List G) (p:G->Prop) (hp:∀ x∈L,aj gT 149 [gP x] (.bool (p x))):aj gT 144 [.sl 3 (L.map gP),.clo 149 []] (.bool (∃ x∈L,p x)):=by
 refine Spec.enter ao P2 100 Tryz.func144 rfl (by kernel_rfl) ?_
 refine (Zv L p hp).u ?_
 exact al ky
theorem JM (g:G) (h:aj gT 143 [gP g] (.bool (cq g))):aj gT 152 [gP g] (.bool (¬ cq g)):=by
 refine Spec.enter ao Ui 100 Tryz.func152 rfl (by kernel_rfl) ?_
 refine h.u ?_
 exact al Iff.rfl
theorem Zx (g:G) (h:aj gT 139 [gP g] (.bool (tm g))):aj gT 149 [gP g] (.bool (¬ tm g)):=by
 refine Spec.enter ao P149 100 Tryz.func149 rfl (by kernel_rfl) ?_
 refine h.u ?_
 exact al Iff.rfl
theorem AF:∀ g:G,g.Ok->aj gT 143 [gP g] (.bool (cq g)):=G.ind fun g ih hO=>by
 obtain⟨o,n,l⟩:=g
 obtain⟨ho,hn,hl,hL⟩:=hO
 have hc:=N3 l (fun x=>¬ cq x) fun x hx=>JM x (ih x hx (oo hL x hx))
 clear ih
 show aj gT 143 [.agg [.int .i64 o,.int .u32 n,.sl 3 (jH l)]] (.bool (xa o n l.length/\kF l))
 rw[fi,propext (@mS l)]
 have el:(l.map gP).length=l.length:=List.length_map ..
 unfold xa
 rw[← el]
 unfold dH at hn
 have N4:(¬ ∃ x∈l,¬ cq x)↔∀ x∈l,cq x:=by simp
 generalize (∃ x∈l,¬ cq x)=E at hc N4
 generalize (∀ x∈l,cq x)=A at N4
 refine Spec.enter ao Uh 100 Tryz.func143 rfl (by kernel_rfl) ?_
 refine⟨fun h1=>?_,fun h1=>And.intro (fun h2=>?_) (fun h2=>?_)⟩
 ·exact al (show ¬ _ from fun k=>k.1 (.inl h1))
 ·exact al (show ¬ _ from fun k=>k.1 (.inr (.inl h2)))
 refine fun _=>?_
 refine (uc o).u ?_
 generalize ((l.map gP).length:Int)=K at *
 generalize im o=ne at *
 have bad:(o < 1\/17 < o\/K≠ne\/(2 < o/\n≠0)\/(o=2/\255 < n))->¬ (¬ (o < 1\/17 < o\/K≠ne\/(2 < o/\n≠0)\/(o=2/\255 < n))/\A):=fun h k=>k.1 h
 have jl:¬ (o < 1\/17 < o\/K≠ne\/(2 < o/\n≠0)\/(o=2/\255 < n))->(¬ E↔(¬ (o < 1\/17 < o\/K≠ne\/(2 < o/\n≠0)\/(o=2/\255 < n))/\A)):=fun h=>N4.trans ⟨fun k=>⟨h,k⟩,fun k=>k.2⟩
 refine⟨fun h3=>?_,fun h3=>And.intro (fun h4=>And.intro (fun h5=>?_) (fun h5=>And.intro (fun h6=>?_) (fun h6=>?_))) (fun h4=>And.intro (fun h6=>And.intro (fun h7=>?_) (fun h7=>?_)) (fun h6=>?_))⟩
 ·exact al (bad (by omega))
 ·exact al (bad (by omega))
 ·exact absurd h6 (by omega)
 ·refine hc.u ?_
  exact al (jl (by omega))
 ·exact al (bad (by omega))
 ·refine hc.u ?_
  exact al (jl (by omega))
 ·refine hc.u ?_
  exact al (jl (by omega))
theorem JN:∀ g:G,g.Ok->aj gT 139 [gP g] (.bool (tm g)):=G.ind fun g ih hO=>by
 obtain⟨o,n,l⟩:=g
 obtain⟨ho,hn,hl,hL⟩:=hO
 have hc:=Zw l (fun x=>¬ tm x) fun x hx=>Zx x (ih x hx (oo hL x hx))
 clear ih
 show aj gT 139 [.agg [.int .i64 o,.int .u32 n,.sl 3 (jH l)]] (.bool ((o≠2\/n<=253)/\zl l))
 rw[fi,propext (@zm l)]
 have N4:(¬ ∃ x∈l,¬ tm x)↔∀ x∈l,tm x:=by simp
 generalize (∃ x∈l,¬ tm x)=E at hc N4
 generalize (∀ x∈l,tm x)=A at N4
 refine Spec.enter ao P139 100 Tryz.func139 rfl (by kernel_rfl) ?_
 repeat' ((conv=>whnf); first|(refine (And.intro (fun _=>?_) (fun _=>?_):(_->_)/\(_->_))<;>(first|(exfalso; first|contradiction|omega)|skip))|refine Or.inl (And.intro (by first|exact aG (by omega)|exact ai (by omega)|exact cL (by omega)|exact gJ (by omega)) ?_)|(refine And.intro (show (_:Int)≠0 by omega) (Or.inl (And.intro (show (0:Int)<=_ by omega) (And.intro (show (0:Int) < _ by omega) ?_))))|(refine And.intro (show (_:Int)≠0 by omega) (Or.inl (And.intro (show (0:Int)<=_ by omega) (And.intro (by first|exact (show (_:Int)<=9223372036854775807 by omega)|exact (show (_:Int)<=4294967295 by omega)) (And.intro (show (0:Int) < _ by omega) ?_)))))|(refine al ?_; exact (show ¬ ((o≠2\/n<=253)/\A) from fun k=>absurd k.1 (by omega)))|(refine⟨[],az,hc.use (And.intro rfl (And.intro (by exact⟨rfl,trivial⟩) trivial)) rfl rfl ?_⟩)|(refine⟨[],az,hc.use (by repeat' first|exact trivial|exact rfl|exact Iff.rfl|exact Or.inl rfl|refine And.intro ?_ ?_) rfl rfl ?_⟩)|(refine al ?_; exact (show ¬ E↔((o≠2\/n<=253)/\A) from N4.trans ⟨fun k=>⟨by omega,k⟩,fun k=>k.2⟩))|(intro _))
theorem Dd (g:G) (h:g.Ok):aj gT 126 [gP g] (.bool (gY g<=16384/\cq g)):=by
 have h1:=Dc g h
 have h2:=AF g h
 refine Spec.enter ao Ug 100 Tryz.func126 rfl (by kernel_rfl) ?_
 refine h1.u ?_
 refine⟨fun h=>?_,fun h=>?_⟩
 ·refine h2.u ?_
  exact al (show cq g↔_ from ⟨fun k=>⟨h,k⟩,fun k=>k.2⟩)
 ·exact al (show ¬ _ from fun k=>h k.1)
theorem oZ (g:G) (h:g.Ok):aj gT 117 [gP g] (.bool (eD g)):=by
 have h1:=Dd g h
 have h2:=JN g h
 refine Spec.enter ao P117 100 Tryz.func117 rfl (by kernel_rfl) ?_
 refine h1.u ?_
 refine⟨fun h=>?_,fun h=>?_⟩
 ·refine h2.u ?_
  exact al (show tm g↔_ from ⟨fun k=>⟨h,k⟩,fun k=>k.2⟩)
 ·exact al (show ¬ eD g from fun k=>h k.1)
theorem xb (g:G) (h:g.Ok):aj gT 115 [gP g] (.bool (Db g)):=by
 obtain⟨o,n,l⟩:=g
 show aj gT 115 [.agg [.int .i64 o,.int .u32 n,.sl 3 (jH l)]] (.bool (o=0/\n=0/\l = []))
 rw[fi]
 have el:(((l.map gP).length:Nat):Int)=0↔l = []:=by rw[List.length_map]; cases l<;>simp; omega
 refine Spec.enter ao P115 100 Tryz.func115 rfl (by kernel_rfl) ?_
 refine⟨fun h1=>And.intro (fun h2=>fun _=>?_) (fun h2=>?_),fun h1=>?_⟩
 ·exact al (show (((l.map gP).length:Nat):Int)=0↔_ from el.trans ⟨fun k=>⟨h1,h2,k⟩,fun k=>k.2.2⟩)
 ·exact al (show ¬ _ from fun k=>h2 k.2.1)
 ·exact al (show ¬ _ from fun k=>h1 k.1)
def fD:T->G
 | .leaf o n=>.mk o n []
 | .one o n a=>.mk o n [fD a]
 | .two o n a b=>.mk o n [fD a,fD b]
theorem iT (t:T):(fD t).op=t.op:=by cases t<;>rfl
theorem l_ (t:T):(fD t).n=t.num:=by cases t<;>rfl
theorem dA:∀ t:T,gn (fD t)=cz t
 | .leaf o n=>rfl
 | .one o n a=>by
  show [PV.agg [.int .i64 (fD a).op,.int .u32 (fD a).n,.sl 3 (gn (fD a))]]=_
  rw[iT,l_,dA a]; rfl
 | .two o n a b=>by
  show [PV.agg [.int .i64 (fD a).op,.int .u32 (fD a).n,.sl 3 (gn (fD a))],PV.agg [.int .i64 (fD b).op,.int .u32 (fD b).n,.sl 3 (gn (fD b))]]=_
  rw[iT,l_,dA a,iT,l_,dA b]; rfl
theorem N5 (t:T):gP (fD t)=jc t:=by unfold gP jc; rw[iT,l_,dA]
theorem N6:∀ g:G,cq g->∃ t,g=fD t:=G.ind fun g ih h=>by
 obtain⟨o,n,l⟩:=g
 obtain⟨h1,h2⟩:=h
 have h3:(l.length:Int)=im o:=Classical.not_not.1 fun k=>h1 (.inr (.inr (.inl k)))
 have hl:l.length<=2:=by unfold im at h3; split at h3<;>first|omega|(split at h3<;>omega)
 match l,h2,hl,ih with
 | [],_,_,_=>exact⟨.leaf o n,rfl⟩
 | [a],h2,_,ih =>
  obtain⟨t,rfl⟩:=ih a (List.mem_cons_self ..) h2.1
  exact⟨.one o n t,rfl⟩
 | [a,b],h2,_,ih =>
  obtain⟨t,rfl⟩:=ih a (List.mem_cons_self ..) h2.1
  obtain⟨u,rfl⟩:=ih b (List.mem_cons_of_mem _ (List.mem_cons_self ..)) h2.2.1
  exact⟨.two o n t u,rfl⟩
theorem Th {g:G} (h:eD g):∃ t,g=fD t:=N6 g h.1.2
noncomputable def cJ (g:G):T:=open Classical in if h:∃ t,g=fD t then h.choose else .leaf 0 0
theorem iU {g:G} (h:eD g):g=fD (cJ g):=by
 unfold cJ
 rw[dif_pos (Th h)]
 exact (Th h).choose_spec
def gu (l:List DG):Prop:=∀ d∈l,eD d.a/\eD d.b
noncomputable def eg (d:DG):DV:=⟨d.at_,cJ d.a,cJ d.b⟩
theorem Zy {d:DG} (h:eD d.a/\eD d.b):rV d=l6 (eg d):=by
 have ha:=iU h.1
 have hb:=iU h.2
 unfold rV l6 eg
 simp only
 rw[← iT (cJ d.a),← l_ (cJ d.a),← dA (cJ d.a),← ha,← iT (cJ d.b),← l_ (cJ d.b),← dA (cJ d.b),← hb]
theorem N7:∀ {l:List DG},gu l->l.map rV=(l.map eg).map l6
 | [],_=>rfl
 | d::l,h=>by
  rw[List.map_cons,List.map_cons,List.map_cons,Zy (h d (List.mem_cons_self ..)),N7 fun x hx=>h x (List.mem_cons_of_mem _ hx)]
def iq (s:ST):PV:=D7 (qv s)
theorem o4 (l:List ST):l.map sr=l.map iq:=List.map_congr_left fun s _=>Zt s
theorem idx_D (L:List DG) (p:DG->Prop) (hp:∀ x∈L,aj gT 138 [rV x] (.bool (p x))):aj gT 148 [.sl 7 (L.map rV),.clo 138 []] (.int .i64 (ez p L 0)):=by
 refine Spec.enter ao P1 100 Tryz.func148 rfl (by kernel_rfl) ?_
 intro hm
 rw[List.length_map] at hm
 obtain⟨z,hz⟩:∃ z,z=ez p L 0:=⟨_,rfl⟩
 rw[← hz]
 refine SW.ko ao P1 (by kernel_rfl) (α:={i:Nat // z=ez p (L.drop i) i}) (fun i=>[(8,.int .i64 i.1)]) (fun i=>L.length - i.1) ⟨0,hz⟩ 60 ?_ ?_
 ·repeat' first|exact trivial|exact rfl|refine And.intro ?_ ?_
 rintro⟨i,hi⟩
 refine⟨fun h=>?_,fun h=>?_⟩
 ·have h':(i:Int) < ((L.map rV).length:Nat):=h
  rw[List.length_map] at h'
  refine⟨DG,L,rV,rfl,show (0:Int)<=(i:Int) by omega,show (i:Int) < (L.length:Int) by omega,fun x hx=>?_⟩
  have dE:L[i]?=some x:=hx
  obtain⟨s1,s2⟩:=iR (p:=p) dE
  refine (hp x (List.mem_of_getElem? dE)).u ?_
  refine⟨fun te=>?_,fun te=>?_⟩
  ·refine al ?_
   exact (show (i:Int)=z by rw[hi,s1 te])
  ·unfold maxLen at hm
   refine .inl ⟨aG (show _<=(i:Int)+1/\(i:Int)+1<=_ by omega),⟨⟨i+1,by rw[hi,s2 te]⟩,show L.length - (i+1) < L.length - i by omega,?_⟩⟩
   repeat' first|exact trivial|exact rfl|refine And.intro ?_ ?_
 ·have h':¬ (i:Int) < ((L.map rV).length:Nat):=h
  rw[List.length_map] at h'
  refine al ?_
  exact (show (-1:Int)=z by rw[hi,List.drop_of_length_le (by omega),ez])
theorem has_D (L:List DG) (p:DG->Prop) (hp:∀ x∈L,aj gT 138 [rV x] (.bool (p x))):aj gT 137 [.sl 7 (L.map rV),.clo 138 []] (.bool (∃ x∈L,p x)):=by
 refine Spec.enter ao P137 100 Tryz.func137 rfl (by kernel_rfl) ?_
 refine (idx_D L p hp).u ?_
 exact al ky
theorem idx_S (L:List ST) (p:ST->Prop) (hp:∀ x∈L,aj gT 141 [iq x] (.bool (p x))):aj gT 150 [.sl 17 (L.map iq),.clo 141 []] (.int .i64 (ez p L 0)):=by
 refine Spec.enter ao P150 100 Tryz.func150 rfl (by kernel_rfl) ?_
 intro hm
 rw[List.length_map] at hm
 obtain⟨z,hz⟩:∃ z,z=ez p L 0:=⟨_,rfl⟩
 rw[← hz]
 refine SW.ko ao P150 (by kernel_rfl) (α:={i:Nat // z=ez p (L.drop i) i}) (fun i=>[(8,.int .i64 i.1)]) (fun i=>L.length - i.1) ⟨0,hz⟩ 60 ?_ ?_
 ·repeat' first|exact trivial|exact rfl|refine And.intro ?_ ?_
 rintro⟨i,hi⟩
 refine⟨fun h=>?_,fun h=>?_⟩
 ·have h':(i:Int) < ((L.map iq).length:Nat):=h
  rw[List.length_map] at h'
  refine⟨ST,L,iq,rfl,show (0:Int)<=(i:Int) by omega,show (i:Int) < (L.length:Int) by omega,fun x hx=>?_⟩
  have dE:L[i]?=some x:=hx
  obtain⟨s1,s2⟩:=iR (p:=p) dE
  refine (hp x (List.mem_of_getElem? dE)).u ?_
  refine⟨fun te=>?_,fun te=>?_⟩
  ·refine al ?_
   exact (show (i:Int)=z by rw[hi,s1 te])
  ·unfold maxLen at hm
   refine .inl ⟨aG (show _<=(i:Int)+1/\(i:Int)+1<=_ by omega),⟨⟨i+1,by rw[hi,s2 te]⟩,show L.length - (i+1) < L.length - i by omega,?_⟩⟩
   repeat' first|exact trivial|exact rfl|refine And.intro ?_ ?_
 ·have h':¬ (i:Int) < ((L.map iq).length:Nat):=h
  rw[List.length_map] at h'
  refine al ?_
  exact (show (-1:Int)=z by rw[hi,List.drop_of_length_le (by omega),ez])
theorem has_S (L:List ST) (p:ST->Prop) (hp:∀ x∈L,aj gT 141 [iq x] (.bool (p x))):aj gT 140 [.sl 17 (L.map iq),.clo 141 []] (.bool (∃ x∈L,p x)):=by
 refine Spec.enter ao P140 100 Tryz.func140 rfl (by kernel_rfl) ?_
 refine (idx_S L p hp).u ?_
 exact al ky
theorem JO (d:DG) (h:d.Ok):aj gT 138 [rV d] (.bool (¬ (eD d.a/\eD d.b))):=by
 have h1:=oZ d.a h.2.1
 have h2:=oZ d.b h.2.2
 refine Spec.enter ao P138 100 Tryz.func138 rfl (by kernel_rfl) ?_
 refine h1.u ?_
 refine⟨fun k=>?_,fun k=>?_⟩
 ·exact al (show ¬ (eD d.a/\eD d.b) from fun q=>k q.1)
 ·refine h2.u ?_
  exact al (show ¬ eD d.b↔¬ (eD d.a/\eD d.b) from ⟨fun q r=>q r.2,fun q r=>q ⟨Classical.not_not.1 k,r⟩⟩)
theorem AG (l:List DG) (h:∀ d∈l,d.Ok):aj gT 116 [.sl 7 (l.map rV)] (.bool (gu l)):=by
 have hc:=has_D l _ fun d hd=>JO d (h d hd)
 refine Spec.enter ao P116 100 Tryz.func116 rfl (by kernel_rfl) ?_
 refine hc.u ?_
 refine al ?_
 exact (show (¬ ∃ d∈l,¬ (eD d.a/\eD d.b))↔gu l by unfold gu; simp)
def mT (l:List ST):Prop:=∀ s∈l,s.h.kind=1/\s.h.aw = []
theorem De (s:ST):aj gT 141 [iq s] (.bool (¬ (s.h.kind=1/\s.h.aw = []))):=by
 have el:((0:Int) < ((s.h.aw.map rV).length:Nat))↔¬ s.h.aw = []:=by rw[List.length_map]; cases s.h.aw<;>simp
 refine Spec.enter ao P141 100 Tryz.func141 rfl (by kernel_rfl) ?_
 refine⟨fun k=>?_,fun k=>fun _=>?_⟩
 ·exact al (show ¬ (s.h.kind=1/\s.h.aw = []) from fun q=>k q.1)
 ·refine al ?_
  exact (show (0:Int) < ((s.h.aw.map rV).length:Nat)↔¬ (s.h.kind=1/\s.h.aw = []) from el.trans ⟨fun q r=>q r.2,fun q r=>q ⟨Classical.not_not.1 k,r⟩⟩)
theorem Df (l:List ST):aj gT 118 [.sl 17 (l.map iq)] (.bool (mT l)):=by
 have hc:=has_S l _ fun s _=>De s
 refine Spec.enter ao P118 100 Tryz.func118 rfl (by kernel_rfl) ?_
 refine hc.u ?_
 refine al ?_
 exact (show (¬ ∃ s∈l,¬ (s.h.kind=1/\s.h.aw = []))↔mT l by unfold mT; simp)
def eT (l:List ST):Int:=((l.map sr).length:Nat)
def RK (l:List DG):Int:=((l.map rV).length:Nat)
def N8 (s:ST):Prop:=s.h.stub=0/\s.h.skip = -1/\s.h.size=0/\s.h.word=0/\Db s.h.A/\Db s.h.B/\gu s.h.aw/\eT s.hd=0/\eT s.bd=0/\eT s.el=0
def N9 (s:ST):Prop:=s.h.skip = -1/\0<=s.h.size/\s.h.size<=1024/\s.h.word=0/\eD s.h.A/\Db s.h.B/\RK s.h.aw=0/\eT s.hd=0/\eT s.bd=0/\eT s.el=0
def N' (s:ST):Prop:=s.h.stub=0/\s.h.size=0/\s.h.word=0/\eD s.h.A/\Db s.h.B/\RK s.h.aw=0/\eT s.hd=0
def N_ (s:ST):Prop:=s.h.size=0/\4<=s.h.word/\s.h.word<=253/\eD s.h.A/\eD s.h.B/\RK s.h.aw=0/\mT s.hd/\eT s.el=0
def gv (s:ST):Prop:=if s.h.kind=1 then N8 s else if s.h.kind=2 then N9 s else if s.h.kind=3 then N' s else N_ s
theorem ST.rW {s:ST} (h:s.Ok):s.h.Ok:=by cases s; exact h.1
theorem Fs (s:ST) (h:s.Ok):aj gT 79 [iq s] (.bool (gv s)):=by
 have hO:=s.rW h
 have nA:=xb s.h.A hO.2.1
 have nB:=xb s.h.B hO.2.2.1
 have mA:=oZ s.h.A hO.2.1
 have mB:=oZ s.h.B hO.2.2.1
 have dV:=AG s.h.aw hO.2.2.2.2
 have pL:=Df s.hd
 rw[← o4] at pL
 have eh:eT s.hd=((s.hd.map sr).length:Nat):=rfl
 have eb:eT s.bd=((s.bd.map sr).length:Nat):=rfl
 have ee:eT s.el=((s.el.map sr).length:Nat):=rfl
 have ed:RK s.h.aw=((s.h.aw.map rV).length:Nat):=rfl
 have e1:s.h.kind=1->gv s=N8 s:=fun k=>if_pos k
 have e2:s.h.kind≠1->s.h.kind=2->gv s=N9 s:=fun k q=>by unfold gv; rw[if_neg k,if_pos q]
 have e3:s.h.kind≠1->s.h.kind≠2->s.h.kind=3->gv s=N' s:=fun k q r=>by unfold gv; rw[if_neg k,if_neg q,if_pos r]
 have e4:s.h.kind≠1->s.h.kind≠2->s.h.kind≠3->gv s=N_ s:=fun k q r=>by unfold gv; rw[if_neg k,if_neg q,if_neg r]
 unfold N8 at e1
 unfold N9 at e2
 unfold N' at e3
 unfold N_ at e4
 generalize gv s=B at *
 refine Spec.enter ao P79 100 Tryz.func79 rfl (by kernel_rfl) ?_
 refine fun _=>fun _=>fun _=>?_
 refine⟨fun k1=>?_,fun k1=>And.intro (fun k2=>?_) (fun k2=>And.intro (fun k3=>?_) (fun k3=>?_))⟩
 ·rw[e1 k1,eh,eb,ee]
  clear e1 e2 e3 e4 mA mB pL
  refine⟨fun a1=>?_,fun a1=>al (show ¬ _ from fun k=>a1 k.1)⟩
  refine⟨fun a2=>?_,fun a2=>al (show ¬ _ from fun k=>a2 k.2.1)⟩
  refine⟨fun a3=>?_,fun a3=>al (show ¬ _ from fun k=>a3 k.2.2.1)⟩
  refine⟨fun a4=>?_,fun a4=>al (show ¬ _ from fun k=>a4 k.2.2.2.1)⟩
  refine nA.u ?_
  refine⟨fun a5=>?_,fun a5=>al (show ¬ _ from fun k=>a5 k.2.2.2.2.1)⟩
  refine nB.u ?_
  refine⟨fun a6=>?_,fun a6=>al (show ¬ _ from fun k=>a6 k.2.2.2.2.2.1)⟩
  refine dV.u ?_
  refine⟨fun a7=>?_,fun a7=>al (show ¬ _ from fun k=>a7 k.2.2.2.2.2.2.1)⟩
  refine al ?_
  exact⟨fun k=>⟨a1,a2,a3,a4,a5,a6,a7,k.1.2 trivial,k.2.1.2 trivial,k.2.2.1.2 trivial⟩,fun k=>⟨iff_true_intro k.2.2.2.2.2.2.2.1,iff_true_intro k.2.2.2.2.2.2.2.2.1,iff_true_intro k.2.2.2.2.2.2.2.2.2,trivial⟩⟩
 ·rw[e2 k1 k2,eh,eb,ee,ed]
  clear e1 e2 e3 e4 dV mB pL
  refine⟨fun a1=>?_,fun a1=>al (show ¬ _ from fun k=>a1 k.1)⟩
  refine⟨fun a2=>?_,fun a2=>al (show ¬ _ from fun k=>a2 k.2.1)⟩
  refine⟨fun a3=>?_,fun a3=>al (show ¬ _ from fun k=>a3 k.2.2.1)⟩
  refine⟨fun a4=>?_,fun a4=>al (show ¬ _ from fun k=>a4 k.2.2.2.1)⟩
  refine mA.u ?_
  refine⟨fun a5=>?_,fun a5=>al (show ¬ _ from fun k=>a5 k.2.2.2.2.1)⟩
  refine nB.u ?_
  refine⟨fun a6=>?_,fun a6=>al (show ¬ _ from fun k=>a6 k.2.2.2.2.2.1)⟩
  refine fun _=>?_
  refine⟨fun a7=>?_,fun a7=>al (show ¬ _ from fun k=>a7 k.2.2.2.2.2.2.1)⟩
  refine al ?_
  exact⟨fun k=>⟨a1,a2,a3,a4,a5,a6,a7,k.1.2 trivial,k.2.1.2 trivial,k.2.2.1.2 trivial⟩,fun k=>⟨iff_true_intro k.2.2.2.2.2.2.2.1,iff_true_intro k.2.2.2.2.2.2.2.2.1,iff_true_intro k.2.2.2.2.2.2.2.2.2,trivial⟩⟩
 ·rw[e3 k1 k2 k3,eh,ed]
  clear e1 e2 e3 e4 dV mB pL
  refine⟨fun a1=>?_,fun a1=>al (show ¬ _ from fun k=>a1 k.1)⟩
  refine⟨fun a2=>?_,fun a2=>al (show ¬ _ from fun k=>a2 k.2.1)⟩
  refine⟨fun a3=>?_,fun a3=>al (show ¬ _ from fun k=>a3 k.2.2.1)⟩
  refine mA.u ?_
  refine⟨fun a4=>?_,fun a4=>al (show ¬ _ from fun k=>a4 k.2.2.2.1)⟩
  refine nB.u ?_
  refine⟨fun a5=>?_,fun a5=>al (show ¬ _ from fun k=>a5 k.2.2.2.2.1)⟩
  refine fun _=>?_
  refine⟨fun a6=>?_,fun a6=>al (show ¬ _ from fun k=>a6 k.2.2.2.2.2.1)⟩
  refine al ?_
  exact⟨fun k=>⟨a1,a2,a3,a4,a5,a6,k⟩,fun k=>k.2.2.2.2.2.2⟩
 ·rw[e4 k1 k2 k3,ee,ed]
  clear e1 e2 e3 e4 dV nA nB
  refine⟨fun a1=>?_,fun a1=>al (show ¬ _ from fun k=>a1 k.1)⟩
  refine⟨fun a2=>?_,fun a2=>al (show ¬ _ from fun k=>a2 k.2.1)⟩
  refine⟨fun a3=>?_,fun a3=>al (show ¬ _ from fun k=>a3 k.2.2.1)⟩
  refine mA.u ?_
  refine⟨fun a4=>?_,fun a4=>al (show ¬ _ from fun k=>a4 k.2.2.2.1)⟩
  refine mB.u ?_
  refine⟨fun a5=>?_,fun a5=>al (show ¬ _ from fun k=>a5 k.2.2.2.2.1)⟩
  refine fun _=>?_
  refine⟨fun a6=>?_,fun a6=>al (show ¬ _ from fun k=>a6 k.2.2.2.2.2.1)⟩
  refine pL.u ?_
  refine⟨fun a7=>?_,fun a7=>al (show ¬ _ from fun k=>a7 k.2.2.2.2.2.2.1)⟩
  refine al ?_
  exact⟨fun k=>⟨a1,a2,a3,a4,a5,a6,a7,k⟩,fun k=>k.2.2.2.2.2.2.2⟩
open Classical in
noncomputable def bR (w:WK) (t:Int):WK:=if w.at_=t then { w with at_:=t } else { w with aO:=False,at_:=t }
theorem Hs (b:List Int) (w:WK) (t:Int):Spec gT 122 [.ptr 0 0,.int .i64 t] [gO b w] [] fun y S'=>y = .tup []/\S' = [gO b (bR w t)]:=by
 refine Spec.rf (Spec.enter ao P122 100 Tryz.func122 rfl (by kernel_rfl) ?_)
 refine⟨fun h=>?_,fun h=>?_⟩
 ·rw[show bR w t = { w with aO:=False,at_:=t } from if_neg h]
  exact rS
 ·rw[show bR w t = { w with at_:=t } from if_pos (Classical.not_not.1 h)]
  exact rS
open Classical in
noncomputable def aD (b:List Int) (w:WK):WK :=
 if w.aO then w else if w.e≠0 then w else if (aE w (eA b w.at_=0)).e≠0 then aE w (eA b w.at_=0) else { xY w w.at_ (aX (iA b w.at_).form) with aO:=True }
open Classical in
noncomputable def bC (b:List Int) (w:WK):Int :=
 if w.aO then 0 else if w.e≠0 then 0 else if (aE w (eA b w.at_=0)).e≠0 then 0 else dG w w.at_ (aX (iA b w.at_).form)
open Classical in
theorem rX (b:List Int) (hb:pq b) (hl:b.length<=100000) (w:WK) (hn:bX w.at_):Spec gT 123 [.ptr 0 0] [gO b w] [] fun y S'=>y = .int .i64 (bC b w)/\S' = [gO b (aD b w)]:=by
 refine Spec.rf (Spec.enter ao P123 100 Tryz.func123 rfl (by kernel_rfl) ?_)
 refine⟨fun hf=>?_,fun hf=>And.intro (fun he=>?_) (fun he=>?_)⟩
 ·rw[show aD b w=w from if_pos hf,show bC b w=0 from if_pos hf]
  exact rS
 ·rw[show aD b w=w by unfold aD; rw[if_neg hf,if_pos he],show bC b w=0 by unfold bC; rw[if_neg hf,if_pos he]]
  exact rS
 ·refine (u_ b hb hl w w.at_ hn).e ?_
  refine⟨fun h1=>?_,fun h1=>?_⟩
  ·rw[show aD b w=aE w (eA b w.at_=0) by unfold aD; rw[if_neg hf,if_neg he,if_pos h1],show bC b w=0 by unfold bC; rw[if_neg hf,if_neg he,if_pos h1]]
   exact rS
  ·obtain⟨h2,h3⟩:=oh h1
   obtain⟨⟨LS,SR⟩,hr,JA⟩:=bN h2
   have hs:=gV hr
   rw[show aD b w = { xY w w.at_ (aX (iA b w.at_).form) with aO:=True } by unfold aD; rw[if_neg hf,if_neg he,if_neg h1],show bC b w=dG w w.at_ (aX (iA b w.at_).form) by unfold bC; rw[if_neg hf,if_neg he,if_neg h1],bu h2]
   have ux:=gS (iA b w.at_)
   generalize iA b w.at_=i at hs ux ⊢
   generalize aX i.form=z at hs ux ⊢
   refine ux.u ?_
   refine⟨[],az,(zc b { w with aO:=True } w.at_ z LS (by omega) hs).Cz [0] rfl rfl rfl (by repeat' first|exact trivial|exact rfl|exact Iff.rfl|refine And.intro ?_ ?_) (And.intro (by first|(show fT _ _; exact ah rfl rfl)|(repeat' first|exact trivial|exact rfl|exact Iff.rfl|exact Or.inl rfl|exact not_false|refine And.intro ?_ ?_)) ?_)⟩
   exact rS
noncomputable def dK (b:List Int) (w:WK):Int:=IntKind.i64.wrap (IntKind.i64.wrap (w.at_+4)+(iA b w.at_).aC)
def Zz (i:IN) (cond:Int):Prop:=(cond = -1/\(i.form=47\/i.form=100))\/(cond≠-1/\(i.form=46\/i.form=99)/\i.cond=cond)
noncomputable def cu (b:List Int) (w:WK) (cond:Int):WK:=aE (cf b (aE w (¬ w.last))) (Zz (iA b w.at_) cond)
noncomputable def kO (b:List Int) (w:WK):Int:=cw b (aE w (¬ w.last))
theorem j9 (b:List Int) (hb:pq b) (hl:b.length<=100000) (w:WK) (hn:bX w.at_) (cond:Int):Spec gT 120 [.ptr 0 0,.int .i64 cond] [gO b w] [] fun y S'=>y = .tup [.int .i64 (dK b w),.int .i64 (kO b w)]/\S' = [gO b (cu b w cond)]:=by
 unfold dK kO cu Zz
 refine Spec.rf (Spec.enter ao P120 100 Tryz.func120 rfl (by kernel_rfl) ?_)
 refine (bO b w (¬ w.last)).e ?_
 refine (Hh b hb hl (aE w (¬ w.last)) hn).e ?_
 have hiA:iA b (aE w (¬ w.last)).at_=iA b w.at_:=rfl
 rw[hiA]
 generalize cw b (aE w (¬ w.last))=nn
 generalize cf b (aE w (¬ w.last))=w2
 generalize iA b w.at_=i
 refine⟨fun hc=>?_,fun hc=>?_⟩
 ·refine⟨fun h1=>?_,fun h1=>?_⟩
  ·refine (rO b w2).e ?_
   rw[bu (show (cond = -1/\(i.form=47\/i.form=100))\/(cond≠-1/\(i.form=46\/i.form=99)/\i.cond=cond) from .inl ⟨hc,.inl h1⟩)]
   refine .inr ?_
   refine .inr ?_
   exact rS
  ·refine (bO b w2 (i.form=100)).e ?_
   rw[show aE w2 (i.form=100)=aE w2 ((cond = -1/\(i.form=47\/i.form=100))\/(cond≠-1/\(i.form=46\/i.form=99)/\i.cond=cond)) from congrArg _ (propext ⟨fun k=>.inl ⟨hc,.inr k⟩,fun k=>k.elim (fun q=>q.2.elim (fun r=>absurd r h1) id) (fun q=>absurd hc q.1)⟩)]
   refine .inr ?_
   refine .inr ?_
   exact rS
 ·have e:∀ p:Prop,(p↔(i.form=46\/i.form=99)/\i.cond=cond)->aE w2 p=aE w2 ((cond = -1/\(i.form=47\/i.form=100))\/(cond≠-1/\(i.form=46\/i.form=99)/\i.cond=cond)):=fun p hp=>congrArg _ (propext ⟨fun k=>.inr ⟨hc,hp.1 k⟩,fun k=>k.elim (fun q=>absurd q.1 hc) fun q=>hp.2 q.2⟩)
  refine⟨fun h1=>?_,fun h1=>?_⟩
  ·refine (bO b w2 (i.cond=cond)).e ?_
   rw[e _ ⟨fun k=>⟨.inl h1,k⟩,fun k=>k.2⟩]
   refine .inr ?_
   refine .inr ?_
   exact rS
  ·refine⟨fun h2=>?_,fun h2=>?_⟩
   ·refine (bO b w2 (i.cond=cond)).e ?_
    rw[e _ ⟨fun k=>⟨.inr h2,k⟩,fun k=>k.2⟩]
    refine .inr ?_
    refine .inr ?_
    exact rS
   ·refine (cG b w2).e ?_
    rw[← eM (w:=w2) (p:=False) id,e _ ⟨False.elim,fun k=>k.1.elim h1 h2⟩]
    refine .inr ?_
    refine .inr ?_
    exact rS
def Ht (c:C):Int:=if c.kind=1 then 1+c.eX+c.eY else 1
def k9:List C->Int
 | []=>0
 | c::l=>Ht c+k9 l
theorem AH {c:C} (h:fv c):1<=Ht c:=by
 unfold Ht
 split
 ·have:=h ‹_›; omega
 ·omega
theorem o5:∀ l m:List C,k9 (l++m)=k9 l+k9 m
 | [],m=>by rw[List.nil_append,k9]; omega
 | c::l,m=>by rw[List.cons_append,k9,k9,o5 l m]; omega
theorem vg:∀ {l:List C},(∀ c∈l,fv c)->(l.length:Int)<=k9 l
 | [],_=>by rw[k9]; simp
 | c::l,h=>by
  have h1:=AH (h c (List.mem_cons_self ..))
  have h2:=vg fun x hx=>h x (List.mem_cons_of_mem _ hx)
  rw[k9,List.length_cons]; omega
theorem Hu {l:List C} (h:∀ c∈l,fv c):0<=k9 l:=by have:=vg h; omega
theorem AI:∀ {l:List C},(∀ c∈l,fv c)->∀ c∈l,Ht c<=k9 l
 | d::l,h,c,hc=>by
  have h1:=AH (h d (List.mem_cons_self ..))
  have h2:∀ x∈l,fv x:=fun x hx=>h x (List.mem_cons_of_mem _ hx)
  rw[k9]
  rcases List.mem_cons.1 hc with rfl|hc
  ·have:=Hu h2; omega
  ·have:=AI h2 c hc; omega
structure g_ (B:Int) (l:List C):Prop where
 flat:∀ c∈dI l,fv c
 wt:k9 (dI l)<=B
def Wd (B:Int) (c:C):Prop:=g_ B [c]
theorem o6 (c:C):dI [c]=oV c:=by rw[dI,dI,List.append_nil]
theorem g_.nil:g_ 0 []:=⟨fun c hc=>by simp[dI] at hc,by simp[dI,k9]⟩
theorem g_.more {A B:Int} {l:List C} (h:g_ A l) (hB:A<=B):g_ B l:=⟨h.flat,Int.le_trans h.wt hB⟩
theorem Wd.cons {A B:Int} {c:C} {l:List C} (h:Wd A c) (hl:g_ B l):g_ (A+B) (c::l):=by
 have h1:=h.flat
 have h2:=h.wt
 rw[o6] at h1 h2
 refine⟨fun x hx=>?_,?_⟩
 ·rw[dI] at hx
  rcases List.mem_append.1 hx with hx|hx
  ·exact h1 x hx
  ·exact hl.flat x hx
 ·rw[dI,o5]; have:=hl.wt; omega
theorem g_.nonneg {A:Int} {l:List C} (h:g_ A l):0<=A:=by have:=Hu h.flat; have:=h.wt; omega
theorem Wd.flat {cy mi:Int} (h0:0<=cy) (h1:0<=mi):Wd (1+cy+mi) (ak cy mi):=by
 have e:dI [ak cy mi] = [ak cy mi]:=by rw[o6,ik,if_neg (show ¬ (ak cy mi).kind=2 from (show ¬ (1:Int)=2 by decide))]
 refine⟨fun c hc=>?_,?_⟩
 ·rw[e,List.mem_singleton] at hc
  rw[hc]; exact fun _=>⟨h0,h1⟩
 ·rw[e,k9,k9,Ht,if_pos (show (ak cy mi).kind=1 from rfl)]
  show 1+cy+mi+0<=_
  omega
theorem Wd.one {c:C} (h1:c.kind≠1) (h2:c.kind≠2):Wd 1 c:=by
 have e:dI [c] = [c]:=by rw[o6,ik,if_neg h2]
 refine⟨fun x hx=>?_,?_⟩
 ·rw[e,List.mem_singleton] at hx
  rw[hx]; exact fun k=>absurd k h1
 ·rw[e,k9,k9,Ht,if_neg h1]; omega
theorem Oa {out:List C} {c:C} (ho:∀ x∈out,fv x) (hc:fv c):(∀ x∈bW out c,fv x)/\k9 (bW out c)<=k9 out+Ht c:=by
 refine⟨l5 ho hc fun d hd k1 k2 _=>?_,?_⟩
 ·have h1:=ho d hd k2
  have h2:=hc k1
  show 0<=d.eX+c.eX/\0<=d.eY+c.eY
  omega
 ·unfold bW
  cases he:out.getLast? with
  | none=>simp only; rw[o5,k9,k9]; omega
  | some d =>
   simp only
   split
   ·rename_i hk
    obtain⟨pre,tc⟩:=List.getLast?_eq_some_iff.1 he
    rw[tc,List.dropLast_concat,o5,o5,k9,k9,k9,k9]
    have e1:Ht (ak (d.eX+c.eX) (d.eY+c.eY))=1+(d.eX+c.eX)+(d.eY+c.eY):=by rw[Ht,if_pos (show (ak (d.eX+c.eX) (d.eY+c.eY)).kind=1 from rfl)]; rfl
    rw[e1,Ht,if_pos hk.2,Ht,if_pos hk.1]; omega
   ·rw[o5,k9,k9]; omega
theorem Hv:∀ (S out:List C),(∀ x∈out,fv x)->(∀ c∈S,fv c)->(∀ x∈S.foldl bW out,fv x)/\k9 (S.foldl bW out)<=k9 out+k9 S
 | [],out,ho,_=>⟨ho,by rw[List.foldl_nil,k9]; omega⟩
 | c::S,out,ho,hS=>by
  obtain⟨h1,h2⟩:=Oa ho (hS c (List.mem_cons_self ..))
  obtain⟨h3,h4⟩:=Hv S (bW out c) h1 fun x hx=>hS x (List.mem_cons_of_mem _ hx)
  refine⟨h3,?_⟩
  rw[List.foldl_cons,k9]; omega
theorem zn:∀ {l:List C},(∀ c∈l,fv c)->k9 (l.filter bq)<=k9 l
 | [],_=>by simp[k9]
 | c::l,h=>by
  have h1:=AH (h c (List.mem_cons_self ..))
  have h2:=zn fun x hx=>h x (List.mem_cons_of_mem _ hx)
  by_cases hk:bq c=true
  ·rw[List.filter_cons_of_pos hk,k9,k9]; omega
  ·rw[List.filter_cons_of_neg hk,k9]; omega
theorem g_.join {B:Int} {l:List C} (h:g_ B l):Wd B (aq l):=by
 obtain⟨h1,h2⟩:=Hv (dI l) [] (fun x hx=>by cases hx) h.flat
 have h3:=zn h1
 have h4:=h.wt
 rw[k9] at h2
 have e:dI [aq l]=((dI l).foldl bW []).filter bq:=by rw[o6,rQ]; rfl
 exact⟨fun c hc=>h1 c (List.mem_filter.1 (e ▸ hc)).1,by rw[e]; omega⟩
theorem fj {B:Int} {l:List C} (h:g_ B l) (hB:B<=1000000):aj gT 45 [.sl 12 (l.map bx)] (bx (aq l)):=by
 have h1:=h.wt
 have h2:=vg h.flat
 refine th l (by omega) fun c hc k=>?_
 have h3:=AI h.flat c hc
 have h4:=h.flat c hc k
 rw[Ht,if_pos k] at h3
 omega
theorem xd:∀ {l:List C},(∀ c∈l,k7 c)->g_ (23*l.length) l
 | [],_=>g_.nil.more (by simp)
 | c::l,h=>by
  have h2:=xd fun x hx=>h x (List.mem_cons_of_mem _ hx)
  have h1:Wd 23 c:=by
   obtain⟨q,_⟩:=h c (List.mem_cons_self ..)
   rcases q with ⟨k,q1,q2⟩|k
   ·have e:dI [c] = [c]:=by rw[o6,ik,if_neg (by omega)]
    refine⟨fun x hx=>?_,?_⟩
    ·rw[e,List.mem_singleton] at hx
     rw[hx]; exact fun _=>⟨q1.1,q2.1⟩
    ·rw[e,k9,k9,Ht,if_pos k]; omega
   ·exact g_.more (Wd.one (by omega) (by omega):Wd 1 c) (by omega)
  exact (h1.cons h2).more (by rw[List.length_cons]; omega)
inductive dO (b:List Int):Int->Int->Prop where
 | nil (n:Int):dO b n n
 | cons {n m:Int}:eA b n=0->dO b (n+aX (iA b n).form) m->dO b n m
theorem dO.one {b:List Int} {n:Int} (h:eA b n=0):dO b n (n+aX (iA b n).form):=.cons h (.nil _)
theorem dO.trans {b:List Int} {n m k:Int} (h:dO b n m) (h2:dO b m k):dO b n k:=by
 induction h with
 | nil=>exact h2
 | cons e _ ih=>exact .cons e (ih h2)
theorem dO.bd {b:List Int} {n m:Int} (h:dO b n m):n=m\/(0<=n/\n+2<=m/\m<=b.length+2):=by
 induction h with
 | nil=>exact .inl rfl
 | @cons n m e _ ih =>
  obtain⟨⟨h1,h2⟩,h3,_⟩:=bN e
  have:=gV h3
  right
  omega
noncomputable def db (h:SH) (m:Int):C:=.mk 5 0 0 0 h.size (cJ h.A) cM [ak 4 m]
noncomputable def cl (b:List Int) (h:SH) (w:WK):WK :=
 aE (aE (aE (cu b w (if h.size≠0 then 2 else 0)) (dK b w=h.stub)) (eA b h.stub=0)) ((iA b h.stub).form=45/\(iA b h.stub).aC=if h.size≠0 then 1 else 2)
noncomputable def iV (b:List Int) (h:SH) (w:WK):C :=
 if (cl b h w).e≠0 then il else aq [ak 0 (kO b w),db h (dG (cl b h w) h.stub (aX (iA b h.stub).form)),ak 1 0]
noncomputable def pQ (h:SH) (z:Prop) (B:WK):WK:=aE B (¬ B.last/\(B.at_=h.skip\/(h.skip = -1/\B.at_=h.till/\z)))
noncomputable def gw (b:List Int) (h:SH) (w3:WK):WK:=if h.skip≠-1/\w3.e=0 then aE (cu b w3 (-1)) (dK b w3=h.till) else w3
noncomputable def nm (b:List Int) (h:SH) (w3:WK) (c:C):C:=if h.skip≠-1/\w3.e=0 then aq [c,ak 3 (kO b w3)] else c
noncomputable def zo (to_:Int) (w4:WK):WK:=aE w4 (to_=w4.at_)
def kG (w1 w5:WK):WK:={ w1 with at_:=w5.at_,e:=w5.e }
noncomputable def Hw (b:List Int) (h:SH) (w5:WK):WK:=aD b (bR w5 h.till)
noncomputable def Ob (b:List Int) (h:SH) (w5:WK) (c:C):C:=aq [c,ak 0 (bC b (bR w5 h.till))]
noncomputable def Hx (h:SH) (E:WK):WK:=aE E (E.at_=h.till/\¬ E.last)
def Hy (w7 Hz:WK):WK:=if Hz.e≠0 then { w7 with e:=Hz.e } else w7
noncomputable def de (b:List Int) (h:SH) (z:Prop) (BD EL:WK->List C × WK) (w:WK):C × WK :=
 let w1:=cu b w 0
 let B:=BD w1
 let w3:=pQ h z B.2
 let w5:=zo (dK b w) (gw b h w3)
 let E:=EL (kG w1 w5)
 let RL:=Hx h E.2
 (.mk 3 0 0 0 0 (cJ h.A) cM [Ob b h w5 (nm b h w3 (aq [ak 1 (kO b w),aq B.1])),aq [aq [ak 3 (kO b w),aq E.1],ak 0 (bC b RL)]],Hy (Hw b h w5) (aD b RL))
noncomputable def lz (h:SH) (H:WK):WK:=aE H (H.at_=h.stub)
noncomputable def A6 (h:SH) (B:WK):WK:=aE B (B.at_=h.skip)
noncomputable def JP (b:List Int) (h:SH) (to_:Int) (w6:WK):WK:=aE (cu b w6 (-1)) (dK b w6=h.fr/\(cu b w6 (-1)).at_=h.till/\to_=h.till)
def ZA (h:SH) (w4 O':WK):WK:={ O' with at_:=h.till,aO:=False,full:=w4.full,line:=w4.line }
noncomputable def mU (h:SH) (once:C):C:=.mk 4 0 0 h.word 0 (cJ h.A) (cJ h.B) [once]
noncomputable def cr (b:List Int) (h:SH) (HD BD:WK->List C × WK) (w:WK):C × WK :=
 let H:=HD (aD b w)
 let w3:=lz h H.2
 let w4:=cu b w3 0
 let B:=BD w4
 let w6:=A6 h B.2
 let w9:=bR (JP b h (dK b w3) w6) h.fr
 let once:=aq [aq H.1,ak 1 (kO b w3),aq B.1,ak 3 (kO b w6),ak 0 (bC b w9)]
 (aq [ak 0 (bC b w),mU h once,aq H.1,ak 3 (kO b w3)],ZA h w4 (aD b w9))
noncomputable def fk (s:ST) (w:WK):WK:=aE w (s.h.fr=w.at_/\s.h.fr < s.h.till/\¬ w.last/\gv s)
noncomputable def stepG (b:List Int) (s:ST) (HD BD EL:WK->List C × WK) (w:WK):C × WK :=
 if (fk s w).e≠0 then (il,fk s w) else
 let r:C × WK:=if s.h.kind=1 then (pv b (fk s w) s.h.till (s.h.aw.map eg),iS b (fk s w) s.h.till (s.h.aw.map eg))
  else if s.h.kind=2 then (iV b s.h (fk s w),cl b s.h (fk s w))
  else if s.h.kind=3 then de b s.h (eT s.el=0) BD EL (fk s w)
  else if s.h.kind=4 then cr b s.h HD BD (fk s w)
  else (il,{ fk s w with e:=201 })
 (r.1,aE r.2 (r.2.at_=s.h.till))
mutual
noncomputable def bG (b:List Int):ST->WK->C × WK
 | .mk h hd bd el=>stepG b (.mk h hd bd el) (fun w=>ar b hd w) (fun w=>ar b bd w) (fun w=>ar b el w)
noncomputable def ar (b:List Int):List ST->WK->List C × WK
 | [],w=>([],w)
 | s::l,w=>if w.e≠0 then ([],w) else ((bG b s w).1::(ar b l (bG b s w).2).1,(ar b l (bG b s w).2).2)
end
theorem fo (b:List Int) (s:ST):bG b s=stepG b s (ar b s.hd) (ar b s.bd) (ar b s.el):=by cases s; rfl
def Oc (b:List Int) (n:Int):Int:=if 0<=n/\n<=b.length+2 then b.length+2 - n else 0
theorem AJ {b:List Int} (hl:b.length<=2000) (n:Int):0<=Oc b n/\Oc b n<=2002:=by unfold Oc; split<;>omega
structure Dg (b:List Int) (K:Int) (f:WK->C × WK):Prop where
 I:∀ w,bX w.at_->bX (f w).2.at_
 ok:∀ w,bX w.at_->(f w).2.e=0->w.e=0/\dO b w.at_ (f w).2.at_/\w.at_ < (f w).2.at_/\Wd (46*((f w).2.at_ - w.at_)) (f w).1
 bad:∀ w,bX w.at_->(f w).2.e≠0->Wd K (f w).1
structure fK (b:List Int) (K:Int) (f:WK->List C × WK):Prop where
 I:∀ w,bX w.at_->bX (f w).2.at_
 ok:∀ w,bX w.at_->(f w).2.e=0->w.e=0/\dO b w.at_ (f w).2.at_/\g_ (46*((f w).2.at_ - w.at_)) (f w).1
 bad:∀ w,bX w.at_->(f w).2.e≠0->g_ (K+46*Oc b w.at_) (f w).1
theorem gW {b:List Int} (hl:b.length<=2000) {K:Int} (hK:0<=K):∀ {l:List ST},(∀ s∈l,Dg b K (bG b s))->fK b K (ar b l)
 | [],_=>by
  refine⟨fun w h=>h,fun w _ he=>⟨he,.nil _,g_.nil.more (show 0<=46*(w.at_ - w.at_) by omega)⟩,fun w _ _=>g_.nil.more (by have:=AJ hl w.at_; omega)⟩
 | s::l,h=>by
  have hs:=h s (List.mem_cons_self ..)
  have ih:=gW hl hK fun x hx=>h x (List.mem_cons_of_mem _ hx)
  have hy:∀ w:WK,w.e=0->ar b (s::l) w=((bG b s w).1::(ar b l (bG b s w).2).1,(ar b l (bG b s w).2).2):=fun w he=>by rw[ar,if_neg (fun k=>k he)]
  have hn:∀ w:WK,w.e≠0->ar b (s::l) w=([],w):=fun w he=>by rw[ar,if_pos he]
  refine⟨fun w hI=>?_,fun w hI he=>?_,fun w hI he=>?_⟩
  ·by_cases h0:w.e=0
   ·rw[hy w h0]; exact ih.I _ (hs.I w hI)
   ·rw[hn w h0]; exact hI
  ·by_cases h0:w.e=0
   ·rw[hy w h0] at he ⊢
    obtain⟨a1,a2,a3⟩:=ih.ok _ (hs.I w hI) he
    obtain⟨b1,b2,b3,b4⟩:=hs.ok w hI a1
    exact⟨h0,b2.trans a2,(b4.cons a3).more (by simp only; omega)⟩
   ·rw[hn w h0] at he; exact absurd he h0
  ·have hr:=AJ hl w.at_
   by_cases h0:w.e=0
   ·rw[hy w h0] at he ⊢
    by_cases h1:(bG b s w).2.e=0
    ·obtain⟨b1,b2,b3,b4⟩:=hs.ok w hI h1
     have h2:=ih.bad _ (hs.I w hI) he
     have h3:=b2.bd
     refine (b4.cons h2).more ?_
     generalize (bG b s w).2.at_=n2 at *
     unfold Oc
     rw[if_pos (show 0<=w.at_/\w.at_<=b.length+2 by omega),if_pos (show 0<=n2/\n2<=b.length+2 by omega)]
     omega
    ·have h2:=hs.bad w hI h1
     have e:(ar b l (bG b s w).2).1 = []:=by
      cases l with
      | nil=>rfl
      | cons x l=>rw[ar,if_pos h1]
     rw[e]
     exact (h2.cons g_.nil).more (by omega)
   ·rw[hn w h0]
    exact g_.nil.more (by omega)
theorem fK.wd {b:List Int} (hl:b.length<=2000) {K:Int} (hK:0<=K) {f:WK->List C × WK} (h:fK b K f) (w:WK) (hI:bX w.at_):g_ (K+92092) (f w).1:=by
 by_cases he:(f w).2.e=0
 ·obtain⟨_,h2,h3⟩:=h.ok w hI he
  have:=h2.bd
  exact h3.more (by omega)
 ·have:=AJ hl w.at_
  exact (h.bad w hI he).more (by omega)
theorem RM {b:List Int} (hl:b.length<=2000) {w:WK} (hI:bX w.at_):bX (cf b w).at_:=by
 rcases wM b w with h|⟨h1,h2⟩
 ·rw[h]; exact hI
 ·obtain⟨h3,h4,_⟩:=bN h1
  have:=gV h4
  rw[h2]; unfold bX; omega
theorem k_ {b:List Int} (hl:b.length<=2000) {w:WK} (c:Int) (hI:bX w.at_):bX (cu b w c).at_:=RM hl (w:=aE w (¬ w.last)) hI
theorem jv {b:List Int} {w:WK} {c:Int} (h:(cu b w c).e=0):w.e=0/\eA b w.at_=0/\(cu b w c).at_=w.at_+aX (iA b w.at_).form/\Zz (iA b w.at_) c/\¬ w.last:=by
 obtain⟨h1,h2⟩:=aU h
 obtain⟨h3,h4,h5⟩:=vc h2
 obtain⟨h6,h7⟩:=aU h3
 exact⟨h7,h4,h5,h1,h6⟩
theorem xf (b:List Int) (w:WK):0<=cw b w/\cw b w<=2:=by
 unfold cw
 split
 ·decide
 ·split
  ·decide
  ·exact jr ..
theorem fL (b:List Int) (w:WK):0<=kO b w/\kO b w<=2:=xf ..
theorem dC (b:List Int) (w:WK):0<=bC b w/\bC b w<=2:=by
 unfold bC
 repeat' split
 all_goals first|decide|exact jr ..
theorem dU (b:List Int) (w:WK):(aD b w).at_=w.at_:=by
 unfold aD
 repeat' split
 all_goals rfl
theorem dq {b:List Int} {w:WK} (h:(aD b w).e=0):w.e=0:=by
 unfold aD at h
 split at h
 ·exact h
 split at h
 ·exact h
 ·rename_i h1; exact Classical.not_not.1 h1
theorem ma (w:WK) (t:Int):(bR w t).at_=t:=by unfold bR; split<;>rfl
theorem je (w:WK) (t:Int):(bR w t).e=w.e:=by unfold bR; split<;>rfl
theorem Dh {w7 Hz:WK} (h:(Hy w7 Hz).e=0):w7.e=0/\Hz.e=0:=by
 unfold Hy at h
 split at h
 ·rename_i k; exact absurd h k
 ·rename_i k; exact⟨h,Classical.not_not.1 k⟩
theorem Od (w7 Hz:WK):(Hy w7 Hz).at_=w7.at_:=by unfold Hy; split<;>rfl
theorem qw {b:List Int} {till:Int}:∀ (n:Nat) (x:eN),(∀ c∈x.out,k7 c)->(runN b till n x).w.e=0->x.w.e=0/\dO b x.w.at_ (runN b till n x).w.at_/\((runN b till n x).out.length:Int)<=x.out.length+2*((runN b till n x).w.at_ - x.w.at_)
 | 0,x,_,h=>⟨h,.nil _,by rw[runN]; omega⟩
 | n+1,x,ho,h=>by
  rw[runN] at h ⊢
  have jk:=l7 (b:=b) ho
  by_cases hc:x.w.at_ < till/\x.w.e=0
  ·rw[if_pos hc] at h ⊢
   have step:(aY b x).w.e=0->dO b x.w.at_ (aY b x).w.at_/\x.w.at_+2<=(aY b x).w.at_:=fun he=>by
    obtain⟨h1,_,_,h4⟩:=vd he
    have:=gV (bN h1).2.1
    exact⟨h4 ▸ dO.one h1,by omega⟩
   by_cases hb:CX b x
   ·rw[if_pos hb] at h ⊢
    obtain⟨s1,s2⟩:=step h
    exact⟨hc.2,s1,by omega⟩
   ·rw[if_neg hb] at h ⊢
    obtain⟨a1,a2,a3⟩:=qw n (aY b x) jk.1 h
    obtain⟨s1,s2⟩:=step a1
    exact⟨hc.2,s1.trans a2,by omega⟩
  ·rw[if_neg hc] at h ⊢
   exact⟨h,.nil _,by omega⟩
theorem Ft {b:List Int} (hl:b.length<=2000) {w:WK} (hI:bX w.at_) (till:Int) (aw:List DV):Wd 115000 (pv b w till aw)/\((iS b w till aw).e=0->w.e=0/\dO b w.at_ (iS b w till aw).at_/\Wd (46*((iS b w till aw).at_ - w.at_)) (pv b w till aw))/\bX (iS b w till aw).at_:=by
 obtain⟨h1,h2,h3⟩:=rR hl hI till aw
 have hw:=xd h2
 refine⟨(hw.more (by omega)).join,fun he=>?_,h3⟩
 obtain⟨_,he⟩:=aU he
 obtain⟨q1,q2,q3⟩:=qw ((till - w.at_).toNat+1) ⟨w,[],aw⟩ (by simp) he
 refine⟨q1,q2,?_⟩
 have q4:((jY b w till aw).out.length:Int)<=0+2*((jY b w till aw).w.at_ - w.at_):=q3
 exact (hw.more (show _<=46*((jY b w till aw).w.at_ - w.at_) by omega)).join
theorem Oe {b:List Int} (hl:b.length<=2000) {w:WK} (hI:bX w.at_) (h:SH):Wd 8 (iV b h w)/\((cl b h w).e=0->w.e=0/\dO b w.at_ (cl b h w).at_/\w.at_+2<=(cl b h w).at_)/\bX (cl b h w).at_:=by
 refine⟨?_,fun he=>?_,k_ hl (if h.size≠0 then 2 else 0) hI⟩
 ·unfold iV
  split
  ·exact (Wd.one (by decide) (by decide):Wd 1 il).more (by decide)
  ·have h1:=fL b w
   exact (((Wd.flat (Int.le_refl 0) h1.1).cons ((Wd.one (c:=db h _) (show (5:Int)≠1 by decide) (show (5:Int)≠2 by decide)).cons ((Wd.flat (show (0:Int)<=1 by decide) (Int.le_refl 0)).cons .nil))).more (by omega)).join
 ·obtain⟨_,he⟩:=aU he
  obtain⟨_,he⟩:=aU he
  obtain⟨_,he⟩:=aU he
  obtain⟨h1,h2,h3,_⟩:=jv he
  have:=gV (bN h2).2.1
  have e:(cl b h w).at_=(cu b w (if h.size≠0 then 2 else 0)).at_:=rfl
  rw[e,h3]
  exact⟨h1,.one h2,by omega⟩
theorem Di {b:List Int} {h:SH} {w3:WK} (he:(gw b h w3).e=0):w3.e=0/\dO b w3.at_ (gw b h w3).at_:=by
 unfold gw at he ⊢
 split at he
 ·rename_i k
  rw[if_pos k]
  obtain⟨_,he⟩:=aU he
  obtain⟨h1,h2,h3,_⟩:=jv he
  exact⟨h1,by show dO b w3.at_ (cu b w3 (-1)).at_; rw[h3]; exact .one h2⟩
 ·rename_i k
  rw[if_neg k]
  exact⟨he,.nil _⟩
theorem Dj {b:List Int} (hl:b.length<=2000) {h:SH} {w3:WK} (hI:bX w3.at_):bX (gw b h w3).at_:=by
 unfold gw
 split
 ·exact k_ hl (-1) hI
 ·exact hI
theorem Dk {b:List Int} (hl:b.length<=2000) {K:Int} {h:SH} {z:Prop} {BD EL:WK->List C × WK} (hB:fK b K BD) (hE:fK b K EL) (w:WK) (hI:bX w.at_) (ht:bX h.till):bX (de b h z BD EL w).2.at_/\Wd 1 (de b h z BD EL w).1/\((de b h z BD EL w).2.e=0->w.e=0/\dO b w.at_ (de b h z BD EL w).2.at_):=by
 unfold de
 simp only
 refine⟨?_,Wd.one (show (3:Int)≠1 by decide) (show (3:Int)≠2 by decide),fun he=>?_⟩
 ·rw[Od]; unfold Hw; rw[dU,ma]; exact ht
 ·have eat:(Hy (Hw b h (zo (dK b w) (gw b h (pQ h z (BD (cu b w 0)).2)))) (aD b (Hx h (EL (kG (cu b w 0) (zo (dK b w) (gw b h (pQ h z (BD (cu b w 0)).2))))).2))).at_=h.till:=by
   rw[Od]; unfold Hw; rw[dU,ma]
  rw[eat]
  obtain⟨h7,h3⟩:=Dh he
  have h6:=dq h7
  rw[je] at h6
  obtain⟨h5,h4⟩:=aU h6
  obtain⟨q3,q4⟩:=Di h4
  obtain⟨_,qB⟩:=aU q3
  have fU:=k_ hl 0 hI
  obtain⟨p1,p2,_⟩:=hB.ok _ fU qB
  obtain⟨r1,r2,r3,_⟩:=jv p1
  have g1:=dq h3
  obtain⟨⟨g2,_⟩,g3⟩:=aU g1
  have hI5:bX (kG (cu b w 0) (zo (dK b w) (gw b h (pQ h z (BD (cu b w 0)).2)))).at_:=Dj hl (hB.I _ fU)
  obtain⟨_,k2,_⟩:=hE.ok _ hI5 g3
  rw[g2] at k2
  refine⟨r1,?_⟩
  have c1:dO b w.at_ (cu b w 0).at_:=by rw[r3]; exact .one r2
  exact c1.trans (p2.trans (q4.trans k2))
theorem Dl {b:List Int} (hl:b.length<=2000) {K K':Int} (hK:0<=K) (hK':0<=K') {h:SH} {HD BD:WK->List C × WK} (hH:fK b K HD) (hB:fK b K' BD) (w:WK) (hI:bX w.at_) (ht:bX h.till):bX (cr b h HD BD w).2.at_/\Wd (K+92110) (cr b h HD BD w).1/\((cr b h HD BD w).2.e=0->w.e=0/\dO b w.at_ (cr b h HD BD w).2.at_/\Wd (46*((cr b h HD BD w).2.at_ - w.at_)) (cr b h HD BD w).1):=by
 have fU:bX (aD b w).at_:=by rw[dU]; exact hI
 have n0:=dC b w
 have n1:=fL b (lz h (HD (aD b w)).2)
 have key:∀ {X:Int},g_ X (HD (aD b w)).1->Wd (X+14) (cr b h HD BD w).1:=fun {X} hx =>
  (((Wd.flat (Int.le_refl 0) n0.1).cons ((Wd.one (c:=mU h _) (show (4:Int)≠1 by decide) (show (4:Int)≠2 by decide)).cons (hx.join.cons ((Wd.flat (show (0:Int)<=3 by decide) n1.1).cons .nil)))).more (by omega)).join
 refine⟨ht,(key (hH.wd hl hK _ fU)).more (by omega),fun he=>?_⟩
 unfold cr at he
 simp only at he
 have h1:(aD b (bR (JP b h (dK b (lz h (HD (aD b w)).2)) (A6 h (BD (cu b (lz h (HD (aD b w)).2) 0)).2)) h.fr)).e=0:=he
 have h2:=dq h1
 rw[je] at h2
 obtain⟨⟨_,h3,_⟩,h4⟩:=aU h2
 obtain⟨h5,h6,h7,_⟩:=jv h4
 obtain⟨_,h8⟩:=aU h5
 have HA:bX (lz h (HD (aD b w)).2).at_:=hH.I _ fU
 have tp:=k_ hl 0 HA
 obtain⟨p1,p2,_⟩:=hB.ok _ tp h8
 obtain⟨r1,r2,r3,_⟩:=jv p1
 obtain⟨_,r4⟩:=aU r1
 obtain⟨k1,k2,k3⟩:=hH.ok _ fU r4
 rw[dU] at k2 k3
 have s1:=gV (bN r2).2.1
 have s2:=gV (bN h6).2.1
 have c1:dO b (HD (aD b w)).2.at_ (cu b (lz h (HD (aD b w)).2) 0).at_:=by rw[r3]; exact .one r2
 have c2:dO b (BD (cu b (lz h (HD (aD b w)).2) 0)).2.at_ h.till:=by rw[← h3,h7]; exact .one h6
 have c3:=c1.trans (p2.trans c2)
 have eat:(cr b h HD BD w).2.at_=h.till:=rfl
 rw[eat]
 refine⟨dq k1,k2.trans c3,(key k3).more ?_⟩
 have d1:=p2.bd
 have e1:(cu b (lz h (HD (aD b w)).2) 0).at_=(HD (aD b w)).2.at_+aX (iA b (lz h (HD (aD b w)).2).at_).form:=r3
 have e2:h.till=(BD (cu b (lz h (HD (aD b w)).2) 0)).2.at_+aX (iA b (A6 h (BD (cu b (lz h (HD (aD b w)).2) 0)).2).at_).form:=by rw[← h3,h7]; rfl
 omega
def KR:Int:=115000
def KS:Int:=210000
theorem Of {s:ST} {w:WK} (hI:bX w.at_):bX (fk s w).at_:=hI
theorem lx {s:ST} {w:WK} (h:(fk s w).e=0):(s.h.fr=w.at_/\s.h.fr < s.h.till/\¬ w.last/\gv s)/\fk s w=w:=by
 obtain⟨h1,h2⟩:=aU h
 exact⟨h1,bu h1⟩
theorem tq {b:List Int} (hl:b.length<=2000) {s:ST} (hk:s.h.kind=1) (HD BD EL:WK->List C × WK):Dg b KR (stepG b s HD BD EL):=by
 have e1:∀ w,(fk s w).e≠0->stepG b s HD BD EL w=(il,fk s w):=fun w h=>if_pos h
 have e2:∀ w,¬ (fk s w).e≠0->stepG b s HD BD EL w=(pv b (fk s w) s.h.till (s.h.aw.map eg),aE (iS b (fk s w) s.h.till (s.h.aw.map eg)) ((iS b (fk s w) s.h.till (s.h.aw.map eg)).at_=s.h.till)):=fun w h=>by
  unfold stepG
  rw[if_neg h]
  simp only
  rw[if_pos hk]
 refine⟨fun w hI=>?_,fun w hI he=>?_,fun w hI he=>?_⟩
 all_goals by_cases h:(fk s w).e≠0
 ·rw[e1 w h]; exact hI
 ·rw[e2 w h]; exact (Ft hl (Of hI) s.h.till _).2.2
 ·rw[e1 w h] at he; exact absurd he h
 ·rw[e2 w h] at he ⊢
  obtain⟨⟨h1,h2,_⟩,h3⟩:=lx (Classical.not_not.1 h)
  rw[h3] at he ⊢
  obtain⟨h4,h5⟩:=aU he
  obtain⟨q1,q2,q3⟩:=(Ft hl hI s.h.till _).2.1 h5
  exact⟨q1,q2,by show w.at_ < (iS b w s.h.till (s.h.aw.map eg)).at_; omega,q3⟩
 ·rw[e1 w h]; exact (Wd.one (by decide) (by decide):Wd 1 il).more (by decide)
 ·rw[e2 w h]; exact (Ft hl (Of hI) s.h.till _).1
theorem fM {b:List Int} (hl:b.length<=2000):∀ s:ST,s.Ok->Dg b KS (bG b s):=ST.ind fun s uG tG HB hO=>by
 have uF:=s.rW hO
 have jf:c_ s.hd/\c_ s.bd/\c_ s.el:=by cases s; exact hO.2.2
 have hB:fK b KS (ar b s.bd):=gW hl (by decide) fun x hx=>tG x hx (bs jf.2.1 x hx)
 have hE:fK b KS (ar b s.el):=gW hl (by decide) fun x hx=>HB x hx (bs jf.2.2 x hx)
 have hH:mT s.hd->fK b KR (ar b s.hd):=fun hp=>gW hl (by decide) fun x hx=>by rw[fo]; exact tq hl (hp x hx).1 _ _ _
 have ht:=uF.1.2.2.1
 rw[fo]
 generalize ar b s.hd=HD at *
 generalize ar b s.bd=BD at *
 generalize ar b s.el=EL at *
 by_cases Gs:s.h.kind=1
 ·have:=tq hl Gs HD BD EL
  exact⟨this.I,this.ok,fun w hI he=>(this.bad w hI he).more (by decide)⟩
 have e1:∀ w,(fk s w).e≠0->stepG b s HD BD EL w=(il,fk s w):=fun w h=>if_pos h
 have z1:Wd KS il:=(Wd.one (by decide) (by decide):Wd 1 il).more (by decide)
 
 have fin:∀ f:WK->C × WK,(∀ w,¬ (fk s w).e≠0->stepG b s HD BD EL w=((f w).1,aE (f w).2 ((f w).2.at_=s.h.till)))->(∀ w,bX w.at_->(fk s w).e=0->bX (f w).2.at_/\Wd KS (f w).1/\((f w).2.e=0->(f w).2.at_=s.h.till->w.e=0/\dO b w.at_ (f w).2.at_/\Wd (46*((f w).2.at_ - w.at_)) (f w).1))->Dg b KS (stepG b s HD BD EL):=fun f e2 hf=>by
  refine⟨fun w hI=>?_,fun w hI he=>?_,fun w hI he=>?_⟩
  all_goals by_cases h:(fk s w).e≠0
  ·rw[e1 w h]; exact hI
  ·rw[e2 w h]; exact (hf w hI (Classical.not_not.1 h)).1
  ·rw[e1 w h] at he; exact absurd he h
  ·rw[e2 w h] at he ⊢
   obtain⟨h4,h5⟩:=aU he
   obtain⟨q1,q2,q3⟩:=(hf w hI (Classical.not_not.1 h)).2.2 h5 h4
   obtain⟨⟨h1,h2,_⟩,h3⟩:=lx (Classical.not_not.1 h)
   exact⟨q1,q2,by show w.at_ < (f w).2.at_; omega,q3⟩
  ·rw[e1 w h]; exact z1
  ·rw[e2 w h]; exact (hf w hI (Classical.not_not.1 h)).2.1
 by_cases nq:s.h.kind=2
 ·refine fin (fun w=>(iV b s.h w,cl b s.h w)) (fun w h=>?_) fun w hI h=>?_
  ·have e3:=(lx (Classical.not_not.1 h)).2
   unfold stepG
   rw[if_neg h]
   simp only
   rw[if_neg Gs,if_pos nq,e3]
  ·obtain⟨q1,q2,q3⟩:=Oe hl hI s.h
   exact⟨q3,q1.more (by decide),fun he _=>⟨(q2 he).1,(q2 he).2.1,q1.more (show 8<=46*((cl b s.h w).at_ - w.at_) by have:=(q2 he).2.2; omega)⟩⟩
 by_cases Sz:s.h.kind=3
 ·refine fin (de b s.h (eT s.el=0) BD EL) (fun w h=>?_) fun w hI h=>?_
  ·have e3:=(lx (Classical.not_not.1 h)).2
   unfold stepG
   rw[if_neg h]
   simp only
   rw[if_neg Gs,if_neg nq,if_pos Sz,e3]
  ·obtain⟨q1,q2,q3⟩:=Dk hl (z:=eT s.el=0) hB hE w hI ht
   obtain⟨⟨h1,h2,_⟩,h3⟩:=lx h
   exact⟨q1,q2.more (by decide),fun he ha=>⟨(q3 he).1,(q3 he).2,q2.more (by omega)⟩⟩
 by_cases hk4:s.h.kind=4
 ·have e4:∀ w,¬ (fk s w).e≠0->stepG b s HD BD EL w=((cr b s.h HD BD w).1,aE (cr b s.h HD BD w).2 ((cr b s.h HD BD w).2.at_=s.h.till)):=fun w h=>by
   have e3:=(lx (Classical.not_not.1 h)).2
   unfold stepG
   rw[if_neg h]
   simp only
   rw[if_neg Gs,if_neg nq,if_neg Sz,if_pos hk4,e3]
  refine fin (cr b s.h HD BD) e4 fun w hI h=>?_
  have bS:=(lx h).1.2.2.2
  have lD:mT s.hd:=by
   unfold gv at bS
   rw[if_neg Gs,if_neg nq,if_neg Sz] at bS
   exact bS.2.2.2.2.2.2.1
  obtain⟨q1,q2,q3⟩:=Dl hl (by decide) (by decide) (hH lD) hB w hI ht
  exact⟨q1,q2.more (by decide),fun he _=>q3 he⟩
 ·refine fin (fun w=>(il,{ w with e:=201 })) (fun w h=>?_) fun w hI h=>?_
  ·have e3:=(lx (Classical.not_not.1 h)).2
   unfold stepG
   rw[if_neg h]
   simp only
   rw[if_neg Gs,if_neg nq,if_neg Sz,if_neg hk4,e3]
  ·exact⟨hI,z1,fun he=>absurd he (show ¬ (201:Int)=0 by decide)⟩
theorem bV {b:List Int} (hl:b.length<=2000) (l:List ST) (hO:c_ l):fK b KS (ar b l):=gW hl (by decide) fun s hs=>fM hl s (bs hO s hs)
theorem lb {b:List Int} (hl:b.length<=2000) (l:List ST) (hp:mT l):fK b KR (ar b l):=gW hl (by decide) fun x hx=>by rw[fo]; exact tq hl (hp x hx).1 _ _ _
end Go.Proofs.YtnbhdacpogplgaaGreatDoor.Pw

/- What this claim is proved with: no condition. -/
import Derived.Test.YtnbngokbamifbaaGreatDoorNr29
import Derived.Test.YtnbngokbamifbaaGreatDoorNr28
set_option maxRecDepth 100000
set_option maxHeartbeats 16000000
set_option linter.unusedVariables false
set_option linter.unusedSimpArgs false
namespace Go.Proofs.YtnbngokbamifbaaGreatDoor.Pw
open Go Go.RowKit
theorem vm {m:MS} {x:XS} {a:Int} (h:x.code=0):∀ r,(bN m x a r).1.code=0
 | 0=>h
 | r+1=>by
  have ih:=vm (m:=m) (a:=a) h r
  rw[bN]
  split
  ·exact ih
  ·split
   ·exact ih
   ·split
    ·exact ih
    ·split
     ·show (fo _ _).code=0
      unfold fo
      split
      ·rfl
      ·exact ih
     ·exact ih
theorem NY {m:MS} (hm:BA m) (a:Int):aP (qK m.fl m.w a):=xm hm a
theorem dpop (m:MS) (x:XS) (L:List (Int × Int)) (hm:BA m) (hR:lr m.w L) (hx:iX x) (aad:x.code=0):ah gT 109 [mW x m.fl L,.ff] (.tup [mW (m6 m x) m.fl L,.int .i64 (ma m x).2.2]):=by
 have hA:aP (al x 13):=aX hx _
 have sw:=hx.an.1
 have IJ:=hx.an.2
 have VK:=DC sw IJ
 refine Spec.enter ar D1 100 Tryz.func109 rfl (by kernel_rfl) ?_
 refine SW.iw ar D1 (by kernel_rfl) (α:={k:Nat // k<=16}) (fun k=>[(6,.int .i64 (qP x.i.an k.1)),(7,.int .i64 k.1)]) (fun k=>16 - k.1) ⟨0,by decide⟩ 100 ?_ ?_
 ·repeat' first|exact trivial|exact rfl|exact Iff.rfl|exact not_false|refine And.intro ?_ ?_
 rintro⟨k,hk⟩
 refine⟨fun hp=>?_,fun hp=>?_⟩
 ·have dA:(k:Int) < 16:=hp
  have hb:=rG x.i.an k
  have hc:=xv x.i.an k
  refine lu ?_ (show 0<=x.i.an/\x.i.an<=4294967295 by omega)
  refine lu ?_ (show 0<=(k:Int)/\(k:Int)<=4294967295 by omega)
  have hq:=NX sw (show k < 16 by omega)
  refine⟨show (0:Int)<=(k:Int) by omega,?_⟩
  refine⟨by decide,.inl ⟨hq,by decide,?_⟩⟩
  refine li ?_ (show _<=lv x.i.an k/\lv x.i.an k<=_ by omega)
  refine li ?_ (show _<=qP x.i.an k+lv x.i.an k/\qP x.i.an k+lv x.i.an k<=_ by omega)
  refine .inl ⟨ax (show _<=(k:Int)+1/\(k:Int)+1<=_ by omega),⟨⟨k+1,by omega⟩,show 16 - (k+1) < 16 - k by omega,?_⟩⟩
  repeat' first|exact trivial|exact rfl|exact Iff.rfl|exact not_false|refine And.intro ?_ ?_
 ·have dA:¬ (k:Int) < 16:=hp
  obtain rfl:k=16:=by omega
  rw[VK]
  have hb16:=gP x.i.an sw IJ
  have Wq:=iI { x with words:=bb x.i.an } m.fl L 13 (by decide) (by decide)
  refine Wq.u ?_
  generalize Kh:cR x (al x 13) (bb x.i.an)=x2
  have hRR:ma m x=bN m x2 (al x 13) 16:=by unfold ma; rw[Kh]
  have hi:x2.i=x.i:=by rw[← Kh]; rfl
  have jv:x2.code=0:=by rw[← Kh]; exact aad
  refine SW.nj ar D1 (by kernel_rfl) (α:={r:Nat // r<=16/\(bN m x2 (al x 13) r).2.2=0}) (fun r=>[(1,.ff),(2,.ptr 0 0),(4,.ptr 1 0),(8,.int .u32 (bN m x2 (al x 13) r.1).2.1),(9,.int .i64 r.1)]) (fun r=>[⟨.loc,135,1,.w,true,ui (bN m x2 (al x 13) r.1).1 m.fl L⟩,⟨.loc,135,1,.w,true,Ws⟩]) (fun r=>16 - r.1) ⟨0,by omega,rfl⟩ 100 [some 0,some 1] ?_ ?_
  ·show ee _ _ _ (aV.bare _ [(1,.ff),(2,.ptr 0 0),(4,.ptr 1 0),(8,.int .u32 (al x 13)),(9,.int .i64 (0:Nat))] [⟨.loc,135,1,.w,true,ui x2 m.fl L⟩,⟨.loc,135,1,.w,true,Ws⟩])
   rw[← Kh]
   repeat' first|exact trivial|exact rfl|exact Iff.rfl|exact not_false|refine And.intro ?_ ?_
  rintro⟨r,hr,hz⟩
  obtain⟨hP,hI⟩:=rC (m:=m) (x:=x2) hA r
  have hC:=vm (m:=m) (a:=al x 13) jv r
  refine⟨fun hp=>?_,fun hp=>?_⟩
  ·have dA:(r:Int) < 16:=hp
   have eB:=rH sw IJ (show r < 16 by omega)
   rw[← hi,← hI] at sw IJ eB
   refine lu ?_ (show 0<=(bN m x2 (al x 13) r).1.i.an/\(bN m x2 (al x 13) r).1.i.an<=4294967295 by omega)
   refine lu ?_ (show 0<=(r:Int)/\(r:Int)<=4294967295 by omega)
   refine⟨show (0:Int)<=(r:Int) by omega,?_⟩
   refine⟨by decide,.inl ⟨NX sw (show r < 16 by omega),by decide,?_⟩⟩
   refine⟨fun h0=>?_,fun h0=>?_⟩
   ·have di:i_ x2.i.an r=0:=by rw[← hI]; exact eB.trans h0
    have hs:=vd (m:=m) (x:=x2) (a:=al x 13) hz di
    refine .inl ⟨ax (show _<=(r:Int)+1/\(r:Int)+1<=_ by omega),⟨⟨r+1,by omega,by rw[hs]; exact hz⟩,[some 0,some 1],show 16 - (r+1) < 16 - r by omega,?_⟩⟩
    show ee _ _ _ (aV.bare _ [(1,.ff),(2,.ptr 0 0),(4,.ptr 1 0),(8,.int .u32 (bN m x2 (al x 13) (r+1)).2.1),(9,.int .i64 (r+1:Nat))] [⟨.loc,135,1,.w,true,ui (bN m x2 (al x 13) (r+1)).1 m.fl L⟩,⟨.loc,135,1,.w,true,Ws⟩])
    rw[hs]
    repeat' first|exact trivial|exact rfl|exact Iff.rfl|exact not_false|refine And.intro ?_ ?_
   ·have di:¬ i_ x2.i.an r=0:=by rw[← hI]; exact fun e=>h0 (eB.symm.trans e)
    have kl:=JA m.fl L (bN m x2 (al x 13) r).2.1 hP hm.fl hm.len
    rw[BO hR hP] at kl
    refine kl.u ?_
    refine⟨fun he=>?_,fun he=>?_⟩
    ·have nC:ll m.fl (bN m x2 (al x 13) r).2.1≠0:=he
     have hE:=zM (m:=m) (x:=x2) (a:=al x 13) hz di nC
     have hF:ma m x=((bN m x2 (al x 13) r).1,(bN m x2 (al x 13) r).2.1,ll m.fl (bN m x2 (al x 13) r).2.1):=by
      have hs:=nO (m:=m) (x:=x2) (a:=al x 13) (r:=r+1) (by rw[hE]; exact nC) (15 - r)
      rw[hRR,show 16=r+1+(15 - r) by omega,hs,hE]
     have hX:m6 m x=(bN m x2 (al x 13) r).1:=by unfold m6; rw[hF,if_neg (show ¬ ll m.fl _=0 from nC)]
     rw[hF,hX]
     exact rA
    ·have kb:=Px (bN m x2 (al x 13) r).1 m.fl L (qK m.fl m.w (bN m x2 (al x 13) r).2.1) (NY hm _) hC
     refine⟨fun Ad=>?_,fun Ad=>?_⟩
     ·have hs:=ve (m:=m) (x:=x2) (a:=al x 13) hz di he (show r=15 by have:(r:Int)=15:=Ad; omega)
      refine kb.u ?_
      refine⟨fun h=>absurd (show (r:Int) < 15 from h) (by have:(r:Int)=15:=Ad; omega),fun _=>?_⟩
      refine .inr ?_
      refine .inl ⟨ax (show _<=(r:Int)+1/\(r:Int)+1<=_ by omega),⟨⟨r+1,by omega,by rw[hs]⟩,[some 0,some 1],show 16 - (r+1) < 16 - r by omega,?_⟩⟩
      show ee _ _ _ (aV.bare _ [(1,.ff),(2,.ptr 0 0),(4,.ptr 1 0),(8,.int .u32 (bN m x2 (al x 13) (r+1)).2.1),(9,.int .i64 (r+1:Nat))] [⟨.loc,135,1,.w,true,ui (bN m x2 (al x 13) (r+1)).1 m.fl L⟩,⟨.loc,135,1,.w,true,Ws⟩])
      rw[hs]
      repeat' first|exact trivial|exact rfl|exact Iff.rfl|exact not_false|refine And.intro ?_ ?_
     ·have h15':¬ (r:Int)=15:=Ad
      have hs:=zN (m:=m) (x:=x2) (a:=al x 13) hz di he (show ¬ r=15 from fun e=>Ad (show (r:Int)=15 by omega))
      refine⟨fun _=>?_,fun h=>absurd (show (r:Int) < 15 by omega) h⟩
      refine⟨show (0:Int)<=(r:Int) by omega,show (r:Int) < 16 by omega,?_⟩
      refine⟨16,show (0:Int)<=(r:Int) by omega,show (r:Int) < 16 by omega,show 13+((r:Int)).toNat*1 < 42 by omega,?_⟩
      refine .inr ?_
      refine .inl ⟨ax (show _<=(r:Int)+1/\(r:Int)+1<=_ by omega),⟨⟨r+1,by omega,by rw[hs]⟩,[some 0,some 1],show 16 - (r+1) < 16 - r by omega,?_⟩⟩
      show ee _ _ _ (aV.bare _ [(1,.ff),(2,.ptr 0 0),(4,.ptr 1 0),(8,.int .u32 (bN m x2 (al x 13) (r+1)).2.1),(9,.int .i64 (r+1:Nat))] [⟨.loc,135,1,.w,true,ui (bN m x2 (al x 13) (r+1)).1 m.fl L⟩,⟨.loc,135,1,.w,true,Ws⟩])
      rw[hs]
      repeat' first|exact trivial|exact rfl|exact Iff.rfl|exact not_false|refine And.intro ?_ ?_
  ·have dA:¬ (r:Int) < 16:=hp
   obtain rfl:r=16:=by omega
   have hX:m6 m x=cg (bN m x2 (al x 13) 16).1 13 (bN m x2 (al x 13) 16).2.1:=by unfold m6; rw[hRR,if_pos hz]
   rw[show (ma m x).2.2=0 by rw[hRR]; exact hz,hX]
   exact rA
def cS (f:Int):Int:=if 50<=f/\f<=65 then f - 49 else if 66<=f/\f<=81 then f - 65 else if f < 30 then ([0,0,0,0,6,9,6,9,11,16,6,9,1,5,0,0,0,7,8,0,13,17,16,15,3,0,2,12,0,16]:List Int).getD f.toNat 0 else 0
theorem aae (f:Int) (h0:0<=f) (h1:f<=1000):ah gT 110 [.int .i64 f] (.int .i64 (cS f)):=by
 refine Spec.enter ar P110 100 Tryz.func110 rfl (by kernel_rfl) ?_
 by_cases a:50<=f/\f<=65
 ·unfold cS
  rw[if_pos a]
  repeat' (refine (And.intro (fun _=>?_) (fun _=>?_):(_->_)/\(_->_))<;>(first|(exfalso; omega)|skip))
  refine li ?_ (show _<=f - 49/\f - 49<=_ by omega)
  exact ao rfl
 by_cases b:66<=f/\f<=81
 ·unfold cS
  rw[if_neg a,if_pos b]
  repeat' (refine (And.intro (fun _=>?_) (fun _=>?_):(_->_)/\(_->_))<;>(first|(exfalso; omega)|skip))
  refine li ?_ (show _<=f - 65/\f - 65<=_ by omega)
  exact ao rfl
 by_cases c:f < 30
 ·have hc:f=0\/f=1\/f=2\/f=3\/f=4\/f=5\/f=6\/f=7\/f=8\/f=9\/f=10\/f=11\/f=12\/f=13\/f=14\/f=15\/f=16\/f=17\/f=18\/f=19\/f=20\/f=21\/f=22\/f=23\/f=24\/f=25\/f=26\/f=27\/f=28\/f=29:=by omega
  unfold cS
  rw[if_neg a,if_neg b,if_pos c]
  repeat' (refine (And.intro (fun _=>?_) (fun _=>?_):(_->_)/\(_->_))<;>(first|(exfalso; omega)|skip))
  refine⟨h0,show f < 30 by omega,?_⟩
  rcases hc with rfl|rfl|rfl|rfl|rfl|rfl|rfl|rfl|rfl|rfl|rfl|rfl|rfl|rfl|rfl|rfl|rfl|rfl|rfl|rfl|rfl|rfl|rfl|rfl|rfl|rfl|rfl|rfl|rfl|rfl
  ·exact .inl ⟨0,rfl,ao rfl⟩
  ·exact .inl ⟨1,rfl,ao rfl⟩
  ·exact .inl ⟨2,rfl,ao rfl⟩
  ·exact .inl ⟨3,rfl,ao rfl⟩
  ·exact .inl ⟨4,rfl,ao rfl⟩
  ·exact .inl ⟨5,rfl,ao rfl⟩
  ·exact .inl ⟨6,rfl,ao rfl⟩
  ·exact .inl ⟨7,rfl,ao rfl⟩
  ·exact .inl ⟨8,rfl,ao rfl⟩
  ·exact .inl ⟨9,rfl,ao rfl⟩
  ·exact .inl ⟨10,rfl,ao rfl⟩
  ·exact .inl ⟨11,rfl,ao rfl⟩
  ·exact .inl ⟨12,rfl,ao rfl⟩
  ·exact .inl ⟨13,rfl,ao rfl⟩
  ·exact .inl ⟨14,rfl,ao rfl⟩
  ·exact .inl ⟨15,rfl,ao rfl⟩
  ·exact .inl ⟨16,rfl,ao rfl⟩
  ·exact .inl ⟨17,rfl,ao rfl⟩
  ·exact .inl ⟨18,rfl,ao rfl⟩
  ·exact .inl ⟨19,rfl,ao rfl⟩
  ·exact .inl ⟨20,rfl,ao rfl⟩
  ·exact .inl ⟨21,rfl,ao rfl⟩
  ·exact .inl ⟨22,rfl,ao rfl⟩
  ·exact .inl ⟨23,rfl,ao rfl⟩
  ·exact .inl ⟨24,rfl,ao rfl⟩
  ·exact .inl ⟨25,rfl,ao rfl⟩
  ·exact .inl ⟨26,rfl,ao rfl⟩
  ·exact .inl ⟨27,rfl,ao rfl⟩
  ·exact .inl ⟨28,rfl,ao rfl⟩
  ·exact .inl ⟨29,rfl,ao rfl⟩
 ·unfold cS
  rw[if_neg a,if_neg b,if_neg c]
  repeat' (refine (And.intro (fun _=>?_) (fun _=>?_):(_->_)/\(_->_))<;>(first|(exfalso; omega)|skip))
  all_goals exact ao rfl
def jI (x:XS) (k v:Int):XS:=if k=1 then bK x x.i.rd (bits .and .u32 v (aU x)) (cB x) else if k=2 then bK x x.i.rd (bits .andNot .u32 v (aU x)) (cB x) else if k=3 then bK x x.i.rd (bits .or .u32 v (aU x)) (cB x) else if k=4 then bK x x.i.rd (bits .or .u32 v (cF (aU x))) (cB x) else if k=5 then bK x x.i.rd (bits .xor .u32 v (aU x)) (cB x) else if k=11 then bK x x.i.rd (aU x) (cB x) else if k=12 then bK x x.i.rd (cF (aU x)) (cB x) else if k=13 then bK x (-1) (bits .and .u32 v (aU x)) (cB x) else if k=14 then bK x (-1) (bits .xor .u32 v (aU x)) (cB x) else if k=6 then dD x x.i.rd v (aU x) 0 else if k=7 then dD x x.i.rd v (aU x) x.s.C else if k=8 then dD x x.i.rd v (cF (aU x)) x.s.C else if k=9 then dD x x.i.rd v (cF (aU x)) 1 else if k=10 then dD x x.i.rd (aU x) (cF v) 1 else if k=15 then dD x (-1) v (aU x) 0 else if k=16 then dD x (-1) v (cF (aU x)) 1 else dD x x.i.rd 0 (cF (aU x)) 1
theorem NZ (x:XS) (k v:Int) (hk:k=6\/k=7\/k=8\/k=9\/k=10\/k=15\/k=16\/k=17):jI x k v=(if k=6 then dD x x.i.rd v (aU x) 0 else if k=7 then dD x x.i.rd v (aU x) x.s.C else if k=8 then dD x x.i.rd v (cF (aU x)) x.s.C else if k=9 then dD x x.i.rd v (cF (aU x)) 1 else if k=10 then dD x x.i.rd (aU x) (cF v) 1 else if k=15 then dD x (-1) v (aU x) 0 else if k=16 then dD x (-1) v (cF (aU x)) 1 else dD x x.i.rd 0 (cF (aU x)) 1):=by
 unfold jI
 rw[if_neg (by omega),if_neg (by omega),if_neg (by omega),if_neg (by omega),if_neg (by omega),if_neg (by omega),if_neg (by omega),if_neg (by omega),if_neg (by omega)]
theorem JC (x:XS) (fl:List Int) (L:List (Int × Int)) (h:DOk x) (Wm:ae x.i.form≠24) (k:Int) (xC:1<=k) (D9:k<=17):ah gT 111 [mW x fl L,.int .i64 k] (mW (jI x k (aL x)) fl L):=by
 have hx:=h.ok
 have gn:=iI x fl L x.i.rn hx.rn.1 hx.rn.2
 have gd:=iI x fl L x.i.rd hx.rd.1 hx.rd.2
 have k2:=NR x fl L h Wm
 have k3:=Jx x fl L
 have bw:=cf hx
 have nw:=cV bw
 have hd:=hx.rd
 have eF:aL x=if ae x.i.form=4\/ae x.i.form=5\/ae x.i.form=6 then al x x.i.rd else al x x.i.rn:=rfl
 refine Spec.enter ar P111 100 Tryz.func111 rfl (by kernel_rfl) ?_
 refine gn.u ?_
 repeat' (refine (And.intro (fun _=>?_) (fun _=>?_):(_->_)/\(_->_))<;>(first|(exfalso; omega)|skip))
 refine gd.u ?_
 rw[show aL x=al x x.i.rd by rw[eF,if_pos (by omega)]]
 have bv:aP (al x x.i.rd):=aX hx _
 generalize al x x.i.rd=v at bv ⊢
 rotate_left
 refine gd.u ?_
 rw[show aL x=al x x.i.rd by rw[eF,if_pos (by omega)]]
 have bv:aP (al x x.i.rd):=aX hx _
 generalize al x x.i.rd=v at bv ⊢
 rotate_left
 refine gd.u ?_
 rw[show aL x=al x x.i.rd by rw[eF,if_pos (by omega)]]
 have bv:aP (al x x.i.rd):=aX hx _
 generalize al x x.i.rd=v at bv ⊢
 rotate_left
 rw[show aL x=al x x.i.rn by rw[eF,if_neg (by omega)]]
 have bv:aP (al x x.i.rn):=aX hx _
 generalize al x x.i.rn=v at bv ⊢
 rotate_left
 all_goals refine k2.u ?_
 all_goals
   by_cases hS:k=6\/k=7\/k=8\/k=9\/k=10\/k=15\/k=16\/k=17
   ·repeat' (refine (And.intro (fun _=>?_) (fun _=>?_):(_->_)/\(_->_))<;>(first|(exfalso; omega)|skip))
    all_goals (refine⟨[],aT,(dadd x fl L hx k v (aU x) bv bw hS).use (by repeat' first|exact trivial|exact rfl|exact Iff.rfl|exact Or.inl rfl|refine And.intro ?_ ?_) rfl rfl ?_⟩; rw[NZ x k v hS]; exact ao (aQ rfl))
   ·have hL:k=1\/k=2\/k=3\/k=4\/k=5\/k=11\/k=12\/k=13\/k=14:=by omega
    repeat' (refine (And.intro (fun _=>?_) (fun _=>?_):(_->_)/\(_->_))<;>(first|(exfalso; omega)|skip))
    all_goals refine k3.u ?_
    all_goals (rcases hL with rfl|rfl|rfl|rfl|rfl|rfl|rfl|rfl|rfl<;>(first|(exfalso; omega)|skip))
    ·refine⟨fun hs=>?_,fun hs=>?_⟩
     ·rw[show jI x 11 v=cg (hU (lg x (aU x)) (cB x)) x.i.rd (aU x) by unfold jI bK; rw[if_neg (by decide),if_neg (by decide),if_neg (by decide),if_neg (by decide),if_neg (by decide),if_pos rfl,if_pos hd.1,if_pos (show bY x from hs)]]
      refine⟨by decide,by decide,?_⟩
      refine .inl ⟨11,rfl,?_⟩
      refine (F4 x fl L (aU x) (bw)).u ?_
      repeat' (refine (And.intro (fun _=>?_) (fun _=>?_):(_->_)/\(_->_))<;>(first|(exfalso; omega)|skip))
      refine⟨by decide,by decide,?_⟩
      refine .inl ⟨11,rfl,?_⟩
      refine⟨hd.1,show x.i.rd < 16 by omega,?_⟩
      refine⟨16,hd.1,show x.i.rd < 16 by omega,show 13+x.i.rd.toNat*1 < 42 by omega,?_⟩
      exact ao (aQ rfl)
     ·rw[show jI x 11 v=cg x x.i.rd (aU x) by unfold jI bK; rw[if_neg (by decide),if_neg (by decide),if_neg (by decide),if_neg (by decide),if_neg (by decide),if_pos rfl,if_pos hd.1,if_neg (show ¬ bY x from hs)]]
      repeat' (refine (And.intro (fun _=>?_) (fun _=>?_):(_->_)/\(_->_))<;>(first|(exfalso; omega)|skip))
      refine⟨by decide,by decide,?_⟩
      refine .inl ⟨11,rfl,?_⟩
      refine⟨hd.1,show x.i.rd < 16 by omega,?_⟩
      refine⟨16,hd.1,show x.i.rd < 16 by omega,show 13+x.i.rd.toNat*1 < 42 by omega,?_⟩
      exact ao (aQ rfl)
    ·refine⟨fun hs=>?_,fun hs=>?_⟩
     ·rw[show jI x 12 v=cg (hU (lg x (cF (aU x))) (cB x)) x.i.rd (cF (aU x)) by unfold jI bK; rw[if_neg (by decide),if_neg (by decide),if_neg (by decide),if_neg (by decide),if_neg (by decide),if_neg (by decide),if_pos rfl,if_pos hd.1,if_pos (show bY x from hs)]]
      refine⟨by decide,by decide,?_⟩
      refine .inl ⟨12,rfl,?_⟩
      refine (F4 x fl L (cF (aU x)) (nw)).u ?_
      repeat' (refine (And.intro (fun _=>?_) (fun _=>?_):(_->_)/\(_->_))<;>(first|(exfalso; omega)|skip))
      refine⟨by decide,by decide,?_⟩
      refine .inl ⟨12,rfl,?_⟩
      refine⟨hd.1,show x.i.rd < 16 by omega,?_⟩
      refine⟨16,hd.1,show x.i.rd < 16 by omega,show 13+x.i.rd.toNat*1 < 42 by omega,?_⟩
      exact ao (aQ rfl)
     ·rw[show jI x 12 v=cg x x.i.rd (cF (aU x)) by unfold jI bK; rw[if_neg (by decide),if_neg (by decide),if_neg (by decide),if_neg (by decide),if_neg (by decide),if_neg (by decide),if_pos rfl,if_pos hd.1,if_neg (show ¬ bY x from hs)]]
      repeat' (refine (And.intro (fun _=>?_) (fun _=>?_):(_->_)/\(_->_))<;>(first|(exfalso; omega)|skip))
      refine⟨by decide,by decide,?_⟩
      refine .inl ⟨12,rfl,?_⟩
      refine⟨hd.1,show x.i.rd < 16 by omega,?_⟩
      refine⟨16,hd.1,show x.i.rd < 16 by omega,show 13+x.i.rd.toNat*1 < 42 by omega,?_⟩
      exact ao (aQ rfl)
    ·refine⟨fun hs=>?_,fun hs=>?_⟩
     ·rw[show jI x 13 v=(hU (lg x (bits .and .u32 v (aU x))) (cB x)) by unfold jI bK; rw[if_neg (by decide),if_neg (by decide),if_neg (by decide),if_neg (by decide),if_neg (by decide),if_neg (by decide),if_neg (by decide),if_pos rfl,if_neg (by decide),if_pos (show bY x from hs)]]
      refine⟨by decide,by decide,?_⟩
      refine .inl ⟨13,rfl,?_⟩
      refine (F4 x fl L (bits .and .u32 v (aU x)) ((dX bv bw).1)).u ?_
      repeat' (refine (And.intro (fun _=>?_) (fun _=>?_):(_->_)/\(_->_))<;>(first|(exfalso; omega)|skip))
      exact ao (aQ rfl)
     ·rw[show jI x 13 v=x by unfold jI bK; rw[if_neg (by decide),if_neg (by decide),if_neg (by decide),if_neg (by decide),if_neg (by decide),if_neg (by decide),if_neg (by decide),if_pos rfl,if_neg (by decide),if_neg (show ¬ bY x from hs)]]
      repeat' (refine (And.intro (fun _=>?_) (fun _=>?_):(_->_)/\(_->_))<;>(first|(exfalso; omega)|skip))
      exact ao (aQ rfl)
    ·refine⟨fun hs=>?_,fun hs=>?_⟩
     ·rw[show jI x 14 v=(hU (lg x (bits .xor .u32 v (aU x))) (cB x)) by unfold jI bK; rw[if_neg (by decide),if_neg (by decide),if_neg (by decide),if_neg (by decide),if_neg (by decide),if_neg (by decide),if_neg (by decide),if_neg (by decide),if_pos rfl,if_neg (by decide),if_pos (show bY x from hs)]]
      refine⟨by decide,by decide,?_⟩
      refine .inl ⟨14,rfl,?_⟩
      refine (F4 x fl L (bits .xor .u32 v (aU x)) ((dX bv bw).2.2.1)).u ?_
      repeat' (refine (And.intro (fun _=>?_) (fun _=>?_):(_->_)/\(_->_))<;>(first|(exfalso; omega)|skip))
      exact ao (aQ rfl)
     ·rw[show jI x 14 v=x by unfold jI bK; rw[if_neg (by decide),if_neg (by decide),if_neg (by decide),if_neg (by decide),if_neg (by decide),if_neg (by decide),if_neg (by decide),if_neg (by decide),if_pos rfl,if_neg (by decide),if_neg (show ¬ bY x from hs)]]
      repeat' (refine (And.intro (fun _=>?_) (fun _=>?_):(_->_)/\(_->_))<;>(first|(exfalso; omega)|skip))
      exact ao (aQ rfl)
    ·refine⟨fun hs=>?_,fun hs=>?_⟩
     ·rw[show jI x 1 v=cg (hU (lg x (bits .and .u32 v (aU x))) (cB x)) x.i.rd (bits .and .u32 v (aU x)) by unfold jI bK; rw[if_pos rfl,if_pos hd.1,if_pos (show bY x from hs)]]
      refine⟨by decide,by decide,?_⟩
      refine .inl ⟨1,rfl,?_⟩
      refine (F4 x fl L (bits .and .u32 v (aU x)) ((dX bv bw).1)).u ?_
      repeat' (refine (And.intro (fun _=>?_) (fun _=>?_):(_->_)/\(_->_))<;>(first|(exfalso; omega)|skip))
      refine⟨by decide,by decide,?_⟩
      refine .inl ⟨1,rfl,?_⟩
      refine⟨hd.1,show x.i.rd < 16 by omega,?_⟩
      refine⟨16,hd.1,show x.i.rd < 16 by omega,show 13+x.i.rd.toNat*1 < 42 by omega,?_⟩
      exact ao (aQ rfl)
     ·rw[show jI x 1 v=cg x x.i.rd (bits .and .u32 v (aU x)) by unfold jI bK; rw[if_pos rfl,if_pos hd.1,if_neg (show ¬ bY x from hs)]]
      repeat' (refine (And.intro (fun _=>?_) (fun _=>?_):(_->_)/\(_->_))<;>(first|(exfalso; omega)|skip))
      refine⟨by decide,by decide,?_⟩
      refine .inl ⟨1,rfl,?_⟩
      refine⟨hd.1,show x.i.rd < 16 by omega,?_⟩
      refine⟨16,hd.1,show x.i.rd < 16 by omega,show 13+x.i.rd.toNat*1 < 42 by omega,?_⟩
      exact ao (aQ rfl)
    ·refine⟨fun hs=>?_,fun hs=>?_⟩
     ·rw[show jI x 2 v=cg (hU (lg x (bits .andNot .u32 v (aU x))) (cB x)) x.i.rd (bits .andNot .u32 v (aU x)) by unfold jI bK; rw[if_neg (by decide),if_pos rfl,if_pos hd.1,if_pos (show bY x from hs)]]
      refine⟨by decide,by decide,?_⟩
      refine .inl ⟨2,rfl,?_⟩
      refine (F4 x fl L (bits .andNot .u32 v (aU x)) ((dX bv bw).2.2.2)).u ?_
      repeat' (refine (And.intro (fun _=>?_) (fun _=>?_):(_->_)/\(_->_))<;>(first|(exfalso; omega)|skip))
      refine⟨by decide,by decide,?_⟩
      refine .inl ⟨2,rfl,?_⟩
      refine⟨hd.1,show x.i.rd < 16 by omega,?_⟩
      refine⟨16,hd.1,show x.i.rd < 16 by omega,show 13+x.i.rd.toNat*1 < 42 by omega,?_⟩
      exact ao (aQ rfl)
     ·rw[show jI x 2 v=cg x x.i.rd (bits .andNot .u32 v (aU x)) by unfold jI bK; rw[if_neg (by decide),if_pos rfl,if_pos hd.1,if_neg (show ¬ bY x from hs)]]
      repeat' (refine (And.intro (fun _=>?_) (fun _=>?_):(_->_)/\(_->_))<;>(first|(exfalso; omega)|skip))
      refine⟨by decide,by decide,?_⟩
      refine .inl ⟨2,rfl,?_⟩
      refine⟨hd.1,show x.i.rd < 16 by omega,?_⟩
      refine⟨16,hd.1,show x.i.rd < 16 by omega,show 13+x.i.rd.toNat*1 < 42 by omega,?_⟩
      exact ao (aQ rfl)
    ·refine⟨fun hs=>?_,fun hs=>?_⟩
     ·rw[show jI x 3 v=cg (hU (lg x (bits .or .u32 v (aU x))) (cB x)) x.i.rd (bits .or .u32 v (aU x)) by unfold jI bK; rw[if_neg (by decide),if_neg (by decide),if_pos rfl,if_pos hd.1,if_pos (show bY x from hs)]]
      refine⟨by decide,by decide,?_⟩
      refine .inl ⟨3,rfl,?_⟩
      refine (F4 x fl L (bits .or .u32 v (aU x)) ((dX bv bw).2.1)).u ?_
      repeat' (refine (And.intro (fun _=>?_) (fun _=>?_):(_->_)/\(_->_))<;>(first|(exfalso; omega)|skip))
      refine⟨by decide,by decide,?_⟩
      refine .inl ⟨3,rfl,?_⟩
      refine⟨hd.1,show x.i.rd < 16 by omega,?_⟩
      refine⟨16,hd.1,show x.i.rd < 16 by omega,show 13+x.i.rd.toNat*1 < 42 by omega,?_⟩
      exact ao (aQ rfl)
     ·rw[show jI x 3 v=cg x x.i.rd (bits .or .u32 v (aU x)) by unfold jI bK; rw[if_neg (by decide),if_neg (by decide),if_pos rfl,if_pos hd.1,if_neg (show ¬ bY x from hs)]]
      repeat' (refine (And.intro (fun _=>?_) (fun _=>?_):(_->_)/\(_->_))<;>(first|(exfalso; omega)|skip))
      refine⟨by decide,by decide,?_⟩
      refine .inl ⟨3,rfl,?_⟩
      refine⟨hd.1,show x.i.rd < 16 by omega,?_⟩
      refine⟨16,hd.1,show x.i.rd < 16 by omega,show 13+x.i.rd.toNat*1 < 42 by omega,?_⟩
      exact ao (aQ rfl)
    ·refine⟨fun hs=>?_,fun hs=>?_⟩
     ·rw[show jI x 4 v=cg (hU (lg x (bits .or .u32 v (cF (aU x)))) (cB x)) x.i.rd (bits .or .u32 v (cF (aU x))) by unfold jI bK; rw[if_neg (by decide),if_neg (by decide),if_neg (by decide),if_pos rfl,if_pos hd.1,if_pos (show bY x from hs)]]
      refine⟨by decide,by decide,?_⟩
      refine .inl ⟨4,rfl,?_⟩
      refine (F4 x fl L (bits .or .u32 v (cF (aU x))) ((dX bv nw).2.1)).u ?_
      repeat' (refine (And.intro (fun _=>?_) (fun _=>?_):(_->_)/\(_->_))<;>(first|(exfalso; omega)|skip))
      refine⟨by decide,by decide,?_⟩
      refine .inl ⟨4,rfl,?_⟩
      refine⟨hd.1,show x.i.rd < 16 by omega,?_⟩
      refine⟨16,hd.1,show x.i.rd < 16 by omega,show 13+x.i.rd.toNat*1 < 42 by omega,?_⟩
      exact ao (aQ rfl)
     ·rw[show jI x 4 v=cg x x.i.rd (bits .or .u32 v (cF (aU x))) by unfold jI bK; rw[if_neg (by decide),if_neg (by decide),if_neg (by decide),if_pos rfl,if_pos hd.1,if_neg (show ¬ bY x from hs)]]
      repeat' (refine (And.intro (fun _=>?_) (fun _=>?_):(_->_)/\(_->_))<;>(first|(exfalso; omega)|skip))
      refine⟨by decide,by decide,?_⟩
      refine .inl ⟨4,rfl,?_⟩
      refine⟨hd.1,show x.i.rd < 16 by omega,?_⟩
      refine⟨16,hd.1,show x.i.rd < 16 by omega,show 13+x.i.rd.toNat*1 < 42 by omega,?_⟩
      exact ao (aQ rfl)
    ·refine⟨fun hs=>?_,fun hs=>?_⟩
     ·rw[show jI x 5 v=cg (hU (lg x (bits .xor .u32 v (aU x))) (cB x)) x.i.rd (bits .xor .u32 v (aU x)) by unfold jI bK; rw[if_neg (by decide),if_neg (by decide),if_neg (by decide),if_neg (by decide),if_pos rfl,if_pos hd.1,if_pos (show bY x from hs)]]
      refine⟨by decide,by decide,?_⟩
      refine .inl ⟨5,rfl,?_⟩
      refine (F4 x fl L (bits .xor .u32 v (aU x)) ((dX bv bw).2.2.1)).u ?_
      repeat' (refine (And.intro (fun _=>?_) (fun _=>?_):(_->_)/\(_->_))<;>(first|(exfalso; omega)|skip))
      refine⟨by decide,by decide,?_⟩
      refine .inl ⟨5,rfl,?_⟩
      refine⟨hd.1,show x.i.rd < 16 by omega,?_⟩
      refine⟨16,hd.1,show x.i.rd < 16 by omega,show 13+x.i.rd.toNat*1 < 42 by omega,?_⟩
      exact ao (aQ rfl)
     ·rw[show jI x 5 v=cg x x.i.rd (bits .xor .u32 v (aU x)) by unfold jI bK; rw[if_neg (by decide),if_neg (by decide),if_neg (by decide),if_neg (by decide),if_pos rfl,if_pos hd.1,if_neg (show ¬ bY x from hs)]]
      repeat' (refine (And.intro (fun _=>?_) (fun _=>?_):(_->_)/\(_->_))<;>(first|(exfalso; omega)|skip))
      refine⟨by decide,by decide,?_⟩
      refine .inl ⟨5,rfl,?_⟩
      refine⟨hd.1,show x.i.rd < 16 by omega,?_⟩
      refine⟨16,hd.1,show x.i.rd < 16 by omega,show 13+x.i.rd.toNat*1 < 42 by omega,?_⟩
      exact ao (aQ rfl)
def FB:IN:=⟨8,0,0,0,0,5,0,0,0,0,0⟩
def DD:IN:=⟨31,0,0,14,0,0,0,0,0,0,0⟩
theorem vn:bQ FB:=by
 show aC _ (cU (ae 8))
 rw[show ae 8=4 by decide,show cU 4 = {jU with rd:=1,i1:=255,i2:=1} from rfl]
 refine⟨by decide,.inl (by decide),.inr (.inr (.inr (by decide))),.inr (.inr (.inr (by decide))),.inr (.inr (.inr (by decide))),.inl (by decide),.inl rfl,.inr (by decide),.inl rfl,.inr ⟨Bool.false_ne_true,rfl,.inl (by decide)⟩,?_⟩
 refine⟨by decide,by decide,by decide,by decide,?_⟩
 show ae 8=18\/ae 8=19\/ae 8=20->_
 rw[show ae 8=4 by decide]
 exact fun h=>absurd h (by decide)
theorem vo:bQ DD:=by
 show aC _ (cU (ae 31))
 rw[show ae 31=7 by decide,show cU 7 = {jU with rm:=2} from rfl]
 refine⟨by decide,.inr (.inr (.inr (by decide))),.inr (.inr (.inr (by decide))),.inr (.inl (by decide)),.inr (.inr (.inr (by decide))),.inl (by decide),.inl rfl,.inl (by decide),.inl rfl,.inr ⟨Bool.false_ne_true,rfl,.inl (by decide)⟩,?_⟩
 refine⟨by decide,by decide,by decide,by decide,?_⟩
 show ae 31=18\/ae 31=19\/ae 31=20->_
 rw[show ae 31=7 by decide]
 exact fun h=>absurd h (by decide)
def aF:List Int:=kU FB++kU DD
def aS:RS:=⟨s_ (s_ (fun _=>0) 14 4294967295) 15 134217728,0,0,0,0⟩
def gz:MS:=qM (ow aF 0) aS
theorem xw (i:IN) (h:i.form < 48):(kU i).length=2:=by unfold kU; rw[if_neg (by omega)]; rfl
theorem BP:aF.length=4:=by unfold aF; rw[List.length_append,xw FB (by decide),xw DD (by decide)]
theorem aaf:w9 aF:=fun z hz=>(List.mem_append.1 hz).elim (tA _ z) (tA _ z)
theorem N0:bF [FB,DD]++[]=aF:=by
 unfold bF aF
 rw[List.flatMap_cons,List.flatMap_cons,List.flatMap_nil,if_pos vn,if_pos vo,List.append_nil,List.append_nil]
theorem JD:m8 gz:=xr (BI aaf (by rw[BP]; decide) (by decide)) (vk (pS (pS (fun _=>o5) ⟨by decide,by decide⟩) ⟨by decide,by decide⟩) (by decide) (by decide) (by decide) (by decide))
theorem DE:fp aF 134217728=0/\cE aF 134217728=FB:=by
 have:=Dy [] (kU DD) FB vn (w8 _ (by decide)) rfl (by show aF.length<=_; rw[BP]; decide)
 exact this
theorem DF:fp aF 134217730=0/\cE aF 134217730=DD:=by
 have:=Dy (kU FB) [] DD vo (w8 _ (by decide)) (by rw[xw FB (by decide)]) (by rw[List.append_nil]; show aF.length<=_; rw[BP]; decide)
 rw[List.append_nil,xw FB (by decide)] at this
 exact this
open Classical in
theorem N1:j' gz=0/\(cX gz).kind=0/\(cX gz).s.R 0=5/\(cX gz).s.R 15=134217730/\(cX gz).s.R 14=4294967295/\(cX gz).iD=1/\(cX gz).fl=aF/\(cX gz).wait=0:=by
 have r15:gz.s.R 15=134217728:=rfl
 have hk:¬ gz.kind≠0:=by decide
 have hf:¬ fp gz.fl (gz.s.R 15)≠0:=by rw[r15]; exact fun h=>h DE.1
 have hI:cE gz.fl (gz.s.R 15)=FB:=by rw[r15]; exact DE.2
 have hd:lq gz=0:=by unfold lq; rw[hI]; rfl
 have eE:j' gz=0:=by unfold j'; rw[if_neg hk,if_neg hf,if_neg (by rw[hd]; decide)]
 have eM:cX gz=qt gz:=by unfold cX; rw[if_neg hk,if_neg hf,if_neg (by rw[hd]; decide)]
 have eX:kK gz=qs gz (cD gz.s FB):=by unfold kK; rw[hI]
 have eB:cz gz=1:=by unfold cz; rw[hI]; exact xj (by decide)
 rw[eM]
 refine⟨eE,?_,?_,?_,?_,?_,rfl,rfl⟩
 ·show (kK gz).kind=0; rw[eX]; rfl
 ·show (kK gz).s.R 0=5; rw[eX]; rfl
 ·show (kK gz).s.R 15=_; rw[eX]; rfl
 ·show (kK gz).s.R 14=_; rw[eX]; rfl
 ·show gz.iD+(cz gz+cq gz*gz.wait)=1
  rw[eB,show gz.wait=0 from rfl,Int.mul_zero]; rfl
open Classical in
theorem N2 (m:MS) (hk:m.kind=0) (Ad:m.s.R 15=134217730) (Wo:m.s.R 14=4294967295) (Pu:m.fl=aF) (hw:m.wait=0):j' m=0/\(cX m).kind=1/\(cX m).code=0/\(cX m).iD=m.iD+3/\(cX m).s.R 0=m.s.R 0:=by
 have jf:¬ m.kind≠0:=fun h=>h hk
 have hf:¬ fp m.fl (m.s.R 15)≠0:=by rw[Ad,Pu]; exact fun h=>h DF.1
 have hI:cE m.fl (m.s.R 15)=DD:=by rw[Ad,Pu]; exact DF.2
 have hd:lq m=0:=by unfold lq; rw[hI]; rfl
 have eE:j' m=0:=by unfold j'; rw[if_neg jf,if_neg hf,if_neg (by rw[hd]; decide)]
 have eM:cX m=qt m:=by unfold cX; rw[if_neg jf,if_neg hf,if_neg (by rw[hd]; decide)]
 have g:al (cD m.s DD) 14=4294967295:=Wo
 have eX:kK m = { cD m.s DD with kind:=1,code:=0 }:=by
  have e1:kK m=fo (cD m.s DD) (al (cD m.s DD) 14):=by unfold kK; rw[hI]; rfl
  rw[e1,g]; unfold fo; rw[if_pos (by decide)]
 have eB:cz m=3:=by unfold cz; rw[hI]; exact oZ (by decide)
 rw[eM]
 refine⟨eE,?_,?_,?_,?_⟩
 ·show (kK m).kind=1; rw[eX]
 ·show (kK m).code=0; rw[eX]
 ·show m.iD+(cz m+cq m*m.wait)=m.iD+3
  rw[eB,hw,Int.mul_zero]; rfl
 ·show (kK m).s.R 0=_; rw[eX]; rfl
theorem vp (a d w c n:Int):ah gT 47 [Z3 a d w c n] (.tup []):=by
 refine Spec.enter ar P47 100 Tryz.func47 rfl (by kernel_rfl) ?_
 exact rA
theorem nn:ah gT 13 [] .tt:=by
 have hb:=tz [FB,DD] [] 0 (by decide) (by decide) (fun i hi=>by
  rcases List.mem_cons.1 hi with rfl|hi
  ·exact w8 _ (by decide)
  ·rcases List.mem_cons.1 hi with rfl|hi
   ·exact w8 _ (by decide)
   ·cases hi) (by decide)
 rw[N0] at hb
 refine Spec.enter ar P13 100 Tryz.func13 rfl (by kernel_rfl) ?_
 refine⟨[],aT,Spec.ZF (args':=[.sl 11 (lQ [FB,DD]),.sl 1 (db []),.int .i64 0]) [0] rfl (And.intro (Or.inl rfl) (And.intro rfl (And.intro rfl trivial))) rfl (hb.rh rfl (And.intro rfl (And.intro rfl (And.intro rfl trivial))) rfl ?_)⟩
 refine (BF (ow aF 0) aS).q [1,2,3] ?_
 refine⟨[],aT,Spec.enter ar P18 100 Tryz.func18 rfl (by kernel_rfl) ?_⟩
 refine SW.rounds ar P18 (by kernel_rfl) (N:=60) 4 ?_
 obtain⟨e1,k1,r0,r15,r14,c1,f1,w1⟩:=N1
 have xA:m8 (cX gz):=(xq JD (by decide)).1
 obtain⟨e2,k2,cd2,c2,q0⟩:=N2 (cX gz) k1 r15 r14 f1 w1
 rw[c1] at c2
 rw[r0] at q0
 refine⟨fun _=>?_,fun h=>absurd (show gz.kind=0 from rfl) h⟩
 refine⟨fun h=>absurd (show 9<=gz.iD from h) (by decide),fun _=>?_⟩
 refine (rD gz JD).q [1,2,3] ?_
 refine⟨fun h=>absurd e1 h,fun _=>?_⟩
 refine (vp (evA gz) (evD gz) (evW gz) (evC gz) (evN gz)).u ?_
 refine⟨fun _=>?_,fun h=>absurd k1 h⟩
 refine⟨fun h=>absurd (show 9<=(cX gz).iD from h) (by rw[c1]; decide),fun _=>?_⟩
 refine (rD (cX gz) xA).q [1,2,3] ?_
 refine⟨fun h=>absurd e2 h,fun _=>?_⟩
 refine (vp (evA (cX gz)) (evD (cX gz)) (evW (cX gz)) (evC (cX gz)) (evN (cX gz))).u ?_
 refine⟨fun h=>absurd (show (cX (cX gz)).kind=0 from h) (by rw[k2]; decide),fun _=>?_⟩
 refine⟨fun h=>absurd (show (cX (cX gz)).kind=3 from h) (by rw[k2]; decide),fun _=>?_⟩
 refine Exists.intro _ (And.intro (AD.refl _) ?_)
 refine (Dx (cX (cX gz))).q [1,2,3] ?_
 refine⟨fun _=>?_,fun h=>absurd (show (cX (cX gz)).kind=1/\(cX (cX gz)).code=0/\True from ⟨k2,cd2,trivial⟩) h⟩
 refine (vj (cX (cX gz))).q [1,2,3] ?_
 refine⟨fun _=>?_,fun h=>absurd (show (cX (cX gz)).iD=4 from c2) h⟩
 refine (zT (cX (cX gz))).q [1,2,3] ?_
 refine ao ?_
 exact q0
theorem BQ (s:RS) (c:Int) (h:c < 0\/13 < c):ah gT 15 [pf s,.int .i64 c] (.bool (aR s c)):=by
 have hn:¬ aR s c:=by unfold aR; omega
 refine Spec.enter ar P15 100 Tryz.func15 rfl (by kernel_rfl) ?_
 refine⟨fun _=>?_,fun h0=>?_⟩
 ·exact ao (er hn)
 ·have Kf:¬ c < 0:=h0
  refine⟨fun _=>?_,fun h1=>absurd (show 13 < c by omega) h1⟩
  exact ao (er hn)
theorem FC (s:RS) (hs:qL s) (c:Int) (h0:0<=c) (h1:c<=13):ah gT 15 [pf s,.int .i64 c] (.bool (aR s c)):=by
 have hz:=hs.z
 have hn:=hs.n
 have hc:=hs.c
 have hv:=hs.v
 refine Spec.enter ar P15 100 Tryz.func15 rfl (by kernel_rfl) ?_
 refine⟨fun h=>absurd (show c < 0 from h) (by omega),fun _=>?_⟩
 refine⟨fun h=>absurd (show 13 < c from h) (by omega),fun _=>?_⟩
 have Wo:c=0\/c=1\/c=2\/c=3\/c=4\/c=5\/c=6\/c=7\/c=8\/c=9\/c=10\/c=11\/c=12\/c=13:=by omega
 repeat' (first
  | (refine⟨h0,show c < 14 by omega,?_⟩
     refine .inr ⟨rfl,h0,show 0+c.toNat*1 < 14 by omega,fun x hx=>?_⟩
     rcases Wo with rfl|rfl|rfl|rfl|rfl|rfl|rfl|rfl|rfl|rfl|rfl|rfl|rfl|rfl<;>(cases hx; refine ao ?_; first|(refine en ?_; unfold aR; omega)|(refine dW ?_; unfold aR; omega)|(refine er ?_; unfold aR; omega)))
  | (refine (And.intro (fun _=>?_) (fun _=>?_):(_->_)/\(_->_))<;>(first|(exfalso; omega)|skip)))
theorem zW (s:RS) (hs:qL s) (c:Int):ah gT 15 [pf s,.int .i64 c] (.bool (aR s c)):=by
 by_cases h:c < 0\/13 < c
 ·exact BQ s c h
 ·exact FC s hs c (by omega) (by omega)
structure FD (s:RS):Prop where
 r:∀ k,aP (s.R k)
 n:0<=s.N
 z:0<=s.Z
 c:0<=s.C
 v:0<=s.V
theorem FD.ok {s:RS} (h:FD s):qL (tx s):=vk h.r h.n h.z h.c h.v
theorem aag (x:XS) (fl:List Int) (L:List (Int × Int)) (h:DOk x):ah gT 115 [mW x fl L] (mW (cT x) fl L):=by
 have hx:=h.ok
 have ht:=h.taken
 have g15:=iI x fl L 15 (by decide) (by decide)
 have g15t:=iI (jD x) fl L 15 (by decide) (by decide)
 have gm:=iI x fl L x.i.rm hx.rm.1 hx.rm.2
 have kb:=Px x fl L (al x x.i.rm) (aX hx _) h.code
 have kh:=zW x.s ⟨hx.r,hx.n,hx.z,hx.c,hx.v⟩ x.i.cond
 refine Spec.enter ar P115 100 Tryz.func115 rfl (by kernel_rfl) ?_
 by_cases a:x.i.form=46\/x.i.form=99
 ·have hc:cj x.i.form=1:=by unfold cj; rw[if_pos a]
  unfold cT
  rw[if_pos hc]
  by_cases hv:aR x.s x.i.cond
  ·rw[if_pos hv]
   repeat' (refine (And.intro (fun _=>?_) (fun _=>?_):(_->_)/\(_->_))<;>(first|(exfalso; omega)|(exfalso; exact ht (by assumption))|skip))
   all_goals refine (kh).u ?_
   all_goals repeat' (refine (And.intro (fun _=>?_) (fun _=>?_):(_->_)/\(_->_))<;>(first|(exfalso; omega)|(exfalso; contradiction)|(exfalso; exact ht (by assumption))|skip))
   all_goals refine .inr ?_
   all_goals refine (g15t).u ?_
   all_goals refine .inr ?_
   all_goals repeat' (refine (And.intro (fun _=>?_) (fun _=>?_):(_->_)/\(_->_))<;>(first|(exfalso; omega)|(exfalso; exact ht (by assumption))|skip))
   all_goals exact ao (aQ rfl)
  ·rw[if_neg hv]
   repeat' (refine (And.intro (fun _=>?_) (fun _=>?_):(_->_)/\(_->_))<;>(first|(exfalso; omega)|(exfalso; exact ht (by assumption))|skip))
   all_goals refine (kh).u ?_
   all_goals repeat' (refine (And.intro (fun _=>?_) (fun _=>?_):(_->_)/\(_->_))<;>(first|(exfalso; omega)|(exfalso; contradiction)|(exfalso; exact ht (by assumption))|skip))
   all_goals exact ao (aQ rfl)
 by_cases b:x.i.form=47\/x.i.form=100
 ·have hc:cj x.i.form=2:=by unfold cj; rw[if_neg a,if_pos b]
  have e:cT x=cg x 15 (IntKind.u32.wrap (al x 15+(IntKind.u32.wrap x.i.av))):=by unfold cT; rw[if_neg (by rw[hc]; decide),if_pos hc]
  rw[e]
  repeat' (refine (And.intro (fun _=>?_) (fun _=>?_):(_->_)/\(_->_))<;>(first|(exfalso; omega)|(exfalso; exact ht (by assumption))|skip))
  all_goals refine .inr ?_
  all_goals refine (g15).u ?_
  all_goals refine .inr ?_
  all_goals repeat' (refine (And.intro (fun _=>?_) (fun _=>?_):(_->_)/\(_->_))<;>(first|(exfalso; omega)|(exfalso; exact ht (by assumption))|skip))
  all_goals exact ao (aQ rfl)
 by_cases c:x.i.form=31
 ·have hc:cj x.i.form=3:=by rw[c]; rfl
  have e:cT x=fo x (al x x.i.rm):=by unfold cT; rw[if_neg (by rw[hc]; decide),if_neg (by rw[hc]; decide),if_pos hc]
  rw[e]
  repeat' (refine (And.intro (fun _=>?_) (fun _=>?_):(_->_)/\(_->_))<;>(first|(exfalso; omega)|(exfalso; exact ht (by assumption))|skip))
  refine (gm).u ?_
  refine (kb).u ?_
  repeat' (refine (And.intro (fun _=>?_) (fun _=>?_):(_->_)/\(_->_))<;>(first|(exfalso; omega)|skip))
  exact ao (aQ rfl)
 by_cases d:x.i.form=45
 ·have hc:cj x.i.form=4:=by rw[d]; rfl
  have e:cT x = { x with kind:=2,code:=x.i.av }:=by unfold cT; rw[if_neg (by rw[hc]; decide),if_neg (by rw[hc]; decide),if_neg (by rw[hc]; decide),if_pos hc]
  rw[e]
  repeat' (refine (And.intro (fun _=>?_) (fun _=>?_):(_->_)/\(_->_))<;>(first|(exfalso; omega)|(exfalso; exact ht (by assumption))|skip))
  exact rA
 ·have hc:cj x.i.form=0:=by unfold cj; rw[if_neg a,if_neg b,if_neg c,if_neg d]
  have e:cT x=x:=by unfold cT; rw[if_neg (by rw[hc]; decide),if_neg (by rw[hc]; decide),if_neg (by rw[hc]; decide),if_neg (by rw[hc]; decide)]
  rw[e]
  repeat' (refine (And.intro (fun _=>?_) (fun _=>?_):(_->_)/\(_->_))<;>(first|(exfalso; omega)|(exfalso; exact ht (by assumption))|skip))
  exact ao (aQ rfl)
theorem N3 {v:Int} (n:Int) (h:aP v):bits .or .u32 (bits .and .u32 v 65535) (IntKind.u32.wrap (IntKind.u32.wrap n*Ev.aD .u32 16))=IntKind.u32.wrap (v % 65536+IntKind.u32.wrap (IntKind.u32.wrap n*65536)):=by
 have e1:bits .and .u32 v 65535=v % 65536:=by
  obtain⟨h0,h1⟩:=h
  rw[u32_and v 65535 h0 (by omega) (by decide) (by decide),show (65535:Int).toNat=2 ^ 16 - 1 by decide,Nat.and_two_pow_sub_one_eq_mod]
  omega
 have e2:Ev.aD .u32 16=65536:=by decide
 have e3:=IntKind.wrap_u32' (IntKind.u32.wrap n*65536)
 have e4:=IntKind.wrap_u32' n
 rw[e1,e2]
 have e5:IntKind.u32.wrap (IntKind.u32.wrap n*65536)=IntKind.u32.wrap n % 65536*2 ^ 16:=by omega
 rw[e5,(fR (v % 65536) (IntKind.u32.wrap n % 65536) 16 (by decide) (by omega) (by omega)).1]
 have e6:=IntKind.wrap_u32' (v % 65536+IntKind.u32.wrap n % 65536*2 ^ 16)
 omega
theorem aah (x:XS) (fl:List Int) (L:List (Int × Int)) (hx:iX x):ah gT 114 [mW x fl L] (mW (ch x) fl L):=by
 have gd:=iI x fl L x.i.rd hx.rd.1 hx.rd.2
 have gn:=iI x fl L x.i.rn hx.rn.1 hx.rn.2
 have gm:=iI x fl L x.i.rm hx.rm.1 hx.rm.2
 have bm:=aX hx x.i.rm
 have bd:=aX hx x.i.rd
 have hd:=hx.rd
 refine Spec.enter ar P114 100 Tryz.func114 rfl (by kernel_rfl) ?_
 refine .inr ?_
 by_cases a:x.i.form=28
 ·rw[zA (show br x.i.form=1 by rw[a]; rfl)]
  repeat' (refine (And.intro (fun _=>?_) (fun _=>?_):(_->_)/\(_->_))<;>(first|(exfalso; omega)|skip))
  refine (gd).u ?_
  refine (gm).u ?_
  refine .inr ?_
  refine⟨hd.1,show x.i.rd < 16 by omega,?_⟩
  refine⟨16,hd.1,show x.i.rd < 16 by omega,show 13+x.i.rd.toNat*1 < 42 by omega,?_⟩
  have bv:aP (IntKind.u32.wrap (al x x.i.rd+al x x.i.rm)):=wrap_u32 _
  generalize IntKind.u32.wrap (al x x.i.rd+al x x.i.rm)=v at bv ⊢
  by_cases Kg:x.i.rd=13
  ·rw[show dM x.i.rd v=v / 4*4 by unfold dM; rw[if_pos Kg,BJ bv]]
   repeat' (refine (And.intro (fun _=>?_) (fun _=>?_):(_->_)/\(_->_))<;>(first|(exfalso; omega)|skip))
   obtain⟨⟨form,rd,rn,rm,ra,av,kind,bG,set,cond,an⟩,s,at_,taken,a',b',data,words,aai,code⟩:=x
   have VL:rd=13:=Kg
   subst VL
   refine⟨by decide,.inl ⟨bv.1,show v<=4294967295 by have:=bv.2; omega,by decide,?_⟩⟩
   refine lu ?_ (show 0<=v / 4*4/\v / 4*4<=4294967295 by have:=bv.2; have:=bv.1; omega)
   repeat' (refine (And.intro (fun _=>?_) (fun _=>?_):(_->_)/\(_->_))<;>(first|(exfalso; omega)|skip))
   exact ao (aQ rfl)
  ·rw[show dM x.i.rd v=v by unfold dM; rw[if_neg Kg]]
   repeat' (refine (And.intro (fun _=>?_) (fun _=>?_):(_->_)/\(_->_))<;>(first|(exfalso; omega)|skip))
   exact ao (aQ rfl)
 by_cases b:x.i.form=30
 ·rw[zB (show br x.i.form=2 by rw[b]; rfl)]
  repeat' (refine (And.intro (fun _=>?_) (fun _=>?_):(_->_)/\(_->_))<;>(first|(exfalso; omega)|skip))
  refine (gm).u ?_
  refine⟨hd.1,show x.i.rd < 16 by omega,?_⟩
  refine⟨16,hd.1,show x.i.rd < 16 by omega,show 13+x.i.rd.toNat*1 < 42 by omega,?_⟩
  have bv:aP (al x x.i.rm):=bm
  generalize al x x.i.rm=v at bv ⊢
  by_cases Kg:x.i.rd=13
  ·rw[show dM x.i.rd v=v / 4*4 by unfold dM; rw[if_pos Kg,BJ bv]]
   repeat' (refine (And.intro (fun _=>?_) (fun _=>?_):(_->_)/\(_->_))<;>(first|(exfalso; omega)|skip))
   obtain⟨⟨form,rd,rn,rm,ra,av,kind,bG,set,cond,an⟩,s,at_,taken,a',b',data,words,aai,code⟩:=x
   have VL:rd=13:=Kg
   subst VL
   refine⟨by decide,.inl ⟨bv.1,show v<=4294967295 by have:=bv.2; omega,by decide,?_⟩⟩
   refine lu ?_ (show 0<=v / 4*4/\v / 4*4<=4294967295 by have:=bv.2; have:=bv.1; omega)
   repeat' (refine (And.intro (fun _=>?_) (fun _=>?_):(_->_)/\(_->_))<;>(first|(exfalso; omega)|skip))
   exact ao (aQ rfl)
  ·rw[show dM x.i.rd v=v by unfold dM; rw[if_neg Kg]]
   repeat' (refine (And.intro (fun _=>?_) (fun _=>?_):(_->_)/\(_->_))<;>(first|(exfalso; omega)|skip))
   exact ao (aQ rfl)
 by_cases hqc:x.i.form=48
 ·rw[zC (show br x.i.form=3 by rw[hqc]; rfl)]
  repeat' (refine (And.intro (fun _=>?_) (fun _=>?_):(_->_)/\(_->_))<;>(first|(exfalso; omega)|skip))
  refine⟨hd.1,show x.i.rd < 16 by omega,?_⟩
  refine⟨16,hd.1,show x.i.rd < 16 by omega,show 13+x.i.rd.toNat*1 < 42 by omega,?_⟩
  repeat' (refine (And.intro (fun _=>?_) (fun _=>?_):(_->_)/\(_->_))<;>(first|(exfalso; omega)|skip))
  exact ao (aQ rfl)
 by_cases hqd:x.i.form=49
 ·rw[zD (show br x.i.form=4 by rw[hqd]; rfl),N3 _ bd]
  repeat' (refine (And.intro (fun _=>?_) (fun _=>?_):(_->_)/\(_->_))<;>(first|(exfalso; omega)|skip))
  refine (gd).u ?_
  refine⟨by decide,.inl ⟨bd.1,by decide,?_⟩⟩
  refine .inr ?_
  refine .inr ?_
  refine⟨hd.1,show x.i.rd < 16 by omega,?_⟩
  refine⟨16,hd.1,show x.i.rd < 16 by omega,show 13+x.i.rd.toNat*1 < 42 by omega,?_⟩
  repeat' (refine (And.intro (fun _=>?_) (fun _=>?_):(_->_)/\(_->_))<;>(first|(exfalso; omega)|skip))
  exact ao (aQ rfl)
 by_cases hqe:x.i.form=82
 ·rw[zE (show br x.i.form=5 by rw[hqe]; rfl)]
  repeat' (refine (And.intro (fun _=>?_) (fun _=>?_):(_->_)/\(_->_))<;>(first|(exfalso; omega)|skip))
  refine (gn).u ?_
  refine .inr ?_
  refine⟨hd.1,show x.i.rd < 16 by omega,?_⟩
  refine⟨16,hd.1,show x.i.rd < 16 by omega,show 13+x.i.rd.toNat*1 < 42 by omega,?_⟩
  repeat' (refine (And.intro (fun _=>?_) (fun _=>?_):(_->_)/\(_->_))<;>(first|(exfalso; omega)|skip))
  exact ao (aQ rfl)
 by_cases hqf:x.i.form=83
 ·rw[zF (show br x.i.form=6 by rw[hqf]; rfl)]
  repeat' (refine (And.intro (fun _=>?_) (fun _=>?_):(_->_)/\(_->_))<;>(first|(exfalso; omega)|skip))
  refine (gn).u ?_
  refine .inr ?_
  refine⟨hd.1,show x.i.rd < 16 by omega,?_⟩
  refine⟨16,hd.1,show x.i.rd < 16 by omega,show 13+x.i.rd.toNat*1 < 42 by omega,?_⟩
  repeat' (refine (And.intro (fun _=>?_) (fun _=>?_):(_->_)/\(_->_))<;>(first|(exfalso; omega)|skip))
  exact ao (aQ rfl)
 by_cases hqg:x.i.form=39
 ·rw[zG (show br x.i.form=7 by rw[hqg]; rfl)]
  repeat' (refine (And.intro (fun _=>?_) (fun _=>?_):(_->_)/\(_->_))<;>(first|(exfalso; omega)|skip))
  refine .inr ?_
  refine⟨hd.1,show x.i.rd < 16 by omega,?_⟩
  refine⟨16,hd.1,show x.i.rd < 16 by omega,show 13+x.i.rd.toNat*1 < 42 by omega,?_⟩
  repeat' (refine (And.intro (fun _=>?_) (fun _=>?_):(_->_)/\(_->_))<;>(first|(exfalso; omega)|skip))
  exact ao (aQ rfl)
 by_cases hqh:x.i.form=40
 ·rw[zH (show br x.i.form=8 by rw[hqh]; rfl)]
  repeat' (refine (And.intro (fun _=>?_) (fun _=>?_):(_->_)/\(_->_))<;>(first|(exfalso; omega)|skip))
  refine .inr ?_
  repeat' (refine (And.intro (fun _=>?_) (fun _=>?_):(_->_)/\(_->_))<;>(first|(exfalso; omega)|skip))
  exact ao (aQ rfl)
 by_cases hqi:x.i.form=41
 ·rw[zI (show br x.i.form=9 by rw[hqi]; rfl)]
  repeat' (refine (And.intro (fun _=>?_) (fun _=>?_):(_->_)/\(_->_))<;>(first|(exfalso; omega)|skip))
  refine .inr ?_
  repeat' (refine (And.intro (fun _=>?_) (fun _=>?_):(_->_)/\(_->_))<;>(first|(exfalso; omega)|skip))
  exact ao (aQ rfl)
 ·have e:ch x=x:=by
   by_cases ZU:x.i.form=44
   ·exact vc (by rw[ZU]; rfl)
   ·exact l8 (by unfold br; rw[if_neg a,if_neg b,if_neg hqc,if_neg hqd,if_neg hqe,if_neg hqf,if_neg hqg,if_neg hqh,if_neg hqi,if_neg ZU])
  rw[e]
  repeat' (refine (And.intro (fun _=>?_) (fun _=>?_):(_->_)/\(_->_))<;>(first|(exfalso; omega)|skip))
  exact ao (aQ rfl)
theorem pT (n:Int):IntKind.u64.wrap n=n % 18446744073709551616:=by simp[IntKind.wrap,IntKind.bits,IntKind.signed]
theorem DG {a b:Int} (ha:aP a) (hb:aP b):0<=a*b/\a*b<=18446744065119617025:=by
 have h1:0<=a*b:=Int.mul_nonneg ha.1 hb.1
 have h2:a*b<=4294967295*4294967295:=Int.mul_le_mul (by have:=ha.2; omega) (by have:=hb.2; omega) hb.1 (by decide)
 omega
theorem VM {p d a:Int} (hp:0<=p/\p<=18446744065119617025) (hd:aP d) (ha:aP a) :
  Rm.eD (p % 4294967296) d 0=IntKind.u64.wrap (IntKind.u64.wrap (p+a*4294967296)+d) % 4294967296 /\
  Rm.eD (p / 4294967296) a (Rm.iB (p % 4294967296) d 0)=IntKind.u64.wrap (IntKind.u64.wrap (p+a*4294967296)+d) / 4294967296:=by
 obtain⟨d0,d1⟩:=hd
 obtain⟨a0,a1⟩:=ha
 rw[pT,pT]
 unfold Rm.eD Rm.iB Rm.lP
 omega
theorem N4 (R:Nat->Int) (r v w:Int):s_ (s_ R r v) r w=s_ R r w:=by
 funext m
 unfold s_
 split<;>rfl
theorem N5 (x:XS) (r v w:Int):cg (cg x r v) r w=cg x r w:=by
 show ({ x with s:={ x.s with R:=s_ (s_ x.s.R r v) r w } }:XS)=_
 rw[N4]
 rfl
theorem VN {v w:Int} (hv:aP v) (hw:aP w):IntKind.u32.wrap (v / max w 1*min w 1)=if 0 < w then v / w else 0:=by
 obtain⟨v0,v1⟩:=hv
 obtain⟨w0,w1⟩:=hw
 have e:=IntKind.wrap_u32' (v / max w 1*min w 1)
 by_cases h:0 < w
 ·rw[if_pos h,e,show max w 1=w by omega,show min w 1=1 by omega,Int.mul_one]
  have h1:0<=v / w:=Int.ediv_nonneg v0 w0
  have h2:v / w<=v:=Int.ediv_le_self w v0
  omega
 ·rw[if_neg h,e,show min w 1=0 by omega,Int.mul_zero]
  decide
theorem JE (x:XS) (fl:List Int) (L:List (Int × Int)) (hx:iX x):ah gT 113 [mW x fl L] (mW (dm x) fl L):=by
 have gd:=iI x fl L x.i.rd hx.rd.1 hx.rd.2
 have gn:=iI x fl L x.i.rn hx.rn.1 hx.rn.2
 have gm:=iI x fl L x.i.rm hx.rm.1 hx.rm.2
 have ga:=iI x fl L x.i.ra hx.ra.1 hx.ra.2
 have bd:=aX hx x.i.rd
 have bn:=aX hx x.i.rn
 have bm:=aX hx x.i.rm
 have ba:=aX hx x.i.ra
 have pb:=DG bn bm
 have qb:=DG bd bm
 have ub:∀ {z:Int},aP z->tS .u64 z:=fun h=>bV (by have:=h.1; have:=h.2; omega)
 have hd:=hx.rd
 have ha:=hx.ra
 have nzq:=F4 x fl L (al x x.i.rd*al x x.i.rm % 4294967296) ⟨by omega,by omega⟩
 have klen:=pN (al x x.i.rm) bm
 refine Spec.enter ar P113 100 Tryz.func113 rfl (by kernel_rfl) ?_
 refine (gn).u ?_
 refine (gm).u ?_
 refine .inl ⟨ub bn,?_⟩
 refine .inl ⟨ub bm,?_⟩
 refine .inl ⟨bV (show 0<=al x x.i.rn*al x x.i.rm/\al x x.i.rn*al x x.i.rm<=18446744073709551615 by omega),?_⟩
 by_cases hqa:x.i.form=25
 ·rw[Di (show bg x.i.form=1 by rw[hqa]; rfl)]
  rw[show IntKind.u32.wrap (al x x.i.rd*al x x.i.rm)=al x x.i.rd*al x x.i.rm % 4294967296 from IntKind.wrap_u32' _]
  repeat' (refine (And.intro (fun _=>?_) (fun _=>?_):(_->_)/\(_->_))<;>(first|(exfalso; omega)|skip))
  refine (gd).u ?_
  refine .inl ⟨ub bd,?_⟩
  refine .inl ⟨ub bm,?_⟩
  refine .inl ⟨bV (show 0<=al x x.i.rd*al x x.i.rm/\al x x.i.rd*al x x.i.rm<=18446744073709551615 by omega),?_⟩
  refine⟨by decide,.inl ⟨qb.1,by decide,?_⟩⟩
  refine lu ?_ (show 0<=al x x.i.rd*al x x.i.rm % 4294967296/\al x x.i.rd*al x x.i.rm % 4294967296<=4294967295 by omega)
  refine (nzq).u ?_
  repeat' (refine (And.intro (fun _=>?_) (fun _=>?_):(_->_)/\(_->_))<;>(first|(exfalso; omega)|skip))
  refine⟨by decide,.inl ⟨qb.1,by decide,?_⟩⟩
  refine lu ?_ (show 0<=al x x.i.rd*al x x.i.rm % 4294967296/\al x x.i.rd*al x x.i.rm % 4294967296<=4294967295 by omega)
  refine⟨hd.1,show x.i.rd < 16 by omega,?_⟩
  refine⟨16,hd.1,show x.i.rd < 16 by omega,show 13+x.i.rd.toNat*1 < 42 by omega,?_⟩
  repeat' (refine (And.intro (fun _=>?_) (fun _=>?_):(_->_)/\(_->_))<;>(first|(exfalso; omega)|skip))
  exact ao (aQ rfl)
 by_cases hqb_:x.i.form=92
 ·rw[Dj (show bg x.i.form=2 by rw[hqb_]; rfl)]
  repeat' (refine (And.intro (fun _=>?_) (fun _=>?_):(_->_)/\(_->_))<;>(first|(exfalso; omega)|skip))
  refine⟨by decide,.inl ⟨pb.1,by decide,?_⟩⟩
  refine lu ?_ (show 0<=al x x.i.rn*al x x.i.rm % 4294967296/\al x x.i.rn*al x x.i.rm % 4294967296<=4294967295 by omega)
  refine⟨hd.1,show x.i.rd < 16 by omega,?_⟩
  refine⟨16,hd.1,show x.i.rd < 16 by omega,show 13+x.i.rd.toNat*1 < 42 by omega,?_⟩
  repeat' (refine (And.intro (fun _=>?_) (fun _=>?_):(_->_)/\(_->_))<;>(first|(exfalso; omega)|skip))
  exact ao (aQ rfl)
 by_cases hqc:x.i.form=93
 ·rw[Dk (show bg x.i.form=3 by rw[hqc]; rfl)]
  repeat' (refine (And.intro (fun _=>?_) (fun _=>?_):(_->_)/\(_->_))<;>(first|(exfalso; omega)|skip))
  refine⟨by decide,.inl ⟨pb.1,by decide,?_⟩⟩
  refine lu ?_ (show 0<=al x x.i.rn*al x x.i.rm % 4294967296/\al x x.i.rn*al x x.i.rm % 4294967296<=4294967295 by omega)
  refine (ga).u ?_
  refine .inr ?_
  refine⟨hd.1,show x.i.rd < 16 by omega,?_⟩
  refine⟨16,hd.1,show x.i.rd < 16 by omega,show 13+x.i.rd.toNat*1 < 42 by omega,?_⟩
  repeat' (refine (And.intro (fun _=>?_) (fun _=>?_):(_->_)/\(_->_))<;>(first|(exfalso; omega)|skip))
  exact ao (aQ rfl)
 by_cases hqd:x.i.form=94
 ·rw[Dl (show bg x.i.form=4 by rw[hqd]; rfl)]
  repeat' (refine (And.intro (fun _=>?_) (fun _=>?_):(_->_)/\(_->_))<;>(first|(exfalso; omega)|skip))
  refine⟨by decide,.inl ⟨pb.1,by decide,?_⟩⟩
  refine lu ?_ (show 0<=al x x.i.rn*al x x.i.rm % 4294967296/\al x x.i.rn*al x x.i.rm % 4294967296<=4294967295 by omega)
  refine (ga).u ?_
  refine .inr ?_
  refine⟨hd.1,show x.i.rd < 16 by omega,?_⟩
  refine⟨16,hd.1,show x.i.rd < 16 by omega,show 13+x.i.rd.toNat*1 < 42 by omega,?_⟩
  repeat' (refine (And.intro (fun _=>?_) (fun _=>?_):(_->_)/\(_->_))<;>(first|(exfalso; omega)|skip))
  exact ao (aQ rfl)
 by_cases hqe:x.i.form=95
 ·rw[Dm (show bg x.i.form=5 by rw[hqe]; rfl)]
  unfold qq
  repeat' (refine (And.intro (fun _=>?_) (fun _=>?_):(_->_)/\(_->_))<;>(first|(exfalso; omega)|skip))
  refine⟨by decide,.inl ⟨pb.1,by decide,?_⟩⟩
  refine lu ?_ (show 0<=al x x.i.rn*al x x.i.rm % 4294967296/\al x x.i.rn*al x x.i.rm % 4294967296<=4294967295 by omega)
  refine⟨hd.1,show x.i.rd < 16 by omega,?_⟩
  refine⟨16,hd.1,show x.i.rd < 16 by omega,show 13+x.i.rd.toNat*1 < 42 by omega,?_⟩
  refine⟨by decide,.inl ⟨pb.1,show al x x.i.rn*al x x.i.rm<=18446744073709551615 by omega,by decide,?_⟩⟩
  refine lu ?_ (show 0<=al x x.i.rn*al x x.i.rm / 4294967296/\al x x.i.rn*al x x.i.rm / 4294967296<=4294967295 by omega)
  refine⟨ha.1,show x.i.ra < 16 by omega,?_⟩
  refine⟨16,ha.1,show x.i.ra < 16 by omega,show 13+x.i.ra.toNat*1 < 42 by omega,?_⟩
  repeat' (refine (And.intro (fun _=>?_) (fun _=>?_):(_->_)/\(_->_))<;>(first|(exfalso; omega)|skip))
  exact ao (aQ rfl)
 by_cases hqf:x.i.form=96
 ·have e:=VM (p:=al x x.i.rn*al x x.i.rm) pb bd ba
  rw[Dn (show bg x.i.form=6 by rw[hqf]; rfl),e.1,e.2]
  unfold qq
  repeat' (refine (And.intro (fun _=>?_) (fun _=>?_):(_->_)/\(_->_))<;>(first|(exfalso; omega)|skip))
  refine (ga).u ?_
  refine .inl ⟨ub ba,?_⟩
  refine .inl ⟨bV (show 0<=al x x.i.ra*4294967296/\al x x.i.ra*4294967296<=18446744073709551615 by have:=ba.1; have:=ba.2; omega),?_⟩
  refine .inr ?_
  refine (gd).u ?_
  refine .inl ⟨ub bd,?_⟩
  refine .inr ?_
  have tb:0<=IntKind.u64.wrap (IntKind.u64.wrap (al x x.i.rn*al x x.i.rm+al x x.i.ra*4294967296)+al x x.i.rd)/\IntKind.u64.wrap (IntKind.u64.wrap (al x x.i.rn*al x x.i.rm+al x x.i.ra*4294967296)+al x x.i.rd)<=18446744073709551615:=by rw[pT]; omega
  generalize IntKind.u64.wrap (IntKind.u64.wrap (al x x.i.rn*al x x.i.rm+al x x.i.ra*4294967296)+al x x.i.rd)=t at tb ⊢
  repeat' (refine (And.intro (fun _=>?_) (fun _=>?_):(_->_)/\(_->_))<;>(first|(exfalso; omega)|skip))
  refine⟨by decide,.inl ⟨tb.1,by decide,?_⟩⟩
  refine lu ?_ (show 0<=t % 4294967296/\t % 4294967296<=4294967295 by omega)
  refine⟨hd.1,show x.i.rd < 16 by omega,?_⟩
  refine⟨16,hd.1,show x.i.rd < 16 by omega,show 13+x.i.rd.toNat*1 < 42 by omega,?_⟩
  refine⟨by decide,.inl ⟨tb.1,show t<=18446744073709551615 by omega,by decide,?_⟩⟩
  refine lu ?_ (show 0<=t / 4294967296/\t / 4294967296<=4294967295 by omega)
  refine⟨ha.1,show x.i.ra < 16 by omega,?_⟩
  refine⟨16,ha.1,show x.i.ra < 16 by omega,show 13+x.i.ra.toNat*1 < 42 by omega,?_⟩
  repeat' (refine (And.intro (fun _=>?_) (fun _=>?_):(_->_)/\(_->_))<;>(first|(exfalso; omega)|skip))
  exact ao (aQ rfl)
 by_cases hqg:x.i.form=97
 ·rw[Dp (show bg x.i.form=7 by rw[hqg]; rfl),VN bn bm]
  repeat' (refine (And.intro (fun _=>?_) (fun _=>?_):(_->_)/\(_->_))<;>(first|(exfalso; omega)|skip))
  by_cases hw:0 < al x x.i.rm
  ·rw[if_pos hw,← N5 _ _ 0]
   refine⟨hd.1,show x.i.rd < 16 by omega,?_⟩
   refine⟨16,hd.1,show x.i.rd < 16 by omega,show 13+x.i.rd.toNat*1 < 42 by omega,?_⟩
   refine⟨fun _=>?_,fun h=>absurd hw h⟩
   refine⟨show al x x.i.rm≠0 by omega,.inl ⟨bn.1,show al x x.i.rn<=4294967295 by have:=bn.2; omega,hw,?_⟩⟩
   refine⟨hd.1,show x.i.rd < 16 by omega,?_⟩
   refine⟨16,hd.1,show x.i.rd < 16 by omega,show 13+x.i.rd.toNat*1 < 42 by omega,?_⟩
   repeat' (refine (And.intro (fun _=>?_) (fun _=>?_):(_->_)/\(_->_))<;>(first|(exfalso; omega)|skip))
   exact ao (aQ rfl)
  ·rw[if_neg hw]
   refine⟨hd.1,show x.i.rd < 16 by omega,?_⟩
   refine⟨16,hd.1,show x.i.rd < 16 by omega,show 13+x.i.rd.toNat*1 < 42 by omega,?_⟩
   refine⟨fun h=>absurd h hw,fun _=>?_⟩
   repeat' (refine (And.intro (fun _=>?_) (fun _=>?_):(_->_)/\(_->_))<;>(first|(exfalso; omega)|skip))
   exact rA
 by_cases hqh:x.i.form=98
 ·rw[Dq (show bg x.i.form=8 by rw[hqh]; rfl)]
  repeat' (refine (And.intro (fun _=>?_) (fun _=>?_):(_->_)/\(_->_))<;>(first|(exfalso; omega)|skip))
  have FV:Lib.bitLen (al x x.i.rm).toNat<=32:=Rm.jl _ (by have:=bm.1; have:=bm.2; omega)
  refine (klen).u ?_
  refine li ?_ (show _<=32 - ((Lib.bitLen (al x x.i.rm).toNat:Nat):Int)/\32 - ((Lib.bitLen (al x x.i.rm).toNat:Nat):Int)<=_ by omega)
  refine .inr ?_
  refine⟨hd.1,show x.i.rd < 16 by omega,?_⟩
  refine⟨16,hd.1,show x.i.rd < 16 by omega,show 13+x.i.rd.toNat*1 < 42 by omega,?_⟩
  repeat' (refine (And.intro (fun _=>?_) (fun _=>?_):(_->_)/\(_->_))<;>(first|(exfalso; omega)|skip))
  exact ao (aQ rfl)
 ·rw[rz (show bg x.i.form=0 by unfold bg; rw[if_neg hqa,if_neg hqb_,if_neg hqc,if_neg hqd,if_neg hqe,if_neg hqf,if_neg hqg,if_neg hqh])]
  repeat' (refine (And.intro (fun _=>?_) (fun _=>?_):(_->_)/\(_->_))<;>(first|(exfalso; omega)|skip))
  exact ao (aQ rfl)
end Go.Proofs.YtnbngokbamifbaaGreatDoor.Pw

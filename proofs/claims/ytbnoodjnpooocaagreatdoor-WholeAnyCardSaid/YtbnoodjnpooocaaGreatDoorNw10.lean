/- What this claim is proved with: no condition. -/
import Derived.Test.YtbnoodjnpooocaaGreatDoorNw9
import Derived.Maps.Views
import Derived.Carry
import Derived.RangeFuncNested
import Derived.RangeFuncBound
import Derived.RangeFuncCalls
import Derived.RangeFuncLeaves
import Derived.RangeFuncFrom
import Derived.TacticsIn
set_option linter.unusedVariables false
set_option linter.unusedSimpArgs false
namespace Go.Proofs.YtbnoodjnpooocaaGreatDoor.Pw
open Go Go.RowKit
def u9 (π:ia) (b:aj) (q:aj->Prop):Prop:=match b with
 | ⟨.dyn,ty,n,m,live,cs⟩=>q ⟨.dyn,ty,n,m,live,cs⟩
 | ⟨.mp,ty,n,m,live,cs⟩=>q ⟨.mp,ty,n,m,live,cs⟩
 | ⟨k,ty,n,m,live,cs⟩=>aU (f_ π cs) fun cs=>q ⟨k,ty,n,m,live,cs⟩
def atK (π:ia) (st:List aj):List Nat->List aj->Prop->Prop
 | [],[],k=>k
 | l::σ,b'::S,k=>(aU st[l]? fun b=>u9 π b' fun lP=>gN b lP)/\atK π st σ S k
 | _,_,_=>False
def YI (π:ia):List Nat->List aj->List aj->(List aj->Prop)->Prop
 | [],[],st,k=>k st
 | l::σ,b'::S,st,k=>u9 π b' fun lP=>ZC lP fun lP=>oB st l lP fun st=>YI π σ S st k
 | _,_,_,_=>False
def JF (π:ia):List PV->List PV->Prop
 | [],[]=>True
 | x::xs,y::ys=>(aU (y.MF π) fun z=>ma x z)/\JF π xs ys
 | _,_=>False
def mv:List Nat->Bool
 | []=>true
 | l::σ=>!σ.any (Nat.beq l) && mv σ
section
variable {w w':World} {I I':Nat->Prop} {β ay:an} {G:Gx} {s:aD} {a:Act} {st dY:List aj}
theorem x8 {π:ia} {b:aj} {q:aj->Prop} (h:u9 π b q):∃ b2,q b2/\b2.k=b.k/\b2.ty=b.ty/\b2.size=b.size/\b2.m=b.m/\b2.live=b.live/\((b.k.vp=false/\b2.cs=b.cs)\/(b.k.vp=true/\f_ π b.cs=some b2.cs)):=by
 obtain⟨k,ty,n,m,live,cs⟩:=b
 cases k
 ·obtain⟨ds,h1,h2⟩:=ao h
  exact⟨_,h2,rfl,rfl,rfl,rfl,rfl,.inr ⟨rfl,h1⟩⟩
 ·obtain⟨ds,h1,h2⟩:=ao h
  exact⟨_,h2,rfl,rfl,rfl,rfl,rfl,.inr ⟨rfl,h1⟩⟩
 ·exact⟨_,h,rfl,rfl,rfl,rfl,rfl,.inl ⟨rfl,rfl⟩⟩
 ·exact⟨_,h,rfl,rfl,rfl,rfl,rfl,.inl ⟨rfl,rfl⟩⟩
 ·obtain⟨ds,h1,h2⟩:=ao h
  exact⟨_,h2,rfl,rfl,rfl,rfl,rfl,.inr ⟨rfl,h1⟩⟩
theorem JG {π:ia} {st:List aj}:∀ {σ:List Nat} {S:List aj} {k:Prop},atK π st σ S k->k/\σ.length=S.length/\∀ (i l:Nat) (b':aj),σ[i]?=some l->S[i]?=some b'->∃ b,st[l]?=some b/\u9 π b' fun lP=>gN b lP
 | [],[],k,h=>⟨h,rfl,fun i l b' hl=>by simp at hl⟩
 | l::σ,b'::S,k,h=>by
  obtain⟨h1,h2⟩:=h
  obtain⟨hk,hl,hh⟩:=JG h2
  obtain⟨b,hb,h1⟩:=ao h1
  refine⟨hk,by simp[hl],fun i m c hm hc=>?_⟩
  cases i with
  | zero=>simp at hm hc; subst hm; subst hc; exact⟨b,hb,h1⟩
  | succ i=>exact hh i m c (by simpa using hm) (by simpa using hc)
 | [],_::_,_,h=>h.elim
 | _::_,[],_,h=>h.elim
theorem vR:∀ {σ:List Nat},mv σ=true->∀ (i j l:Nat),σ[i]?=some l->σ[j]?=some l->i=j
 | [],_,i,j,l,h,_=>by simp at h
 | m::σ,h,i,j,l,hi,hj=>by
  simp only[mv,Bool.and_eq_true,Bool.not_eq_true',List.any_eq_false] at h
  have hn:∀ k,σ[k]?=some m->False:=fun k hk=>h.1 m (List.mem_of_getElem? hk) (Nat.beq_refl m)
  cases i with
  | zero=>cases j with
   | zero=>rfl
   | succ j=>simp at hi hj; subst hi; exact (hn j hj).elim
  | succ i=>cases j with
   | zero=>simp at hi hj; subst hj; exact (hn i hi).elim
   | succ j=>simp at hi hj; rw[vR h.2 i j l hi hj]
theorem JH {π:ia}:∀ {σ:List Nat} {S:List aj} {st:List aj} {k:List aj->Prop},mv σ=true->YI π σ S st k->∃ dY,k dY/\dY.length=st.length/\(∀ l,l ∉ σ->dY[l]?=st[l]?)/\∀ (i l:Nat) (b':aj),σ[i]?=some l->S[i]?=some b'->u9 π b' fun lP=>dY[l]?=some lP
 | [],[],st,k,_,h=>⟨st,h,rfl,fun _ _=>rfl,fun i l b' hl=>by simp at hl⟩
 | l::σ,b'::S,st,k,hd,h=>by
  have Y6:=hd
  simp only[mv,Bool.and_eq_true,Bool.not_eq_true',List.any_eq_false] at hd
  have hnm:l ∉ σ:=fun hm=>hd.1 l hm (Nat.beq_refl l)
  
  have key:∀ {c:aj} {q:aj->Prop},(u9 π b' fun lP=>q lP)->∃ b2,q b2/\∀ q2:aj->Prop,q2 b2->u9 π b' q2:=fun {c q} hq=>by
   obtain⟨k0,ty,n,m,live,cs⟩:=b'
   cases k0
   ·obtain⟨ds,h1,h2⟩:=ao hq
    exact⟨_,h2,fun q2 JI=>by show aU (f_ π cs) _; rw[h1]; exact JI⟩
   ·obtain⟨ds,h1,h2⟩:=ao hq
    exact⟨_,h2,fun q2 JI=>by show aU (f_ π cs) _; rw[h1]; exact JI⟩
   ·exact⟨_,hq,fun q2 JI=>JI⟩
   ·exact⟨_,hq,fun q2 JI=>JI⟩
   ·obtain⟨ds,h1,h2⟩:=ao hq
    exact⟨_,h2,fun q2 JI=>by show aU (f_ π cs) _; rw[h1]; exact JI⟩
  obtain⟨b2,h2,JI⟩:=key (c:=b') (q:=fun lP=>ZC lP fun lP=>oB st l lP fun st=>YI π σ S st k) h
  obtain⟨bZ,h3⟩:=jP (BU h2)
  obtain⟨dY,hk,hlen,oI,Df⟩:=JH hd.2 h3
  refine⟨dY,hk,by rw[hlen,List.length_set],fun m hm=>?_,fun i m c hm hc=>?_⟩
  ·rw[oI m (fun hx=>hm (List.mem_cons_of_mem _ hx)),List.getElem?_set_ne (fun e=>hm (by rw[e]; exact List.mem_cons_self))]
  ·cases i with
   | zero =>
    simp at hm hc; subst hm; subst hc
    refine JI _ ?_
    rw[oI l hnm,List.getElem?_set_self bZ]
   | succ i=>exact Df i m c (by simpa using hm) (by simpa using hc)
 | [],_::_,_,_,_,h=>h.elim
 | _::_,[],_,_,_,h=>h.elim
theorem DV {π:ia}:∀ {xs ys:List PV} {vs:List Value},JF π xs ys->bg w I xs β vs->bg w I ys (jx β π) vs
 | [],[],vs,_,h=>by cases vs with
  | nil=>simp only[bg]
  | cons v vs=>simp only[bg] at h
 | x::xs,y::ys,vs,h,hx=>by
  cases vs with
  | nil=>simp only[bg] at hx
  | cons v vs =>
   simp only[bg] at hx ⊢
   obtain⟨z,hz,hle⟩:=ao h.1
   exact⟨Im hz (fp hle _ _ _ _ hx.1),DV h.2 hx.2⟩
 | [],_::_,_,h,_=>h.elim
 | _::_,[],_,h,_=>h.elim
theorem pz {π:ia} {x y:PV} {v:Value} (h:x.zt π=some y) (hx:x.Is w I (jx β π) v):y.Is w I β v:=by
 unfold PV.zt at h
 split at h
 ·split at h
  ·rename_i m hm
   cases h
   simp only[PV.Is] at hx ⊢
   rw[cG hm] at hx; exact hx
  ·rename_i hm
   cases h
   simp only[PV.Is] at hx ⊢
   obtain⟨p,hp,hv⟩:=hx
   rw[ko hm] at hp; cases hp; exact hv
  ·cases h
 ·split at h
  ·rename_i m hm
   cases h
   simp only[PV.Is] at hx ⊢
   rw[cG hm] at hx; exact hx
  ·cases h
 ·split at h
  ·rename_i m hm
   cases h
   simp only[PV.Is] at hx ⊢
   rw[cG hm] at hx; exact hx
  ·cases h
 ·split at h
  ·rename_i m hm
   cases h
   simp only[PV.Is] at hx ⊢
   rw[cG hm] at hx; exact hx
  ·cases h
 ·split at h
  ·rename_i m hm
   cases h
   simp only[PV.Is] at hx ⊢
   rw[cG hm] at hx; exact hx
  ·cases h
 ·split at h
  ·rename_i m hm
   cases h
   simp only[PV.Is] at hx ⊢
   rw[cG hm] at hx; exact hx
  ·cases h
 ·cases h
 ·cases h
 ·cases h
 ·cases h
 ·cases h
  refine PV.Is.mono (fun _ h=>h) (fun _ _=>rfl) x _ β v (fun l p hl=>?_) hx
  cases x<;>first|(simp_all [PV.df]; done)|(rename_i a1 a2 a3 a4 a5 a6 a7 a8 a9 R4; first|exact (a4 _ _ _ _ rfl).elim|exact (a5 _ _ _ _ rfl).elim|exact (a6 _ _ _ _ rfl).elim)
theorem jC {π:ia}:∀ {xs ys:List PV} {i:Nat},f_ π xs=some ys->(∀ y,ys[i]?=some y->∃ x,xs[i]?=some x/\x.zt π=some y)/\(∀ x,xs[i]?=some x->∃ y,ys[i]?=some y/\x.zt π=some y)/\ys.length=xs.length
 | [],ys,i,h=>by
  simp only[f_,Option.some.injEq] at h
  subst h
  exact⟨fun y hy=>by simp at hy,fun x hx=>by simp at hx,rfl⟩
 | x::xs,ys,i,h=>by
  simp only[f_] at h
  split at h
  ·rename_i y l h1 h2
   cases h
   obtain⟨a1,a2,a3⟩:=jC (i:=i - 1) h2
   cases i with
   | zero=>exact⟨fun z hz=>by simp at hz; subst hz; exact⟨x,rfl,h1⟩,fun z hz=>by simp at hz; subst hz; exact⟨y,rfl,h1⟩,by simp[a3]⟩
   | succ i=>exact⟨fun z hz=>by simpa using a1 z (by simpa using hz),fun z hz=>by simpa using a2 z (by simpa using hz),by simp[a3]⟩
  ·cases h
theorem fF.tr {l l':Nat} {b b':aj} (hb:fF I β st w l b) (ny:∀ p,β l=some p->ay l'=some p) (hI:∀ g,I g->I' g) (hw:∀ g,I g->w'.heap[g]?=w.heap[g]?)
  (hg:∀ p g o,β l=some p->p.a=some (g,o)->w'.heap[g]?=w.heap[g]?) (dh:∀ p g o fr,β l=some p->p.a=some (g,o)->Own I β st l g fr b->Own I' ay dY l' g fr b')
  (hk:b'.k=b.k) (H':b'.ty=b.ty) (eL:b'.size=b.size) (fj:b.k.vp=false->b'.cs=b.cs) (hlen:b'.cs.length=b.cs.length)
  (iP:b.k.vp=true->∀ (arr:Array Value) (o:Nat),bj w I β b.cs arr o->bj w' I' ay b'.cs arr o):fF I' ay dY w' l' b':=by
 obtain⟨p,hp,cm⟩:=hb
 refine⟨p,ny p hp,?_⟩
 rw[hk]
 split at cm
 ·rename_i he
  obtain⟨g,o,arr,ty,fr,ha,hh,hc,ho⟩:=cm
  exact⟨g,o,arr,ty,fr,ha,(hg p g o hp ha).trans hh,iP (by rw[he]; rfl) arr o hc,dh p g o fr hp ha ho⟩
 ·rename_i he
  obtain⟨g,arr,fr,ha,hh,hc,ho,h1,h2,h3,h4,h5⟩:=cm
  exact⟨g,arr,fr,ha,by rw[H']; exact (hg p g 0 hp ha).trans hh,iP (by rw[he]; rfl) arr 0 hc,dh p g 0 fr hp ha ho,by rw[hlen,eL]; exact h1,h2,h3,by rw[eL]; exact h4,by rw[eL]; exact h5⟩
 ·rename_i he
  obtain⟨⟨h1,h2,h3,h4⟩,cm⟩:=cm
  have iW:=fj (by rw[he]; rfl)
  refine⟨⟨by rw[eL]; exact h1,by rw[iW]; exact h2,h3,h4⟩,?_⟩
  rcases cm with h|⟨g,arr,fr,ha,hh,hc,ho,h5⟩
  ·exact .inl h
  ·exact .inr ⟨g,arr,fr,ha,by rw[H']; exact (hg p g 0 hp ha).trans hh,by rw[iW,eL]; exact ca.mono hI hw _ _ _ _ (hg p g 0 hp ha) hc,dh p g 0 fr hp ha ho,by rw[eL]; exact h5⟩
 ·rename_i he
  obtain⟨g,ha,hm,ho⟩:=cm
  have iW:=fj (by rw[he]; rfl)
  exact⟨g,ha,by rw[iW]; exact hm.oH (hg p g 0 hp ha),dh p g 0 _ hp ha ho⟩
 ·rename_i he
  obtain⟨g,es,ck,ha,hh,hc,ho,h1⟩:=cm
  exact⟨g,es,ck,ha,(hg p g 0 hp ha).trans hh,iP (by rw[he]; rfl) _ 0 hc,dh p g 0 _ hp ha ho,by rw[hlen]; exact h1⟩
theorem Spec.useP {f:FuncId} {args args':List PV} {r0:PV} {S0 S1:List aj} {K:PV->List aj->Prop} (σ:List Nat) (h:Spec G f args' S0 [] fun r S'=>r=r0/\S'=S1) (hm:lE S0 S1=true) (Nr:r0.df = []) (hσ:mv σ=true)
  (hle:JF (σ.map some) args args') (hK:atK (σ.map some) st σ S0 (YI (σ.map some) σ S1 st (K r0))):Spec G f args st [] K:=by
 obtain⟨hk,ze,MI⟩:=JG hK
 obtain⟨dY,qn,hlen',oI,Df⟩:=JH hσ hk
 obtain⟨MJ,E0⟩:=pk hm
 have hdup:=vR hσ
 have MH:∀ {i l:Nat},σ[i]?=some l->(σ.map some)[i]?=some (some l):=fun {i l} h=>by rw[List.getElem?_map,h]; rfl
 refine Spec.intro h.run.1 fun I β w vals hH hM hA=>?_
 obtain⟨eU,JJ⟩:∃ eU:an,eU=jx β (σ.map some):=⟨_,rfl⟩
 have ku:∀ {i l:Nat},σ[i]?=some l->eU i=β l:=fun {i l} h=>by rw[JJ]; exact cG (MH h)
 have hβo:∀ {i:Nat},S0.length<=i->eU i=none:=fun {i} h=>by
  rw[JJ]; unfold jx; rw[List.getElem?_eq_none (by rw[List.length_map]; omega)]
 have idx:∀ {i:Nat},i < S0.length->∃ l,σ[i]?=some l:=fun {i} h=>⟨σ[i]'(by omega),List.getElem?_eq_getElem (by omega)⟩
 have Bg:∀ {i:Nat} {b':aj},S0[i]?=some b'->∃ l b b2,σ[i]?=some l/\st[l]?=some b/\gN b b2/\b2.k=b'.k/\b2.ty=b'.ty/\b2.size=b'.size/\b2.m=b'.m/\b2.live=b'.live/\((b'.k.vp=false/\b2.cs=b'.cs)\/(b'.k.vp=true/\f_ (σ.map some) b'.cs=some b2.cs)):=fun {i b'} cO=>by
  obtain⟨l,hl⟩:=idx (List.getElem?_eq_some_iff.1 cO).1
  obtain⟨b,hb,hr⟩:=MI i l b' hl cO
  obtain⟨b2,h1,h2⟩:=x8 hr
  exact⟨l,b,b2,hl,hb,h1,h2⟩
 
 have JK:∀ {i:Nat} {b':aj},S0[i]?=some b'->∃ l b,σ[i]?=some l/\st[l]?=some b/\b.live=true/\b.m=b'.m:=fun {i b'} cO=>by
  obtain⟨l,b,b2,hl,hb,h1,h2,h3,h4,h5,h6,h7⟩:=Bg cO
  obtain⟨e1,e2,e3,e4,e5,e6,e7⟩:=dj h1
  exact⟨l,b,hl,hb,e4,e3.trans h5⟩
 have MK:aC I eU S0 w:=by
  refine⟨fun i hi=>hβo hi,fun i b' cO az=>?_⟩
  obtain⟨l,b,b2,hl,hb,h1,h2,h3,h4,h5,h6,h7⟩:=Bg cO
  obtain⟨e1,e2,e3,e4,e5,e6,e7⟩:=dj h1
  have hB:=hH.dX l b hb e4
  refine hB.tr (fun p hp=>(ku hl).trans hp) (fun _ h=>h) (fun _ _=>rfl) (fun _ _ _ _ _=>rfl) (fun p g o fr hp ha ho=>⟨fun hr=>?_,fun hr=>ho.2 (by rw[e3,h5]; exact hr)⟩) (h2.symm.trans e6.symm) (h3.symm.trans e1.symm) (h4.symm.trans e2.symm) (fun hc=>?_) ?_ (fun hc arr o lQ=>?_)
  ·obtain⟨q1,q2,q3⟩:=ho.1 (by rw[e3,h5]; exact hr)
   refine⟨q1,q2,fun i2 b2' cN dS bC p2 g2 o2 iX gX=>?_⟩
   obtain⟨l2,b3,eR,j6,JL,_⟩:=JK dS
   exact q3 l2 b3 (fun e=>cN (hdup i2 i l (by rw[← e]; exact eR) hl)) j6 JL p2 g2 o2 ((ku eR).symm.trans iX) gX
  ·rcases h7 with ⟨_,h7⟩|⟨h7,_⟩
   ·rcases e7 with ⟨_,e7⟩|⟨e7,_⟩
    ·rw[← h7,e7]
    ·rw[hc] at e7; cases e7
   ·rw[← h2,← e6,hc] at h7; cases h7
  ·have:b2.cs.length=b.cs.length:=by
    rcases e7 with ⟨_,e7⟩|⟨_,e7⟩
    ·rw[e7]
    ·exact (mN e7).symm
   rcases h7 with ⟨_,h7⟩|⟨_,h7⟩
   ·rw[← h7,this]
   ·rw[← (jC (i:=0) h7).2.2,this]
  ·have hca2:bj w I β b2.cs arr o:=by
    rcases e7 with ⟨hd,_⟩|⟨_,h8⟩
    ·rw[hc] at hd; cases hd
    ·exact jj h8 lQ
   rcases h7 with ⟨hd,_⟩|⟨_,h7⟩
   ·rw[← h2,← e6,hc] at hd; cases hd
   ·intro j c hj
    obtain⟨y,hy,Ft⟩:=(jC (i:=j) h7).2.1 c hj
    obtain⟨v,hv,hi,h1⟩:=hca2 j y hy
    exact⟨v,hv,by rw[JJ]; exact sa Ft hi,h1⟩
 have Sz:bg w I args' eU vals:=by rw[JJ]; exact DV hle hA
 refine (h.run.2 I eU w vals MK hM Sz).mono fun e w' ⟨v,r,S',I',ay,he,⟨e1,e2⟩,hi,nB,kN,hE,hlen,ny⟩=>?_
 subst e1; subst e2
 obtain rfl:ay=eU:=funext fun i=>by
  by_cases hi:i < S0.length
  ·exact ny i hi (by simp)
  ·rw[hβo (by omega),nB.p8 i (by omega)]
 have mem:∀ {l:Nat},l∈σ->∃ i,σ[i]?=some l/\i < S0.length:=fun {l} hl=>by
  obtain⟨i,hi,e⟩:=List.getElem_of_mem hl
  exact⟨i,by rw[List.getElem?_eq_getElem hi,e],by omega⟩
 have Je:∀ {g},Wr ay S0 g->Wr β st g:=fun {g} ⟨i,b,p,o,h1,h2,h3,h4,h5⟩=>by
  obtain⟨l,b2,hl,dS,MD,tE⟩:=JK h1
  exact⟨l,b2,p,o,dS,MD,by rw[tE]; exact h3,(ku hl).symm.trans h4,h5⟩
 
 have apart:∀ {l:Nat} {b:aj} {p:na} {g o:Nat},l ∉ σ->st[l]?=some b->b.live=true->β l=some p->p.a=some (g,o)->¬ Wr ay S0 g:=fun {l b p g o} hl hb az hp ha ⟨i,b2,p2,o2,h1,h2,h3,h4,h5⟩=>by
  obtain⟨l2,b3,eR,j6,MD,tE⟩:=JK h1
  obtain⟨arr,ty,fr,ho⟩:=(hH.dX l2 b3 j6 MD).place ((ku eR).symm.trans h4) h5
  exact (ho.2.1 (by rw[tE,h3]; nofun)).2.2 l b (fun e=>hl (e ▸ List.mem_of_getElem? eR)) hb az p g o hp ha rfl
 
 have new:∀ {i l:Nat} {b':aj},σ[i]?=some l->S'[i]?=some b'->∃ b2,dY[l]?=some b2/\b2.k=b'.k/\b2.ty=b'.ty/\b2.size=b'.size/\b2.m=b'.m/\b2.live=b'.live/\((b'.k.vp=false/\b2.cs=b'.cs)\/(b'.k.vp=true/\f_ (σ.map some) b'.cs=some b2.cs)):=fun {i l b'} hl cO=>x8 (Df i l b' hl cO)
 have inS:∀ {i:Nat},i < S0.length->∃ b',S'[i]?=some b':=fun {i} h=>⟨S'[i]'(by omega),List.getElem?_eq_getElem (by omega)⟩
 have YF:∀ {g},Wr β dY g->(Wr ay S' g)\/∃ l b p o,l ∉ σ/\st[l]?=some b/\b.live=true/\b.m = .w/\β l=some p/\p.a=some (g,o):=fun {g} ⟨l,b,p,o,h1,h2,h3,h4,h5⟩=>by
  by_cases hl:l∈σ
  ·obtain⟨i,hi,bZ⟩:=mem hl
   obtain⟨b',cO⟩:=inS bZ
   obtain⟨b2,dS,q1,q2,q3,q4,q5,_⟩:=new hi cO
   rw[dS] at h1
   cases h1
   exact .inl ⟨i,b',p,o,cO,by rw[← q5]; exact h2,by rw[← q4]; exact h3,(ku hi).trans h4,h5⟩
  ·exact .inr ⟨l,b,p,o,hl,(oI l hl).symm.trans h1,h2,h3,h4,h5⟩
 refine⟨v,r,dY,I',β,he,qn,kr Nr hi,⟨fun l hl=>hH.p8 l (by omega),fun l b hb az=>?_⟩,kN,⟨hE.os,hE.tape,hE.output,hE.size,fun g hg hn=>hE.block g hg fun h=>hn (Je h),fun g hg h=>?_,hE.au,fun g hg h=>(hE.new g hg h).imp id Je⟩,by omega,fun _ _ _=>rfl⟩
 ·by_cases hl:l∈σ
  ·obtain⟨i,hi,bZ⟩:=mem hl
   obtain⟨b',cO⟩:=inS bZ
   obtain⟨b2,dS,q1,q2,q3,q4,q5,q6⟩:=new hi cO
   rw[dS] at hb
   cases hb
   have hB:=nB.dX i b' cO (by rw[← q5]; exact az)
   refine hB.tr (fun p hp=>(ku hi).symm.trans hp) (fun _ h=>h) (fun _ _=>rfl) (fun _ _ _ _ _=>rfl) (fun p g o fr hp ha ho=>⟨fun hr=>?_,fun hr=>ho.2 (by rw[← q4]; exact hr)⟩) q1 q2 q3 (fun hc=>?_) ?_ (fun hc arr o lQ=>?_)
   ·obtain⟨x1,x2,x3⟩:=ho.1 (by rw[← q4]; exact hr)
    refine⟨x1,x2,fun l2 c2 cN iW bC p2 g2 o2 iX gX=>?_⟩
    by_cases eR:l2∈σ
    ·obtain⟨i2,r9,xq⟩:=mem eR
     obtain⟨b3',hb3'⟩:=inS xq
     obtain⟨b3,j6,_,_,_,_,y5,_⟩:=new r9 hb3'
     rw[j6] at iW
     cases iW
     exact x3 i2 b3' (fun e=>cN (Option.some.inj (by rw[← hi,← r9,e]))) hb3' (by rw[← y5]; exact bC) p2 g2 o2 ((ku r9).trans iX) gX
    ·have hc2':st[l2]?=some c2:=(oI l2 eR).symm.trans iW
     obtain⟨b0,gE⟩:∃ b0,S0[i]?=some b0:=⟨S0[i]'bZ,List.getElem?_eq_getElem bZ⟩
     obtain⟨l3,b3,Bd,j6,JL,hmm3⟩:=JK gE
     obtain rfl:l3=l:=Option.some.inj (Bd.symm.trans hi)
     obtain⟨_,q7⟩:=E0 i b0 b' gE cO
     obtain⟨_,_,fr3,_,ZK⟩:=(hH.dX l3 b3 j6 JL).place ((ku hi).symm.trans hp) ha
     exact (ZK.1 (by rw[hmm3,q7,← q4]; exact hr)).2.2 l2 c2 cN hc2' bC p2 g2 o2 iX gX
   ·rcases q6 with ⟨_,q6⟩|⟨q6,_⟩
    ·exact q6
    ·rw[hc] at q6; cases q6
   ·rcases q6 with ⟨_,q6⟩|⟨_,q6⟩
    ·rw[q6]
    ·exact (jC (i:=0) q6).2.2
   ·rcases q6 with ⟨hd,_⟩|⟨_,q6⟩
    ·rw[hc] at hd; cases hd
    ·intro j c hj
     obtain⟨y,hy,Ft⟩:=(jC (i:=j) q6).1 c hj
     obtain⟨u,hu,hiu,h1⟩:=lQ j y hy
     exact⟨u,hu,pz Ft (by rw[← JJ]; exact hiu),h1⟩
  ·have cO:st[l]?=some b:=(oI l hl).symm.trans hb
   have hB:=hH.dX l b cO az
   have same:∀ {p g o},β l=some p->p.a=some (g,o)->g < w.heap.size/\w'.heap[g]?=w.heap[g]?:=fun {p g o} hp ha=>by
    have bZ:=hH.cH ⟨l,b,p,o,cO,az,hp,ha⟩
    exact⟨bZ,hE.block g bZ (apart hl cO az hp ha)⟩
   refine hB.mono hE.au (fun g hg=>hE.block g (hM.au g hg) fun hw=>?_) (fun _ _ h=>h) fun p g o hp ha=>⟨(same hp ha).2,fun hr=>?_⟩
   ·exact MK.lY hw hg
   ·obtain⟨arr,ty,fr,hh,ho⟩:=hB.place hp ha
    obtain⟨h1,h2,h3⟩:=ho.1 hr
    refine⟨fun hI=>(hE.new g (same hp ha).1 hI).elim h2 (apart hl cO az hp ha),fun l2 b2 cN dS bC p2 g2 o2 iX gX=>?_⟩
    by_cases eR:l2∈σ
    ·obtain⟨i2,r9,xq⟩:=mem eR
     obtain⟨b0,gE⟩:∃ b0,S0[i2]?=some b0:=⟨S0[i2]'xq,List.getElem?_eq_getElem xq⟩
     obtain⟨l3,b3,Bd,j6,JL,_⟩:=JK gE
     obtain rfl:l3=l2:=Option.some.inj (Bd.symm.trans r9)
     exact h3 l3 b3 cN j6 JL p2 g2 o2 iX gX
    ·exact h3 l2 b2 cN ((oI l2 eR).symm.trans dS) bC p2 g2 o2 iX gX
 ·rcases YF h with h|⟨l,b,p,o,_,h2,h3,h4,h5,h6⟩
  ·exact Je (hE.wr g hg h)
  ·exact⟨l,b,p,o,h2,h3,h4,h5,h6⟩
end
def QX:Nat->Nat->ia
 | _,0=>[]
 | n,k+1=>some n::QX (n+1) k
def Ab (π:ia):List PV->Option (List PV)
 | []=>some []
 | c::cs=>(match c.MF π,Ab π cs with
  | some x,some l=>some (x::l)
  | _,_=>none)
def PV.SM (π:ia) (x:PV):Option PV:=match x with
 | .tup cs=>(Ab π cs).map .tup
 | x=>x.MF π
def SN (π:ia):List aj->List aj->(List aj->Prop)->Prop
 | [],st,k=>k st
 | b::S,st,k=>u9 π b fun b=>ZC b fun b=>sF st b fun st=>SN π S st k
section
variable {w w':World} {I I':Nat->Prop} {β ay:an} {G:Gx} {s:aD} {a:Act} {st dY:List aj}
theorem x9:∀ {k n i:Nat},(QX n k)[i]?=if i < k then some (some (n+i)) else none
 | 0,n,i=>by simp[QX]
 | k+1,n,0=>by simp[QX]
 | k+1,n,i+1=>by
  rw[QX,List.getElem?_cons_succ,x9]
  simp only[Nat.add_lt_add_iff_right,show n+1+i=n+(i+1) by omega]
theorem tT {π:ia}:∀ {xs ys:List PV} {vs:List Value},f_ π xs=some ys->bg w I xs (jx β π) vs->bg w I ys β vs
 | [],ys,vs,h,hx=>by
  simp only[f_,Option.some.injEq] at h
  subst h
  cases vs with
  | nil=>simp only[bg]
  | cons v vs=>simp only[bg] at hx
 | x::xs,ys,vs,h,hx=>by
  simp only[f_] at h
  split at h
  ·rename_i y l h1 h2
   cases h
   cases vs with
   | nil=>simp only[bg] at hx
   | cons v vs =>
    simp only[bg] at hx ⊢
    exact⟨pz h1 hx.1,tT h2 hx.2⟩
  ·cases h
theorem DW {π:ia} {x y:PV} {v:Value} (h:x.MF π=some y) (hx:x.Is w I (jx β π) v):y.Is w I β v:=by
 unfold PV.MF at h
 split at h
 ·rw[Option.map_eq_some_iff] at h
  obtain⟨l,hl,rfl⟩:=h
  simp only[PV.Is] at hx ⊢
  obtain⟨vs,rfl,hx⟩:=hx
  exact⟨vs,rfl,tT hl hx⟩
 ·rw[Option.map_eq_some_iff] at h
  obtain⟨l,hl,rfl⟩:=h
  simp only[PV.Is] at hx ⊢
  obtain⟨vs,rfl,hx⟩:=hx
  exact⟨vs,rfl,tT hl hx⟩
 ·cases h
 ·exact pz h hx
theorem vS {π:ia}:∀ {xs ys:List PV} {vs:List Value},Ab π xs=some ys->bg w I xs (jx β π) vs->bg w I ys β vs
 | [],ys,vs,h,hx=>by
  simp only[Ab,Option.some.injEq] at h
  subst h
  cases vs with
  | nil=>simp only[bg]
  | cons v vs=>simp only[bg] at hx
 | x::xs,ys,vs,h,hx=>by
  simp only[Ab] at h
  split at h
  ·rename_i y l h1 h2
   cases h
   cases vs with
   | nil=>simp only[bg] at hx
   | cons v vs =>
    simp only[bg] at hx ⊢
    exact⟨DW h1 hx.1,vS h2 hx.2⟩
  ·cases h
theorem JM {π:ia} {x y:PV} {v:Value} (h:x.SM π=some y) (hx:x.Is w I (jx β π) v):y.Is w I β v:=by
 unfold PV.SM at h
 split at h
 ·rw[Option.map_eq_some_iff] at h
  obtain⟨l,hl,rfl⟩:=h
  simp only[PV.Is] at hx ⊢
  obtain⟨vs,rfl,hx⟩:=hx
  exact⟨vs,rfl,vS hl hx⟩
 ·exact DW h hx
theorem DX:∀ {l:List aj} {b:aj} {q:List aj->Prop},sF l b q->q (l++[b])
 | [],_,_,h=>h
 | c::l,b,q,h=>DX (l:=l) (q:=fun x=>q (c::x)) h
theorem DY {π:ia}:∀ {S st:List aj} {k:List aj->Prop},SN π S st k->∃ S2,k (st++S2)/\S2.length=S.length/\∀ (i:Nat) (b:aj),S[i]?=some b->∃ b2,S2[i]?=some b2/\b2.k=b.k/\b2.ty=b.ty/\b2.size=b.size/\b2.m=b.m/\b2.live=b.live/\((b.k.vp=false/\b2.cs=b.cs)\/(b.k.vp=true/\f_ π b.cs=some b2.cs))
 | [],st,k,h=>⟨[],by rw[List.append_nil]; exact h,rfl,fun i b hb=>by simp at hb⟩
 | c::S,st,k,h=>by
  obtain⟨b2,h1,h2⟩:=x8 h
  obtain⟨S2,hk,hl,hh⟩:=DY (DX (BU h1))
  refine⟨b2::S2,by rw[List.append_assoc] at hk; exact hk,by simp[hl],fun i b hb=>?_⟩
  cases i with
  | zero=>simp at hb; subst hb; exact⟨b2,rfl,h2⟩
  | succ i=>simpa using hh i b (by simpa using hb)
theorem Spec.x_ {f:FuncId} {args args':List PV} {r0:PV} {S1:List aj} {K:PV->List aj->Prop} (h:Spec G f args' [] [] fun r S'=>r=r0/\S'=S1) (eC:S1.all (fun b=>b.live && Md.beq b.m .w)=true) (hle:oX ma args args') (hu:dp args' = [])
  (hK:lH st 0 fun n=>SN (QX n S1.length) S1 st fun yR=>aU (r0.SM (QX n S1.length)) fun r=>K r yR):Spec G f args st [] K:=by
 replace hK:=gC hK
 rw[Nat.zero_add] at hK
 obtain⟨S2,hk,hlen,SE⟩:=DY hK
 obtain⟨r2,hr2,qn⟩:=ao hk
 refine Spec.intro h.run.1 fun I β w vals hH hM hA=>?_
 have h0:aC I (fun _=>none) ([]:List aj) w:=⟨fun _ _=>rfl,fun l b hl=>by simp at hl⟩
 refine (h.run.2 I (fun _=>none) w vals h0 hM (jB hu (jv (fun _ _=>fp) hle hA))).mono fun e w' ⟨v,r,S',I',jc,he,⟨e1,e2⟩,hi,nB,kN,hE,_,_⟩=>?_
 subst e1; subst e2
 have BI:∀ g,¬ Wr (fun _=>none) ([]:List aj) g:=fun g ⟨l,b,p,o,h1,_⟩=>by simp at h1
 have hold:∀ g,g < w.heap.size->w'.heap[g]?=w.heap[g]?:=fun g hg=>hE.block g hg (BI g)
 have DC:∀ g,g < w.heap.size->I' g->I g:=fun g hg h=>(hE.new g hg h).elim id fun h=>absurd h (BI g)
 have hlw:∀ {i:Nat} {b:aj},S'[i]?=some b->b.live=true/\b.m = .w:=fun {i b} hb=>by
  rw[List.all_eq_true] at eC
  have:=eC b (List.mem_of_getElem? hb)
  simp only[Bool.and_eq_true] at this
  exact⟨this.1,Md.nS this.2⟩
 have eH:∀ {i:Nat} {p:na} {g o:Nat},jc i=some p->p.a=some (g,o)->w.heap.size<=g:=fun {i p g o} hp ha=>by
  have bZ:=nB.lt hp
  obtain⟨b,hb⟩:∃ b,S'[i]?=some b:=⟨S'[i],List.getElem?_eq_getElem bZ⟩
  rcases Nat.lt_or_ge g w.heap.size with hg|hg
  ·exact absurd (hE.wr g hg ⟨i,b,p,o,hb,(hlw hb).1,(hlw hb).2,hp,ha⟩) (BI g)
  ·exact hg
 obtain⟨ee,eβ⟩:∃ ee:an,ee=fun l=>if l < st.length then β l else jc (l - st.length):=⟨_,rfl⟩
 have NW:∀ {l},l < st.length->ee l=β l:=fun {l} h=>by rw[eβ]; exact if_pos h
 have QY:∀ {i},ee (st.length+i)=jc i:=fun {i}=>by rw[eβ]; show (if st.length+i < st.length then _ else _)=_; rw[if_neg (by omega),Nat.add_sub_cancel_left]
 have Ft:jx ee (QX st.length S'.length)=jc:=funext fun i=>by
  by_cases h:i < S'.length
  ·rw[cG (m:=st.length+i) (by rw[x9,if_pos h]),QY]
  ·unfold jx
   rw[x9,if_neg h]
   exact (nB.p8 i (by omega)).symm
 have hmono:∀ l p,β l=some p->ee l=some p:=fun l p hp=>by rw[NW (hH.lt hp)]; exact hp
 have dU:∀ g,gD β st g->g < w.heap.size:=fun g hg=>hH.cH hg
 refine⟨v,r2,st++S2,I',ee,he,qn,JM hr2 (by rw[Ft]; exact hi),⟨fun l hl=>?_,fun l b hb az=>?_⟩,kN,⟨hE.os,hE.tape,hE.output,hE.size,fun g hg _=>hold g hg,fun g hg ⟨l,b,p,o,h1,h2,h3,h4,h5⟩=>?_,hE.au,fun g hg h=>.inl (DC g hg h)⟩,by simp,fun l hl _=>NW hl⟩
 ·rw[List.length_append] at hl
  have:=QY (i:=l - st.length)
  rw[show st.length+(l - st.length)=l by omega] at this
  rw[this]; exact nB.p8 _ (by omega)
 ·by_cases hl:l < st.length
  ·rw[List.getElem?_append_left hl] at hb
   have hB:=hH.dX l b hb az
   refine hB.mono hE.au (fun g hg=>hold g (hM.au g hg)) hmono fun p g o hp ha=>?_
   obtain⟨arr,ty,fr,hh,ho⟩:=hB.place hp ha
   have bZ:=aV hh
   refine⟨hold g bZ,fun hr=>⟨fun hI=>(ho.1 hr).2.1 (DC g bZ hI),fun l' b' cN cO fi p' g' o' dM cJ=>?_⟩⟩
   by_cases iu:l' < st.length
   ·rw[List.getElem?_append_left iu] at cO
    exact (ho.1 hr).2.2 l' b' cN cO fi p' g' o' (by rw[← NW iu]; exact dM) cJ
   ·have e:=QY (i:=l' - st.length)
    rw[show st.length+(l' - st.length)=l' by omega] at e
    have:=eH (by rw[← e]; exact dM) cJ
    omega
  ·obtain⟨i,rfl⟩:∃ i,l=st.length+i:=⟨l - st.length,by omega⟩
   rw[List.getElem?_append_right (by omega),Nat.add_sub_cancel_left] at hb
   have bZ:i < S'.length:=by rw[← hlen]; exact (List.getElem?_eq_some_iff.1 hb).1
   obtain⟨b',cO⟩:∃ b,S'[i]?=some b:=⟨S'[i],List.getElem?_eq_getElem bZ⟩
   obtain⟨b2,dS,q1,q2,q3,q4,q5,q6⟩:=SE i b' cO
   obtain rfl:b2=b:=Option.some.inj (dS.symm.trans hb)
   have hB:=nB.dX i b' cO (hlw cO).1
   refine hB.tr (fun p hp=>by rw[QY]; exact hp) (fun _ h=>h) (fun _ _=>rfl) (fun _ _ _ _ _=>rfl) (fun p g o fr hp ha ho=>⟨fun hr=>?_,fun hr=>ho.2 (by rw[← q4]; exact hr)⟩) q1 q2 q3 (fun hc=>?_) ?_ (fun hc arr o lQ=>?_)
   ·obtain⟨x1,x2,x3⟩:=ho.1 (by rw[← q4]; exact hr)
    refine⟨x1,x2,fun l2 c2 cN iW bC p2 g2 o2 iX gX=>?_⟩
    by_cases eR:l2 < st.length
    ·rw[List.getElem?_append_left eR] at iW
     have h1:=dU g2 ⟨l2,c2,p2,o2,iW,bC,by rw[← NW eR]; exact iX,gX⟩
     have h2:=eH hp ha
     omega
    ·obtain⟨i2,rfl⟩:∃ i2,l2=st.length+i2:=⟨l2 - st.length,by omega⟩
     rw[QY] at iX
     have xq:=nB.lt iX
     obtain⟨b3,j6⟩:∃ b,S'[i2]?=some b:=⟨S'[i2],List.getElem?_eq_getElem xq⟩
     exact x3 i2 b3 (fun e=>cN (by rw[e])) j6 (hlw j6).1 p2 g2 o2 iX gX
   ·rcases q6 with ⟨_,q6⟩|⟨q6,_⟩
    ·exact q6
    ·rw[hc] at q6; cases q6
   ·rcases q6 with ⟨_,q6⟩|⟨_,q6⟩
    ·rw[q6]
    ·exact (jC (i:=0) q6).2.2
   ·rcases q6 with ⟨hd,_⟩|⟨_,q6⟩
    ·rw[hc] at hd; cases hd
    ·intro j c hj
     obtain⟨y,hy,hr⟩:=(jC (i:=j) q6).1 c hj
     obtain⟨u,hu,hiu,h1⟩:=lQ j y hy
     exact⟨u,hu,pz hr (by rw[Ft]; exact hiu),h1⟩
 ·by_cases hl:l < st.length
  ·rw[List.getElem?_append_left hl] at h1
   exact⟨l,b,p,o,h1,h2,h3,by rw[← NW hl]; exact h4,h5⟩
  ·have e:=QY (i:=l - st.length)
   rw[show st.length+(l - st.length)=l by omega] at e
   have:=eH (by rw[← e]; exact h4) h5
   omega
theorem Spec.lend {f:FuncId} {args args':List PV} {rl:List Nat} {K:PV->List aj->Prop} (fz:List Nat) (hz:YD st fz=true) (hle:oX (ZI st fz) args args') (hu:dp args' = []) (h:Spec G f args' (lh fz st) rl K):Spec G f args st rl K:=by
 refine Spec.intro h.run.1 fun I β w vals hH hM hA=>?_
 have ZO:=hH.Hb hM hz
 have hM2:cE G (gn I β st fz) w:=pj hH hM
 have SO:bg w (gn I β st fz) args' β vals:=jB hu (mP hH hle hu hA)
 have Ny:∀ {g},Wr β (lh fz st) g->Wr β st g:=fun {g} ⟨l,b1,p,o,h1,h2,h3,h4,h5⟩=>by
  obtain⟨b0,gE,rfl⟩:=pn h1
  refine⟨l,b0,p,o,gE,h2,?_,h4,h5⟩
  cases hc:fk l fz with
  | true=>simp only[hc,mj,cond_true] at h3; cases h3
  | false=>simpa only [hc,mj,cond_false] using h3
 have hlen:(lh fz st).length=st.length:=by unfold lh; rw[gJ]
 refine (h.run.2 (gn I β st fz) β w vals ZO hM2 SO).mono fun e w' ⟨v,r,S',I',ay,he,hK,hi,nB,kN,hE,hl,ny⟩=>?_
 refine⟨v,r,S',I',ay,he,hK,hi,nB,kN,⟨hE.os,hE.tape,hE.output,hE.size,fun g hg hn=>hE.block g hg fun h=>hn (Ny h),fun g hg h=>Ny (hE.wr g hg h),fun g hg=>hE.au g (.inl hg),fun g hg h=>?_⟩,by rw[← hlen]; exact hl,fun l hl hr=>ny l (by rw[hlen]; exact hl) hr⟩
 rcases hE.new g hg h with (h|⟨l,b,p,o,hl,hb,az,hm,hp,ha⟩)|h
 ·exact .inl h
 ·cases tE:b.m with
  | w=>exact .inr ⟨l,b,p,o,hb,az,tE,hp,ha⟩
  | p=>rw[tE] at hm; cases hm
  | r =>
   obtain⟨arr,ty,fr,_,ho⟩:=(hH.dX l b hb az).place hp ha
   exact .inl (ho.2 tE)
 ·exact .inr (Ny h)
end
section
variable {w w':World} {I I':Nat->Prop} {β ay:an} {G:Gx} {s:aD} {a:Act} {st dY:List aj}
theorem JN {x:PV} {v:Value} {n:Bool × IntKind × Int} (h:x.num=some n) (hx:x.Is w I β v):v = .int n.2.1 n.2.2:=by
 cases x<;>simp only[PV.num] at h<;>first|cases h; simp only[PV.Is] at hx; exact hx|cases h
end
def JO (G:Gx) (s:aD) (o:Oper) (q:PV->aD->Prop):Prop:=match o.op with
 | .makeSlice t l c=>aU (G.cx.fg t) fun d=>match d with
  | .slice elem=>aU (Ev.cC G.cx elem) fun n=>aU (Ev.lO elem G.bt) fun bE=>kR G.cx elem fun z=>s.ev l fun l=>s.ev c fun c=>aU l.num fun n1=>aU c.num fun n2=>(match z with
   | [x]=>bif Nat.beq n 1 && x.qV then ∃ N:Nat,n1.2.2=N/\n2.2.2=N/\n1.2.1 = .i64/\n2.2.1 = .i64/\bE*N<=281474976710656/\N<=maxLen/\kf s ⟨.dyn,elem,1,.w,true,List.replicate N x.norm⟩ q else False
   | _=>False)
  | _=>False
 | _=>False
section
variable {w w':World} {I I':Nat->Prop} {β ay:an} {G:Gx} {s:aD} {a:Act} {st dY:List aj}
theorem vT (hG:fD G) {o:Oper} {q:PV->aD->Prop} (h:JO G s o q):fO G s o q:=fO.intro fun I β a w hR=>by
 unfold JO at h
 split at h
 ·rename_i t l c h_
  replace h:=ao h
  obtain⟨d,hu,h⟩:=h
  split at h
  ·rename_i elem
   replace h:=ao h
   obtain⟨n,hn,h⟩:=h
   replace h:=ao h
   obtain⟨bE,yP,h⟩:=h
   replace h:=gj (w:=w) (I:=I) (β:=β) hG.ok h
   obtain⟨z,i,v,h,hi,Bx,rF⟩:=h
   replace h:=aD.cd hR h
   obtain⟨x,h,hx⟩:=h
   replace h:=aD.cd hR h
   obtain⟨y,h,hy⟩:=h
   replace h:=ao h
   obtain⟨n1,lT,h⟩:=h
   replace h:=ao h
   obtain⟨n2,hn2,h⟩:=h
   have hx:=JN lT hx
   have hy:=JN hn2 hy
   split at h
   ·rename_i x
    replace h:=ba h
    obtain⟨hc,N,e1,e2,k1,k2,h4,h5,h⟩:=h
    simp only[Bool.and_eq_true] at hc
    obtain⟨h3,h6⟩:=hc
    obtain rfl:=Nat.eq_of_beq_eq_true h3
    rw[e1,k1] at hx
    rw[e2,k2] at hy
    obtain⟨i2,r9,hib⟩:=hG.bE _ (Ev.dJ yP)
    rw[hi] at r9; cases r9
    obtain⟨i3,xu,his⟩:=Ev.gw hG.ok hn
    rw[hi] at xu; cases xu
    match hvc:v.cells.toList,rF with
    | [u],rF =>
     have hvc':v.cells = #[u]:=by rw[← Array.toArray_toList (xs:=v.cells),hvc]
     simp only[bg,and_true] at rF
     have hu1:u.oneCell'=true:=by
      refine lW (rF.flat (show x.iC=true from ?_))
      cases x<;>first|rfl|cases h6
     have hv1:v.cells = #[u]:=hvc'
     have bp:(execOp a.eval o).run G.cx.P w = .ok (.value (.slice (some ⟨w.heap.size,0,none⟩) N N)) (w.alloc (.cells (madeCells #[u] N) elem)):=by
      have h7:((bE*N:Nat):Int)<=281474976710656:=Int.ofNat_le.2 h4
      have h8:(i.bytes:Int)*(N:Int)<=281474976710656:=by rw[hib,← Int.natCast_mul]; exact h7
      have:=run_make (P:=G.cx.P) w t elem i v (hG.ok.un hu) hi Bx .i64 .i64 N N (by omega) (Int.le_refl _) h8 (by unfold maxLen at h5; omega)
      rw[show i.size=1 from his,hv1] at this
      simp only[Int.toNat_natCast,Nat.mul_one] at this
      unfold execOp
      rw[h_]
      simp only[hx,hy,Sem.run_bind,this,Result.andThen_ok,Sem.run_pure]
     rw[bp]
     replace h:=mG (gC h)
     rw[Nat.zero_add] at h
     have kj:=an.iD hR.heap ⟨some (w.heap.size,0),N,N⟩
     have eL:(madeCells #[u] N).size=N:=size_madeCells _ _
     have hec:x.norm.cells = [x.norm]:=by cases x<;>first|rfl|cases h6
     have Fb:ca (w.alloc (.cells (madeCells #[u] N) elem)) I (List.replicate N x.norm) 1 w.heap.size 0:=ca.of fun j e he=>by
      rw[List.getElem?_replicate] at he
      split at he
      ·rename_i hj
       cases he
       refine⟨by rw[hec]; rfl,cL.of fun j2 c hc=>?_⟩
       rw[hec] at hc
       match j2,hc with
       | 0,hc =>
        simp at hc; subst hc
        refine⟨u,?_,xr ?_,hu1⟩
        ·rw[Ev.fh (Ev.kb w _)]
         simp[madeCells,hj,Nat.mod_one]
        ·refine PV.Is.mono (fun _ h=>h) (fun g hg=>iF hR.heap hR.au.au _ g (.inr hg)) x β _ u (fun l p hl=>?_) rF
         exfalso
         cases x<;>first|(simp[PV.df] at hl; done)|(simp[PV.qV] at h6; done)
      ·cases he
     obtain⟨hH,hE⟩:=mH (vs:=madeCells #[u] N) (t:=elem) hR.heap hR.au.au (b:=⟨.dyn,elem,1,.w,true,List.replicate N x.norm⟩) (p:=⟨some (w.heap.size,0),N,N⟩) rfl (fun ho =>
      ⟨_,an.dy ..,⟨Nat.zero_lt_one,List.length_replicate,Nat.le_refl _,h5⟩,.inr ⟨w.heap.size,madeCells #[u] N,(0,0),rfl,Ev.kb w _,Fb,ho,by rw[eL,Nat.mul_one]⟩⟩) rfl
     refine bF.mk' hR h hH hE kj (by simp) (fun l hl=>if_neg (by omega)) ?_
     simp only[PV.Is]; exact⟨_,an.dy ..,rfl⟩
    | [],rF=>simp only[bg] at rF
    | _::_::_,rF=>simp only[bg,and_false] at rF
   ·exact h.elim
  ·exact h.elim
 ·exact h.elim
end
section
variable {w w':World} {I I':Nat->Prop} {β ay:an} {G:Gx} {s:aD} {a:Act} {st dY:List aj}
def tU (st:List aj):Bool:=st.all fun b=>match b.k with
 | .mp|.mx=>false
 | _=>true
theorem ya (h:tU st=true) {l:Nat} {b:aj} (hl:st[l]?=some b):b.k≠.mp/\b.k≠.mx:=by
 unfold tU at h
 rw[List.all_eq_true] at h
 have:=h b (List.mem_of_getElem? hl)
 exact⟨(fun e=>by rw[e] at this; cases this),(fun e=>by rw[e] at this; cases this)⟩
theorem fF.cells {l:Nat} {b:aj} (h:fF I β st w l b) (hk:b.k≠.mp/\b.k≠.mx) {p:na} {g o:Nat} (hp:β l=some p) (ha:p.a=some (g,o)):∃ arr ty fr,w.heap[g]?=some (.cells arr ty fr):=by
 obtain⟨q,hq,hm⟩:=h
 rw[hp] at hq
 cases hq
 split at hm
 ·obtain⟨g',o',arr,ty,fr,cJ,hh,_⟩:=hm
  rw[ha] at cJ; cases cJ; exact⟨_,_,_,hh⟩
 ·obtain⟨g',arr,fr,cJ,hh,_⟩:=hm
  rw[ha] at cJ; cases cJ; exact⟨_,_,_,hh⟩
 ·obtain⟨_,hm⟩:=hm
  rcases hm with ⟨cJ,_⟩|⟨g',arr,fr,cJ,hh,_⟩
  ·rw[ha] at cJ; cases cJ
  ·rw[ha] at cJ; cases cJ; exact⟨_,_,_,hh⟩
 ·rename_i cm
  exact absurd cm hk.1
 ·rename_i cm
  exact absurd cm hk.2
structure fL (L:Nat) (w w':World):Prop where
 os:w'.os=w.os
 tape:w'.tape=w.tape
 output:w'.output=w.output
 size:w.heap.size<=w'.heap.size
 same:∀ g,g < w.heap.size->g≠L->w'.heap[g]?=w.heap[g]?
def Fu (L:Nat) (w:World):Prop:=∀ arr ty fr,w.heap[L]?≠some (.cells arr ty fr)
theorem fL.below (h:Below w.heap.size w w'):fL w.heap.size w w':=⟨h.os,h.tape,h.output,h.size,fun g hg _=>h.block g hg⟩
theorem fL.put (w:World) (L:Nat) (o:Obj):fL L w (w.putObj L o):=by
 have:=grownBy_putObj' w L o
 exact⟨this.os,this.tape,this.output,this.size,fun g _ cN=>World.putObj_heap_other cN⟩
theorem JP (w:World):Fu w.heap.size w:=fun arr ty fr h=>by
 have:=(Array.getElem?_eq_some_iff.1 h).1
 omega
theorem aC.jD {L:Nat} (hH:aC I β st w) (sT:tU st=true) (hM:∀ g,I g->g < w.heap.size) (hL:¬ I L) (hb:Fu L w) (ht:fL L w w'):aC I β st w':=by
 refine⟨hH.p8,fun l b hl az=>?_⟩
 have zB:=hH.dX l b hl az
 refine zB.mono (fun _ h=>h) (fun g hg=>ht.same g (hM g hg) (fun e=>hL (e ▸ hg))) (fun _ _ h=>h) fun p g o hp ha=>?_
 obtain⟨arr,ty,fr,hc⟩:=zB.cells (ya sT hl) hp ha
 obtain⟨_,_,_,_,ho⟩:=zB.place hp ha
 exact⟨ht.same g (aV hc) (fun e=>hb _ _ _ (e ▸ hc)),fun hr=>⟨(ho.1 hr).2.1,(ho.1 hr).2.2⟩⟩
theorem cE.jD {L:Nat} (hM:cE G I w) (hL:¬ I L) (ht:fL L w w'):cE G I w':=by
 have hs:∀ g,I g->w'.heap[g]?=w.heap[g]?:=fun g hg=>ht.same g (hM.au g hg) (fun e=>hL (e ▸ hg))
 exact⟨fun g hg=>Nat.lt_of_lt_of_le (hM.au g hg) ht.size,fun g cs h=>⟨(hM.lV g cs h).1,cL.mono (fun _ h=>h) hs _ _ _ (hs g (hM.lV g cs h).1) (hM.lV g cs h).2⟩,fun g cs h=>by
  obtain⟨arr,ty,fr,h1,h2⟩:=hM.row g cs h
  exact⟨arr,ty,fr,(hs g (hM.lV g cs h).1).trans h1,h2⟩⟩
theorem Rel.jD {L:Nat} (hR:Rel G I β s a w) (sT:tU s.st=true) (hL:¬ I L) (hb:Fu L w) (ht:fL L w w'):Rel G I β s a w' :=
 ⟨hR.small,hR.defers,hR.size,hR.base,fun t x hx=>by
  obtain⟨v,hv,hi⟩:=hR.get t x hx
  exact⟨v,hv,PV.Is.mono (fun _ h=>h) (fun g hg=>ht.same g (hR.au.au g hg) (fun e=>hL (e ▸ hg))) x β β v (fun _ _ _ h=>h) hi⟩,hR.heap.jD sT hR.au.au hL hb ht,hR.au.jD hL ht⟩
theorem Ext.jD {I0:Nat->Prop} {eU:an} {p_:List aj} {w0:World} {L:Nat} (hE:Ext I0 eU p_ w0 I β st w) (ht:fL L w w') (hL:w0.heap.size<=L):Ext I0 eU p_ w0 I β st w' :=
 ⟨ht.os.trans hE.os,ht.tape.trans hE.tape,ht.output.trans hE.output,Nat.le_trans hE.size ht.size,fun g hg hw=>(ht.same g (Nat.lt_of_lt_of_le hg hE.size) (by omega)).trans (hE.block g hg hw),hE.wr,hE.au,hE.new⟩
theorem aG.jD {I0:Nat->Prop} {eU:an} {s0:aD} {w0:World} {L:Nat} (hg:aG I0 eU s0 w0 I β s w) (ht:fL L w w') (hL:w0.heap.size<=L):aG I0 eU s0 w0 I β s w':=⟨hg.ext.jD ht hL,hg.base,hg.rl,hg.n,hg.low⟩
theorem aG.keeps {s':aD} (hg:aG I β s w I' ay s' w') (hH:aC I β s.st w) (sT:tU s.st=true) (B:Nat):KeepsFrom B w w':=by
 refine⟨hg.ext.size,fun k o _ hk ho=>(hg.ext.block k (aV hk) fun ⟨l,b,p,o',h1,h2,_,h4,h5⟩=>?_).trans hk⟩
 obtain⟨arr,ty,fr,hc⟩:=(hH.dX l b h1 h2).cells (ya sT h1) h4 h5
 rw[hk] at hc
 cases hc
 cases ho
theorem aG.JQ {s':aD} {L:Nat} (hg:aG I β s w I' ay s' w') (hH:aC I β s.st w) (sT:tU s.st=true) (hL:¬ I L) (hb:Fu L w) (bZ:L < w.heap.size):¬ I' L:=fun h=>by
 rcases hg.ext.new L bZ h with h|⟨l,b,p,o',h1,h2,_,h4,h5⟩
 ·exact hL h
 ·obtain⟨arr,ty,fr,hc⟩:=(hH.dX l b h1 h2).cells (ya sT h1) h4 h5
  exact hb _ _ _ hc
abbrev Hc (r:Option Nat):Fence:={ Fence.wide with round:=r }
def tV (o:Oper):Bool:=match o.op with
 | .defer _=>false
 | _=>true
theorem JR {o:Oper} (h:tV o=true):∀ c,o.op≠.defer c:=fun c e=>by
 unfold tV at h
 rw[e] at h
 cases h
theorem vU {P:Program} {r:Option Nat} {n:Nat} {o:Oper} {a:Act} {K:Value->World->Prop} {K':Act->World->Prop} {Q:Exit->Act->World->Prop} (hd:tV o=true) (h:Ev.lU P K ((execOp a.eval o).run P w)) (hK:∀ v w',K v w'->K' (a.put o.dst v) w'):o.wpIn (Hc r) n P a w K' Q:=by
 refine⟨fun f _=>trivial,?_⟩
 rw[show (Hc r).round=r from rfl,Oper.semAt_eq r _ _ (JR hd)]
 generalize (execOp a.eval o).run P w=r at *
 cases r with
 | ok n w =>
  cases n<;>simp only[Ev.lU] at h
  case value u=>exact hK _ _ h
  case skip=>exact hK _ _ h
  case enter f args=>exact⟨fun h=>(by cases h),(callsIn_wide (n:=n - 1)).2 (h.mono fun e w' ⟨u,he,hu⟩=>by subst he; exact hK _ _ hu)⟩
 | halt x w=>exact h.elim
theorem pA (hG:fD G) {r:Option Nat} {n:Nat} {ops:Array Oper} {l2:List Oper} {Q:X->aD->Prop} {Q':Exit->Act->World->Prop}:∀ (l:List Oper) {s:aD} {a:Act} {I:Nat->Prop} {β:an} {w:World},l.all tV=true->xb G ops.toList Q l s->Rel G I β s a w ->
  (∀ s' I' ay a' w',Q .cA s'->Rel G I' ay s' a' w'->aG I β s w I' ay s' w'->wpListIn (Hc r) n G.cx.P ops Q' l2 a' w')->wpListIn (Hc r) n G.cx.P ops Q' (l++l2) a w
 | [],s,a,I,β,w,_,h,hR,hQ=>hQ s I β a w h hR (aG.same ⟨rfl,rfl,rfl,rfl⟩)
 | o::l,s,a,I,β,w,hn,h,hR,hQ=>by
  simp only[List.all_cons,Bool.and_eq_true] at hn
  rw[List.cons_append]
  unfold wpListIn
  rcases c9 hR h with ⟨hw,s1,h1,d_,cI⟩|⟨hw,s1,h1,d_,cI⟩
  ·rw[hw,if_pos rfl]
   refine vU hn.1 (sR hG cI h1) fun v w' hp=>?_
   obtain⟨x,s2,I2,ee,h2,eM,hx,hE,e1,e2,e3,dU,_⟩:=hp
   obtain⟨s3,h3,eA,gW⟩:=aD.aT (G:=G) h2
   have g1:aG I β s w I2 ee s2 w':=(aG.same d_).trans ⟨hE,e1,e2,e3,dU⟩
   exact pA hG l hn.2 h3 (gW _ _ _ _ v eM hx) fun s' I' ay a' m_ hq br hg=>hQ s' I' ay a' m_ hq br ((g1.trans (aG.same eA)).trans hg)
  ·rw[hw,if_neg (by simp)]
   obtain⟨s3,h3,eA,gW⟩:=aD.aT (G:=G) h1
   exact⟨fun f _=>trivial,pA hG l hn.2 h3 (gW _ _ _ _ _ cI Is.undef) fun s' I' ay a' m_ hq br hg=>hQ s' I' ay a' m_ hq br (((aG.same d_).trans (aG.same eA)).trans hg)⟩
theorem vV (hG:fD G) {r:Option Nat} {n:Nat} {ops:Array Oper} {Q:X->aD->Prop} {Q':Exit->Act->World->Prop} (l:List Oper) {s:aD} {a:Act} {I:Nat->Prop} {β:an} {w:World} (hn:l.all tV=true) (h:xb G ops.toList Q l s) (hR:Rel G I β s a w)
  (hQ:∀ s' I' ay a' w',Q .cA s'->Rel G I' ay s' a' w'->aG I β s w I' ay s' w'->Q' .normal a' w'):wpListIn (Hc r) n G.cx.P ops Q' l a w:=by
 have:=pA (l2:=[]) (Q':=Q') (r:=r) (n:=n) hG l hn h hR fun s' I' ay a' w' hq br hg=>hQ s' I' ay a' w' hq br hg
 rwa [List.append_nil] at this
def fT:Code->Bool
 | .skip|.label _|.ret|.exit _=>true
 | .seq a b=>fT a && fT b
 | .cond _ a b=>fT a && fT b
 | .block _ c=>fT c
 | .region _ ops false=>ops.toList.all tV
 | _=>false
def NX (l:Option Nat) (n:Nat) (G:Gx) (c:Code) (Q:X->aD->Prop) (s:aD):Prop:=∀ I β a w,Rel G I β s a w->c.wpIn (Hc l) n G.cx.P (bA G s I β w Q) a w
theorem NX.from {l:Option Nat} {n:Nat} {c:Code} {Q:X->aD->Prop} {s0:aD} {I0:Nat->Prop} {eU:an} {w0:World} (h:NX l n G c Q s) (hR:Rel G I β s a w) (hg:aG I0 eU s0 w0 I β s w):c.wpIn (Hc l) n G.cx.P (bA G s0 I0 eU w0 Q) a w :=
 wpIn_mono (h I β a w hR) fun e a' w' hp=>by
  obtain⟨x,s',I',ay,rfl,hq,br,re⟩:=hp.goes
  exact bA.of hq br (hg.trans re)
theorem jd (hG:fD G) {R:List (Nat × af)} {ln:Option Nat} {m:Nat}:∀ (n:Nat) (c:Code) (Q:X->aD->Prop) (s:aD),fT c=true->pw G R n c Q s->NX ln m G c Q s
 | 0,_,_,_,_,h=>h.elim
 | n+1,c,Q,s,hc,h=>by
  intro I β a w hR
  cases c with
  | skip=>exact wpIn_skip (bA.of (x:=.cA) h hR (aG.same ⟨rfl,rfl,rfl,rfl⟩))
  | label l=>exact wpIn_label (bA.of (x:=.cA) h hR (aG.same ⟨rfl,rfl,rfl,rfl⟩))
  | ret=>exact wpIn_ret (bA.of (x:=.ret) h hR (aG.same ⟨rfl,rfl,rfl,rfl⟩))
  | exit id=>exact wpIn_exit (bA.of (x:=.exit id) h hR (aG.same ⟨rfl,rfl,rfl,rfl⟩))
  | seq x y =>
   simp only[fT,Bool.and_eq_true] at hc
   replace h:bif ix R y then (∃ s0,pw G R n x (oU (fun s'=>Sub G s' s0) Q) s/\pw G R n y Q s0) else pw G R n x (oU (pw G R n y Q) Q) s:=h
   cases Ij:ix R y with
   | true =>
    rw[Ij] at h
    obtain⟨s0,h,h2⟩:=h
    refine wpIn_seq (wpIn_mono (jd hG n x _ s hc.1 h I β a w hR) fun e a' w' hp=>?_)
    obtain⟨x',s',I',ay,rfl,hq,br,hg⟩:=hp.goes
    cases x' with
    | cA =>
     obtain⟨I2,ee,eM,jq⟩:=hq I' ay a' w' br
     exact (jd hG n y Q s0 hc.2 h2).from eM (hg.trans jq)
    | exit id=>exact bA.of (Q:=Q) (x:=.exit id) hq br hg
    | ret=>exact bA.of (Q:=Q) (x:=.ret) hq br hg
   | false =>
   rw[Ij] at h
   refine wpIn_seq (wpIn_mono (jd hG n x _ s hc.1 h I β a w hR) fun e a' w' hp=>?_)
   obtain⟨x',s',I',ay,rfl,hq,br,hg⟩:=hp.goes
   cases x' with
   | cA=>exact (jd hG n y Q s' hc.2 hq).from br hg
   | exit id=>exact bA.of (Q:=Q) (x:=.exit id) hq br hg
   | ret=>exact bA.of (Q:=Q) (x:=.ret) hq br hg
  | cond c x y =>
   simp only[fT,Bool.and_eq_true] at hc
   obtain⟨b,s',he,hk,hs,br⟩:=oV hR h
   refine wpIn_cond he ?_
   cases b with
   | true=>exact (jd hG n x Q s' hc.1 hk).from br (aG.same hs)
   | false=>exact (jd hG n y Q s' hc.2 hk).from br (aG.same hs)
  | block id c =>
   refine wpIn_block (wpIn_mono (jd hG n c _ s hc h I β a w hR) fun e a' w' hp=>?_)
   obtain⟨x',s',I',ay,rfl,hq,br,hg⟩:=hp.goes
   cases x' with
   | cA=>exact bA.of (Q:=Q) (x:=.cA) hq br hg
   | exit j =>
    show Exit.inBlock id _ (.exit j) a' w'
    simp only[Exit.inBlock]
    by_cases hj:j=id
    ·subst hj
     rw[if_pos rfl]
     have kL:Q .cA s':=by simpa [ju,Nat.beq_refl] using hq
     exact bA.of (x:=.cA) kL br hg
    ·have cO:Nat.beq j id=false:=by rw[Bool.eq_false_iff]; exact fun e=>hj (Nat.eq_of_beq_eq_true e)
     rw[if_neg hj]
     have kL:Q (.exit j) s':=by simpa [ju,cO] using hq
     exact bA.of (x:=.exit j) kL br hg
   | ret=>exact bA.of (Q:=Q) (x:=.ret) hq br hg
  | region id ops draw =>
   cases draw with
   | true=>cases hc
   | false=>exact wpIn_region_list (vV hG _ hc h hR fun s' I' ay a' w' hq br hg=>bA.of (x:=.cA) hq br hg)
  | _=>cases hc
def vW {α:Type} (n:Nat) (P:Program) (g:Nat) (lb:Array Value) (Fv:α->Array Value) (all:List α) (Fc:World->Prop):Prop :=
 ∀ (l:Nat) (J:List α->World->Prop) (W:World),(∀ pre W W',J pre W->Below W.heap.size W W'->J pre W')->Fc W ->
  (∀ pre x W1,pre++[x] <+: all->J pre W1->YieldAt Fence.wide (n - 1) P l (Fv x) W1 fun e W'=>e = .returned (.bool true)/\J (pre++[x]) W'/\Fc W') ->
  J [] W->CallsIn Fence.wide n P g (#[.func (.yield l) #[] #[]]++lb) W fun e W'=>(∃ v,e = .returned v)/\J all W'
def mark (D:Nat):Deferred:={ target:=.collected D,args:=#[] }
theorem tW {n:Nat} {P:Program} {α:Type} {g:Operand} {ps:Array Tmp} {assign body:Code} {Q:Exit->Act->World->Prop} {gf:Nat} {lb:Array Value}
  (hg:a.eval g = .func (.func gf) #[] lb) (eg:∀ args w,(callFunc gf args).run P w = .ok (.enter gf args) w) {Fv:α->Array Value} {all:List α} {Fc:World->Prop}
  (yb:vW (n - 1) P gf lb Fv all Fc) (Yr:∀ x,(Fv x).size=ps.size) (Inv:List α->World->Prop) (hInv:∀ pre W W',Inv pre W->Below W.heap.size W W'->Inv pre W') (h0:Inv [] w)
  (ht:∀ pre W r r',Inv pre W->W.heap[w.heap.size+1]?=some (.loop r)->Inv pre (W.putObj (w.heap.size+1) (.loop r'))) (Fw:∀ pre W,Inv pre W->Fc W)
  (Ax:List α->α->Act->World->Prop) (htA:∀ pre x a' W r r',Ax pre x a' W->W.heap[w.heap.size+1]?=some (.loop r)->Ax pre x a' (W.putObj (w.heap.size+1) (.loop r')))
  (NY:∀ pre x W,pre++[x] <+: all->Inv pre W->(∃ r,W.heap[w.heap.size+1]?=some (.loop r))->W.heap[w.heap.size]?=some (.deferred (some []))->assign.wpIn (Hc (some (w.heap.size+1))) (n - 1 - 1) P (Exit.then (fun a' W'=>KeepsFrom w.heap.size W W'/\Ax pre x a' W') (fun _ _ _=>False)) { tmps:=(ps.zip (Fv x)).foldl (fun t (p,v)=>t.setIfInBounds p v) a.tmps,defers:=[] } W)
  (JB:∀ pre x a' W,pre++[x] <+: all->Ax pre x a' W->(∃ r,W.heap[w.heap.size+1]?=some (.loop r))->W.heap[w.heap.size]?=some (.deferred (some []))->body.wpIn (Hc (some (w.heap.size+1))) (n - 1 - 1) P (fun e _ W'=>e = .normal/\KeepsFrom w.heap.size W W'/\Inv (pre++[x]) W') a' W)
  (Ac:∀ W,Inv all W->W.heap[w.heap.size]?=some (.deferred (some []))->Q .normal { a with defers:=mark w.heap.size::a.defers } W) :
  (Code.rangeFunc g ps assign body).wpIn Fence.wide n P Q a w:=by
 refine wpIn_rangeFunc ?_
 intro fn hfn
 obtain⟨rec,Ad⟩:∃ rec:LoopState->Option Code->Loop,rec=fun st pe=>{ state:=st,pending:=pe,fn,tmps:=a.tmps,params:=ps,assign,body,defers:=w.heap.size }:=⟨_,rfl⟩
 obtain⟨W1,hW1⟩:∃ W1,(w.alloc (.deferred (some []))).alloc (.loop (rec .ready none))=W1:=⟨_,rfl⟩
 have hL1:W1.heap[w.heap.size+1]?=some (.loop (rec .ready none)):=by
  rw[← hW1]; have:=World.alloc_heap_new (w.alloc (.deferred (some []))) (.loop (rec .ready none)); rwa [World.size_alloc] at this
 have hK1:W1.heap[w.heap.size]?=some (.deferred (some [])):=by
  rw[← hW1]; exact (Below.heap_alloc _ _ _ (by simp)).trans (World.alloc_heap_new w _)
 have hI1:Inv [] W1:=by
  rw[← hW1]
  exact hInv _ _ _ h0 ((((Below.refl _ w).alloc (Nat.le_refl _) _).alloc (by simp) _))
 refine⟨w.heap.size+1,[mark w.heap.size],W1,{ target:=.fn (.func gf) lb,args:=#[.func (.yield (w.heap.size+1)) #[] #[]] },W1,gf,
  #[.func (.yield (w.heap.size+1)) #[] #[]]++lb,W1,?_,?_,fun _ _=>trivial,?_,fun h=>(by cases h),?_⟩
 ·rw[← hW1,Ad]; exact run_enterLoop_outer _ _ _ _ _
 ·simp only[resolve,hg]
  simp[go_sem]
 ·simp[invoke,go_sem,eg]
 ·refine (yb (w.heap.size+1) (fun pre W=>Inv pre W/\W.heap[w.heap.size+1]?=some (.loop (rec .ready none))/\W.heap[w.heap.size]?=some (.deferred (some [])))
   W1 (fun pre W W' ⟨h1,h2,h3⟩ hB=>⟨hInv _ _ _ h1 hB,(hB.block _ (aV h2)).trans h2,(hB.block _ (aV h3)).trans h3⟩) (Fw _ _ hI1) ?_ ⟨hI1,hL1,hK1⟩).mono ?_
  ·rintro pre x W tX ⟨hi,hl,hk⟩
   have hy:=run_yield (P:=P) (args:=Fv x) hl (by rw[Ad]; exact Yr x)
   rw[Ad] at hy
   refine⟨fn,_,assign,body,hy,roundIn_of_wpIn hfn (wpIn_mono (NY pre x W tX hi ⟨_,hl⟩ hk) ?_)⟩
   intro e a1 Wa hp
   cases e with
   | normal =>
    obtain⟨hka,hA⟩:=hp
    have hla:=hka.same _ _ (Nat.le_succ _) hl rfl
    have hda:=hka.same _ _ (Nat.le_refl _) hk rfl
    refine⟨_,run_beginRound hla (by rw[Ad]),?_⟩
    have bZ:=aV hla
    have eR:(Wa.putObj (w.heap.size+1) (.loop { rec .ready none with state:=.busy })).heap[w.heap.size+1]?=some (.loop { rec .ready none with state:=.busy }):=World.putObj_heap_same bZ
    have qn:(Wa.putObj (w.heap.size+1) (.loop { rec .ready none with state:=.busy })).heap[w.heap.size]?=some (.deferred (some [])):=(World.putObj_heap_other (by omega)).trans hda
    refine wpIn_mono (JB pre x a1 _ tX (htA _ _ _ _ _ _ hA hla) ⟨_,eR⟩ qn) ?_
    rintro e a3 W3 ⟨rfl,YB,xu⟩
    have Bd:=YB.same _ _ (Nat.le_succ _) eR rfl
    have hr:=run_endRound (P:=P) none Bd
    have hlt3:=aV Bd
    have EY:=ht _ _ _ (rec .ready none) xu Bd
    rw[Ad] at hr EY
    refine⟨_,_,hr,rfl,⟨EY,?_,?_⟩,Fw _ _ EY⟩
    ·rw[Ad]; exact World.putObj_heap_same hlt3
    ·exact (World.putObj_heap_other (by omega)).trans (YB.same _ _ (Nat.le_refl _) qn rfl)
   | _=>exact hp.elim
  ·rintro e W2 ⟨⟨v,rfl⟩,hi,hl,hk⟩
   exact⟨none,_,by have:=run_endLoop (P:=P) hl (by rw[Ad]; simp); rw[Ad] at this; exact this,Ac _ (ht _ _ _ _ hi hl) ((World.putObj_heap_other (by omega)).trans hk)⟩
theorem Rel.outer {so s1 s2:aD} {a2:Act} {I1 I2:Nat->Prop} {jc ee:an} {w1 w2:World} (hO:Rel G I1 jc (so.store s1.st) a w1) (hg:aG I1 jc s1 w1 I2 ee s2 w2) (hb:s1.base=s1.st.length) (hr:s1.rl = []) (h2:Rel G I2 ee s2 a2 w2):Rel G I2 ee (so.store s2.st) a w2:=by
 obtain⟨e1,e2,e3,e4,e5⟩:=aD.dT so s1.st
 obtain⟨f1,f2,f3,f4,f5⟩:=aD.dT so s2.st
 have hH1:aC I1 jc s1.st w1:=by have:=hO.heap; rwa [e3] at this
 have hlen:s1.st.length<=s2.st.length:=by have:=h2.base; rw[hg.base,hb] at this; exact this
 refine⟨by rw[f1,← e1]; exact hO.small,hO.defers,by rw[f1,← e1]; exact hO.size,by rw[f4,f3]; have:=hO.base; rw[e4,e3] at this; omega,fun t x hx=>?_,by rw[f3]; exact h2.heap,h2.au⟩
 rw[f2,← e2] at hx
 obtain⟨v,hv,hi⟩:=hO.get t x hx
 refine⟨v,hv,PV.Is.mono hg.ext.au (fun g rP=>hg.ext.block g (hO.au.au g rP) (fun hw=>hH1.lY hw rP)) x jc ee v (fun l p _ hp=>?_) hi⟩
 have hl:l < s1.st.length:=Nat.lt_of_not_le fun h=>by rw[hH1.p8 l h] at hp; cases hp
 rw[hg.low l (by rw[hb]; exact hl) (by rw[hr]; simp)]
 exact hp
theorem aG.outer {so s1 s2:aD} {I0 I1 I2:Nat->Prop} {eU jc ee:an} {w0 w1 w2:World} (h0:aG I0 eU so w0 I1 jc (so.store s1.st) w1) (hg:aG I1 jc s1 w1 I2 ee s2 w2) (hb:s1.base=s1.st.length) (hr:s1.rl = []) (hle:so.base<=s1.st.length):aG I0 eU so w0 I2 ee (so.store s2.st) w2:=by
 obtain⟨e1,e2,e3,e4,e5⟩:=aD.dT so s1.st
 obtain⟨f1,f2,f3,f4,f5⟩:=aD.dT so s2.st
 have hE:=h0.ext
 rw[e3] at hE
 refine⟨by rw[f3]; exact hE.trans hg.ext,f4,f5,f1,fun l hl hnr=>?_⟩
 rw[hg.low l (by rw[hb]; omega) (by rw[hr]; simp)]
 exact h0.low l hl hnr
theorem tY (s:aD) (st:List aj):(s.store st).st=st:=(aD.dT s st).2.2.1
def RInv (G:Gx) (so:aD) (a:Act) (I0:Nat->Prop) (eU:an) (w0:World) (st:List aj) (W:World):Prop :=
 ∃ I β,Rel G I β (so.store st) a W/\aG I0 eU so w0 I β (so.store st) W/\¬ I w0.heap.size/\¬ I (w0.heap.size+1)
theorem kv {W:World} {L:Nat} (h:∃ r,W.heap[L]?=some (.loop r)):Fu L W:=fun arr ty fr e=>by
 obtain⟨r,h⟩:=h
 rw[h] at e
 cases e
theorem pB {W:World} {L:Nat} {ds:Option (List Deferred)} (h:W.heap[L]?=some (.deferred ds)):Fu L W:=fun arr ty fr e=>by
 rw[h] at e
 cases e
def JS (G:Gx) (N:Nat) (assign body:Code) (st dY:List aj) (s:aD):Prop :=
 pw G [] N assign (fun e s3=>match e with
  | .cA=>s3.st=st/\pw G [] N body (fun e s4=>match e with
   | .cA=>∃ π,fK G.cx π s4 ⟨s4.n,.nil,dY,s4.base,s4.rl⟩
   | _=>False) s3
  | _=>False) s
set_option maxHeartbeats 1000000 in
theorem JT (hG:fD G) (hd:G.Bn = []) {α:Type} {g:Operand} {p1 p2:Tmp} {assign body:Code} {Q:Exit->Act->World->Prop} {n N:Nat} {gf:Nat} {lb:Array Value} (X1 X2:α->PV) (V1 V2:α->Value) (hX:∀ x w I β,(X1 x).Is w I β (V1 x)/\(X2 x).Is w I β (V2 x)) {all:List α} {Fc:World->Prop}
  (hg:a.eval g = .func (.func gf) #[] lb) (eg:Ev.gz G.cx.P gf) (yb:vW (n - 1) G.cx.P gf lb (fun x=>#[V1 x,V2 x]) all Fc) (st:List α->List aj) (sT:∀ pre,tU (st pre)=true) (hs:s.st=st []) (hR:Rel G I β s a w)
  (Fw:∀ pre W I' ay,Rel G I' ay (s.store (st pre)) a W->aG I β s w I' ay (s.store (st pre)) W->Fc W) (h1:fT assign=true) (h2:fT body=true)
  (tZ:∀ pre x,pre++[x] <+: all->aD.put ⟨s.n,s.t,st pre,(st pre).length,[]⟩ (some p1) (X1 x) fun s1=>s1.put (some p2) (X2 x) fun s2=>JS G N assign body (st pre) (st (pre++[x])) s2)
  (Ac:∀ I' ay W,Rel G I' ay (s.store (st all)) a W->aG I β s w I' ay (s.store (st all)) W->W.heap[w.heap.size]?=some (.deferred (some []))->¬ I' w.heap.size->Q .normal { a with defers:=mark w.heap.size::a.defers } W) :
  (Code.rangeFunc g #[p1,p2] assign body).wpIn Fence.wide n G.cx.P Q a w:=by
 refine tW hg eg yb (fun _=>rfl) (fun pre W=>RInv G s a I β w (st pre) W) ?inv ?h0 ?ht ?Fw (fun pre x a' W=>∃ s3 I' ay,(pw G [] N body (fun e s4=>match e with
   | .cA=>∃ π,fK G.cx π s4 ⟨s4.n,.nil,st (pre++[x]),s4.base,s4.rl⟩
   | _=>False) s3)/\Rel G I' ay s3 a' W/\Rel G I' ay (s.store s3.st) a W/\aG I β s w I' ay (s.store s3.st) W/\(¬ I' w.heap.size/\¬ I' (w.heap.size+1))/\s3.st=st pre/\s3.base=s3.st.length/\s3.rl = []) ?htA ?assign ?body ?done
 case inv =>
  rintro pre W W' ⟨I1,jc,cI,gV,n1,n2⟩ hB
  have hn:¬ I1 W.heap.size:=fun h=>by have:=cI.au.au _ h; omega
  exact⟨I1,jc,cI.jD (by rw[tY]; exact sT _) hn (JP W) (fL.below hB),gV.jD (fL.below hB) gV.ext.size,n1,n2⟩
 case h0 =>
  have e:s.store (st [])=s:=by rw[← hs]; exact ta s
  refine⟨I,β,by rw[e]; exact hR,by rw[e]; exact aG.same ⟨rfl,rfl,rfl,rfl⟩,fun h=>?_,fun h=>?_⟩
  ·have:=hR.au.au _ h; omega
  ·have:=hR.au.au _ h; omega
 case ht =>
  rintro pre W r r' ⟨I1,jc,cI,gV,n1,n2⟩ hl
  exact⟨I1,jc,cI.jD (by rw[tY]; exact sT _) n2 (kv ⟨r,hl⟩) (fL.put W _ _),gV.jD (fL.put W _ _) (by omega),n1,n2⟩
 case Fw =>
  rintro pre W ⟨I1,jc,cI,gV,n1,n2⟩
  exact Fw pre W I1 jc cI gV
 case htA =>
  rintro pre x a' W r r' ⟨s3,I1,jc,hq,cI,hO1,gV,⟨n1,n2⟩,qi,hb,hr⟩ hl
  exact⟨s3,I1,jc,hq,cI.jD (by rw[qi]; exact sT _) n2 (kv ⟨r,hl⟩) (fL.put W _ _),hO1.jD (by rw[tY,qi]; exact sT _) n2 (kv ⟨r,hl⟩) (fL.put W _ _),gV.jD (fL.put W _ _) (by omega),⟨n1,n2⟩,qi,hb,hr⟩
 case assign =>
  rintro pre x W tX ⟨I1,jc,hO,gV,n1,n2⟩ hl hk
  obtain⟨e1,e2,e3,e4,e5⟩:=aD.dT s (st pre)
  have QZ:Rel G I1 jc ⟨s.n,s.t,st pre,(st pre).length,[]⟩ { tmps:=a.tmps,defers:=[] } W:=⟨by have:=hO.small; rw[e1] at this; exact this,hd.symm,by have:=hO.size; rw[e1] at this; exact this,Nat.le_refl _,fun t y hy=>hO.get t y (by rw[e2]; exact hy),by have:=hO.heap; rw[e3] at this; exact this,hO.au⟩
  obtain⟨s1,d_,sb1,hr1⟩:=aD.aT (G:=G) (tZ pre x tX)
  obtain⟨s2,SJ,sb2,hr2⟩:=aD.aT (G:=G) d_
  have hRj:=hr2 I1 jc _ W (V2 x) (hr1 I1 jc _ W (V1 x) QZ (hX x W I1 jc).1) (hX x W I1 jc).2
  have ea:({ tmps:=(#[p1,p2].zip #[V1 x,V2 x]).foldl (fun t (p,v)=>t.setIfInBounds p v) a.tmps,defers:=[] }:Act)=Act.put (Act.put { tmps:=a.tmps,defers:=[] } (some p1) (V1 x)) (some p2) (V2 x):=by simp[Act.put]
  rw[ea]
  refine wpIn_mono (jd hG N assign _ s2 h1 SJ I1 jc _ W hRj) fun e a' W' hp=>?_
  obtain⟨x',s3,I3,sY,rfl,hq,nz,xy⟩:=hp.goes
  cases x' with
  | cA =>
   obtain⟨qi,hq⟩:=hq
   have vX:aG I1 jc ⟨s.n,s.t,st pre,(st pre).length,[]⟩ W I3 sY s3 W':=((aG.same sb1).trans (aG.same sb2)).trans xy
   have Q0:=Rel.outer (so:=s) (s1:=⟨s.n,s.t,st pre,(st pre).length,[]⟩) hO vX rfl rfl nz
   have hle:s.base<=(st pre).length:=by have:=hO.base; rw[e4,e3] at this; exact this
   exact⟨vX.keeps QZ.heap (sT pre) _,s3,I3,sY,hq,nz,Q0,aG.outer (s1:=⟨s.n,s.t,st pre,(st pre).length,[]⟩) gV vX rfl rfl hle,⟨vX.JQ QZ.heap (sT pre) n1 (pB hk) (aV hk),vX.JQ QZ.heap (sT pre) n2 (kv hl) (aV hl.choose_spec)⟩,qi,by rw[vX.base,qi],vX.rl⟩
  | exit id=>exact hq.elim
  | ret=>exact hq.elim
 case body =>
  rintro pre x a' W tX ⟨s3,I3,sY,hq,nz,Q0,xy,⟨n1,n2⟩,qi,hb,hr⟩ hl hk
  refine wpIn_mono (jd hG N body _ s3 h2 hq I3 sY a' W nz) fun e a4 W4 hp=>?_
  obtain⟨x',s4,I4,SP,rfl,hq,DZ,yc⟩:=hp.goes
  cases x' with
  | cA =>
   obtain⟨π,oM⟩:=hq
   obtain⟨I5,β5,SQ,Q1⟩:=dD hG.ok oM I4 SP a4 W4 DZ
   have vX:=yc.trans Q1
   have Q2:tU s3.st=true:=by rw[qi]; exact sT _
   have hle:s.base<=s3.st.length:=by
    obtain⟨e1,e2,e3,e4,e5⟩:=aD.dT s s3.st
    have:=Q0.base; rw[e4,e3] at this; exact this
   exact⟨rfl,vX.keeps nz.heap Q2 _,I5,β5,Rel.outer Q0 vX hb hr SQ,aG.outer xy vX hb hr hle,vX.JQ nz.heap Q2 n1 (pB hk) (aV hk),vX.JQ nz.heap Q2 n2 (kv hl) (aV hl.choose_spec)⟩
  | exit id=>exact hq.elim
  | ret=>exact hq.elim
 case done =>
  rintro W ⟨I1,jc,cI,gV,n1,n2⟩ hk
  exact Ac I1 jc W cI gV hk n1
def pC:Nat->Code->Code
 | k+1,.seq a b=>.seq a (pC k b)
 | _,_=>.skip
def nD:Nat->Code->Code
 | k+1,.seq a b=>nD k b
 | _,c=>c
def Fx:Nat->Code->Bool
 | 0,_=>true
 | k+1,.seq a b=>Fx k b
 | _,_=>false
theorem t_ (hG:fD G) {R:List (Nat × af)} {m:Nat} {Q:Exit->Act->World->Prop} {K:aD->Prop}:∀ (k n:Nat) (c:Code) (s:aD) (a:Act) (I:Nat->Prop) (β:an) (w:World),Fx k c=true->bR R c=true ->
  pw G R n (pC k c) (fun e s'=>match e with
   | .cA=>K s'
   | _=>False) s->Rel G I β s a w->(∀ s' I' ay a' w',K s'->Rel G I' ay s' a' w'->aG I β s w I' ay s' w'->(nD k c).wpIn Fence.wide m G.cx.P Q a' w')->c.wpIn Fence.wide m G.cx.P Q a w
 | _,0,_,_,_,_,_,_,_,_,h,_,_=>h.elim
 | 0,n+1,c,s,a,I,β,w,_,_,h,hR,hQ=>by
  have h':K s:=by cases c<;>exact h
  have:=hQ s I β a w h' hR (aG.same ⟨rfl,rfl,rfl,rfl⟩)
  cases c<;>exact this
 | k+1,n+1,c,s,a,I,β,w,hk,hp,h,hR,hQ=>by
  cases c with
  | seq A C =>
   simp only[bR,Bool.and_eq_true] at hp
   replace h:bif ix R (pC k C) then (∃ s0,pw G R n A (oU (fun s'=>Sub G s' s0) (fun e s'=>match e with
    | .cA=>K s'
    | _=>False)) s/\pw G R n (pC k C) (fun e s'=>match e with
    | .cA=>K s'
    | _=>False) s0) else pw G R n A (oU (pw G R n (pC k C) (fun e s'=>match e with
    | .cA=>K s'
    | _=>False)) (fun e s'=>match e with
    | .cA=>K s'
    | _=>False)) s:=h
   cases Ij:ix R (pC k C) with
   | true =>
    rw[Ij] at h
    obtain⟨s0,h,h2⟩:=h
    refine wpIn_seq (wpIn_mono (wpIn_wide.2 ((er hG n A _ s hp.1 h).run hR)) fun e a' w' hq=>?_)
    obtain⟨x',s',I',ay,rfl,hq,br,hg⟩:=hq.goes
    cases x' with
    | cA =>
     obtain⟨I3,sY,nz,xy⟩:=hq I' ay a' w' br
     exact t_ hG k n C s0 a' I3 sY w' hk hp.2 h2 nz fun s2 I2 ee a2 w2 hK eM jq=>hQ s2 I2 ee a2 w2 hK eM ((hg.trans xy).trans jq)
    | exit id=>exact hq.elim
    | ret=>exact hq.elim
   | false =>
   rw[Ij] at h
   refine wpIn_seq (wpIn_mono (wpIn_wide.2 ((er hG n A _ s hp.1 h).run hR)) fun e a' w' hq=>?_)
   obtain⟨x',s',I',ay,rfl,hq,br,hg⟩:=hq.goes
   cases x' with
   | cA=>exact t_ hG k n C s' a' I' ay w' hk hp.2 hq br fun s2 I2 ee a2 w2 hK eM jq=>hQ s2 I2 ee a2 w2 hK eM (hg.trans jq)
   | exit id=>exact hq.elim
   | ret=>exact hq.elim
  | _=>cases hk
theorem Rel.Bn {d:List Deferred} (hR:Rel G I β s a w):Rel { G with Bn:=d } I β s { a with defers:=d } w:=⟨hR.small,rfl,hR.size,hR.base,hR.get,hR.heap,⟨hR.au.au,hR.au.lV,hR.au.row⟩⟩
theorem Rel.first {t:TM} {n:Nat} {args:List PV} {vals:List Value} {S:List aj} {rl:List Nat} (hd:G.Bn = []) (hle:args.length<=n) (jK:n<=16777215) (ht:∀ m x,t.get m=some x->(∃ j,m=0+j/\args[j]?=some x)\/TM.nil.get m=some x) (hH:aC I β S w) (hM:cE G I w) (hA:bg w I args β vals):Rel G I β ⟨n,t,S,S.length,rl⟩ { tmps:=vals.toArray++Array.replicate (n - vals.toArray.size) Go.undef,defers:=[] } w:=by
 have ZD:=hA.length
 refine⟨jK,hd.symm,by simp; omega,Nat.le_refl _,fun n x hx=>?_,hH,hM⟩
 rcases ht n x hx with ⟨j,hj,hx⟩|hx
 ·rw[Nat.zero_add] at hj
  subst hj
  obtain⟨v,hv,hi⟩:=hA.get hx
  have bZ:n < vals.length:=(List.getElem?_eq_some_iff.1 hv).1
  exact⟨v,by rw[Array.getElem?_append_left (by simpa using bZ)]; simpa using hv,hi⟩
 ·cases hx
abbrev Ae (G:Gx) (D:Nat):Gx:={ G with Bn:=[mark D] }
set_option maxHeartbeats 1000000 in
theorem Spec.enterH (hG:fD G) (R:List (Nat × af)) {f:FuncId} {fn:Func} {c:Code} {args:List PV} {S:List aj} {K:PV->List aj->Prop} (N k:Nat) {i:Nat} {g:Operand} {p1 p2:Tmp} {assign body A B:Code} (hf:G.cx.P.funcs[f]?=some fn) (hb:fn.body=some c) (j3:bR R c=true) (hk:Fx k c=true) (Jr:nD k c = .seq (.seq A (.block i (.rangeFunc g #[p1,p2] assign body))) B) (h1:fT assign=true) (h2:fT body=true)
  {α:Type} (X1 X2:α->PV) (V1 V2:α->Value) (hX:∀ x w I β,(X1 x).Is w I β (V1 x)/\(X2 x).Is w I β (V2 x)) (all:List α) (st:List α->List aj) (sT:∀ pre,tU (st pre)=true) (sv:List (Nat × PV))
  (tX:bif Nat.ble args.length fn.ntmps && Nat.ble fn.ntmps 16777215 && !(fn.name == "runtime.NumGoroutine") then lH S 0 fun b=>BV args 0 .nil fun t=>pw G R N (pC k c) (fun e s'=>match e with
   | .cA=>pw G R N A (fun e s'=>match e with
    | .cA=>∃ π,fK G.cx π s' ⟨fn.ntmps,lf sv .nil,st [],S.length,[]⟩
    | _=>False) s'
   | _=>False) ⟨fn.ntmps,t,S,b,[]⟩ else False)
  (YJ:∀ I β a w,Rel G I β ⟨fn.ntmps,lf sv .nil,st [],S.length,[]⟩ a w->∃ gf lb Fc,a.eval g = .func (.func gf) #[] lb/\Ev.gz G.cx.P gf/\vW 4 G.cx.P gf lb (fun x=>#[V1 x,V2 x]) all Fc/\∀ pre W I' ay,Rel G I' ay ⟨fn.ntmps,lf sv .nil,st pre,S.length,[]⟩ a W->aG I β ⟨fn.ntmps,lf sv .nil,st [],S.length,[]⟩ w I' ay ⟨fn.ntmps,lf sv .nil,st pre,S.length,[]⟩ W->Fc W)
  (tZ:∀ pre x,pre++[x] <+: all->aD.put ⟨fn.ntmps,lf sv .nil,st pre,(st pre).length,[]⟩ (some p1) (X1 x) fun s1=>s1.put (some p2) (X2 x) fun s2=>JS G N assign body (st pre) (st (pre++[x])) s2)
  (hend:∀ D,pw (Ae G D) R N B (fun e s'=>tU s'.st=true/\BW (Ae G D) fn.results.toList S.length K e s') ⟨fn.ntmps,lf sv .nil,st all,S.length,[]⟩) (hd:G.Bn = []:=by rfl):Spec G f args S [] K:=by
 obtain⟨hc,h⟩:=ba tX
 simp only[Bool.and_eq_true,Bool.not_eq_true'] at hc
 obtain⟨⟨hle,jK⟩,mg⟩:=hc
 have hle:=Nat.le_of_ble_eq_true hle
 have jK:=Nat.le_of_ble_eq_true jK
 replace h:=gC h
 rw[Nat.zero_add] at h
 obtain⟨t,h,ht⟩:=mO h
 refine Spec.intro (Ev.gi hf hb mg) fun I β w vals hH hM hA=>(callsIn_wide (n:=5)).1 (callsIn_of_wp_marks hf hb trivial ?_ rfl)
 have hR:=Rel.first (rl:=[]) hd hle jK ht hH hM hA
 have yd:bR R (nD k c)=true:=by
  have key:∀ (k:Nat) (c:Code),bR R c=true->bR R (nD k c)=true:=by
   intro k
   induction k with
   | zero=>intro c h; cases c<;>exact h
   | succ k ih =>
    intro c h
    cases c with
    | seq a b =>
     simp only[bR,Bool.and_eq_true] at h
     exact ih b h.2
    | _=>exact h
  exact key k c j3
 rw[Jr] at yd
 simp only[bR,Bool.and_eq_true] at yd
 have SR:=yd.1.1
 have SS:=yd.2
 refine t_ hG k N c _ _ I β w hk j3 h hR fun s0 I0 eU a0 w0 Hd YK hg0=>?_
 rw[Jr]
 refine wpIn_seq (wpIn_seq (wpIn_mono (wpIn_wide.2 ((er hG N A _ s0 SR Hd).run YK)) fun e a' w' hp=>?_))
 obtain⟨x',s',I',ay,rfl,hq,br,re⟩:=hp.goes
 have re:=hg0.trans re
 cases x' with
 | exit id=>exact hq.elim
 | ret=>exact hq.elim
 | cA =>
 obtain⟨π,oM⟩:=hq
 obtain⟨I1,jc,cI,gV⟩:=dD hG.ok oM I' ay a' w' br
 have gV:=re.trans gV
 obtain⟨gf,lb,Fc,he,hen,yb,Fw⟩:=YJ I1 jc a' w' cI
 refine wpIn_block ?_
 refine JT hG hd X1 X2 V1 V2 hX he hen yb st sT rfl cI (fun pre W I' ay h1 h2=>Fw pre W I' ay h1 h2) h1 h2 tZ fun I2 ee W eM jq NZ hnD=>?_
 have hgB:=gV.trans jq
 have hda:a'.defers = []:=cI.defers.trans hd
 have hG':fD (Ae G w'.heap.size):=⟨hG.ok,hG.bE⟩
 show B.wpIn Fence.wide 5 G.cx.P (bodyPostM Fence.wide 5 G.cx.P fn _) { a' with defers:=mark w'.heap.size::a'.defers } W
 rw[hda]
 have nz:Rel (Ae G w'.heap.size) I2 ee ⟨fn.ntmps,lf sv .nil,st all,S.length,[]⟩ { a' with defers:=[mark w'.heap.size] } W:=Rel.Bn eM
 refine wpIn_mono (wpIn_wide.2 ((er hG' N B _ _ SS (hend _)).run nz)) fun e a4 W4 hp=>?_
 obtain⟨x',s4,I4,SP,rfl,⟨hm4,hq⟩,DZ,yc⟩:=hp.goes
 have hmA:tU (st all)=true:=sT _
 have JU:W4.heap[w'.heap.size]?=some (.deferred (some [])):=(yc.keeps nz.heap hmA 0).same _ _ (Nat.zero_le _) NZ rfl
 have SU:¬ I4 w'.heap.size:=yc.JQ nz.heap hmA hnD (pB NZ) (aV NZ)
 have SQ:=DZ.jD hm4 SU (pB JU) (fL.put W4 w'.heap.size (.deferred none))
 have Q1:=(hgB.trans (show aG I2 ee ⟨fn.ntmps,lf sv .nil,st all,S.length,[]⟩ W I4 SP s4 W4 from yc)).jD (fL.put W4 w'.heap.size (.deferred none)) re.ext.size
 have kT:BW (Ae G w'.heap.size) fn.results.toList S.length K .cA s4->bodyPostM Fence.wide 5 G.cx.P fn (fun e w'=>∃ v r S' I' ay,e = .returned v/\K r S'/\r.Is w' I' ay v/\aC I' ay S' w'/\cE G I' w'/\Ext I β S w I' ay S' w'/\S.length<=S'.length/\∀ l,l < S.length->l ∉ []->ay l=β l) .ret a4 W4:=fun hq=>by
  obtain⟨v,bp,v',r,S',I6,β6,hv,hK,hi,hH6,SV,hE6,hl6,dU⟩:=tD (fn:=fn) hG' rfl rfl rfl SQ Q1 hq
  show LeavesInM _ _ _ _ _ _ a4.defers _ _
  rw[show a4.defers = [mark w'.heap.size] from DZ.defers]
  exact⟨by simp,.inl ⟨_,_,rfl,run_takeDeferred JU,v,bp,v',r,S',I6,β6,hv,hK,hi,hH6,⟨SV.au,SV.lV,SV.row⟩,hE6,hl6,dU⟩⟩
 cases x' with
 | cA=>exact kT hq
 | ret=>exact kT hq
 | exit id=>exact hq.elim
end
def JV (G:Gx) (s:aD) (o:Oper) (q:PV->aD->Prop):Prop:=match o.op with
 | .call { callee:=.builtin .copy,args:=⟨[d,x]⟩,argTypes:=⟨t::_⟩ }=>aU (G.cx.fg t) fun td=>match td with
  | .slice elem=>aU (Ev.cC G.cx elem) fun n=>bif Nat.beq n 1 then s.ev d fun d=>s.ev x fun x=>(match d with
   | .ref l off len=>aU s.st[l]? fun b=>bif b.mem && b.can then ES G.cx s.st 1 x fun src=>aU (fW false 1 src) fun fs=>(∀ e∈fs,∃ k n,e.norm = .int k n)/\∃ N:Nat,0 < N/\N=Nat.min fs.length len/\∃ cs,rE b.cs ((fs.take N).map PV.norm) off=some cs/\oB s.st l (b.c8 cs) fun st=>q (.int .i64 (N:Nat)) (s.store st) else False
   | _=>False) else False
  | _=>False
 | _=>False
section
variable {w w':World} {I I':Nat->Prop} {β ay:an} {G:Gx} {s:aD} {a:Act} {st dY:List aj}
theorem Fy (hG:fD G) {o:Oper} {q:PV->aD->Prop} (h:JV G s o q):fO G s o q:=fO.intro fun I β a w hR=>by
 unfold JV at h
 have hh:=hR.heap
 split at h
 ·rename_i od ox t r h_
  replace h:=ao h
  obtain⟨d,hu,h⟩:=h
  split at h
  ·rename_i elem
   replace h:=ao h
   obtain⟨n,hn,h⟩:=h
   replace h:=ba h
   obtain⟨lT,h⟩:=h
   obtain rfl:=Nat.eq_of_beq_eq_true lT
   replace h:=aD.cd hR h
   obtain⟨d,h,hd⟩:=h
   replace h:=aD.cd hR h
   obtain⟨x,h,hx⟩:=h
   split at h
   ·rename_i l off len
    replace h:=ao h
    obtain⟨b,hb,h⟩:=h
    replace h:=ba h
    obtain⟨HX,h⟩:=h
    simp only[Bool.and_eq_true] at HX
    obtain⟨cU,rG⟩:=HX
    obtain⟨az,hm⟩:=nQ rG
    obtain⟨src,ad,qz,c,news,h,hxv,ja,rI,sP,MI⟩:=oL hG.ok hh (Nat.zero_lt_one) h hx
    replace h:=ao h
    obtain⟨fs,RA,hints,N,ze,hN,cs,fj,h⟩:=h
    replace h:=jP h
    obtain⟨bZ,h⟩:=h
    obtain⟨YL,l6⟩:=fZ (Nat.zero_lt_one) (.inr rfl) RA ja rI
    simp only[PV.Is] at hd
    obtain⟨p,g,o,cap,hp,ha,hdv,hcap⟩:=hd
    obtain⟨arr,ty,fr,gU,lQ,dh⟩:=hZ hh hb cU hp ha
    have BC:fr=(0,0):=(dh.1 (by rw[hm]; decide)).1
    subst BC
    rw[Nat.mul_one] at rI
    have hlf:N<=fs.length:=by rw[hN]; exact Nat.min_le_left _ _
    have sN:∀ v∈news.take N,v.oneCell'=true:=fun v hv=>ja.BD v (List.mem_of_mem_take hv)
    have Jr:(news.take N).length=N:=by rw[List.length_take]; omega
    have hyc:bg w I ((fs.take N).map PV.norm) β (news.take N):=by
     refine bg.of (by rw[List.length_map,List.length_take,List.length_take,rI,YL]) fun i e he=>?_
     rw[List.getElem?_map,List.getElem?_take] at he
     split at he
     ·rename_i hi
      cases hfi:fs[i]? with
      | none=>rw[hfi] at he; cases he
      | some e0 =>
      rw[hfi] at he
      cases he
      obtain⟨k,z,M_⟩:=hints e0 (List.mem_of_getElem? hfi)
      obtain⟨_,h3⟩:=l6.2 i _ hfi
      have rZ:e0.cells = [e0]:=by cases e0<;>first|rfl|cases M_
      obtain⟨v,hv,hvi,_⟩:=h3 0 e0 (by rw[rZ]; rfl)
      rw[Nat.mul_one,Nat.add_zero] at hv
      refine⟨v,by rw[List.getElem?_take,if_pos hi]; exact hv,?_⟩
      have h4:=xr hvi
      rw[M_] at h4
      show PV.Is w I e0.norm β v
      rw[M_]
      simp only[PV.Is] at h4 ⊢
      exact h4
     ·cases he
    have hle:off+N<=b.cs.length:=by
     unfold rE at fj
     split at fj
     ·rename_i hle
      have:=Nat.le_of_ble_eq_true hle
      rw[List.length_map,List.length_take] at this; omega
     ·cases fj
    have eL:o+off+(news.take N).length<=arr.size:=by
     obtain⟨z,hz,_⟩:=lQ _ _ (List.getElem?_eq_getElem (show off+N - 1 < b.cs.length by omega))
     have:=(Array.getElem?_eq_some_iff.1 hz).1
     rw[Jr]
     omega
    have qi:=run_storeCells_at (P:=G.cx.P) g (o+off) ty (news.take N) 0 arr w gU (by simpa using eL) sN
    have ZU:(Builtin.firstCells 1 N (.slice ad qz c)).run G.cx.P w = .ok (news.take N).toArray w:=by
     rcases sP with h0|⟨g',o',rfl⟩
     ·omega
     ·refine run_firstCells_some w 1 N ⟨g',o',none⟩ qz c _ (by rw[Jr,Nat.mul_one]) fun j v hv=>?_
      have hv':news[j]?=some v:=by
       rw[List.getElem?_take] at hv
       split at hv
       ·exact hv
       ·cases hv
      have h0:=MI g' o' rfl j v hv'
      by_cases hj:j=0<;>simpa [Addr.add,hj] using h0
    obtain⟨arr',JW⟩:∃ A,A=(arr.toList.take (o+off)++news.take N++arr.toList.drop (o+off+(news.take N).length)).toArray:=⟨_,rfl⟩
    rw[Nat.add_zero,← JW] at qi
    have Nd:arr'.size=arr.size:=by
     rw[JW]
     simp only[List.size_toArray,List.length_append,List.length_take,List.length_drop,Array.length_toList]
     rw[List.length_take] at eL
     omega
    have bp:(execOp a.eval ‹Oper›).run G.cx.P w = .ok (.value (.int .i64 (N:Nat))) (w.setRow g arr'):=by
     have Zm:∀ ty,(Builtin.copy_ (t::r).toArray ty #[a.eval od,a.eval ox]).run G.cx.P w = .ok (.int .i64 (N:Nat)) (w.setRow g arr'):=fun ty=>by
      rw[hdv,hxv]
      have tE:Nat.min qz len=N:=by rw[hN,← YL]
      simp[Builtin.copy_,run_underlying (hG.ok.un hu),Builtin.lenOf,tE,Ev.di hG.ok hn,ZU,qi,goInt]
     unfold execOp
     rw[h_]
     simp[resolve,invoke,builtin,Zm]
    rw[bp]
    obtain⟨k1,k2,k3,k4,k5,k6⟩:=ki b cs
    have HY:cs.length=b.cs.length:=by
     unfold rE at fj
     split at fj
     ·cases fj; simp only[List.length_append,List.length_take,List.length_drop,List.length_map]; rw[List.length_map,List.length_take] at *; omega
     ·cases fj
    have rH:=xo fj lQ hyc sN eL
    rw[← JW] at rH
    obtain⟨hH,hE⟩:=hh.write (b':=b.c8 cs) hb az hm hp ha gU (by rw[k5]; exact az) (by rw[k4]; exact hm) (arr':=arr') (fun hI hO=>by
     have l6:=setRow_heap w g arr arr' ty (0,0) gU
     obtain⟨q',kL,hk⟩:=hh.dX l b hb az
     rw[hp] at kL
     cases kL
     refine⟨p,hp,?_⟩
     rw[k1]
     unfold aj.mem at cU
     split at hk
     ·rename_i cm
      refine⟨g,o,_,ty,(0,0),ha,l6,?_,hO⟩
      rw[k6]; exact rH.mono (fun _ h=>h) hI (fun _ _ h=>h)
     ·rename_i cm
      obtain⟨g',RF,fr',cJ,HZ,_,_,h1,h2,h3,h4,h5⟩:=hk
      rw[ha] at cJ; cases cJ
      rw[gU] at HZ; cases HZ
      refine⟨g,_,(0,0),ha,by rw[k2]; exact l6,?_,hO,by rw[k6,k3,HY]; exact h1,h2,h3,by rw[k3,Nd]; exact h4,by rw[k3]; exact h5⟩
      rw[k6]; exact rH.mono (fun _ h=>h) hI (fun _ _ h=>h)
     ·rename_i cm
      rw[cm] at cU; simp at cU
     ·rename_i cm
      rw[cm] at cU; simp at cU
     ·rename_i cm
      rw[cm] at cU; simp at cU)
    refine bF.mk' hR h hH hE (fun _ _ h=>h) (by simp) (fun _ _=>rfl) ?_
    simp only[PV.Is]
   ·exact h.elim
  ·exact h.elim
 ·exact h.elim
end
end Go.Proofs.YtbnoodjnpooocaaGreatDoor.Pw

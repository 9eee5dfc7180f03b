/- What this claim is proved with: no condition. -/
import Derived.Test.YtnbhdacpogplgaaGreatDoorPn9
import Derived.Deep.OwnRows
import Derived.Laws.AppendOwn
set_option linter.unusedVariables false
set_option linter.unusedSimpArgs false
namespace Go.Proofs.YtnbhdacpogplgaaGreatDoor.Pw
open Go Go.RowKit
def dG (b b':aj):Prop:=match b,b' with
 | ⟨k,ty,n,m,live,cs⟩,⟨k',Tl,n',m',EP,EN⟩=>bif Nat.beq ty Tl && Nat.beq n n' && Md.beq m m' && live && EP && BK.beq k k' then (match k with
  | .dyn=>cs=EN
  | .mp=>cs=EN
  | _=>iC pQ cs EN) else False
def ER:List aj->List aj->(List aj->Prop)->Prop
 | [],T,k=>k T
 | b'::S,b::st,k=>dG b b'/\ER S st k
 | _::_,[],_=>False
def CF (st S:List aj) (k:List aj->Prop):Prop:=ER S st k
def wH:List aj->List aj->(List aj->Prop)->Prop
 | [],T,k=>k T
 | b::l,T,k=>wH l T fun r=>k (b::r)
def gD:List aj->List aj->Bool
 | [],[]=>true
 | a::S,b::T=>a.live && Md.beq a.m b.m && gD S T
 | _,_=>false
theorem pX:∀ {S T:List aj} {k:List aj->Prop},wH S T k->k (S++T)
 | [],_,_,h=>h
 | b::l,T,k,h=>pX (S:=l) h
theorem BK.jr {m n:BK} (h:BK.beq m n=true):m=n:=by cases m<;>cases n<;>first|rfl|cases h
theorem bF {b b':aj} (h:dG b b'):b.ty=b'.ty/\b.size=b'.size/\b.m=b'.m/\b.live=true/\b'.live=true/\b.k=b'.k/\((b.k.nM=false/\b.cs=b'.cs)\/(b.k.nM=true/\iC pQ b.cs b'.cs)):=by
 obtain⟨k,ty,n,m,live,cs⟩:=b
 obtain⟨k',Tl,n',m',EP,EN⟩:=b'
 obtain⟨hc,h⟩:=aK h
 simp only[Bool.and_eq_true] at hc
 obtain⟨⟨⟨⟨⟨h1,h2⟩,h3⟩,h4⟩,h5⟩,h6⟩:=hc
 refine⟨Nat.eq_of_beq_eq_true h1,Nat.eq_of_beq_eq_true h2,Md.jr h3,h4,h5,BK.jr h6,?_⟩
 cases k with
 | dyn=>exact .inl ⟨rfl,h⟩
 | mp=>exact .inl ⟨rfl,h⟩
 | loc=>exact .inr ⟨rfl,h⟩
 | arr=>exact .inr ⟨rfl,h⟩
theorem pY:∀ {S st:List aj} {k:List aj->Prop},CF st S k->∃ lM T,st=lM++T/\lM.length=S.length/\k T/\∀ (l:Nat) (b b':aj),lM[l]?=some b->S[l]?=some b'->dG b b'
 | [],T,k,h=>⟨[],T,rfl,rfl,h,fun l b b' hb=>by simp at hb⟩
 | b'::S,b::st,k,h=>by
  obtain⟨lM,T,rfl,hl,hk,ha⟩:=pY (S:=S) (st:=st) h.2
  refine⟨b::lM,T,rfl,by simp[hl],hk,fun l c c' hc qx=>?_⟩
  cases l with
  | zero=>simp at hc qx; subst hc; subst qx; exact h.1
  | succ l=>exact ha l c c' (by simpa using hc) (by simpa using qx)
 | _::_,[],_,h=>h.elim
theorem j':∀ {S T:List aj},gD S T=true->S.length=T.length/\∀ (l:Nat) (a b:aj),S[l]?=some a->T[l]?=some b->a.live=true/\a.m=b.m
 | [],[],_=>⟨rfl,fun l a b h=>by simp at h⟩
 | a::S,b::T,h=>by
  simp only[gD,Bool.and_eq_true] at h
  obtain⟨h1,h2⟩:=j' h.2
  refine⟨by simp[h1],fun l c d hc hd=>?_⟩
  cases l with
  | zero=>simp at hc hd; subst hc; subst hd; exact⟨h.1.1,Md.jr h.1.2⟩
  | succ l=>exact h2 l c d (by simpa using hc) (by simpa using hd)
 | [],_::_,h=>by simp[gD] at h
 | _::_,[],h=>by simp[gD] at h
section
variable {w w':World} {I I':Nat->Prop} {β aG:au} {G:Gx} {s:aL} {a:Act} {st cA:List aj}
theorem Spec.Mz {f:FuncId} {args aR:List PV} {r0:PV} {S0 S1:List aj} {K:PV->List aj->Prop} (h:Spec G f aR S0 [] fun r S'=>r=r0/\S'=S1) (hm:gD S0 S1=true) (eu:S0.all (rE S0.length)=true) (hu:(ct aR).all (fun l=>Nat.blt l S0.length)=true)
  (tT:r0.bW.all (fun l=>Nat.blt l S0.length)=true) (hle:iC kq args aR) (hK:CF st S0 fun T=>rC S1 fun S1=>wH S1 T (K r0)):Spec G f args st [] K:=by
 obtain⟨lM,T,rfl,x_,hk,zx⟩:=pY hK
 replace hk:=pX (j6 hk)
 obtain⟨BO,Cl⟩:=j' hm
 refine Spec.intro h.run.1 fun I β w aS hH hM hA=>?_
 let eQ:au:=fun l=>if l < S0.length then β l else none
 have fT:∀ l,l < S0.length->eQ l=β l:=fun l hl=>if_pos hl
 have tY:∀ {l p},eQ l=some p->l < S0.length/\β l=some p:=fun {l p} h=>by
  by_cases hl:l < S0.length
  ·exact⟨hl,by rw[← fT l hl]; exact h⟩
  ·have:eQ l=none:=if_neg hl
   rw[this] at h; cases h
 have s9:∀ {l:Nat} {b':aj},S0[l]?=some b'->l < S0.length/\∃ b,(lM++T)[l]?=some b/\dG b b':=fun {l b'} bV=>by
  have bA:l < S0.length:=(List.getElem?_eq_some_iff.1 bV).1
  have tZ:l < lM.length:=by omega
  refine⟨bA,lM[l],by rw[List.getElem?_append_left tZ]; simp[tZ],zx l _ b' (by simp[tZ]) bV⟩
 have low:∀ {l:Nat} {b':aj},S0[l]?=some b'->b'.k.nM=true->∀ c∈b'.cs,∀ m∈c.bW,m < S0.length:=fun {l b'} bV hk c hc m jg=>by
  rw[List.all_eq_true] at eu
  have:=eu b' (List.mem_of_getElem? bV)
  unfold rE at this
  have cr:b'.cs.all (fun c=>c.bW.all fun l=>Nat.blt l S0.length)=true:=by
   cases bH:b'.k with
   | dyn=>rw[bH] at hk; cases hk
   | mp=>rw[bH] at hk; cases hk
   | loc=>rw[bH] at this; exact this
   | arr=>rw[bH] at this; exact this
  rw[List.all_eq_true] at cr
  have:=cr c hc
  rw[List.all_eq_true] at this
  exact Nat.le_of_ble_eq_true (this m jg)
 have ES:aB I eQ S0 w:=by
  refine⟨fun l hl=>if_neg (by omega),fun l b' bV ax=>?_⟩
  obtain⟨bA,b,hb,zy⟩:=s9 bV
  obtain⟨e1,e2,e3,e4,e5,e6,e7⟩:=bF zy
  obtain⟨p,hp,hB⟩:=hH.dX l b hb e4
  have own:∀ {g:Nat} {fr:Nat × Nat},Own I β (lM++T) l g fr b->Own I eQ S0 l g fr b':=fun {g fr} ho=>by
   refine⟨fun hr=>?_,fun hr=>ho.2 (by rw[e3]; exact hr)⟩
   obtain⟨h1,h2,h3⟩:=ho.1 (by rw[e3]; exact hr)
   refine⟨h1,h2,fun l2 b2 bR du aY p2 g2 o2 eg ef=>?_⟩
   obtain⟨_,b3,gL,hJ⟩:=s9 du
   exact h3 l2 b3 bR gL (bF hJ).2.2.2.1 p2 g2 o2 (tY eg).2 ef
  have cells:b'.k.nM=true->∀ {arr:Array Value} {o:Nat},aO w I β b.cs arr o->aO w I eQ b'.cs arr o:=fun hk {arr o} hc i c hi=>by
   have iN:aO w I β b'.cs arr o:=by
    rcases e7 with ⟨hd,_⟩|⟨_,h7⟩
    ·(rw[e6,hk] at hd; cases hd)
    ·exact eG h7 hc
   obtain⟨u,tu,FY,h1⟩:=iN i c hi
   exact⟨u,tu,PV.Is.mono (fun _ h=>h) (fun _ _=>rfl) c β eQ u (fun m p jg cE=>by rw[fT m (low bV hk c (List.mem_of_getElem? hi) m jg)]; exact cE) FY,h1⟩
  refine⟨p,by rw[fT l bA]; exact hp,?_⟩
  split at hB
  ·rename_i bH
   have fl:b'.k = .loc:=by rw[← e6]; exact bH
   obtain⟨g,o,arr,ty,fr,h1,h2,h3,ho⟩:=hB
   rw[fl]
   exact⟨g,o,arr,ty,fr,h1,h2,cells (by rw[fl]; rfl) h3,own ho⟩
  ·rename_i bH
   have fl:b'.k = .arr:=by rw[← e6]; exact bH
   obtain⟨g,arr,fr,h1,h2,h3,ho,h4,h5,h6,h7,h8⟩:=hB
   have hlen:b'.cs.length=b.cs.length:=by
    rcases e7 with ⟨hd,_⟩|⟨_,h9⟩
    ·rw[bH] at hd; cases hd
    ·exact (iD h9).symm
   rw[fl]
   exact⟨g,arr,fr,h1,by rw[← e1]; exact h2,cells (by rw[fl]; rfl) h3,own ho,by rw[hlen,← e2]; exact h4,h5,h6,by rw[← e2]; exact h7,by rw[← e2]; exact h8⟩
  ·rename_i bH
   have fl:b'.k = .dyn:=by rw[← e6]; exact bH
   have fi:b.cs=b'.cs:=by
    rcases e7 with ⟨_,h9⟩|⟨hd,_⟩
    ·exact h9
    ·(rw[bH] at hd; cases hd)
   obtain⟨⟨h1,h2,h3,h4⟩,hB⟩:=hB
   rw[fl]
   refine⟨⟨by rw[← e2]; exact h1,by rw[← fi]; exact h2,h3,h4⟩,?_⟩
   rcases hB with h|⟨g,arr,fr,h5,h6,h7,ho,h8⟩
   ·exact .inl h
   ·exact .inr ⟨g,arr,fr,h5,by rw[← e1]; exact h6,by rw[← fi,← e2]; exact h7,own ho,by rw[← e2]; exact h8⟩
  ·rename_i bH
   have fl:b'.k = .mp:=by rw[← e6]; exact bH
   have fi:b.cs=b'.cs:=by
    rcases e7 with ⟨_,h9⟩|⟨hd,_⟩
    ·exact h9
    ·(rw[bH] at hd; cases hd)
   obtain⟨g,h1,h2,ho⟩:=hB
   rw[fl]
   exact⟨g,h1,by rw[← fi]; exact h2,own ho⟩
 have F7:aU w I aR eQ aS:=by
  have:=eR (fun _ _=>cX) hle hA
  refine aU.mono (fun _ h=>h) (fun _ _=>rfl) aR β eQ aS (fun m p jg cE=>?_) this
  rw[List.all_eq_true] at hu
  rw[fT m (Nat.le_of_ble_eq_true (hu m jg))]; exact cE
 refine (h.run.2 I eQ w aS ES hM F7).mono fun e w' ⟨v,r,S',I',aG,he,⟨e1,e2⟩,hi,j_,iF,hE,hlen,jn⟩=>?_
 subst e1; subst e2
 have rO:∀ l,l < S0.length->aG l=β l:=fun l hl=>(jn l hl (by simp)).trans (fT l hl)
 have wI:∀ l p,aG l=some p->β l=some p:=fun l p hp=>by
  have:l < S0.length:=by have:=j_.lt hp; omega
  rw[← rO l this]; exact hp
 have zz:∀ {g},Wr eQ S0 g->Wr β (lM++T) g:=fun {g} ⟨l,b,p,o,h1,h2,h3,h4,h5⟩=>by
  obtain⟨bA,b2,cv,mV⟩:=s9 h1
  obtain⟨_,_,q3,q4,_⟩:=bF mV
  exact⟨l,b2,p,o,cv,q4,by rw[q3]; exact h3,(tY h4).2,h5⟩
 have Ls:∀ {g},Wr β (S'++T) g->(Wr aG S' g)\/∃ l b p o,S0.length<=l/\(lM++T)[l]?=some b/\b.live=true/\b.m = .w/\β l=some p/\p.a=some (g,o):=fun {g} ⟨l,b,p,o,h1,h2,h3,h4,h5⟩=>by
  by_cases hl:l < S'.length
  ·rw[List.getElem?_append_left hl] at h1
   exact .inl ⟨l,b,p,o,h1,h2,h3,by rw[rO l (by omega)]; exact h4,h5⟩
  ·rw[List.getElem?_append_right (by omega)] at h1
   refine .inr ⟨l,b,p,o,by omega,?_,h2,h3,h4,h5⟩
   rw[List.getElem?_append_right (by omega),x_,BO]; exact h1
 
 have apart:∀ {l:Nat} {b:aj} {p:k_} {g o:Nat},S0.length<=l->(lM++T)[l]?=some b->b.live=true->β l=some p->p.a=some (g,o)->¬ Wr eQ S0 g:=fun {l b p g o} hl hb ax hp ha ⟨l2,b2,p2,o2,h1,h2,h3,h4,h5⟩=>by
  obtain⟨bA,b3,gL,hJ⟩:=s9 h1
  obtain⟨_,_,q3,q4,_⟩:=bF hJ
  obtain⟨arr,ty,fr,_,ho⟩:=(hH.dX l2 b3 gL q4).place (tY h4).2 h5
  exact (ho.1 (by rw[q3,h3]; nofun)).2.2 l b (by omega) hb ax p g o hp ha rfl
 refine⟨v,r,S'++T,I',β,he,hk,PV.Is.mono (fun _ h=>h) (fun _ _=>rfl) r aG β v (fun m p _ hp=>wI m p hp) hi,⟨fun l hl=>hH.jE l (by simp only[List.length_append] at hl ⊢; omega),fun l b hb ax=>?_⟩,iF,⟨hE.os,hE.tape,hE.output,hE.size,fun g hg hn=>hE.block g hg fun h=>hn (zz h),fun g hg h=>?_,hE.av,fun g hg h=>(hE.new g hg h).imp id zz⟩,by simp only[List.length_append]; omega,fun _ _ _=>rfl⟩
 ·by_cases hl:l < S'.length
  ·rw[List.getElem?_append_left hl] at hb
   have hB:=j_.dX l b hb ax
   refine hB.mono (fun _ h=>h) (fun _ _=>rfl) wI fun p g o hp ha=>⟨rfl,fun hr=>?_⟩
   obtain⟨arr,ty,fr,hh,ho⟩:=hB.place hp ha
   obtain⟨h1,h2,h3⟩:=ho.1 hr
   refine⟨h2,fun l2 b2 bR cv aY p2 g2 o2 eg ef=>?_⟩
   by_cases du:l2 < S'.length
   ·rw[List.getElem?_append_left du] at cv
    exact h3 l2 b2 bR cv aY p2 g2 o2 (by rw[rO l2 (by omega)]; exact eg) ef
   ·rw[List.getElem?_append_right (by omega)] at cv
    have zA:(lM++T)[l2]?=some b2:=by rw[List.getElem?_append_right (by omega),x_,BO]; exact cv
    obtain⟨b0,ee⟩:∃ b0,S0[l]?=some b0:=⟨S0[l]'(by omega),by simp[show l < S0.length by omega]⟩
    obtain⟨_,b3,gL,hJ⟩:=s9 ee
    obtain⟨_,_,q3,q4,_⟩:=bF hJ
    obtain⟨_,q5⟩:=Cl l b0 b ee hb
    obtain⟨_,_,_,_,MA⟩:=(hH.dX l b3 gL q4).place (wI l p hp) ha
    exact (MA.1 (by rw[q3,q5]; exact hr)).2.2 l2 b2 bR zA aY p2 g2 o2 eg ef
  ·rw[List.getElem?_append_right (by omega)] at hb
   have bV:(lM++T)[l]?=some b:=by rw[List.getElem?_append_right (by omega),x_,BO]; exact hb
   have hB:=hH.dX l b bV ax
   have same:∀ {p g o},β l=some p->p.a=some (g,o)->g < w.heap.size/\w'.heap[g]?=w.heap[g]?:=fun {p g o} hp ha=>by
    have bA:=hH.ch ⟨l,b,p,o,bV,ax,hp,ha⟩
    exact⟨bA,hE.block g bA (apart (by omega) bV ax hp ha)⟩
   refine hB.mono hE.av (fun g hg=>hE.block g (hM.av g hg) fun hw=>?_) (fun _ _ h=>h) fun p g o hp ha=>⟨(same hp ha).2,fun hr=>?_⟩
   ·exact ES.jj hw hg
   ·obtain⟨arr,ty,fr,hh,ho⟩:=hB.place hp ha
    obtain⟨h1,h2,h3⟩:=ho.1 hr
    refine⟨fun hI=>(hE.new g (same hp ha).1 hI).elim h2 (apart (by omega) bV ax hp ha),fun l2 b2 bR cv aY p2 g2 o2 eg ef=>?_⟩
    by_cases du:l2 < S'.length
    ·obtain⟨b0,ee⟩:∃ b0,S0[l2]?=some b0:=⟨S0[l2]'(by omega),by simp[show l2 < S0.length by omega]⟩
     obtain⟨_,b3,gL,hJ⟩:=s9 ee
     exact h3 l2 b3 bR gL (bF hJ).2.2.2.1 p2 g2 o2 eg ef
    ·rw[List.getElem?_append_right (by omega)] at cv
     exact h3 l2 b2 bR (by rw[List.getElem?_append_right (by omega),x_,BO]; exact cv) aY p2 g2 o2 eg ef
 ·rcases Ls h with h|⟨l,b,p,o,_,h2,h3,h4,h5,h6⟩
  ·exact zz (hE.wr g hg h)
  ·exact⟨l,b,p,o,h2,h3,h4,h5,h6⟩
def nW:List aj->List aj->Prop
 | [],[]=>True
 | b::S,b'::S'=>dG b b'/\nW S S'
 | _,_=>False
theorem l6:∀ {S S':List aj},nW S S'->S.length=S'.length/\∀ (l:Nat) (b b':aj),S[l]?=some b->S'[l]?=some b'->dG b b'
 | [],[],_=>⟨rfl,fun l b b' h=>by simp at h⟩
 | b::S,b'::S',h=>by
  obtain⟨h1,h2⟩:=l6 h.2
  refine⟨by simp[h1],fun l c c' hc qx=>?_⟩
  cases l with
  | zero=>simp at hc qx; subst hc; subst qx; exact h.1
  | succ l=>exact h2 l c c' (by simpa using hc) (by simpa using qx)
 | [],_::_,h=>h.elim
 | _::_,[],h=>h.elim
theorem kN {S S':List aj} (h:nW S S') {l:Nat} {b':aj} (hb:S'[l]?=some b'):∃ b,S[l]?=some b/\dG b b':=by
 obtain⟨h1,h2⟩:=l6 h
 have hl:l < S.length:=by rw[h1]; exact (List.getElem?_eq_some_iff.1 hb).1
 exact⟨S[l],by simp[hl],h2 l _ _ (by simp[hl]) hb⟩
theorem aB.le {S S':List aj} (h:nW S S') (hH:aB I β S w):aB I β S' w:=by
 refine⟨fun l hl=>hH.jE l (by rw[(l6 h).1]; exact hl),fun l b' bV ax=>?_⟩
 obtain⟨b,hb,zy⟩:=kN h bV
 obtain⟨e1,e2,e3,e4,e5,e6,e7⟩:=bF zy
 obtain⟨p,hp,hB⟩:=hH.dX l b hb e4
 have own:∀ {g:Nat} {fr:Nat × Nat},Own I β S l g fr b->Own I β S' l g fr b':=fun {g fr} ho=>by
  refine⟨fun hr=>?_,fun hr=>ho.2 (by rw[e3]; exact hr)⟩
  obtain⟨h1,h2,h3⟩:=ho.1 (by rw[e3]; exact hr)
  refine⟨h1,h2,fun l2 b2 bR du aY p2 g2 o2 eg ef=>?_⟩
  obtain⟨b3,gL,hJ⟩:=kN h du
  exact h3 l2 b3 bR gL (bF hJ).2.2.2.1 p2 g2 o2 eg ef
 have cells:b'.k.nM=true->∀ {arr:Array Value} {o:Nat},aO w I β b.cs arr o->aO w I β b'.cs arr o:=fun hk {arr o} hc=>by
  rcases e7 with ⟨hd,_⟩|⟨_,h7⟩
  ·(rw[e6,hk] at hd; cases hd)
  ·exact eG h7 hc
 refine⟨p,hp,?_⟩
 split at hB
 ·rename_i bH
  have fl:b'.k = .loc:=by rw[← e6]; exact bH
  obtain⟨g,o,arr,ty,fr,h1,h2,h3,ho⟩:=hB
  rw[fl]
  exact⟨g,o,arr,ty,fr,h1,h2,cells (by rw[fl]; rfl) h3,own ho⟩
 ·rename_i bH
  have fl:b'.k = .arr:=by rw[← e6]; exact bH
  obtain⟨g,arr,fr,h1,h2,h3,ho,h4,h5,h6,h7,h8⟩:=hB
  have hlen:b'.cs.length=b.cs.length:=by
   rcases e7 with ⟨hd,_⟩|⟨_,h9⟩
   ·rw[bH] at hd; cases hd
   ·exact (iD h9).symm
  rw[fl]
  exact⟨g,arr,fr,h1,by rw[← e1]; exact h2,cells (by rw[fl]; rfl) h3,own ho,by rw[hlen,← e2]; exact h4,h5,h6,by rw[← e2]; exact h7,by rw[← e2]; exact h8⟩
 ·rename_i bH
  have fl:b'.k = .dyn:=by rw[← e6]; exact bH
  have fi:b.cs=b'.cs:=by
   rcases e7 with ⟨_,h9⟩|⟨hd,_⟩
   ·exact h9
   ·(rw[bH] at hd; cases hd)
  obtain⟨⟨h1,h2,h3,h4⟩,hB⟩:=hB
  rw[fl]
  refine⟨⟨by rw[← e2]; exact h1,by rw[← fi]; exact h2,h3,h4⟩,?_⟩
  rcases hB with h|⟨g,arr,fr,h5,h6,h7,ho,h8⟩
  ·exact .inl h
  ·exact .inr ⟨g,arr,fr,h5,by rw[← e1]; exact h6,by rw[← fi,← e2]; exact h7,own ho,by rw[← e2]; exact h8⟩
 ·rename_i bH
  have fl:b'.k = .mp:=by rw[← e6]; exact bH
  have fi:b.cs=b'.cs:=by
   rcases e7 with ⟨_,h9⟩|⟨hd,_⟩
   ·exact h9
   ·(rw[bH] at hd; cases hd)
  obtain⟨g,h1,h2,ho⟩:=hB
  rw[fl]
  exact⟨g,h1,by rw[← fi]; exact h2,own ho⟩
theorem Spec.BP {f:FuncId} {args:List PV} {S:List aj} {rl:List Nat} {r0:PV} {S1:List aj} (h:Spec G f args S rl fun x S'=>x=r0/\nW S' S1):Spec G f args S rl fun x S'=>x=r0/\S'=S1 :=
 Spec.intro h.run.1 fun I β w aS hH hM hA=>(h.run.2 I β w aS hH hM hA).mono fun e w' ⟨v,r,S',I',aG,he,⟨e1,e2⟩,hi,j_,iF,hE,hlen,jn⟩ =>
  ⟨v,r,S1,I',aG,he,⟨e1,rfl⟩,hi,j_.le e2,iF,⟨hE.os,hE.tape,hE.output,hE.size,hE.block,fun g hg ⟨l,b,p,o,h1,h2,h3,h4,h5⟩=>by
   obtain⟨b0,ee,zx⟩:=kN e2 h1
   obtain⟨_,_,q3,q4,_⟩:=bF zx
   exact hE.wr g hg ⟨l,b0,p,o,ee,q4,by rw[q3]; exact h3,h4,h5⟩,hE.av,hE.new⟩,by rw[← (l6 e2).1]; exact hlen,jn⟩
theorem Ro {r r0:PV} {S' S1:List aj} (h:kq r r0) (hs:nW S' S1):∃ r',oH r r'/\(fun x S'=>x=r0/\nW S' S1) r' S':=⟨r0,cX h,rfl,hs⟩
end
def aL.rP (s:aL) (c:Code) (vs:List (Nat × PV)) (cA:List aj):aL:=match s with
 | ⟨n,t,_,b,rl⟩=>⟨n,(rD vs (mP (mO c) t)).rM,cA,b,rl⟩
theorem SW.Tm {G:Gx} {s:aL} (hG:lX G) (R:List (Nat × aI)) {α:Type} {c:Code} {Q:X->aL->Prop} (hc:bL R c=true) (vs:α->List (Nat × PV)) (stx:α->List aj) (μ:α->Nat) (x0:α) (N:Nat) (π:dN) (h0:gG G.cx π s (s.rP c (vs x0) (stx x0)))
  (h:∀ x,Lp (s.rP c (vs x) (stx x)) (pw G R N c (mJ (fun s'=>∃ y π,μ y < μ x/\gG G.cx π s' (s.rP c (vs y) (stx y))) Q))):SW G (.loop c) Q s :=
 SW.inv hG (fun x=>s.rP c (vs x) (stx x)) μ (N:=N) hc x0 (dd hG.ok h0) (fun x s'=>∃ y π,μ y < μ x/\gG G.cx π s' (s.rP c (vs y) (stx y))) (fun x s' ⟨y,_,hy,hs⟩=>⟨y,hy,dd hG.ok hs⟩) fun x=>mN (h x)
theorem aE {p:Nat->Prop}:∀ l∈([]:List Nat),p l:=fun l hl=>absurd hl List.not_mem_nil
section
variable {w w':World} {I I':Nat->Prop} {β aG:au} {G:Gx} {s:aL} {a:Act} {st cA:List aj}
theorem cC.take {es:List PV} {n:Nat} {xs:List Value} (h:cC w I es n xs) {k:Nat} (hk:k<=es.length):cC w I (es.take k) n (xs.take (k*n)):=by
 have h1:k*n<=es.length*n:=Nat.mul_le_mul_right _ hk
 refine⟨by rw[List.length_take,List.length_take,h.1,Nat.min_eq_left h1,Nat.min_eq_left hk],fun i e he=>?_⟩
 rw[List.getElem?_take] at he
 split at he
 ·rename_i hi
  obtain⟨h2,h3⟩:=h.2 i e he
  refine⟨h2,fun j c hc=>?_⟩
  obtain⟨v,hv,h4⟩:=h3 j c hc
  have hj:j < n:=by rw[← h2]; exact (List.getElem?_eq_some_iff.1 hc).1
  have:i*n+n<=k*n:=by rw[← Nat.succ_mul]; exact Nat.mul_le_mul_right _ hi
  exact⟨v,by rw[List.getElem?_take,if_pos (by omega)]; exact hv,h4⟩
 ·cases he
theorem cC.drop {es:List PV} {n:Nat} {xs:List Value} (h:cC w I es n xs) (k:Nat):cC w I (es.drop k) n (xs.drop (k*n)):=by
 refine⟨by rw[List.length_drop,List.length_drop,h.1,Nat.sub_mul],fun i e he=>?_⟩
 rw[List.getElem?_drop] at he
 obtain⟨h2,h3⟩:=h.2 _ e he
 refine⟨h2,fun j c hc=>?_⟩
 obtain⟨v,hv,h4⟩:=h3 j c hc
 exact⟨v,by rw[List.getElem?_drop,← Nat.add_assoc,← Nat.add_mul]; exact hv,h4⟩
theorem mh.intro {o:Oper} {q:PV->aL->Prop} (h:∀ I β a w,Rel G I β s a w->Ev.lD G.cx.P (bN G s I β w a q) ((execOp a.eval o).run G.cx.P w)):mh G s o q:=by unfold mh; exact h
end
def MB (G:Gx) (rs:List ResultVar) (base:Nat) (K:PV->List aj->Prop) (x:X) (s:aL):Prop:=match x with
 | .exit _=>False
 | _=>∃ (π:dN) (vs:List (Nat × PV)) (S':List aj),gG G.cx π s ⟨s.n,rD vs .nil,S',s.base,s.rl⟩/\base<=S'.length/\Cw G ⟨s.n,rD vs .nil,S',s.base,s.rl⟩ rs fun r=>K r S'
def zB (G:Gx) (R:List (Nat × aI)) (N:Nat) (fn:Func) (c:Code) (args:List PV) (S:List aj) (rl:List Nat) (K:PV->List aj->Prop):Prop :=
 bif Nat.ble args.length fn.ntmps && Nat.ble fn.ntmps 16777215 && !(fn.name == "runtime.NumGoroutine") then
  jk S 0 fun b=>Cv args 0 .nil fun t=>pw G R N c (MB G fn.results.toList b K) ⟨fn.ntmps,t,S,b,rl⟩ else False
section
variable {w w':World} {I I':Nat->Prop} {β aG:au} {G:Gx} {s:aL} {a:Act} {st cA:List aj}
theorem Spec.zB (hG:lX G) (R:List (Nat × aI)) {f:FuncId} {fn:Func} {c:Code} {args:List PV} {S:List aj} {rl:List Nat} {K:PV->List aj->Prop} (N:Nat) (hf:G.cx.P.funcs[f]?=some fn) (hb:fn.body=some c) (mq:bL R c=true) (h:zB G R N fn c args S rl K) (hd:G.Pd = []:=by rfl):Spec G f args S rl K:=by
 obtain⟨hc,h⟩:=aK h
 simp only[Bool.and_eq_true,Bool.not_eq_true'] at hc
 obtain⟨⟨hle,qZ⟩,zn⟩:=hc
 have hle:=Nat.le_of_ble_eq_true hle
 have qZ:=Nat.le_of_ble_eq_true qZ
 replace h:=fk h
 rw[Nat.zero_add] at h
 obtain⟨t,h,ht⟩:=pT h
 refine Spec.intro (Ev.kt hf hb zn) fun I β w aS hH hM hA=>calls_of_wp hf hb ?_
 have QV:=hA.length
 have hR:Rel G I β ⟨fn.ntmps,t,S,S.length,rl⟩ { tmps:=aS.toArray++Array.replicate (fn.ntmps - aS.toArray.size) Go.undef,defers:=[] } w:=by
  refine⟨qZ,hd.symm,by simp; omega,Nat.le_refl _,fun n x hx=>?_,hH,hM⟩
  rcases ht n x hx with ⟨j,hj,hx⟩|hx
  ·rw[Nat.zero_add] at hj
   subst hj
   obtain⟨v,hv,hi⟩:=hA.get hx
   have bA:n < aS.length:=(List.getElem?_eq_some_iff.1 hv).1
   exact⟨v,by rw[Array.getElem?_append_left (by simpa using bA)]; simpa using hv,hi⟩
  ·cases hx
 refine wp_mono ((iU hG N c _ _ mq h).run hR) fun e a' w' hp=>?_
 obtain⟨x,s',I',aG,rfl,hq,cS,hg⟩:=hp.goes
 have lJ:MB G fn.results.toList S.length K .lF s'->a'.defers = []/\∃ v,(results fn a'.tmps).run G.cx.P w' = .ok v w'/\∃ v',∃ r S' I' aG,Ending.returned v = .returned v'/\K r S'/\r.Is w' I' aG v'/\aB I' aG S' w'/\cg G I' w'/\Ext I β S w I' aG S' w'/\S.length<=S'.length/\∀ l,l < S.length->l ∉ rl->aG l=β l:=by
  rintro⟨π,vs,S',qU,hlen,pU⟩
  obtain⟨I2,fQ,kF,Cm⟩:=dd hG.ok qU I' aG a' w' cS
  obtain⟨r,v,hK,hr,bm⟩:=vh hG kF pU
  have Tn:=hg.trans Cm
  exact⟨cS.defers.trans hd,v,bm,v,r,S',I2,fQ,rfl,hK,hr,kF.heap,kF.av,Tn.ext,hlen,fun l hl hr=>Tn.low l hl hr⟩
 cases x with
 | lF=>exact lJ hq
 | ret=>exact lJ hq
 | exit id=>exact hq.elim
theorem Spec.Rp {f:FuncId} {args aR:List PV} {b:aj} {K:PV->List aj->Prop} (h:Spec G f aR [] [] fun r S'=>r = .wref 0/\S' = [b]) (hm:b.m = .w) (EE:b.live=true) (hk:b.k = .dyn) (hle:iC kq args aR) (hu:ct aR = [])
  (hK:jk st 0 fun l=>tm st b fun cA=>K (.wref l) cA):Spec G f args st [] K:=by
 refine Spec.intro h.run.1 fun I β w aS hH hM hA=>?_
 replace hK:=jN (fk hK)
 rw[Nat.zero_add] at hK
 have h0:aB I (fun _=>none) ([]:List aj) w:=⟨fun _ _=>rfl,fun l b hl=>by simp at hl⟩
 refine (h.run.2 I (fun _=>none) w aS h0 hM (gn hu (eR (fun _ _=>cX) hle hA))).mono fun e w' ⟨v,r',S',I',aG,he,⟨qw,ya⟩,hi,j_,iF,hE,_,_⟩=>?_
 subst qw
 subst ya
 have yc:∀ g,¬ Wr (fun _=>none) ([]:List aj) g:=fun g ⟨l,b,p,o,h1,_⟩=>by simp at h1
 have hold:∀ g,g < w.heap.size->w'.heap[g]?=w.heap[g]?:=fun g hg=>hE.block g hg (yc g)
 have zo:∀ g,g < w.heap.size->I' g->I g:=fun g hg h=>(hE.new g hg h).elim id fun h=>absurd h (yc g)
 simp only[PV.Is] at hi
 obtain⟨p,hp,rfl⟩:=hi
 have di:∀ g o,p.a=some (g,o)->w.heap.size<=g:=fun g o ha=>by
  rcases Nat.lt_or_ge g w.heap.size with bA|Mb
  ·exact absurd (hE.wr g bA ⟨0,b,p,o,rfl,EE,hm,hp,ha⟩) (yc g)
  ·exact Mb
 have VN:aB I' β st w':=⟨hH.jE,fun l b hl ax=>by
  have hb:=hH.dX l b hl ax
  refine hb.mono hE.av (fun g hg=>hold g (hM.av g hg)) (fun _ _ h=>h) fun p g o hp ha=>?_
  obtain⟨arr,ty,fr,hh,ho⟩:=hb.place hp ha
  have bA:=bX hh
  exact⟨hold g bA,fun hr=>⟨fun hI=>(ho.1 hr).2.1 (zo g bA hI),(ho.1 hr).2.2⟩⟩⟩
 have eu:∀ g,fL β st g->g < w.heap.size:=fun g hg=>hH.ch hg
 have Ct:=j_.dX 0 b rfl EE
 have Rq:aB I' (β.set st.length p) (st++[b]) w':=by
  refine VN.add (fun _ _=>rfl) (fun g o ha=>⟨?_,fun hL=>by have:=eu g hL; have:=di g o ha; omega⟩) ?_
  ·obtain⟨arr,ty,fr,hh,ho⟩:=Ct.place hp ha
   exact (ho.1 (by rw[hm]; decide)).2.1
  ·obtain⟨p',cE,hd⟩:=Ct
   obtain rfl:=Option.some.inj (hp.symm.trans cE)
   refine⟨p,au.dz ..,?_⟩
   rw[hk] at hd ⊢
   refine⟨hd.1,hd.2.imp id ?_⟩
   rintro⟨g,arr,fr,h1,h2,h3,ho,h4⟩
   refine⟨g,arr,fr,h1,h2,h3,⟨fun hr=>⟨(ho.1 hr).1,(ho.1 hr).2.1,fun l' b' bR eF dh q g' o' hq cW e=>?_⟩,ho.2⟩,h4⟩
   subst e
   unfold au.set at hq
   rw[if_neg bR] at hq
   have bA:=hH.lt hq
   rw[List.getElem?_append_left bA] at eF
   have:=eu g' ⟨l',b',q,o',eF,dh,hq,cW⟩
   have:=di g' _ h1
   omega
 refine⟨_,.wref st.length,st++[b],I',β.set st.length p,he,hK,?_,Rq,iF,⟨hE.os,hE.tape,hE.output,hE.size,fun g hg _=>hold g hg,fun g hg ⟨l,b',q,o,h1,h2,h3,h4,h5⟩=>?_,hE.av,fun g hg h=>.inl (zo g hg h)⟩,by simp,fun l hl _=>?_⟩
 ·simp only[PV.Is]; exact⟨p,au.dz ..,rfl⟩
 ·unfold au.set at h4
  split at h4
  ·cases h4
   have:=di g o h5
   omega
  ·have:=hH.lt h4
   rw[List.getElem?_append_left this] at h1
   exact⟨l,b',q,o,h1,h2,h3,h4,h5⟩
 ·unfold au.set
  rw[if_neg (by omega)]
end
def zD (G:Gx) (s:aL) (o:Oper) (q:PV->aL->Prop):Prop:=match o.op with
 | .call { callee:=.builtin .clear,args:=⟨[d]⟩,argTypes:=⟨t::_⟩ }=>aP (G.cx.jd t) fun td=>match td with
  | .slice elem=>aP (Ev.cm G.cx elem) fun n=>aP (Ev.dv G.cx elem) fun ag=>ku G.cx elem fun z=>s.ev d fun d=>(match d with
   | .ref l off len=>aP s.st[l]? fun b=>(match b.k with
    | .dyn=>bif b.can && Nat.beq b.size n && Nat.blt 0 n && (ag || Nat.beq n 1) && Nat.beq z.length n && z.all PV.gP then aP (dc ag n (.stat z)) fun fs=>(match fs with
     | [e]=>∃ i:Nat,off=i*n/\i+len=b.cs.length/\0 < len/\pD s.st l (b.dy (b.cs.take i++List.replicate len e)) fun st=>q (.tup []) (s.store st)
     | _=>False) else False
    | _=>False)
   | _=>False)
  | _=>False
 | _=>False
section
variable {w w':World} {I I':Nat->Prop} {β aG:au} {G:Gx} {s:aL} {a:Act} {st cA:List aj}
theorem nX (z:Array Value) (len k:Nat) (hk:k < len*z.size) (hz:0 < z.size):(Builtin.zeroCells z len).toList[k]?=z.toList[k % z.size]?:=by
 have hm:k % z.size < z.size:=Nat.mod_lt _ hz
 simp[Builtin.zeroCells,hk,hm]
theorem wJ (hG:lX G) {o:Oper} {q:PV->aL->Prop} (h:zD G s o q):mh G s o q:=mh.intro fun I β a w hR=>by
 unfold zD at h
 split at h
 ·rename_i od t r pM
  replace h:=an h
  obtain⟨d,hu,h⟩:=h
  split at h
  ·rename_i elem
   replace h:=an h
   obtain⟨n,hn,h⟩:=h
   replace h:=an h
   obtain⟨ag,BH,h⟩:=h
   replace h:=fK (w:=w) (I:=I) (β:=β) hG.ok h
   obtain⟨z,inf,v,h,Rr,BG,tz⟩:=h
   replace h:=aL.bw hR h
   obtain⟨d,h,hd⟩:=h
   split at h
   ·rename_i l off len
    replace h:=an h
    obtain⟨b,hb,h⟩:=h
    split at h
    ·rename_i hk
     replace h:=aK h
     obtain⟨hc,h⟩:=h
     simp only[Bool.and_eq_true,Bool.or_eq_true] at hc
     obtain⟨⟨⟨⟨⟨nS,my⟩,gC⟩,Rs⟩,Eu⟩,FF⟩:=hc
     obtain⟨ax,hm⟩:=mv nS
     have my:=Nat.eq_of_beq_eq_true my
     have gC:=Nat.le_of_ble_eq_true gC
     have Eu:=Nat.eq_of_beq_eq_true Eu
     replace h:=an h
     obtain⟨fs,Fu,h⟩:=h
     split at h
     ·rename_i e
      obtain⟨i,rfl,Sy,hlen,h⟩:=h
      replace h:=gi h
      obtain⟨bA,h⟩:=h
      have va:∀ u∈v.cells.toList,u.oneCell'=true:=fun u hu=>by
       obtain⟨j,hj,VO⟩:=List.mem_iff_getElem.1 hu
       have To:z[j]?=some (z[j]'(by rw[tz.length]; exact hj)):=List.getElem?_eq_getElem _
       obtain⟨u',tu,Rt⟩:=tz.get To
       rw[List.getElem?_eq_getElem hj,VO] at tu
       cases tu
       exact jG (Rt.flat (List.all_eq_true.1 FF _ (List.mem_of_getElem? To)))
      have Lf:v.cells.toList.length=n:=by rw[← tz.length,Eu]
      have F8:v.cells.size=n:=by simpa using Lf
      have kC:jQ w I β n (.stat z) v.cells.toList:=⟨tz.length.symm,fun j c hc=>by
       obtain⟨u,hu,Rt⟩:=tz.get hc
       exact⟨u,hu,Rt,va u (List.mem_of_getElem? hu)⟩⟩
      obtain⟨_,mw⟩:=dj (len:=1) gC (Rs.imp id Nat.eq_of_beq_eq_true) Fu kC (by rw[Lf,Nat.one_mul])
      simp only[PV.Is] at hd
      obtain⟨p,g0,o0,cap,hp,F9,VP,Et⟩:=hd
      obtain⟨BI,rQ,hle,mr,jm⟩:=bT hR.heap hb ax hk hp
      rcases jm with ⟨MC,qN,_⟩|⟨g,arr,fr,ha,hw,eh,jM,cB,has⟩
      ·rw[MC] at F9; cases F9
      ·rw[ha] at F9
       obtain⟨rfl,rfl⟩:g=g0/\0=o0:=by cases F9; exact⟨rfl,rfl⟩
       have wx:fr=(0,0):=(cB.1 (by rw[hm]; decide)).1
       subst wx
       rw[my] at jM has
       obtain⟨xs,kx,Er⟩:=jM.row
       obtain⟨news,qV⟩:∃ L,L=(Builtin.zeroCells v.cells len).toList:=⟨_,rfl⟩
       have u_:news.length=len*n:=by rw[qV,Array.length_toList,size_zeroCells,F8]
       have ET:∀ k,k < len*n->news[k]?=v.cells.toList[k % n]?:=fun k hk=>by
        rw[qV,nX _ _ _ (by rw[F8]; exact hk) (by omega),F8]
       have F':∀ u∈news,u.oneCell'=true:=fun u hu=>by
        obtain⟨k,hk,VQ⟩:=List.mem_iff_getElem.1 hu
        have h1:=ET k (by omega)
        rw[List.getElem?_eq_getElem hk,VQ] at h1
        exact va u (List.mem_of_getElem? h1.symm)
       have yZ:i*n+len*n<=p.cap*n:=by rw[← Nat.add_mul]; exact Nat.mul_le_mul_right _ (by omega)
       have x9:=run_storeCells_at (P:=G.cx.P) g (i*n) b.ty news 0 arr w eh (by rw[u_,has]; omega) F'
       obtain⟨arr',zE⟩:∃ A,A=(arr.toList.take (i*n+0)++news++arr.toList.drop (i*n+0+news.length)).toArray:=⟨_,rfl⟩
       rw[← zE] at x9
       have QV:arr.toList.length=p.cap*n:=by rw[Array.length_toList,has]
       have FD:arr'.size=arr.size:=by
        rw[zE]; simp only[List.size_toArray,List.length_append,List.length_take,List.length_drop,QV,u_,has]; omega
       have bm:(execOp a.eval o).run G.cx.P w = .ok (.value (.tuple #[])) (w.setRow g arr'):=by
        have Qq:(zeroValue elem).run G.cx.P w = .ok v w:=by
         simp[zeroValue,run_typeInfo _ Rr,BG]
        have qv:∀ ty,(Builtin.clear_ (t::r).toArray ty #[a.eval od]).run G.cx.P w = .ok (.tuple #[]) (w.setRow g arr'):=fun ty=>by
         rw[VP]
         obtain⟨m,rfl⟩:∃ m,len=m+1:=⟨len - 1,by omega⟩
         simp[Builtin.clear_,run_underlying (hG.ok.un hu),Qq,← qV,x9]
        unfold execOp
        rw[pM]
        simp[resolve,invoke,builtin,qv]
       rw[bm]
       obtain⟨k1,k2,k3,k4,k5,k6⟩:=jP b (b.cs.take i++List.replicate len e)
       have Ru:cC w I (List.replicate len e) n news:=by
        refine⟨by rw[u_,List.length_replicate],fun j e' he=>?_⟩
        rw[List.getElem?_replicate] at he
        split at he
        ·rename_i hj
         cases he
         obtain⟨h1,h2⟩:=mw.2 0 e rfl
         refine⟨h1,fun j2 c hc=>?_⟩
         obtain⟨u,hu,h3⟩:=h2 j2 c hc
         have Lh:j2 < n:=by rw[← h1]; exact (List.getElem?_eq_some_iff.1 hc).1
         refine⟨u,?_,h3⟩
         have WT:j*n+n<=len*n:=by rw[← Nat.succ_mul]; exact Nat.mul_le_mul_right _ hj
         rw[ET _ (by omega),Nat.mul_comm,Nat.mul_add_mod,Nat.mod_eq_of_lt Lh]
         simpa using hu
        ·cases he
       have CG:cC w I (b.cs.take i++List.replicate len e) n (xs.take (i*n)++news):=(kx.take (by omega)).append Ru
       have CH:(b.cs.take i++List.replicate len e).length=p.len:=by
        rw[List.length_append,List.length_take,List.length_replicate]; omega
       have nU:xs.length=p.len*n:=by rw[kx.1,rQ]
       obtain⟨hH,hE⟩:=hR.heap.write (b':=b.dy (b.cs.take i++List.replicate len e)) hb ax hm hp ha eh (by rw[k5]; exact ax) (by rw[k4]; exact hm) (arr':=arr') (fun hI hO=>by
        have hr:=setRow_heap w g arr arr' b.ty (0,0) eh
        refine⟨p,hp,?_⟩
        rw[k1,hk]
        refine⟨⟨by rw[k3]; exact BI,by rw[k6]; exact CH,hle,mr⟩,.inr ⟨g,arr',(0,0),ha,by rw[k2]; exact hr,?_,hO,by rw[FD,k3,has,my]⟩⟩
        rw[k6,k3,my]
        refine CG.at (fun j u hv=>?_) (fun _ h=>h) hI
        rw[Ev.c8 hr,zE]
        simp only[List.getElem?_toArray,Nat.add_zero]
        have Pn:i*n<=p.len*n:=Nat.mul_le_mul_right _ (by omega)
        have VR:(xs.take (i*n)).length=i*n:=by rw[List.length_take]; omega
        have lL:(arr.toList.take (i*n)).length=i*n:=by rw[List.length_take]; omega
        by_cases hj:j < i*n
        ·rw[List.getElem?_append_left (by omega),List.getElem?_take,if_pos hj] at hv
         rw[List.append_assoc,List.getElem?_append_left (by omega),List.getElem?_take,if_pos hj]
         have:=Er _ u hv
         rw[Ev.c8 eh,Nat.zero_add] at this
         simpa using this
        ·rw[List.getElem?_append_right (by omega),VR] at hv
         have Pj:j - i*n < news.length:=(List.getElem?_eq_some_iff.1 hv).1
         rw[List.append_assoc,List.getElem?_append_right (by omega),lL,List.getElem?_append_left Pj]
         exact hv)
       refine bN.mk' hR h hH hE (fun _ _ h=>h) (by simp) (fun _ _=>rfl) ?_
       simp only[PV.Is]
       exact⟨_,rfl,trivial⟩
     ·exact h.elim
    ·exact h.elim
   ·exact h.elim
  ·exact h.elim
 ·exact h.elim
theorem Spec.cut {f:FuncId} {args:List PV} {b0:aj} {n:Nat} {es:List PV} (h:Spec G f args [b0] [] fun r S'=>∃ b:aj,S' = [b]/\b.k = .dyn/\b.live=true/\b.m = .w/\b.size=n/\((r = .wref 0/\b.cs=es)\/(r = .ref 0 0 es.length/\b.cs.take es.length=es))) :
  Spec G f args [b0] [] fun r S'=>r = .sl n es/\S' = [⟨.dyn,b0.ty,n,.w,false,[]⟩]:=by
 refine Spec.intro h.run.1 fun I β w aS hH hM hA=>(h.run.2 I β w aS hH hM hA).mono fun e w' ⟨v,r,S',I',aG,he,⟨b,hS,hk,hl,hm,hn,hc⟩,hi,j_,iF,hE,hlen,jn⟩=>?_
 subst hS
 have hb:[b][0]?=some b:=rfl
 obtain⟨p,hp,Ct⟩:=j_.dX 0 b hb hl
 obtain⟨BI,rQ,hle,mr,jm⟩:=bT j_ hb hl hk hp
 rw[hn] at BI jm
 have oE:∀ g,I' g->(I' g\/∃ o,p.a=some (g,o)):=fun g h=>.inl h
 have F_:∀ {g o:Nat},p.a=some (g,o)->Wr aG [b] g:=fun {g o} ha=>⟨0,b,p,o,hb,hl,hm,hp,ha⟩
 have Rv:∀ g,(I' g\/∃ o,p.a=some (g,o))->g < w'.heap.size:=fun g hg=>by
  rcases hg with hg|⟨o,ha⟩
  ·exact iF.av g hg
  ·rcases jm with ⟨vb,_⟩|⟨g1,arr,fr,MD,_,eh,_⟩
   ·rw[vb] at ha; cases ha
   ·rw[MD] at ha; cases ha; exact bX eh
 have B8:es.length<=b.cs.length:=by
  rcases hc with ⟨_,rfl⟩|⟨_,hc⟩
  ·exact Nat.le_refl _
  ·rw[← hc,List.length_take]; omega
 have ME:b.cs.take es.length=es:=by
  rcases hc with ⟨_,rfl⟩|⟨_,hc⟩
  ·rw[List.take_length]
  ·exact hc
 have Rw:(PV.sl n es).Is w' (fun g=>I' g\/∃ o,p.a=some (g,o)) aG v:=by
  simp only[PV.Is]
  rcases jm with ⟨vb,qN,hw⟩|⟨g,arr,fr,ha,hw,eh,jM,cB,has⟩
  ·have h0:es = []:=List.eq_nil_of_length_eq_zero (by omega)
   subst h0
   rcases hc with ⟨rfl,_⟩|⟨rfl,_⟩
   ·simp only[PV.Is] at hi
    obtain⟨p',cE,rfl⟩:=hi
    rw[hp] at cE; cases cE
    exact⟨none,0,by rw[hw]; rfl,Nat.le_refl _,Nat.zero_le _,(fun _ _ e=>by cases e),fun hn=>absurd rfl hn⟩
   ·simp only[PV.Is] at hi
    obtain⟨p',g',o',zF,cE,cW,_⟩:=hi
    rw[hp] at cE; cases cE
    rw[vb] at cW; cases cW
  ·obtain⟨xs,kx,Er⟩:=jM.row
   have Cz:bp w' (fun g=>I' g\/∃ o,p.a=some (g,o)) es n g 0:=by
    have h1:=kx.take (k:=es.length) B8
    rw[ME] at h1
    exact h1.at (fun j u hu=>by
     rw[List.getElem?_take] at hu
     split at hu
     ·have:=Er j u hu
      rwa [Nat.zero_add] at this
     ·cases hu) oE (fun _ _=>rfl)
   have qz:es.length≠0->∃ g' o',(some (⟨g,0,none⟩:Addr))=some ⟨g',o',none⟩/\(I' g'\/∃ o,p.a=some (g',o))/\0 < n:=fun _=>⟨g,0,rfl,.inr ⟨0,ha⟩,BI⟩
   rcases hc with ⟨rfl,Rx⟩|⟨rfl,_⟩
   ·simp only[PV.Is] at hi
    obtain⟨p',cE,rfl⟩:=hi
    rw[hp] at cE; cases cE
    have mq:p.len=es.length:=by rw[← rQ,Rx]
    exact⟨some ⟨g,0,none⟩,p.cap,by rw[hw,mq],by omega,by omega,(fun g' o' e=>by cases e; exact Cz),qz⟩
   ·simp only[PV.Is] at hi
    obtain⟨p',g',o',zF,cE,cW,rfl,Et⟩:=hi
    rw[hp] at cE; cases cE
    rw[ha] at cW; cases cW
    exact⟨some ⟨g,0,none⟩,zF,rfl,Et,by omega,(fun g' o' e=>by cases e; exact Cz),qz⟩
 refine⟨v,.sl n es,_,_,aG,he,⟨rfl,rfl⟩,Rw,⟨fun l du=>j_.jE l du,fun l b2 cv ax=>?_⟩,⟨Rv,fun g cs hg=>⟨.inl (iF.mg g cs hg).1,bQ.mono oE (fun _ _=>rfl) _ _ _ rfl (iF.mg g cs hg).2⟩,iF.row⟩,⟨hE.os,hE.tape,hE.output,hE.size,hE.block,fun g _ h=>?_,fun g hg=>.inl (hE.av g hg),fun g hg h=>?_⟩,hlen,jn⟩
 ·match l,cv with
  | 0,cv=>cases cv; cases ax
  | l+1,cv=>simp at cv
 ·obtain⟨l,b2,p2,o2,cv,ax,_⟩:=h
  match l,cv with
  | 0,cv=>cases cv; cases ax
  | l+1,cv=>simp at cv
 ·rcases h with h|⟨o,ha⟩
  ·exact hE.new g hg h
  ·exact .inr (hE.wr g hg (F_ ha))
theorem Spec.Ry {f:FuncId} {args:List PV} {z b0:aj} (hz:z.k = .loc) (Tp:z.m = .w) (Eu:z.live=true) {n:Nat} {es:List PV} (h:Spec G f args [z,b0] [] fun r S'=>∃ b:aj,S' = [z,b]/\b.k = .dyn/\b.live=true/\b.m = .w/\b.size=n/\((r = .wref 1/\b.cs=es)\/(r = .ref 1 0 es.length/\b.cs.take es.length=es))) :
  Spec G f args [z,b0] [] fun r S'=>r = .sl n es/\S' = [z,⟨.dyn,b0.ty,n,.w,false,[]⟩]:=by
 refine Spec.intro h.run.1 fun I β w aS hH hM hA=>(h.run.2 I β w aS hH hM hA).mono fun e w' ⟨v,r,S',I',aG,he,⟨b,hS,hk,hl,hm,hn,hc⟩,hi,j_,iF,hE,hlen,jn⟩=>?_
 subst hS
 have hb:[z,b][1]?=some b:=rfl
 obtain⟨p,hp,Ct⟩:=j_.dX 1 b hb hl
 obtain⟨BI,rQ,hle,mr,jm⟩:=bT j_ hb hl hk hp
 rw[hn] at BI jm
 have oE:∀ g,I' g->(I' g\/∃ o,p.a=some (g,o)):=fun g h=>.inl h
 have F_:∀ {g o:Nat},p.a=some (g,o)->Wr aG [z,b] g:=fun {g o} ha=>⟨1,b,p,o,hb,hl,hm,hp,ha⟩
 have Rv:∀ g,(I' g\/∃ o,p.a=some (g,o))->g < w'.heap.size:=fun g hg=>by
  rcases hg with hg|⟨o,ha⟩
  ·exact iF.av g hg
  ·rcases jm with ⟨vb,_⟩|⟨g1,arr,fr,MD,_,eh,_⟩
   ·rw[vb] at ha; cases ha
   ·rw[MD] at ha; cases ha; exact bX eh
 have B8:es.length<=b.cs.length:=by
  rcases hc with ⟨_,rfl⟩|⟨_,hc⟩
  ·exact Nat.le_refl _
  ·rw[← hc,List.length_take]; omega
 have ME:b.cs.take es.length=es:=by
  rcases hc with ⟨_,rfl⟩|⟨_,hc⟩
  ·rw[List.take_length]
  ·exact hc
 have Rw:(PV.sl n es).Is w' (fun g=>I' g\/∃ o,p.a=some (g,o)) aG v:=by
  simp only[PV.Is]
  rcases jm with ⟨vb,qN,hw⟩|⟨g,arr,fr,ha,hw,eh,jM,cB,has⟩
  ·have h0:es = []:=List.eq_nil_of_length_eq_zero (by omega)
   subst h0
   rcases hc with ⟨rfl,_⟩|⟨rfl,_⟩
   ·simp only[PV.Is] at hi
    obtain⟨p',cE,rfl⟩:=hi
    rw[hp] at cE; cases cE
    exact⟨none,0,by rw[hw]; rfl,Nat.le_refl _,Nat.zero_le _,(fun _ _ e=>by cases e),fun hn=>absurd rfl hn⟩
   ·simp only[PV.Is] at hi
    obtain⟨p',g',o',zF,cE,cW,_⟩:=hi
    rw[hp] at cE; cases cE
    rw[vb] at cW; cases cW
  ·obtain⟨xs,kx,Er⟩:=jM.row
   have Cz:bp w' (fun g=>I' g\/∃ o,p.a=some (g,o)) es n g 0:=by
    have h1:=kx.take (k:=es.length) B8
    rw[ME] at h1
    exact h1.at (fun j u hu=>by
     rw[List.getElem?_take] at hu
     split at hu
     ·have:=Er j u hu
      rwa [Nat.zero_add] at this
     ·cases hu) oE (fun _ _=>rfl)
   have qz:es.length≠0->∃ g' o',(some (⟨g,0,none⟩:Addr))=some ⟨g',o',none⟩/\(I' g'\/∃ o,p.a=some (g',o))/\0 < n:=fun _=>⟨g,0,rfl,.inr ⟨0,ha⟩,BI⟩
   rcases hc with ⟨rfl,Rx⟩|⟨rfl,_⟩
   ·simp only[PV.Is] at hi
    obtain⟨p',cE,rfl⟩:=hi
    rw[hp] at cE; cases cE
    have mq:p.len=es.length:=by rw[← rQ,Rx]
    exact⟨some ⟨g,0,none⟩,p.cap,by rw[hw,mq],by omega,by omega,(fun g' o' e=>by cases e; exact Cz),qz⟩
   ·simp only[PV.Is] at hi
    obtain⟨p',g',o',zF,cE,cW,rfl,Et⟩:=hi
    rw[hp] at cE; cases cE
    rw[ha] at cW; cases cW
    exact⟨some ⟨g,0,none⟩,zF,rfl,Et,by omega,(fun g' o' e=>by cases e; exact Cz),qz⟩
 refine⟨v,.sl n es,_,_,aG,he,⟨rfl,rfl⟩,Rw,⟨fun l du=>j_.jE l du,fun l b2 cv ax=>?_⟩,⟨Rv,fun g cs hg=>⟨.inl (iF.mg g cs hg).1,bQ.mono oE (fun _ _=>rfl) _ _ _ rfl (iF.mg g cs hg).2⟩,iF.row⟩,⟨hE.os,hE.tape,hE.output,hE.size,hE.block,fun g _ h=>?_,fun g hg=>.inl (hE.av g hg),fun g hg h=>?_⟩,hlen,jn⟩
 ·match l,cv with
  | 0,cv =>
   cases cv
   obtain⟨p0,Pt,EG⟩:=j_.dX 0 z rfl ax
   rw[hz] at EG
   obtain⟨g0,o0,arr,ty,fr,q1,q2,q3,q4⟩:=EG
   obtain⟨r1,r2,r3⟩:=q4.1 (by rw[Tp]; decide)
   refine⟨p0,Pt,?_⟩
   rw[hz]
   refine⟨g0,o0,arr,ty,fr,q1,q2,aO.mono oE (fun _ _=>rfl) (fun _ _ h=>h) q3,⟨fun _=>⟨r1,fun hI=>?_,fun l' b' bR eF dh=>?_⟩,fun jg=>by rw[Tp] at jg; cases jg⟩⟩
   ·rcases hI with hI|⟨o,ha⟩
    ·exact r2 hI
    ·exact r3 1 b (by decide) rfl hl p g0 o hp ha rfl
   ·match l',eF with
    | 0,_=>exact absurd rfl bR
    | 1,eF=>cases eF; cases dh
    | l'+2,eF=>simp at eF
  | 1,cv=>cases cv; cases ax
  | l+2,cv=>simp at cv
 ·obtain⟨l,b2,p2,o2,cv,ax,qQ,eg,ef⟩:=h
  match l,cv with
  | 0,cv=>cases cv; exact hE.wr _ (by assumption) ⟨0,z,p2,o2,rfl,Eu,qQ,eg,ef⟩
  | 1,cv=>cases cv; cases ax
  | l+2,cv=>simp at cv
 ·rcases h with h|⟨o,ha⟩
  ·exact hE.new g hg h
  ·exact .inr (hE.wr g hg (F_ ha))
end
end Go.Proofs.YtnbhdacpogplgaaGreatDoor.Pw

/- What this claim is proved with: no condition. -/
import Derived.Test.YtlgkljpgagfndaaGreatDoorNs9
import Derived.Deep.OwnRows
import Derived.Laws.AppendOwn
set_option linter.unusedVariables false
set_option linter.unusedSimpArgs false
namespace Go.Proofs.YtlgkljpgagfndaaGreatDoor.Pw
open Go Go.RowKit
def fA (b b':ak):Prop:=match b,b' with
 | ⟨k,ty,n,m,live,cs⟩,⟨k',Zw,n',m',JG,Vy⟩=>bif Nat.beq ty Zw && Nat.beq n n' && Md.beq m m' && live && JG && BK.beq k k' then (match k with
  | .dyn=>cs=Vy
  | .mp=>cs=Vy
  | _=>lN vi cs Vy) else False
def JH:List ak->List ak->(List ak->Prop)->Prop
 | [],T,k=>k T
 | b'::S,b::st,k=>fA b b'/\JH S st k
 | _::_,[],_=>False
def Ck (st S:List ak) (k:List ak->Prop):Prop:=JH S st k
def vW:List ak->List ak->(List ak->Prop)->Prop
 | [],T,k=>k T
 | b::l,T,k=>vW l T fun r=>k (b::r)
def jb:List ak->List ak->Bool
 | [],[]=>true
 | a::S,b::T=>a.live && Md.beq a.m b.m && jb S T
 | _,_=>false
theorem rT:∀ {S T:List ak} {k:List ak->Prop},vW S T k->k (S++T)
 | [],_,_,h=>h
 | b::l,T,k,h=>rT (S:=l) h
theorem BK.kQ {m n:BK} (h:BK.beq m n=true):m=n:=by cases m<;>cases n<;>first|rfl|cases h
theorem cJ {b b':ak} (h:fA b b'):b.ty=b'.ty/\b.size=b'.size/\b.m=b'.m/\b.live=true/\b'.live=true/\b.k=b'.k/\((b.k.pJ=false/\b.cs=b'.cs)\/(b.k.pJ=true/\lN vi b.cs b'.cs)):=by
 obtain⟨k,ty,n,m,live,cs⟩:=b
 obtain⟨k',Zw,n',m',JG,Vy⟩:=b'
 obtain⟨hc,h⟩:=bf h
 simp only[Bool.and_eq_true] at hc
 obtain⟨⟨⟨⟨⟨h1,h2⟩,h3⟩,h4⟩,h5⟩,h6⟩:=hc
 refine⟨Nat.eq_of_beq_eq_true h1,Nat.eq_of_beq_eq_true h2,Md.kQ h3,h4,h5,BK.kQ h6,?_⟩
 cases k with
 | dyn=>exact .inl ⟨rfl,h⟩
 | mp=>exact .inl ⟨rfl,h⟩
 | loc=>exact .inr ⟨rfl,h⟩
 | arr=>exact .inr ⟨rfl,h⟩
theorem rU:∀ {S st:List ak} {k:List ak->Prop},Ck st S k->∃ nF T,st=nF++T/\nF.length=S.length/\k T/\∀ (l:Nat) (b b':ak),nF[l]?=some b->S[l]?=some b'->fA b b'
 | [],T,k,h=>⟨[],T,rfl,rfl,h,fun l b b' hb=>by simp at hb⟩
 | b'::S,b::st,k,h=>by
  obtain⟨nF,T,rfl,hl,hk,ha⟩:=rU (S:=S) (st:=st) h.2
  refine⟨b::nF,T,rfl,by simp[hl],hk,fun l c c' hc vD=>?_⟩
  cases l with
  | zero=>simp at hc vD; subst hc; subst vD; exact h.1
  | succ l=>exact ha l c c' (by simpa using hc) (by simpa using vD)
 | _::_,[],_,h=>h.elim
theorem lU:∀ {S T:List ak},jb S T=true->S.length=T.length/\∀ (l:Nat) (a b:ak),S[l]?=some a->T[l]?=some b->a.live=true/\a.m=b.m
 | [],[],_=>⟨rfl,fun l a b h=>by simp at h⟩
 | a::S,b::T,h=>by
  simp only[jb,Bool.and_eq_true] at h
  obtain⟨h1,h2⟩:=lU h.2
  refine⟨by simp[h1],fun l c d hc hd=>?_⟩
  cases l with
  | zero=>simp at hc hd; subst hc; subst hd; exact⟨h.1.1,Md.kQ h.1.2⟩
  | succ l=>exact h2 l c d (by simpa using hc) (by simpa using hd)
 | [],_::_,h=>by simp[jb] at h
 | _::_,[],h=>by simp[jb] at h
section
variable {w w':World} {I I':Nat->Prop} {β aV:aB} {G:Gx} {s:ba} {a:Act} {st dM:List ak}
theorem Spec.rV {f:FuncId} {args bx:List PV} {r0:PV} {S0 S1:List ak} {K:PV->List ak->Prop} (h:Spec G f bx S0 [] fun r S'=>r=r0/\S'=S1) (hm:jb S0 S1=true) (gd:S0.all (tF S0.length)=true) (hu:(dB bx).all (fun l=>Nat.blt l S0.length)=true)
  (Ca:r0.cR.all (fun l=>Nat.blt l S0.length)=true) (hle:lN jj args bx) (hK:Ck st S0 fun T=>rN S1 fun S1=>vW S1 T (K r0)):Spec G f args st [] K:=by
 obtain⟨nF,T,rfl,A7,hk,Cl⟩:=rU hK
 replace hk:=rT (lP hk)
 obtain⟨Fi,FT⟩:=lU hm
 refine Spec.intro h.run.1 fun I β w bw hH hM hA=>?_
 let gy:aB:=fun l=>if l < S0.length then β l else none
 have iw:∀ l,l < S0.length->gy l=β l:=fun l hl=>if_pos hl
 have vX:∀ {l p},gy l=some p->l < S0.length/\β l=some p:=fun {l p} h=>by
  by_cases hl:l < S0.length
  ·exact⟨hl,by rw[← iw l hl]; exact h⟩
  ·have:gy l=none:=if_neg hl
   rw[this] at h; cases h
 have vj:∀ {l:Nat} {b':ak},S0[l]?=some b'->l < S0.length/\∃ b,(nF++T)[l]?=some b/\fA b b':=fun {l b'} db=>by
  have cz:l < S0.length:=(List.getElem?_eq_some_iff.1 db).1
  have vY:l < nF.length:=by omega
  refine⟨cz,nF[l],by rw[List.getElem?_append_left vY]; simp[vY],Cl l _ b' (by simp[vY]) db⟩
 have low:∀ {l:Nat} {b':ak},S0[l]?=some b'->b'.k.pJ=true->∀ c∈b'.cs,∀ m∈c.cR,m < S0.length:=fun {l b'} db hk c hc m mw=>by
  rw[List.all_eq_true] at gd
  have:=gd b' (List.mem_of_getElem? db)
  unfold tF at this
  have dE:b'.cs.all (fun c=>c.cR.all fun l=>Nat.blt l S0.length)=true:=by
   cases cI:b'.k with
   | dyn=>rw[cI] at hk; cases hk
   | mp=>rw[cI] at hk; cases hk
   | loc=>rw[cI] at this; exact this
   | arr=>rw[cI] at this; exact this
  rw[List.all_eq_true] at dE
  have:=dE c hc
  rw[List.all_eq_true] at this
  exact Nat.le_of_ble_eq_true (this m mw)
 have Fj:aN I gy S0 w:=by
  refine⟨fun l hl=>if_neg (by omega),fun l b' db aL=>?_⟩
  obtain⟨cz,b,hb,Cm⟩:=vj db
  obtain⟨e1,e2,e3,e4,e5,e6,e7⟩:=cJ Cm
  obtain⟨p,hp,hB⟩:=hH.fR l b hb e4
  have own:∀ {g:Nat} {fr:Nat × Nat},Own I β (nF++T) l g fr b->Own I gy S0 l g fr b':=fun {g fr} ho=>by
   refine⟨fun hr=>?_,fun hr=>ho.2 (by rw[e3]; exact hr)⟩
   obtain⟨h1,h2,h3⟩:=ho.1 (by rw[e3]; exact hr)
   refine⟨h1,h2,fun l2 b2 cZ fv bN p2 g2 o2 f_ fY=>?_⟩
   obtain⟨_,b3,jk,jA⟩:=vj fv
   exact h3 l2 b3 cZ jk (cJ jA).2.2.2.1 p2 g2 o2 (vX f_).2 fY
  have cells:b'.k.pJ=true->∀ {arr:Array Value} {o:Nat},bp w I β b.cs arr o->bp w I gy b'.cs arr o:=fun hk {arr o} hc i c hi=>by
   have iI:bp w I β b'.cs arr o:=by
    rcases e7 with ⟨hd,_⟩|⟨_,h7⟩
    ·(rw[e6,hk] at hd; cases hd)
    ·exact gn h7 hc
   obtain⟨u,A4,QI,h1⟩:=iI i c hi
   exact⟨u,A4,PV.Is.mono (fun _ h=>h) (fun _ _=>rfl) c β gy u (fun m p mw eE=>by rw[iw m (low db hk c (List.mem_of_getElem? hi) m mw)]; exact eE) QI,h1⟩
  refine⟨p,by rw[iw l cz]; exact hp,?_⟩
  split at hB
  ·rename_i cI
   have gP:b'.k = .loc:=by rw[← e6]; exact cI
   obtain⟨g,o,arr,ty,fr,h1,h2,h3,ho⟩:=hB
   rw[gP]
   exact⟨g,o,arr,ty,fr,h1,h2,cells (by rw[gP]; rfl) h3,own ho⟩
  ·rename_i cI
   have gP:b'.k = .arr:=by rw[← e6]; exact cI
   obtain⟨g,arr,fr,h1,h2,h3,ho,h4,h5,h6,h7,h8⟩:=hB
   have hlen:b'.cs.length=b.cs.length:=by
    rcases e7 with ⟨hd,_⟩|⟨_,h9⟩
    ·rw[cI] at hd; cases hd
    ·exact (j7 h9).symm
   rw[gP]
   exact⟨g,arr,fr,h1,by rw[← e1]; exact h2,cells (by rw[gP]; rfl) h3,own ho,by rw[hlen,← e2]; exact h4,h5,h6,by rw[← e2]; exact h7,by rw[← e2]; exact h8⟩
  ·rename_i cI
   have gP:b'.k = .dyn:=by rw[← e6]; exact cI
   have gb:b.cs=b'.cs:=by
    rcases e7 with ⟨_,h9⟩|⟨hd,_⟩
    ·exact h9
    ·(rw[cI] at hd; cases hd)
   obtain⟨⟨h1,h2,h3,h4⟩,hB⟩:=hB
   rw[gP]
   refine⟨⟨by rw[← e2]; exact h1,by rw[← gb]; exact h2,h3,h4⟩,?_⟩
   rcases hB with h|⟨g,arr,fr,h5,h6,h7,ho,h8⟩
   ·exact .inl h
   ·exact .inr ⟨g,arr,fr,h5,by rw[← e1]; exact h6,by rw[← gb,← e2]; exact h7,own ho,by rw[← e2]; exact h8⟩
  ·rename_i cI
   have gP:b'.k = .mp:=by rw[← e6]; exact cI
   have gb:b.cs=b'.cs:=by
    rcases e7 with ⟨_,h9⟩|⟨hd,_⟩
    ·exact h9
    ·(rw[cI] at hd; cases hd)
   obtain⟨g,h1,h2,ho⟩:=hB
   rw[gP]
   exact⟨g,h1,by rw[← gb]; exact h2,own ho⟩
 have KO:bB w I bx gy bw:=by
  have:=hJ (fun _ _=>eH) hle hA
  refine bB.mono (fun _ h=>h) (fun _ _=>rfl) bx β gy bw (fun m p mw eE=>?_) this
  rw[List.all_eq_true] at hu
  rw[iw m (Nat.le_of_ble_eq_true (hu m mw))]; exact eE
 refine (h.run.2 I gy w bw Fj hM KO).mono fun e w' ⟨v,r,S',I',aV,he,⟨e1,e2⟩,hi,lV,j9,hE,hlen,kO⟩=>?_
 subst e1; subst e2
 have tO:∀ l,l < S0.length->aV l=β l:=fun l hl=>(kO l hl (by simp)).trans (iw l hl)
 have yX:∀ l p,aV l=some p->β l=some p:=fun l p hp=>by
  have:l < S0.length:=by have:=lV.lt hp; omega
  rw[← tO l this]; exact hp
 have Cn:∀ {g},Wr gy S0 g->Wr β (nF++T) g:=fun {g} ⟨l,b,p,o,h1,h2,h3,h4,h5⟩=>by
  obtain⟨cz,b2,dD,Cf⟩:=vj h1
  obtain⟨_,_,q3,q4,_⟩:=cJ Cf
  exact⟨l,b2,p,o,dD,q4,by rw[q3]; exact h3,(vX h4).2,h5⟩
 have yY:∀ {g},Wr β (S'++T) g->(Wr aV S' g)\/∃ l b p o,S0.length<=l/\(nF++T)[l]?=some b/\b.live=true/\b.m = .w/\β l=some p/\p.a=some (g,o):=fun {g} ⟨l,b,p,o,h1,h2,h3,h4,h5⟩=>by
  by_cases hl:l < S'.length
  ·rw[List.getElem?_append_left hl] at h1
   exact .inl ⟨l,b,p,o,h1,h2,h3,by rw[tO l (by omega)]; exact h4,h5⟩
  ·rw[List.getElem?_append_right (by omega)] at h1
   refine .inr ⟨l,b,p,o,by omega,?_,h2,h3,h4,h5⟩
   rw[List.getElem?_append_right (by omega),A7,Fi]; exact h1
 
 have apart:∀ {l:Nat} {b:ak} {p:na} {g o:Nat},S0.length<=l->(nF++T)[l]?=some b->b.live=true->β l=some p->p.a=some (g,o)->¬ Wr gy S0 g:=fun {l b p g o} hl hb aL hp ha ⟨l2,b2,p2,o2,h1,h2,h3,h4,h5⟩=>by
  obtain⟨cz,b3,jk,jA⟩:=vj h1
  obtain⟨_,_,q3,q4,_⟩:=cJ jA
  obtain⟨arr,ty,fr,_,ho⟩:=(hH.fR l2 b3 jk q4).place (vX h4).2 h5
  exact (ho.1 (by rw[q3,h3]; nofun)).2.2 l b (by omega) hb aL p g o hp ha rfl
 refine⟨v,r,S'++T,I',β,he,hk,PV.Is.mono (fun _ h=>h) (fun _ _=>rfl) r aV β v (fun m p _ hp=>yX m p hp) hi,⟨fun l hl=>hH.pM l (by simp only[List.length_append] at hl ⊢; omega),fun l b hb aL=>?_⟩,j9,⟨hE.os,hE.tape,hE.output,hE.size,fun g hg hn=>hE.block g hg fun h=>hn (Cn h),fun g hg h=>?_,hE.az,fun g hg h=>(hE.new g hg h).imp id Cn⟩,by simp only[List.length_append]; omega,fun _ _ _=>rfl⟩
 ·by_cases hl:l < S'.length
  ·rw[List.getElem?_append_left hl] at hb
   have hB:=lV.fR l b hb aL
   refine hB.mono (fun _ h=>h) (fun _ _=>rfl) yX fun p g o hp ha=>⟨rfl,fun hr=>?_⟩
   obtain⟨arr,ty,fr,hh,ho⟩:=hB.place hp ha
   obtain⟨h1,h2,h3⟩:=ho.1 hr
   refine⟨h2,fun l2 b2 cZ dD bN p2 g2 o2 f_ fY=>?_⟩
   by_cases fv:l2 < S'.length
   ·rw[List.getElem?_append_left fv] at dD
    exact h3 l2 b2 cZ dD bN p2 g2 o2 (by rw[tO l2 (by omega)]; exact f_) fY
   ·rw[List.getElem?_append_right (by omega)] at dD
    have Co:(nF++T)[l2]?=some b2:=by rw[List.getElem?_append_right (by omega),A7,Fi]; exact dD
    obtain⟨b0,fw⟩:∃ b0,S0[l]?=some b0:=⟨S0[l]'(by omega),by simp[show l < S0.length by omega]⟩
    obtain⟨_,b3,jk,jA⟩:=vj fw
    obtain⟨_,_,q3,q4,_⟩:=cJ jA
    obtain⟨_,q5⟩:=FT l b0 b fw hb
    obtain⟨_,_,_,_,RM⟩:=(hH.fR l b3 jk q4).place (yX l p hp) ha
    exact (RM.1 (by rw[q3,q5]; exact hr)).2.2 l2 b2 cZ Co bN p2 g2 o2 f_ fY
  ·rw[List.getElem?_append_right (by omega)] at hb
   have db:(nF++T)[l]?=some b:=by rw[List.getElem?_append_right (by omega),A7,Fi]; exact hb
   have hB:=hH.fR l b db aL
   have same:∀ {p g o},β l=some p->p.a=some (g,o)->g < w.heap.size/\w'.heap[g]?=w.heap[g]?:=fun {p g o} hp ha=>by
    have cz:=hH.dk ⟨l,b,p,o,db,aL,hp,ha⟩
    exact⟨cz,hE.block g cz (apart (by omega) db aL hp ha)⟩
   refine hB.mono hE.az (fun g hg=>hE.block g (hM.az g hg) fun hw=>?_) (fun _ _ h=>h) fun p g o hp ha=>⟨(same hp ha).2,fun hr=>?_⟩
   ·exact Fj.kK hw hg
   ·obtain⟨arr,ty,fr,hh,ho⟩:=hB.place hp ha
    obtain⟨h1,h2,h3⟩:=ho.1 hr
    refine⟨fun hI=>(hE.new g (same hp ha).1 hI).elim h2 (apart (by omega) db aL hp ha),fun l2 b2 cZ dD bN p2 g2 o2 f_ fY=>?_⟩
    by_cases fv:l2 < S'.length
    ·obtain⟨b0,fw⟩:∃ b0,S0[l2]?=some b0:=⟨S0[l2]'(by omega),by simp[show l2 < S0.length by omega]⟩
     obtain⟨_,b3,jk,jA⟩:=vj fw
     exact h3 l2 b3 cZ jk (cJ jA).2.2.2.1 p2 g2 o2 f_ fY
    ·rw[List.getElem?_append_right (by omega)] at dD
     exact h3 l2 b2 cZ (by rw[List.getElem?_append_right (by omega),A7,Fi]; exact dD) bN p2 g2 o2 f_ fY
 ·rcases yY h with h|⟨l,b,p,o,_,h2,h3,h4,h5,h6⟩
  ·exact Cn (hE.wr g hg h)
  ·exact⟨l,b,p,o,h2,h3,h4,h5,h6⟩
def pS:List ak->List ak->Prop
 | [],[]=>True
 | b::S,b'::S'=>fA b b'/\pS S S'
 | _,_=>False
theorem nW:∀ {S S':List ak},pS S S'->S.length=S'.length/\∀ (l:Nat) (b b':ak),S[l]?=some b->S'[l]?=some b'->fA b b'
 | [],[],_=>⟨rfl,fun l b b' h=>by simp at h⟩
 | b::S,b'::S',h=>by
  obtain⟨h1,h2⟩:=nW h.2
  refine⟨by simp[h1],fun l c c' hc vD=>?_⟩
  cases l with
  | zero=>simp at hc vD; subst hc; subst vD; exact h.1
  | succ l=>exact h2 l c c' (by simpa using hc) (by simpa using vD)
 | [],_::_,h=>h.elim
 | _::_,[],h=>h.elim
theorem mL {S S':List ak} (h:pS S S') {l:Nat} {b':ak} (hb:S'[l]?=some b'):∃ b,S[l]?=some b/\fA b b':=by
 obtain⟨h1,h2⟩:=nW h
 have hl:l < S.length:=by rw[h1]; exact (List.getElem?_eq_some_iff.1 hb).1
 exact⟨S[l],by simp[hl],h2 l _ _ (by simp[hl]) hb⟩
theorem aN.le {S S':List ak} (h:pS S S') (hH:aN I β S w):aN I β S' w:=by
 refine⟨fun l hl=>hH.pM l (by rw[(nW h).1]; exact hl),fun l b' db aL=>?_⟩
 obtain⟨b,hb,Cm⟩:=mL h db
 obtain⟨e1,e2,e3,e4,e5,e6,e7⟩:=cJ Cm
 obtain⟨p,hp,hB⟩:=hH.fR l b hb e4
 have own:∀ {g:Nat} {fr:Nat × Nat},Own I β S l g fr b->Own I β S' l g fr b':=fun {g fr} ho=>by
  refine⟨fun hr=>?_,fun hr=>ho.2 (by rw[e3]; exact hr)⟩
  obtain⟨h1,h2,h3⟩:=ho.1 (by rw[e3]; exact hr)
  refine⟨h1,h2,fun l2 b2 cZ fv bN p2 g2 o2 f_ fY=>?_⟩
  obtain⟨b3,jk,jA⟩:=mL h fv
  exact h3 l2 b3 cZ jk (cJ jA).2.2.2.1 p2 g2 o2 f_ fY
 have cells:b'.k.pJ=true->∀ {arr:Array Value} {o:Nat},bp w I β b.cs arr o->bp w I β b'.cs arr o:=fun hk {arr o} hc=>by
  rcases e7 with ⟨hd,_⟩|⟨_,h7⟩
  ·(rw[e6,hk] at hd; cases hd)
  ·exact gn h7 hc
 refine⟨p,hp,?_⟩
 split at hB
 ·rename_i cI
  have gP:b'.k = .loc:=by rw[← e6]; exact cI
  obtain⟨g,o,arr,ty,fr,h1,h2,h3,ho⟩:=hB
  rw[gP]
  exact⟨g,o,arr,ty,fr,h1,h2,cells (by rw[gP]; rfl) h3,own ho⟩
 ·rename_i cI
  have gP:b'.k = .arr:=by rw[← e6]; exact cI
  obtain⟨g,arr,fr,h1,h2,h3,ho,h4,h5,h6,h7,h8⟩:=hB
  have hlen:b'.cs.length=b.cs.length:=by
   rcases e7 with ⟨hd,_⟩|⟨_,h9⟩
   ·rw[cI] at hd; cases hd
   ·exact (j7 h9).symm
  rw[gP]
  exact⟨g,arr,fr,h1,by rw[← e1]; exact h2,cells (by rw[gP]; rfl) h3,own ho,by rw[hlen,← e2]; exact h4,h5,h6,by rw[← e2]; exact h7,by rw[← e2]; exact h8⟩
 ·rename_i cI
  have gP:b'.k = .dyn:=by rw[← e6]; exact cI
  have gb:b.cs=b'.cs:=by
   rcases e7 with ⟨_,h9⟩|⟨hd,_⟩
   ·exact h9
   ·(rw[cI] at hd; cases hd)
  obtain⟨⟨h1,h2,h3,h4⟩,hB⟩:=hB
  rw[gP]
  refine⟨⟨by rw[← e2]; exact h1,by rw[← gb]; exact h2,h3,h4⟩,?_⟩
  rcases hB with h|⟨g,arr,fr,h5,h6,h7,ho,h8⟩
  ·exact .inl h
  ·exact .inr ⟨g,arr,fr,h5,by rw[← e1]; exact h6,by rw[← gb,← e2]; exact h7,own ho,by rw[← e2]; exact h8⟩
 ·rename_i cI
  have gP:b'.k = .mp:=by rw[← e6]; exact cI
  have gb:b.cs=b'.cs:=by
   rcases e7 with ⟨_,h9⟩|⟨hd,_⟩
   ·exact h9
   ·(rw[cI] at hd; cases hd)
  obtain⟨g,h1,h2,ho⟩:=hB
  rw[gP]
  exact⟨g,h1,by rw[← gb]; exact h2,own ho⟩
theorem Spec.iJ {f:FuncId} {args:List PV} {S:List ak} {rl:List Nat} {r0:PV} {S1:List ak} (h:Spec G f args S rl fun x S'=>x=r0/\pS S' S1):Spec G f args S rl fun x S'=>x=r0/\S'=S1 :=
 Spec.intro h.run.1 fun I β w bw hH hM hA=>(h.run.2 I β w bw hH hM hA).mono fun e w' ⟨v,r,S',I',aV,he,⟨e1,e2⟩,hi,lV,j9,hE,hlen,kO⟩ =>
  ⟨v,r,S1,I',aV,he,⟨e1,rfl⟩,hi,lV.le e2,j9,⟨hE.os,hE.tape,hE.output,hE.size,hE.block,fun g hg ⟨l,b,p,o,h1,h2,h3,h4,h5⟩=>by
   obtain⟨b0,fw,Cl⟩:=mL e2 h1
   obtain⟨_,_,q3,q4,_⟩:=cJ Cl
   exact hE.wr g hg ⟨l,b0,p,o,fw,q4,by rw[q3]; exact h3,h4,h5⟩,hE.az,hE.new⟩,by rw[← (nW e2).1]; exact hlen,kO⟩
theorem a_ {r r0:PV} {S' S1:List ak} (h:jj r r0) (hs:pS S' S1):∃ r',xA r r'/\(fun x S'=>x=r0/\pS S' S1) r' S':=⟨r0,eH h,rfl,hs⟩
end
def ba.tP (s:ba) (c:Code) (vs:List (Nat × PV)) (dM:List ak):ba:=match s with
 | ⟨n,t,_,b,rl⟩=>⟨n,(tE vs (oT (oS c) t)).tM,dM,b,rl⟩
theorem SW.Zx {G:Gx} {s:ba} (hG:nS G) (R:List (Nat × aS)) {α:Type} {c:Code} {Q:X->ba->Prop} (hc:cL R c=true) (vs:α->List (Nat × PV)) (stx:α->List ak) (μ:α->Nat) (x0:α) (N:Nat) (π:fH) (h0:gg G.cx π s (s.tP c (vs x0) (stx x0)))
  (h:∀ x,QH (s.tP c (vs x) (stx x)) (pw G R N c (oM (fun s'=>∃ y π,μ y < μ x/\gg G.cx π s' (s.tP c (vs y) (stx y))) Q))):SW G (.loop c) Q s :=
 SW.inv hG (fun x=>s.tP c (vs x) (stx x)) μ (N:=N) hc x0 (eR hG.ok h0) (fun x s'=>∃ y π,μ y < μ x/\gg G.cx π s' (s.tP c (vs y) (stx y))) (fun x s' ⟨y,_,hy,hs⟩=>⟨y,hy,eR hG.ok hs⟩) fun x=>oR (h x)
theorem br {p:Nat->Prop}:∀ l∈([]:List Nat),p l:=fun l hl=>absurd hl List.not_mem_nil
section
variable {w w':World} {I I':Nat->Prop} {β aV:aB} {G:Gx} {s:ba} {a:Act} {st dM:List ak}
theorem eg.take {es:List PV} {n:Nat} {xs:List Value} (h:eg w I es n xs) {k:Nat} (hk:k<=es.length):eg w I (es.take k) n (xs.take (k*n)):=by
 have h1:k*n<=es.length*n:=Nat.mul_le_mul_right _ hk
 refine⟨by rw[List.length_take,List.length_take,h.1,Nat.min_eq_left h1,Nat.min_eq_left hk],fun i e he=>?_⟩
 rw[List.getElem?_take] at he
 split at he
 ·rename_i hi
  obtain⟨h2,h3⟩:=h.2 i e he
  refine⟨h2,fun j c hc=>?_⟩
  obtain⟨v,hv,h4⟩:=h3 j c hc
  have hj:j < n:=by rw[← h2]; exact (List.getElem?_eq_some_iff.1 hc).1
  have:i*n+n<=k*n:=by rw[← Nat.succ_mul]; exact Nat.mul_le_mul_right _ hi
  exact⟨v,by rw[List.getElem?_take,if_pos (by omega)]; exact hv,h4⟩
 ·cases he
theorem eg.drop {es:List PV} {n:Nat} {xs:List Value} (h:eg w I es n xs) (k:Nat):eg w I (es.drop k) n (xs.drop (k*n)):=by
 refine⟨by rw[List.length_drop,List.length_drop,h.1,Nat.sub_mul],fun i e he=>?_⟩
 rw[List.getElem?_drop] at he
 obtain⟨h2,h3⟩:=h.2 _ e he
 refine⟨h2,fun j c hc=>?_⟩
 obtain⟨v,hv,h4⟩:=h3 j c hc
 exact⟨v,by rw[List.getElem?_drop,← Nat.add_assoc,← Nat.add_mul]; exact hv,h4⟩
theorem om.intro {o:Oper} {q:PV->ba->Prop} (h:∀ I β a w,Rel G I β s a w->Ev.nz G.cx.P (cN G s I β w a q) ((execOp a.eval o).run G.cx.P w)):om G s o q:=by unfold om; exact h
end
def RN (G:Gx) (rs:List ResultVar) (base:Nat) (K:PV->List ak->Prop) (x:X) (s:ba):Prop:=match x with
 | .exit _=>False
 | _=>∃ (π:fH) (vs:List (Nat × PV)) (S':List ak),gg G.cx π s ⟨s.n,tE vs .nil,S',s.base,s.rl⟩/\base<=S'.length/\F2 G ⟨s.n,tE vs .nil,S',s.base,s.rl⟩ rs fun r=>K r S'
def jB (G:Gx) (R:List (Nat × aS)) (N:Nat) (fn:Func) (c:Code) (args:List PV) (S:List ak) (rl:List Nat) (K:PV->List ak->Prop):Prop :=
 bif Nat.ble args.length fn.ntmps && Nat.ble fn.ntmps 16777215 && !(fn.name == "runtime.NumGoroutine") then
  kL S 0 fun b=>F1 args 0 .nil fun t=>pw G R N c (RN G fn.results.toList b K) ⟨fn.ntmps,t,S,b,rl⟩ else False
section
variable {w w':World} {I I':Nat->Prop} {β aV:aB} {G:Gx} {s:ba} {a:Act} {st dM:List ak}
theorem Spec.jB (hG:nS G) (R:List (Nat × aS)) {f:FuncId} {fn:Func} {c:Code} {args:List PV} {S:List ak} {rl:List Nat} {K:PV->List ak->Prop} (N:Nat) (hf:G.cx.P.funcs[f]?=some fn) (hb:fn.body=some c) (ov:cL R c=true) (h:jB G R N fn c args S rl K) (hd:G.Vd = []:=by rfl):Spec G f args S rl K:=by
 obtain⟨hc,h⟩:=bf h
 simp only[Bool.and_eq_true,Bool.not_eq_true'] at hc
 obtain⟨⟨hle,tu⟩,Cb⟩:=hc
 have hle:=Nat.le_of_ble_eq_true hle
 have tu:=Nat.le_of_ble_eq_true tu
 replace h:=ga h
 rw[Nat.zero_add] at h
 obtain⟨t,h,ht⟩:=rO h
 refine Spec.intro (Ev.mz hf hb Cb) fun I β w bw hH hM hA=>calls_of_wp hf hb ?_
 have Vr:=hA.length
 have hR:Rel G I β ⟨fn.ntmps,t,S,S.length,rl⟩ { tmps:=bw.toArray++Array.replicate (fn.ntmps - bw.toArray.size) Go.undef,defers:=[] } w:=by
  refine⟨tu,hd.symm,by simp; omega,Nat.le_refl _,fun n x hx=>?_,hH,hM⟩
  rcases ht n x hx with ⟨j,hj,hx⟩|hx
  ·rw[Nat.zero_add] at hj
   subst hj
   obtain⟨v,hv,hi⟩:=hA.get hx
   have cz:n < bw.length:=(List.getElem?_eq_some_iff.1 hv).1
   exact⟨v,by rw[Array.getElem?_append_left (by simpa using cz)]; simpa using hv,hi⟩
  ·cases hx
 refine wp_mono ((kt hG N c _ _ ov h).run hR) fun e a' w' hp=>?_
 obtain⟨x,s',I',aV,rfl,hq,eC,hg⟩:=hp.goes
 have tl:RN G fn.results.toList S.length K .nB s'->a'.defers = []/\∃ v,(results fn a'.tmps).run G.cx.P w' = .ok v w'/\∃ v',∃ r S' I' aV,Ending.returned v = .returned v'/\K r S'/\r.Is w' I' aV v'/\aN I' aV S' w'/\dj G I' w'/\Ext I β S w I' aV S' w'/\S.length<=S'.length/\∀ l,l < S.length->l ∉ rl->aV l=β l:=by
  rintro⟨π,vs,S',tj,hlen,rP⟩
  obtain⟨I2,iu,oH,FU⟩:=eR hG.ok tj I' aV a' w' eC
  obtain⟨r,v,hK,hr,cf⟩:=xD hG oH rP
  have Zy:=hg.trans FU
  exact⟨eC.defers.trans hd,v,cf,v,r,S',I2,iu,rfl,hK,hr,oH.heap,oH.az,Zy.ext,hlen,fun l hl hr=>Zy.low l hl hr⟩
 cases x with
 | nB=>exact tl hq
 | ret=>exact tl hq
 | exit id=>exact hq.elim
theorem Spec.Cp {f:FuncId} {args bx:List PV} {b:ak} {K:PV->List ak->Prop} (h:Spec G f bx [] [] fun r S'=>r = .wref 0/\S' = [b]) (hm:b.m = .w) (Jy:b.live=true) (hk:b.k = .dyn) (hle:lN jj args bx) (hu:dB bx = [])
  (hK:kL st 0 fun l=>vu st b fun dM=>K (.wref l) dM):Spec G f args st [] K:=by
 refine Spec.intro h.run.1 fun I β w bw hH hM hA=>?_
 replace hK:=jY (ga hK)
 rw[Nat.zero_add] at hK
 have h0:aN I (fun _=>none) ([]:List ak) w:=⟨fun _ _=>rfl,fun l b hl=>by simp at hl⟩
 refine (h.run.2 I (fun _=>none) w bw h0 hM (iO hu (hJ (fun _ _=>eH) hle hA))).mono fun e w' ⟨v,r',S',I',aV,he,⟨sS,Fe⟩,hi,lV,j9,hE,_,_⟩=>?_
 subst sS
 subst Fe
 have A9:∀ g,¬ Wr (fun _=>none) ([]:List ak) g:=fun g ⟨l,b,p,o,h1,_⟩=>by simp at h1
 have hold:∀ g,g < w.heap.size->w'.heap[g]?=w.heap[g]?:=fun g hg=>hE.block g hg (A9 g)
 have Cc:∀ g,g < w.heap.size->I' g->I g:=fun g hg h=>(hE.new g hg h).elim id fun h=>absurd h (A9 g)
 simp only[PV.Is] at hi
 obtain⟨p,hp,rfl⟩:=hi
 have eW:∀ g o,p.a=some (g,o)->w.heap.size<=g:=fun g o ha=>by
  rcases Nat.lt_or_ge g w.heap.size with cz|Jq
  ·exact absurd (hE.wr g cz ⟨0,b,p,o,rfl,Jy,hm,hp,ha⟩) (A9 g)
  ·exact Jq
 have hHo:aN I' β st w':=⟨hH.pM,fun l b hl aL=>by
  have hb:=hH.fR l b hl aL
  refine hb.mono hE.az (fun g hg=>hold g (hM.az g hg)) (fun _ _ h=>h) fun p g o hp ha=>?_
  obtain⟨arr,ty,fr,hh,ho⟩:=hb.place hp ha
  have cz:=cY hh
  exact⟨hold g cz,fun hr=>⟨fun hI=>(ho.1 hr).2.1 (Cc g cz hI),(ho.1 hr).2.2⟩⟩⟩
 have gd:∀ g,ik β st g->g < w.heap.size:=fun g hg=>hH.dk hg
 have FY:=lV.fR 0 b rfl Jy
 have KP:aN I' (β.set st.length p) (st++[b]) w':=by
  refine hHo.add (fun _ _=>rfl) (fun g o ha=>⟨?_,fun hL=>by have:=gd g hL; have:=eW g o ha; omega⟩) ?_
  ·obtain⟨arr,ty,fr,hh,ho⟩:=FY.place hp ha
   exact (ho.1 (by rw[hm]; decide)).2.1
  ·obtain⟨p',eE,hd⟩:=FY
   obtain rfl:=Option.some.inj (hp.symm.trans eE)
   refine⟨p,aB.c8 ..,?_⟩
   rw[hk] at hd ⊢
   refine⟨hd.1,hd.2.imp id ?_⟩
   rintro⟨g,arr,fr,h1,h2,h3,ho,h4⟩
   refine⟨g,arr,fr,h1,h2,h3,⟨fun hr=>⟨(ho.1 hr).1,(ho.1 hr).2.1,fun l' b' cZ ig eV q g' o' hq dH e=>?_⟩,ho.2⟩,h4⟩
   subst e
   unfold aB.set at hq
   rw[if_neg cZ] at hq
   have cz:=hH.lt hq
   rw[List.getElem?_append_left cz] at ig
   have:=gd g' ⟨l',b',q,o',ig,eV,hq,dH⟩
   have:=eW g' _ h1
   omega
 refine⟨_,.wref st.length,st++[b],I',β.set st.length p,he,hK,?_,KP,j9,⟨hE.os,hE.tape,hE.output,hE.size,fun g hg _=>hold g hg,fun g hg ⟨l,b',q,o,h1,h2,h3,h4,h5⟩=>?_,hE.az,fun g hg h=>.inl (Cc g hg h)⟩,by simp,fun l hl _=>?_⟩
 ·simp only[PV.Is]; exact⟨p,aB.c8 ..,rfl⟩
 ·unfold aB.set at h4
  split at h4
  ·cases h4
   have:=eW g o h5
   omega
  ·have:=hH.lt h4
   rw[List.getElem?_append_left this] at h1
   exact⟨l,b',q,o,h1,h2,h3,h4,h5⟩
 ·unfold aB.set
  rw[if_neg (by omega)]
end
section
variable {w w':World} {I I':Nat->Prop} {β aV:aB} {G:Gx} {s:ba} {a:Act} {st dM:List ak}
theorem Spec.cut {f:FuncId} {args:List PV} {b0:ak} {n:Nat} {es:List PV} (h:Spec G f args [b0] [] fun r S'=>∃ b:ak,S' = [b]/\b.k = .dyn/\b.live=true/\b.m = .w/\b.size=n/\((r = .wref 0/\b.cs=es)\/(r = .ref 0 0 es.length/\b.cs.take es.length=es))) :
  Spec G f args [b0] [] fun r S'=>r = .sl n es/\S' = [⟨.dyn,b0.ty,n,.w,false,[]⟩]:=by
 refine Spec.intro h.run.1 fun I β w bw hH hM hA=>(h.run.2 I β w bw hH hM hA).mono fun e w' ⟨v,r,S',I',aV,he,⟨b,hS,hk,hl,hm,hn,hc⟩,hi,lV,j9,hE,hlen,kO⟩=>?_
 subst hS
 have hb:[b][0]?=some b:=rfl
 obtain⟨p,hp,FY⟩:=lV.fR 0 b hb hl
 obtain⟨Jo,Cq,hle,pP,lE⟩:=df lV hb hl hk hp
 rw[hn] at Jo lE
 have qo:∀ g,I' g->(I' g\/∃ o,p.a=some (g,o)):=fun g h=>.inl h
 have KQ:∀ {g o:Nat},p.a=some (g,o)->Wr aV [b] g:=fun {g o} ha=>⟨0,b,p,o,hb,hl,hm,hp,ha⟩
 have XG:∀ g,(I' g\/∃ o,p.a=some (g,o))->g < w'.heap.size:=fun g hg=>by
  rcases hg with hg|⟨o,ha⟩
  ·exact j9.az g hg
  ·rcases lE with ⟨xx,_⟩|⟨g1,arr,fr,Vz,_,gO,_⟩
   ·rw[xx] at ha; cases ha
   ·rw[Vz] at ha; cases ha; exact cY gO
 have FD:es.length<=b.cs.length:=by
  rcases hc with ⟨_,rfl⟩|⟨_,hc⟩
  ·exact Nat.le_refl _
  ·rw[← hc,List.length_take]; omega
 have XH:b.cs.take es.length=es:=by
  rcases hc with ⟨_,rfl⟩|⟨_,hc⟩
  ·rw[List.take_length]
  ·exact hc
 have XI:(PV.sl n es).Is w' (fun g=>I' g\/∃ o,p.a=some (g,o)) aV v:=by
  simp only[PV.Is]
  rcases lE with ⟨xx,vf,hw⟩|⟨g,arr,fr,ha,hw,gO,ow,eK,has⟩
  ·have h0:es = []:=List.eq_nil_of_length_eq_zero (by omega)
   subst h0
   rcases hc with ⟨rfl,_⟩|⟨rfl,_⟩
   ·simp only[PV.Is] at hi
    obtain⟨p',eE,rfl⟩:=hi
    rw[hp] at eE; cases eE
    exact⟨none,0,by rw[hw]; rfl,Nat.le_refl _,Nat.zero_le _,(fun _ _ e=>by cases e),fun hn=>absurd rfl hn⟩
   ·simp only[PV.Is] at hi
    obtain⟨p',g',o',Cr,eE,dH,_⟩:=hi
    rw[hp] at eE; cases eE
    rw[xx] at dH; cases dH
  ·obtain⟨xs,nQ,QB⟩:=ow.row
   have B':cl w' (fun g=>I' g\/∃ o,p.a=some (g,o)) es n g 0:=by
    have h1:=nQ.take (k:=es.length) FD
    rw[XH] at h1
    exact h1.at (fun j u hu=>by
     rw[List.getElem?_take] at hu
     split at hu
     ·have:=QB j u hu
      rwa [Nat.zero_add] at this
     ·cases hu) qo (fun _ _=>rfl)
   have sT:es.length≠0->∃ g' o',(some (⟨g,0,none⟩:Addr))=some ⟨g',o',none⟩/\(I' g'\/∃ o,p.a=some (g',o))/\0 < n:=fun _=>⟨g,0,rfl,.inr ⟨0,ha⟩,Jo⟩
   rcases hc with ⟨rfl,RO⟩|⟨rfl,_⟩
   ·simp only[PV.Is] at hi
    obtain⟨p',eE,rfl⟩:=hi
    rw[hp] at eE; cases eE
    have ov:p.len=es.length:=by rw[← Cq,RO]
    exact⟨some ⟨g,0,none⟩,p.cap,by rw[hw,ov],by omega,by omega,(fun g' o' e=>by cases e; exact B'),sT⟩
   ·simp only[PV.Is] at hi
    obtain⟨p',g',o',Cr,eE,dH,rfl,Ks⟩:=hi
    rw[hp] at eE; cases eE
    rw[ha] at dH; cases dH
    exact⟨some ⟨g,0,none⟩,Cr,rfl,Ks,by omega,(fun g' o' e=>by cases e; exact B'),sT⟩
 refine⟨v,.sl n es,_,_,aV,he,⟨rfl,rfl⟩,XI,⟨fun l fv=>lV.pM l fv,fun l b2 dD aL=>?_⟩,⟨XG,fun g cs hg=>⟨.inl (j9.oh g cs hg).1,cX.mono qo (fun _ _=>rfl) _ _ _ rfl (j9.oh g cs hg).2⟩,j9.row⟩,⟨hE.os,hE.tape,hE.output,hE.size,hE.block,fun g _ h=>?_,fun g hg=>.inl (hE.az g hg),fun g hg h=>?_⟩,hlen,kO⟩
 ·match l,dD with
  | 0,dD=>cases dD; cases aL
  | l+1,dD=>simp at dD
 ·obtain⟨l,b2,p2,o2,dD,aL,_⟩:=h
  match l,dD with
  | 0,dD=>cases dD; cases aL
  | l+1,dD=>simp at dD
 ·rcases h with h|⟨o,ha⟩
  ·exact hE.new g hg h
  ·exact .inr (hE.wr g hg (KQ ha))
theorem Spec.cut1 {f:FuncId} {args:List PV} {z b0:ak} (hz:z.k = .loc) (Zz:z.m = .w) (Vl:z.live=true) {n:Nat} {es:List PV} (h:Spec G f args [z,b0] [] fun r S'=>∃ b:ak,S' = [z,b]/\b.k = .dyn/\b.live=true/\b.m = .w/\b.size=n/\((r = .wref 1/\b.cs=es)\/(r = .ref 1 0 es.length/\b.cs.take es.length=es))) :
  Spec G f args [z,b0] [] fun r S'=>r = .sl n es/\S' = [z,⟨.dyn,b0.ty,n,.w,false,[]⟩]:=by
 refine Spec.intro h.run.1 fun I β w bw hH hM hA=>(h.run.2 I β w bw hH hM hA).mono fun e w' ⟨v,r,S',I',aV,he,⟨b,hS,hk,hl,hm,hn,hc⟩,hi,lV,j9,hE,hlen,kO⟩=>?_
 subst hS
 have hb:[z,b][1]?=some b:=rfl
 obtain⟨p,hp,FY⟩:=lV.fR 1 b hb hl
 obtain⟨Jo,Cq,hle,pP,lE⟩:=df lV hb hl hk hp
 rw[hn] at Jo lE
 have qo:∀ g,I' g->(I' g\/∃ o,p.a=some (g,o)):=fun g h=>.inl h
 have KQ:∀ {g o:Nat},p.a=some (g,o)->Wr aV [z,b] g:=fun {g o} ha=>⟨1,b,p,o,hb,hl,hm,hp,ha⟩
 have XG:∀ g,(I' g\/∃ o,p.a=some (g,o))->g < w'.heap.size:=fun g hg=>by
  rcases hg with hg|⟨o,ha⟩
  ·exact j9.az g hg
  ·rcases lE with ⟨xx,_⟩|⟨g1,arr,fr,Vz,_,gO,_⟩
   ·rw[xx] at ha; cases ha
   ·rw[Vz] at ha; cases ha; exact cY gO
 have FD:es.length<=b.cs.length:=by
  rcases hc with ⟨_,rfl⟩|⟨_,hc⟩
  ·exact Nat.le_refl _
  ·rw[← hc,List.length_take]; omega
 have XH:b.cs.take es.length=es:=by
  rcases hc with ⟨_,rfl⟩|⟨_,hc⟩
  ·rw[List.take_length]
  ·exact hc
 have XI:(PV.sl n es).Is w' (fun g=>I' g\/∃ o,p.a=some (g,o)) aV v:=by
  simp only[PV.Is]
  rcases lE with ⟨xx,vf,hw⟩|⟨g,arr,fr,ha,hw,gO,ow,eK,has⟩
  ·have h0:es = []:=List.eq_nil_of_length_eq_zero (by omega)
   subst h0
   rcases hc with ⟨rfl,_⟩|⟨rfl,_⟩
   ·simp only[PV.Is] at hi
    obtain⟨p',eE,rfl⟩:=hi
    rw[hp] at eE; cases eE
    exact⟨none,0,by rw[hw]; rfl,Nat.le_refl _,Nat.zero_le _,(fun _ _ e=>by cases e),fun hn=>absurd rfl hn⟩
   ·simp only[PV.Is] at hi
    obtain⟨p',g',o',Cr,eE,dH,_⟩:=hi
    rw[hp] at eE; cases eE
    rw[xx] at dH; cases dH
  ·obtain⟨xs,nQ,QB⟩:=ow.row
   have B':cl w' (fun g=>I' g\/∃ o,p.a=some (g,o)) es n g 0:=by
    have h1:=nQ.take (k:=es.length) FD
    rw[XH] at h1
    exact h1.at (fun j u hu=>by
     rw[List.getElem?_take] at hu
     split at hu
     ·have:=QB j u hu
      rwa [Nat.zero_add] at this
     ·cases hu) qo (fun _ _=>rfl)
   have sT:es.length≠0->∃ g' o',(some (⟨g,0,none⟩:Addr))=some ⟨g',o',none⟩/\(I' g'\/∃ o,p.a=some (g',o))/\0 < n:=fun _=>⟨g,0,rfl,.inr ⟨0,ha⟩,Jo⟩
   rcases hc with ⟨rfl,RO⟩|⟨rfl,_⟩
   ·simp only[PV.Is] at hi
    obtain⟨p',eE,rfl⟩:=hi
    rw[hp] at eE; cases eE
    have ov:p.len=es.length:=by rw[← Cq,RO]
    exact⟨some ⟨g,0,none⟩,p.cap,by rw[hw,ov],by omega,by omega,(fun g' o' e=>by cases e; exact B'),sT⟩
   ·simp only[PV.Is] at hi
    obtain⟨p',g',o',Cr,eE,dH,rfl,Ks⟩:=hi
    rw[hp] at eE; cases eE
    rw[ha] at dH; cases dH
    exact⟨some ⟨g,0,none⟩,Cr,rfl,Ks,by omega,(fun g' o' e=>by cases e; exact B'),sT⟩
 refine⟨v,.sl n es,_,_,aV,he,⟨rfl,rfl⟩,XI,⟨fun l fv=>lV.pM l fv,fun l b2 dD aL=>?_⟩,⟨XG,fun g cs hg=>⟨.inl (j9.oh g cs hg).1,cX.mono qo (fun _ _=>rfl) _ _ _ rfl (j9.oh g cs hg).2⟩,j9.row⟩,⟨hE.os,hE.tape,hE.output,hE.size,hE.block,fun g _ h=>?_,fun g hg=>.inl (hE.az g hg),fun g hg h=>?_⟩,hlen,kO⟩
 ·match l,dD with
  | 0,dD =>
   cases dD
   obtain⟨p0,ZA,xz⟩:=lV.fR 0 z rfl aL
   rw[hz] at xz
   obtain⟨g0,o0,arr,ty,fr,q1,q2,q3,q4⟩:=xz
   obtain⟨r1,r2,r3⟩:=q4.1 (by rw[Zz]; decide)
   refine⟨p0,ZA,?_⟩
   rw[hz]
   refine⟨g0,o0,arr,ty,fr,q1,q2,bp.mono qo (fun _ _=>rfl) (fun _ _ h=>h) q3,⟨fun _=>⟨r1,fun hI=>?_,fun l' b' cZ ig eV=>?_⟩,fun mw=>by rw[Zz] at mw; cases mw⟩⟩
   ·rcases hI with hI|⟨o,ha⟩
    ·exact r2 hI
    ·exact r3 1 b (by decide) rfl hl p g0 o hp ha rfl
   ·match l',ig with
    | 0,_=>exact absurd rfl cZ
    | 1,ig=>cases ig; cases eV
    | l'+2,ig=>simp at ig
  | 1,dD=>cases dD; cases aL
  | l+2,dD=>simp at dD
 ·obtain⟨l,b2,p2,o2,dD,aL,yN,f_,fY⟩:=h
  match l,dD with
  | 0,dD=>cases dD; exact hE.wr _ (by assumption) ⟨0,z,p2,o2,rfl,Vl,yN,f_,fY⟩
  | 1,dD=>cases dD; cases aL
  | l+2,dD=>simp at dD
 ·rcases h with h|⟨o,ha⟩
  ·exact hE.new g hg h
  ·exact .inr (hE.wr g hg (KQ ha))
end
def KR (S:List ak) (l:Nat):Bool:=match S[l]? with
 | some b=>b.can
 | none=>false
theorem F' {S:List ak} {l:Nat} (h:KR S l=true):l < S.length/\∀ b,S[l]?=some b->b.m = .w:=by
 unfold KR at h
 split at h
 ·rename_i b hb
  refine⟨(List.getElem?_eq_some_iff.1 hb).1,fun b' db=>?_⟩
  rw[hb] at db; cases db
  unfold ak.can at h
  simp only[Bool.and_eq_true] at h
  cases hm:b.m with
  | w=>rfl
  | p=>rw[hm] at h; cases h.2
  | r=>rw[hm] at h; cases h.2
 ·cases h
def JI (rl:List Nat) (b:ak):Bool:=match b.k with
 | .dyn=>true
 | .mp=>true
 | _=>b.cs.all fun c=>c.cR.all fun l=>!(iL l rl)
def Cs (rl:List Nat) (T:List ak):Bool:=T.all (JI rl)
theorem yZ {rl:List Nat} {T:List ak} (h:Cs rl T=true) {b:ak} (hb:b∈T) (hk:b.k.pJ=true):∀ c∈b.cs,∀ m∈c.cR,m ∉ rl:=fun c hc m hm hr=>by
 have h1:=List.all_eq_true.1 h b hb
 unfold JI at h1
 have h2:b.cs.all (fun c=>c.cR.all fun l=>!(iL l rl))=true:=by
  cases cI:b.k with
  | dyn=>rw[cI] at hk; cases hk
  | mp=>rw[cI] at hk; cases hk
  | loc=>rw[cI] at h1; exact h1
  | arr=>rw[cI] at h1; exact h1
 have h3:=List.all_eq_true.1 (List.all_eq_true.1 h2 c hc) m hm
 rw[dn.2 hr] at h3
 cases h3
section
variable {w w':World} {I I':Nat->Prop} {β aV:aB} {G:Gx} {s:ba} {a:Act} {st dM:List ak}
theorem bp.xK {cs:List PV} {arr:Array Value} {o:Nat} (hI:∀ g,I g->I' g) (hw:∀ g,I g->w'.heap[g]?=w.heap[g]?) (hb:∀ c∈cs,∀ l∈c.cR,∀ p,β l=some p->aV l=some p) (h:bp w I β cs arr o):bp w' I' aV cs arr o :=
 fun i c hc=>let ⟨v,h1,h2,h3⟩:=h i c hc; ⟨v,h1,PV.Is.mono hI hw c β aV v (fun l p hl=>hb c (List.mem_of_getElem? hc) l hl p) h2,h3⟩
theorem fN.xK {l:Nat} {b:ak} (hI:∀ g,I g->I' g) (hw:∀ g,I g->w'.heap[g]?=w.heap[g]?) (kO:∀ p,β l=some p->aV l=some p) (hu:b.k.pJ=true->∀ c∈b.cs,∀ l∈c.cR,∀ p,β l=some p->aV l=some p)
  (hg:∀ p g o,β l=some p->p.a=some (g,o)->w'.heap[g]?=w.heap[g]?/\(b.m≠.r->¬ I' g/\∀ l' b',l'≠l->dM[l']?=some b'->b'.live=true->∀ p g' o',aV l'=some p->p.a=some (g',o')->g'≠g)) (hb:fN I β st w l b):fN I' aV dM w' l b:=by
 obtain⟨p,hp,hk⟩:=hb
 refine⟨p,kO p hp,?_⟩
 have own:∀ {g o:Nat} {fr:Nat × Nat},p.a=some (g,o)->Own I β st l g fr b->Own I' aV dM l g fr b:=fun ha ho=>⟨fun hr=>⟨(ho.1 hr).1,(hg p _ _ hp ha).2 hr⟩,fun hr=>hI _ (ho.2 hr)⟩
 split at hk
 ·rename_i cI
  obtain⟨g,o,arr,ty,fr,ha,hh,hc,ho⟩:=hk
  exact⟨g,o,arr,ty,fr,ha,(hg p g o hp ha).1.trans hh,hc.xK hI hw (hu (by rw[cI]; rfl)),own ha ho⟩
 ·rename_i cI
  obtain⟨g,arr,fr,ha,hh,hc,ho,h1⟩:=hk
  exact⟨g,arr,fr,ha,(hg p g 0 hp ha).1.trans hh,hc.xK hI hw (hu (by rw[cI]; rfl)),own ha ho,h1⟩
 ·obtain⟨h1,hk⟩:=hk
  refine⟨h1,?_⟩
  rcases hk with h|⟨g,arr,fr,ha,hh,hc,ho,h2⟩
  ·exact .inl h
  ·exact .inr ⟨g,arr,fr,ha,(hg p g 0 hp ha).1.trans hh,cl.mono hI hw _ _ _ _ (hg p g 0 hp ha).1 hc,own ha ho,h2⟩
 ·obtain⟨g,ha,hm,ho⟩:=hk
  exact⟨g,ha,hm.rB (hg p g 0 hp ha).1,own ha ho⟩
theorem Spec.useR {f:FuncId} {args bx:List PV} {r0:PV} {S0 S1:List ak} {rl:List Nat} {K:PV->List ak->Prop} (h:Spec G f bx S0 rl fun r S'=>r=r0/\S'=S1) (hm:jb S0 S1=true) (gd:S0.all (tF S0.length)=true) (hu:(dB bx).all (fun l=>Nat.blt l S0.length)=true)
  (Ca:r0.cR.all (fun l=>Nat.blt l S0.length)=true) (Js:rl.all (fun l=>KR S0 l)=true) (hle:lN jj args bx) (hK:Ck st S0 fun T=>(bif Cs rl T then True else False)/\rN S1 fun S1=>vW S1 T (K r0)):Spec G f args st rl K:=by
 obtain⟨nF,T,rfl,A7,hk,Cl⟩:=rU hK
 obtain⟨hT,hk⟩:=hk
 replace hT:=(bf hT).1
 replace hk:=rT (lP hk)
 obtain⟨Fi,FT⟩:=lU hm
 refine Spec.intro h.run.1 fun I β w bw hH hM hA=>?_
 let gy:aB:=fun l=>if l < S0.length then β l else none
 have iw:∀ l,l < S0.length->gy l=β l:=fun l hl=>if_pos hl
 have vX:∀ {l p},gy l=some p->l < S0.length/\β l=some p:=fun {l p} h=>by
  by_cases hl:l < S0.length
  ·exact⟨hl,by rw[← iw l hl]; exact h⟩
  ·have:gy l=none:=if_neg hl
   rw[this] at h; cases h
 have vj:∀ {l:Nat} {b':ak},S0[l]?=some b'->l < S0.length/\∃ b,(nF++T)[l]?=some b/\fA b b':=fun {l b'} db=>by
  have cz:l < S0.length:=(List.getElem?_eq_some_iff.1 db).1
  have vY:l < nF.length:=by omega
  refine⟨cz,nF[l],by rw[List.getElem?_append_left vY]; simp[vY],Cl l _ b' (by simp[vY]) db⟩
 have low:∀ {l:Nat} {b':ak},S0[l]?=some b'->b'.k.pJ=true->∀ c∈b'.cs,∀ m∈c.cR,m < S0.length:=fun {l b'} db hk c hc m mw=>by
  rw[List.all_eq_true] at gd
  have:=gd b' (List.mem_of_getElem? db)
  unfold tF at this
  have dE:b'.cs.all (fun c=>c.cR.all fun l=>Nat.blt l S0.length)=true:=by
   cases cI:b'.k with
   | dyn=>rw[cI] at hk; cases hk
   | mp=>rw[cI] at hk; cases hk
   | loc=>rw[cI] at this; exact this
   | arr=>rw[cI] at this; exact this
  rw[List.all_eq_true] at dE
  have:=dE c hc
  rw[List.all_eq_true] at this
  exact Nat.le_of_ble_eq_true (this m mw)
 have Fj:aN I gy S0 w:=by
  refine⟨fun l hl=>if_neg (by omega),fun l b' db aL=>?_⟩
  obtain⟨cz,b,hb,Cm⟩:=vj db
  obtain⟨e1,e2,e3,e4,e5,e6,e7⟩:=cJ Cm
  obtain⟨p,hp,hB⟩:=hH.fR l b hb e4
  have own:∀ {g:Nat} {fr:Nat × Nat},Own I β (nF++T) l g fr b->Own I gy S0 l g fr b':=fun {g fr} ho=>by
   refine⟨fun hr=>?_,fun hr=>ho.2 (by rw[e3]; exact hr)⟩
   obtain⟨h1,h2,h3⟩:=ho.1 (by rw[e3]; exact hr)
   refine⟨h1,h2,fun l2 b2 cZ fv bN p2 g2 o2 f_ fY=>?_⟩
   obtain⟨_,b3,jk,jA⟩:=vj fv
   exact h3 l2 b3 cZ jk (cJ jA).2.2.2.1 p2 g2 o2 (vX f_).2 fY
  have cells:b'.k.pJ=true->∀ {arr:Array Value} {o:Nat},bp w I β b.cs arr o->bp w I gy b'.cs arr o:=fun hk {arr o} hc i c hi=>by
   have iI:bp w I β b'.cs arr o:=by
    rcases e7 with ⟨hd,_⟩|⟨_,h7⟩
    ·(rw[e6,hk] at hd; cases hd)
    ·exact gn h7 hc
   obtain⟨u,A4,QI,h1⟩:=iI i c hi
   exact⟨u,A4,PV.Is.mono (fun _ h=>h) (fun _ _=>rfl) c β gy u (fun m p mw eE=>by rw[iw m (low db hk c (List.mem_of_getElem? hi) m mw)]; exact eE) QI,h1⟩
  refine⟨p,by rw[iw l cz]; exact hp,?_⟩
  split at hB
  ·rename_i cI
   have gP:b'.k = .loc:=by rw[← e6]; exact cI
   obtain⟨g,o,arr,ty,fr,h1,h2,h3,ho⟩:=hB
   rw[gP]
   exact⟨g,o,arr,ty,fr,h1,h2,cells (by rw[gP]; rfl) h3,own ho⟩
  ·rename_i cI
   have gP:b'.k = .arr:=by rw[← e6]; exact cI
   obtain⟨g,arr,fr,h1,h2,h3,ho,h4,h5,h6,h7,h8⟩:=hB
   have hlen:b'.cs.length=b.cs.length:=by
    rcases e7 with ⟨hd,_⟩|⟨_,h9⟩
    ·rw[cI] at hd; cases hd
    ·exact (j7 h9).symm
   rw[gP]
   exact⟨g,arr,fr,h1,by rw[← e1]; exact h2,cells (by rw[gP]; rfl) h3,own ho,by rw[hlen,← e2]; exact h4,h5,h6,by rw[← e2]; exact h7,by rw[← e2]; exact h8⟩
  ·rename_i cI
   have gP:b'.k = .dyn:=by rw[← e6]; exact cI
   have gb:b.cs=b'.cs:=by
    rcases e7 with ⟨_,h9⟩|⟨hd,_⟩
    ·exact h9
    ·(rw[cI] at hd; cases hd)
   obtain⟨⟨h1,h2,h3,h4⟩,hB⟩:=hB
   rw[gP]
   refine⟨⟨by rw[← e2]; exact h1,by rw[← gb]; exact h2,h3,h4⟩,?_⟩
   rcases hB with h|⟨g,arr,fr,h5,h6,h7,ho,h8⟩
   ·exact .inl h
   ·exact .inr ⟨g,arr,fr,h5,by rw[← e1]; exact h6,by rw[← gb,← e2]; exact h7,own ho,by rw[← e2]; exact h8⟩
  ·rename_i cI
   have gP:b'.k = .mp:=by rw[← e6]; exact cI
   have gb:b.cs=b'.cs:=by
    rcases e7 with ⟨_,h9⟩|⟨hd,_⟩
    ·exact h9
    ·(rw[cI] at hd; cases hd)
   obtain⟨g,h1,h2,ho⟩:=hB
   rw[gP]
   exact⟨g,h1,by rw[← gb]; exact h2,own ho⟩
 have KO:bB w I bx gy bw:=by
  have:=hJ (fun _ _=>eH) hle hA
  refine bB.mono (fun _ h=>h) (fun _ _=>rfl) bx β gy bw (fun m p mw eE=>?_) this
  rw[List.all_eq_true] at hu
  rw[iw m (Nat.le_of_ble_eq_true (hu m mw))]; exact eE
 refine (h.run.2 I gy w bw Fj hM KO).mono fun e w' ⟨v,r,S',I',aV,he,⟨e1,e2⟩,hi,lV,j9,hE,hlen,kO⟩=>?_
 subst e1; subst e2
 have tO:∀ l,l < S0.length->l ∉ rl->aV l=β l:=fun l hl hr=>(kO l hl hr).trans (iw l hl)
 let iu:aB:=fun l=>if l < S0.length then aV l else β l
 have y0:∀ l,l < S0.length->iu l=aV l:=fun l hl=>if_pos hl
 have vZ:∀ l,¬ l < S0.length->iu l=β l:=fun l hl=>if_neg hl
 have yX:∀ l p,aV l=some p->iu l=some p:=fun l p hp=>by
  have:l < S0.length:=by have:=lV.lt hp; omega
  rw[y0 l this]; exact hp
 have ta:∀ l,l∈rl->l < S0.length/\∀ b,S0[l]?=some b->b.m = .w:=fun l hl=>F' (List.all_eq_true.1 Js l hl)
 have Cn:∀ {g},Wr gy S0 g->Wr β (nF++T) g:=fun {g} ⟨l,b,p,o,h1,h2,h3,h4,h5⟩=>by
  obtain⟨cz,b2,dD,Cf⟩:=vj h1
  obtain⟨_,_,q3,q4,_⟩:=cJ Cf
  exact⟨l,b2,p,o,dD,q4,by rw[q3]; exact h3,(vX h4).2,h5⟩
 have yY:∀ {g},Wr iu (S'++T) g->(Wr aV S' g)\/∃ l b p o,S0.length<=l/\(nF++T)[l]?=some b/\b.live=true/\b.m = .w/\β l=some p/\p.a=some (g,o):=fun {g} ⟨l,b,p,o,h1,h2,h3,h4,h5⟩=>by
  by_cases hl:l < S'.length
  ·rw[List.getElem?_append_left hl] at h1
   exact .inl ⟨l,b,p,o,h1,h2,h3,by rw[← y0 l (by omega)]; exact h4,h5⟩
  ·rw[List.getElem?_append_right (by omega)] at h1
   refine .inr ⟨l,b,p,o,by omega,?_,h2,h3,by rw[← vZ l (by omega)]; exact h4,h5⟩
   rw[List.getElem?_append_right (by omega),A7,Fi]; exact h1
 
 have apart:∀ {l:Nat} {b:ak} {p:na} {g o:Nat},S0.length<=l->(nF++T)[l]?=some b->b.live=true->β l=some p->p.a=some (g,o)->¬ Wr gy S0 g:=fun {l b p g o} hl hb aL hp ha ⟨l2,b2,p2,o2,h1,h2,h3,h4,h5⟩=>by
  obtain⟨cz,b3,jk,jA⟩:=vj h1
  obtain⟨_,_,q3,q4,_⟩:=cJ jA
  obtain⟨arr,ty,fr,_,ho⟩:=(hH.fR l2 b3 jk q4).place (vX h4).2 h5
  exact (ho.1 (by rw[q3,h3]; nofun)).2.2 l b (by omega) hb aL p g o hp ha rfl
 refine⟨v,r,S'++T,I',iu,he,hk,PV.Is.mono (fun _ h=>h) (fun _ _=>rfl) r aV iu v (fun m p _ hp=>yX m p hp) hi,⟨fun l hl=>by rw[vZ l (by simp only[List.length_append] at hl; omega)]; exact hH.pM l (by simp only[List.length_append] at hl ⊢; omega),fun l b hb aL=>?_⟩,j9,⟨hE.os,hE.tape,hE.output,hE.size,fun g hg hn=>hE.block g hg fun h=>hn (Cn h),fun g hg h=>?_,hE.az,fun g hg h=>(hE.new g hg h).imp id Cn⟩,by simp only[List.length_append]; omega,fun l _ hr=>by
   by_cases hl:l < S0.length
   ·rw[y0 l hl]; exact tO l hl hr
   ·exact vZ l hl⟩
 ·by_cases hl:l < S'.length
  ·rw[List.getElem?_append_left hl] at hb
   have hB:=lV.fR l b hb aL
   refine hB.mono (fun _ h=>h) (fun _ _=>rfl) yX fun p g o hp ha=>⟨rfl,fun hr=>?_⟩
   obtain⟨arr,ty,fr,hh,ho⟩:=hB.place hp ha
   obtain⟨h1,h2,h3⟩:=ho.1 hr
   refine⟨h2,fun l2 b2 cZ dD bN p2 g2 o2 f_ fY=>?_⟩
   by_cases fv:l2 < S'.length
   ·rw[List.getElem?_append_left fv] at dD
    exact h3 l2 b2 cZ dD bN p2 g2 o2 (by rw[← y0 l2 (by omega)]; exact f_) fY
   ·rw[List.getElem?_append_right (by omega)] at dD
    have Co:(nF++T)[l2]?=some b2:=by rw[List.getElem?_append_right (by omega),A7,Fi]; exact dD
    have y1:β l2=some p2:=by rw[← vZ l2 (by omega)]; exact f_
    have FU:=hH.dk ⟨l2,b2,p2,o2,Co,bN,y1,fY⟩
    obtain⟨b0,fw⟩:∃ b0,S0[l]?=some b0:=⟨S0[l]'(by omega),by simp[show l < S0.length by omega]⟩
    obtain⟨_,q5⟩:=FT l b0 b fw hb
    by_cases RP:l∈rl
    ·intro e
     subst e
     have hw:b.m = .w:=by rw[← q5]; exact (ta l RP).2 b0 fw
     exact apart (by omega) Co bN y1 fY (hE.wr _ FU ⟨l,b,p,o,hb,aL,hw,hp,ha⟩)
    ·obtain⟨_,b3,jk,jA⟩:=vj fw
     obtain⟨_,_,q3,q4,_⟩:=cJ jA
     have Ff:β l=some p:=by rw[← tO l (by omega) RP]; exact hp
     obtain⟨_,_,_,_,RM⟩:=(hH.fR l b3 jk q4).place Ff ha
     exact (RM.1 (by rw[q3,q5]; exact hr)).2.2 l2 b2 cZ Co bN p2 g2 o2 y1 fY
  ·rw[List.getElem?_append_right (by omega)] at hb
   have db:(nF++T)[l]?=some b:=by rw[List.getElem?_append_right (by omega),A7,Fi]; exact hb
   have hB:=hH.fR l b db aL
   have same:∀ {p g o},β l=some p->p.a=some (g,o)->g < w.heap.size/\w'.heap[g]?=w.heap[g]?:=fun {p g o} hp ha=>by
    have cz:=hH.dk ⟨l,b,p,o,db,aL,hp,ha⟩
    exact⟨cz,hE.block g cz (apart (by omega) db aL hp ha)⟩
   have hTb:=yZ hT (List.mem_of_getElem? hb)
   refine hB.xK hE.az (fun g hg=>hE.block g (hM.az g hg) fun hw=>?_) (fun p hp=>by rw[vZ l (by omega)]; exact hp) (fun hk c hc m hm p hp=>?_) fun p g o hp ha=>⟨(same hp ha).2,fun hr=>?_⟩
   ·exact Fj.kK hw hg
   ·by_cases XJ:m < S0.length
    ·rw[y0 m XJ,tO m XJ (hTb hk c hc m hm)]; exact hp
    ·rw[vZ m XJ]; exact hp
   ·obtain⟨arr,ty,fr,hh,ho⟩:=hB.place hp ha
    obtain⟨h1,h2,h3⟩:=ho.1 hr
    refine⟨fun hI=>(hE.new g (same hp ha).1 hI).elim h2 (apart (by omega) db aL hp ha),fun l2 b2 cZ dD bN p2 g2 o2 f_ fY=>?_⟩
    have BV:=(same hp ha).1
    by_cases fv:l2 < S'.length
    ·rw[List.getElem?_append_left fv] at dD
     have y1:aV l2=some p2:=by rw[← y0 l2 (by omega)]; exact f_
     obtain⟨b0,fw⟩:∃ b0,S0[l2]?=some b0:=⟨S0[l2]'(by omega),by simp[show l2 < S0.length by omega]⟩
     by_cases RP:l2∈rl
     ·intro e
      subst e
      obtain⟨_,q5⟩:=FT l2 b0 b2 fw dD
      have hw:b2.m = .w:=by rw[← q5]; exact (ta l2 RP).2 b0 fw
      exact apart (by omega) db aL hp ha (hE.wr _ BV ⟨l2,b2,p2,o2,dD,bN,hw,y1,fY⟩)
     ·obtain⟨_,b3,jk,jA⟩:=vj fw
      exact h3 l2 b3 cZ jk (cJ jA).2.2.2.1 p2 g2 o2 (by rw[← tO l2 (by omega) RP]; exact y1) fY
    ·rw[List.getElem?_append_right (by omega)] at dD
     exact h3 l2 b2 cZ (by rw[List.getElem?_append_right (by omega),A7,Fi]; exact dD) bN p2 g2 o2 (by rw[← vZ l2 (by omega)]; exact f_) fY
 ·rcases yY h with h|⟨l,b,p,o,_,h2,h3,h4,h5,h6⟩
  ·exact Cn (hE.wr g hg h)
  ·exact⟨l,b,p,o,h2,h3,h4,h5,h6⟩
def F_ (st:List ak) (fz:List Nat) (x:PV):PV:=match x with
 | .wref l=>bif iL l fz then (match st[l]? with
  | some ⟨.dyn,_,n,_,_,cs⟩=>.sl n cs
  | _=>.wref l) else .wref l
 | x=>x
def TM.v3 (f:PV->PV):TM->TM
 | .nil=>.nil
 | .node v l r=>.node (match v with
  | some x=>some (f x)
  | none=>none) (l.v3 f) (r.v3 f)
def ba.A' (s:ba) (fz:List Nat):ba:=match s with
 | ⟨n,t,st,b,rl⟩=>⟨n,t.v3 (F_ st fz),iQ fz st,b,rl⟩
theorem TM.oY (f:PV->PV):∀ (t:TM) (n:Nat),(t.v3 f).get n=(t.get n).map f
 | .nil,_=>rfl
 | .node v l r,n=>by
  show TM.get (.node (match v with
   | some x=>some (f x)
   | none=>none) (l.v3 f) (r.v3 f)) n=_
  rw[TM.get,TM.get]
  cases Nat.beq n 0<;>cases Nat.beq (n % 2) 1<;>simp only[cond_true,cond_false]
  ·exact TM.oY f r _
  ·exact TM.oY f l _
  ·cases v<;>rfl
  ·cases v<;>rfl
theorem lW {S:List ak} {fz:List Nat} {l:Nat} {b:ak} (hb:(iQ fz S)[l]?=some b):∃ b0,S[l]?=some b0/\b = { b0 with m:=jz (iL l fz) b0.m }:=by
 unfold iQ at hb
 rw[eM,Option.map_eq_some_iff] at hb
 obtain⟨b0,h1,h2⟩:=hb
 rw[Nat.zero_add] at h2
 exact⟨b0,h1,h2.symm⟩
theorem aN.A' {S:List ak} (hH:aN I β S w) (hM:dj G I w) {fz:List Nat} (hz:QJ S fz=true):aN (e9 I β S fz) β (iQ fz S) w:=by
 refine⟨fun l hl=>hH.pM l (by unfold iQ at hl; rw[fm] at hl; exact hl),fun l b hb aL=>?_⟩
 obtain⟨b0,fw,rfl⟩:=lW hb
 obtain⟨p,hp,hk⟩:=hH.fR l b0 fw aL
 have qo:∀ g,I g->e9 I β S fz g:=fun g h=>.inl h
 have own:∀ {g o:Nat} {fr:Nat × Nat},p.a=some (g,o)->Own I β S l g fr b0->Own (e9 I β S fz) β (iQ fz S) l g fr { b0 with m:=jz (iL l fz) b0.m }:=fun {g o fr} ha ho=>by
  refine⟨fun hm=>?_,fun hm=>?_⟩
  ·have lG:iL l fz=false/\b0.m≠.r:=by
    cases hc:iL l fz with
    | true=>simp only[hc,jz,cond_true,ne_eq,not_true_eq_false] at hm
    | false=>exact⟨rfl,by simpa only [hc,jz,cond_false] using hm⟩
   obtain⟨h1,h2,h3⟩:=ho.1 lG.2
   refine⟨h1,fun hI=>?_,fun l2 b2 cZ fv bN p2 g2 o2 f_ fY=>?_⟩
   ·rcases hI with hI|⟨l2,b2,p2,o2,fv,dD,bN,_,f_,fY⟩
    ·exact h2 hI
    ·refine h3 l2 b2 (fun e=>?_) dD bN p2 g o2 f_ fY rfl
     subst e
     rw[dn.2 fv] at lG
     cases lG.1
   ·obtain⟨b3,jk,rfl⟩:=lW fv
    exact h3 l2 b3 cZ jk bN p2 g2 o2 f_ fY
  ·cases hc:iL l fz with
   | true =>
    obtain⟨b1,QK,k1,k2⟩:=vU hz (dn.1 hc)
    rw[fw] at QK; cases QK
    exact .inr ⟨l,b0,p,o,dn.1 hc,fw,k1,k2,hp,ha⟩
   | false=>exact qo g (ho.2 (by simpa only [hc,jz,cond_false] using hm))
 have A_:∀ g,I g->w.heap[g]?=w.heap[g]?:=fun _ _=>rfl
 refine⟨p,hp,?_⟩
 split at hk
 ·rename_i cI
  obtain⟨g,o,arr,ty,fr,h1,h2,h3,ho⟩:=hk
  simp only[cI]
  exact⟨g,o,arr,ty,fr,h1,h2,bp.mono qo A_ (fun _ _ h=>h) h3,own h1 ho⟩
 ·rename_i cI
  obtain⟨g,arr,fr,h1,h2,h3,ho,h4⟩:=hk
  simp only[cI]
  exact⟨g,arr,fr,h1,h2,bp.mono qo A_ (fun _ _ h=>h) h3,own h1 ho,h4⟩
 ·rename_i cI
  obtain⟨h1,hk⟩:=hk
  simp only[cI]
  refine⟨h1,?_⟩
  rcases hk with h|⟨g,arr,fr,h2,h3,h4,ho,h5⟩
  ·exact .inl h
  ·exact .inr ⟨g,arr,fr,h2,h3,cl.mono qo A_ _ _ _ _ rfl h4,own h2 ho,h5⟩
 ·rename_i cI
  obtain⟨g,h1,h2,ho⟩:=hk
  simp only[cI]
  exact⟨g,h1,h2,own h1 ho⟩
theorem Ga {S:List ak} (hH:aN I β S w) {fz:List Nat} (hz:QJ S fz=true) {x:PV} {v:Value} (hx:x.Is w I β v):(F_ S fz x).Is w (e9 I β S fz) β v:=by
 have rB:∀ y:PV,y.Is w I β v->y.Is w (e9 I β S fz) β v:=fun y hy=>PV.Is.mono (fun _ h=>.inl h) (fun _ _=>rfl) y β β v (fun _ _ _ h=>h) hy
 unfold F_
 split
 ·rename_i l
  cases hc:iL l fz with
  | false=>exact rB _ hx
  | true =>
   obtain⟨b,hb,aL,hm⟩:=vU hz (dn.1 hc)
   simp only[cond_true]
   split
   ·rename_i _ ty n m live cs hs
    rw[hb] at hs
    cases hs
    have h1:=rR hH (dn.1 hc) hb (n:=n) (es:=cs) (by
     simp only at aL hm
     show (bif live && yU m && Nat.beq n n then cs=cs else False)
     rw[aL,hm,Nat.beq_refl]; exact rfl) hx
    exact PV.Is.mono (fun _ h=>h) (fun _ _=>rfl) _ no β v (fun l p hl=>by simp[PV.cR] at hl) h1
   ·exact rB _ hx
 ·exact rB _ hx
theorem Sub.freeze (fz:List Nat) (hz:QJ s.st fz=true):Sub G s (s.A' fz):=fun I β a w hR=>by
 obtain⟨n,t,st,b,rl⟩:=s
 refine⟨e9 I β st fz,β,⟨hR.small,hR.defers,hR.size,by show b<=(iQ fz st).length; unfold iQ; rw[fm]; exact hR.base,fun i x hx=>?_,hR.heap.A' hR.az hz,lT hR.heap hR.az⟩,⟨⟨rfl,rfl,rfl,Nat.le_refl _,fun _ _ _=>rfl,fun g _ h=>?_,fun _ h=>.inl h,fun g _ h=>?_⟩,rfl,rfl,rfl,fun _ _ _=>rfl⟩⟩
 ·have qn:(t.v3 (F_ st fz)).get i=some x:=hx
  rw[TM.oY,Option.map_eq_some_iff] at qn
  obtain⟨y,hy,rfl⟩:=qn
  obtain⟨v,hv,hi⟩:=hR.get i y hy
  exact⟨v,hv,Ga hR.heap hz hi⟩
 ·obtain⟨l,b1,p,o,h1,h2,h3,h4,h5⟩:=h
  obtain⟨b0,fw,rfl⟩:=lW h1
  refine⟨l,b0,p,o,fw,h2,?_,h4,h5⟩
  cases hc:iL l fz with
  | true=>simp only[hc,jz,cond_true] at h3; cases h3
  | false=>simpa only [hc,jz,cond_false] using h3
 ·rcases h with h|⟨l,b1,p,o,hl,hb,aL,hm,hp,ha⟩
  ·exact .inl h
  ·cases vV:b1.m with
   | w=>exact .inr ⟨l,b1,p,o,hb,aL,vV,hp,ha⟩
   | p=>rw[vV] at hm; cases hm
   | r =>
    obtain⟨arr,ty,fr,_,ho⟩:=(hR.heap.fR l b1 hb aL).place hp ha
    exact .inl (ho.2 vV)
theorem SW.sub {c:Code} {Q:X->ba->Prop} {s s':ba} (h:Sub G s s') (h':SW G c Q s'):SW G c Q s:=SW.intro fun I β a w hR=>by
 obtain⟨I',aV,eC,hg⟩:=h I β a w hR
 exact h'.from eC hg
def ba.bare (s:ba) (vs:List (Nat × PV)) (st:List ak):ba:=match s with
 | ⟨n,_,_,b,rl⟩=>⟨n,tE vs .nil,st,b,rl⟩
theorem SW.xL (hG:nS G) (R:List (Nat × aS)) {α:Type} {c:Code} {Q:X->ba->Prop} (hc:cL R c=true) (vs:α->List (Nat × PV)) (st:α->List ak) (μ:α->Nat) (x0:α) (N:Nat) (JA:fH) (h0:gg G.cx JA s (s.bare (vs x0) (st x0)))
  (h:∀ x,QH (s.bare (vs x) (st x)) (pw G R N c (oM (fun s'=>∃ y π,μ y < μ x/\gg G.cx π s' (s.bare (vs y) (st y))) Q))):SW G (.loop c) Q s :=
 SW.inv hG (fun x=>s.bare (vs x) (st x)) μ (N:=N) hc x0 (eR hG.ok h0) (fun x s'=>∃ y π,μ y < μ x/\gg G.cx π s' (s.bare (vs y) (st y))) (fun x s' ⟨y,π,hy,hs⟩=>⟨y,hy,eR hG.ok hs⟩) fun x=>oR (h x)
theorem Spec.Fg (hG:nS G) {f:FuncId} {args:List PV} {S S':List ak} {rl:List Nat} {K:PV->List ak->Prop} (h:Spec G f args S' rl K) (π:fH) (hs:gg G.cx π ⟨0,.nil,S,S.length,[]⟩ ⟨0,.nil,S',S.length,[]⟩) (hu:(dB args).all (fun l=>Nat.blt l S.length)=true) (Js:∀ l∈rl,S.length<=l):Spec G f args S [] K:=by
 refine Spec.intro h.run.1 fun I β w bw hH hM hA=>?_
 have hR:Rel G I β ⟨0,.nil,S,S.length,[]⟩ { tmps:=#[],defers:=G.Vd } w:=⟨Nat.zero_le _,rfl,rfl,Nat.le_refl _,fun n x hx=>(by cases hx),hH,hM⟩
 obtain⟨I',aV,eC,hg⟩:=eR hG.ok hs I β _ w hR
 have KO:bB w I' args aV bw:=bB.mono hg.ext.az (fun g sT=>hg.ext.block g (hM.az g sT) (fun hw=>hH.kK hw sT)) args β aV bw (fun m p hm hp=>by
  rw[List.all_eq_true] at hu
  rw[hg.low m (Nat.le_of_ble_eq_true (hu m hm)) (by simp)]; exact hp) hA
 have hlen:S.length<=S'.length:=eC.base
 refine (h.run.2 I' aV w bw eC.heap eC.az KO).mono fun e w' ⟨v,r,S2,I2,iu,he,hK,hr,XK,XL,hE,hl,kO⟩=>?_
 refine⟨v,r,S2,I2,iu,he,hK,hr,XK,XL,hg.ext.trans hE,by omega,fun l ig _=>?_⟩
 rw[kO l (by omega) (fun hm=>by have:=Js l hm; omega)]
 exact hg.low l ig (by simp)
end
end Go.Proofs.YtlgkljpgagfndaaGreatDoor.Pw

/- What this claim is proved with: no condition. -/
import Derived.Test.YtnbhdacpogplgaaGreatDoorPd9
import Derived.Deep.OwnRows
import Derived.Laws.AppendOwn
set_option linter.unusedVariables false
set_option linter.unusedSimpArgs false
namespace Go.Proofs.YtnbhdacpogplgaaGreatDoor.Pw
open Go Go.RowKit
def TM.vp:TM->TM
 | .nil=>.nil
 | .node v l r=>.node (match v with
  | some (.tup _)=>none
  | v=>v) l.vp r.vp
def aO.vq (s:aO) (c:Code) (vs:List (Nat × PV)):aO:=match s with
 | ⟨n,t,st,b,rl⟩=>⟨n,(iL vs (pQ (pP c) t)).vp,st,b,rl⟩
theorem SW.hU {G:Gx} {s:aO} (hG:oS G) (R:List (Nat × aF)) {α:Type} {c:Code} {Q:X->aO->Prop} (hc:ca R c=true) (vs:α->List (Nat × PV)) (μ:α->Nat) (x0:α) (N:Nat) (h0:jF G.cx (K_ 0 s.st) s (s.vq c (vs x0)))
  (h:∀ x,QW (s.vq c (vs x)) (pw G R N c (pH (fun s'=>∃ y,μ y < μ x/\jF G.cx (K_ 0 s.st) s' (s.vq c (vs y))) Q))):SW G (.loop c) Q s :=
 SW.inv hG (fun x=>s.vq c (vs x)) μ (N:=N) hc x0 (aM hG.ok h0) (fun x s'=>∃ y,μ y < μ x/\jF G.cx (K_ 0 s.st) s' (s.vq c (vs y))) (fun x s' ⟨y,hy,hs⟩=>⟨y,hy,aM hG.ok hs⟩) fun x=>pO (h x)
def aO.headD (s:aO) (c:Code) (vs:List (Nat × PV)) (ex:List ak):aO:=match s with
 | ⟨n,t,st,b,rl⟩=>⟨n,(iL vs (pQ (pP c) t)).vp,st++ex,b,rl⟩
theorem SW.J1 {G:Gx} {s:aO} (hG:oS G) (R:List (Nat × aF)) {α:Type} {c:Code} {Q:X->aO->Prop} (hc:ca R c=true) (vs:α->List (Nat × PV)) (ex:α->List ak) (μ:α->Nat) (x0:α) (N:Nat) (JW:fx) (h0:jF G.cx (K_ 0 s.st++JW) s (s.headD c (vs x0) (ex x0)))
  (h:∀ x,QW (s.headD c (vs x) (ex x)) (pw G R N c (pH (fun s'=>∃ y π,μ y < μ x/\jF G.cx (K_ 0 s.st++π) s' (s.headD c (vs y) (ex y))) Q))):SW G (.loop c) Q s :=
 SW.inv hG (fun x=>s.headD c (vs x) (ex x)) μ (N:=N) hc x0 (aM hG.ok h0) (fun x s'=>∃ y π,μ y < μ x/\jF G.cx (K_ 0 s.st++π) s' (s.headD c (vs y) (ex y))) (fun x s' ⟨y,_,hy,hs⟩=>⟨y,hy,aM hG.ok hs⟩) fun x=>pO (h x)
def dR (b b':ak):Prop:=match b,b' with
 | ⟨k,ty,n,m,live,cs⟩,⟨k',ZT,n',m',J2,rR⟩=>bif Nat.beq ty ZT && Nat.beq n n' && Md.beq m m' && live && J2 && BK.beq k k' then (match k with
  | .dyn=>cs=rR
  | .mp=>cs=rR
  | _=>kp pI cs rR) else False
def J3:List ak->List ak->(List ak->Prop)->Prop
 | [],T,k=>k T
 | b'::S,b::st,k=>dR b b'/\J3 S st k
 | _::_,[],_=>False
def Hw (st S:List ak) (k:List ak->Prop):Prop:=J3 S st k
def AN:List ak->List ak->(List ak->Prop)->Prop
 | [],T,k=>k T
 | b::l,T,k=>AN l T fun r=>k (b::r)
def jB:List ak->List ak->Bool
 | [],[]=>true
 | a::S,b::T=>a.live && Md.beq a.m b.m && jB S T
 | _,_=>false
theorem tC:∀ {S T:List ak} {k:List ak->Prop},AN S T k->k (S++T)
 | [],_,_,h=>h
 | b::l,T,k,h=>tC (S:=l) h
theorem BK.ln {m n:BK} (h:BK.beq m n=true):m=n:=by cases m<;>cases n<;>first|rfl|cases h
theorem bV {b b':ak} (h:dR b b'):b.ty=b'.ty/\b.size=b'.size/\b.m=b'.m/\b.live=true/\b'.live=true/\b.k=b'.k/\((b.k.qL=false/\b.cs=b'.cs)\/(b.k.qL=true/\kp pI b.cs b'.cs)):=by
 obtain⟨k,ty,n,m,live,cs⟩:=b
 obtain⟨k',ZT,n',m',J2,rR⟩:=b'
 obtain⟨hc,h⟩:=aQ h
 simp only[Bool.and_eq_true] at hc
 obtain⟨⟨⟨⟨⟨h1,h2⟩,h3⟩,h4⟩,h5⟩,h6⟩:=hc
 refine⟨Nat.eq_of_beq_eq_true h1,Nat.eq_of_beq_eq_true h2,Md.ln h3,h4,h5,BK.ln h6,?_⟩
 cases k with
 | dyn=>exact .inl ⟨rfl,h⟩
 | mp=>exact .inl ⟨rfl,h⟩
 | loc=>exact .inr ⟨rfl,h⟩
 | arr=>exact .inr ⟨rfl,h⟩
theorem tD:∀ {S st:List ak} {k:List ak->Prop},Hw st S k->∃ oF T,st=oF++T/\oF.length=S.length/\k T/\∀ (l:Nat) (b b':ak),oF[l]?=some b->S[l]?=some b'->dR b b'
 | [],T,k,h=>⟨[],T,rfl,rfl,h,fun l b b' hb=>by simp at hb⟩
 | b'::S,b::st,k,h=>by
  obtain⟨oF,T,rfl,hl,hk,ha⟩:=tD (S:=S) (st:=st) h.2
  refine⟨b::oF,T,rfl,by simp[hl],hk,fun l c c' hc rO=>?_⟩
  cases l with
  | zero=>simp at hc rO; subst hc; subst rO; exact h.1
  | succ l=>exact ha l c c' (by simpa using hc) (by simpa using rO)
 | _::_,[],_,h=>h.elim
theorem mj:∀ {S T:List ak},jB S T=true->S.length=T.length/\∀ (l:Nat) (a b:ak),S[l]?=some a->T[l]?=some b->a.live=true/\a.m=b.m
 | [],[],_=>⟨rfl,fun l a b h=>by simp at h⟩
 | a::S,b::T,h=>by
  simp only[jB,Bool.and_eq_true] at h
  obtain⟨h1,h2⟩:=mj h.2
  refine⟨by simp[h1],fun l c d hc hd=>?_⟩
  cases l with
  | zero=>simp at hc hd; subst hc; subst hd; exact⟨h.1.1,Md.ln h.1.2⟩
  | succ l=>exact h2 l c d (by simpa using hc) (by simpa using hd)
 | [],_::_,h=>by simp[jB] at h
 | _::_,[],h=>by simp[jB] at h
section
variable {w w':World} {I I':Nat->Prop} {β aI:ax} {G:Gx} {s:aO} {a:Act} {st dc:List ak}
theorem Spec.Sc {f:FuncId} {args aX:List PV} {r0:PV} {S0 S1:List ak} {K:PV->List ak->Prop} (h:Spec G f aX S0 [] fun r S'=>r=r0/\S'=S1) (hm:jB S0 S1=true) (fT:S0.all (vh S0.length)=true) (hu:(c8 aX).all (fun l=>Nat.blt l S0.length)=true)
  (xQ:r0.cr.all (fun l=>Nat.blt l S0.length)=true) (hle:kp mT args aX) (hK:Hw st S0 fun T=>vg S1 fun S1=>AN S1 T (K r0)):Spec G f args st [] K:=by
 obtain⟨oF,T,rfl,Cr,hk,DQ⟩:=tD hK
 replace hk:=tC (mf hk)
 obtain⟨qN,Hb⟩:=mj hm
 refine Spec.intro h.run.1 fun I β w aZ hH hM hA=>?_
 let gr:ax:=fun l=>if l < S0.length then β l else none
 have iM:∀ l,l < S0.length->gr l=β l:=fun l hl=>if_pos hl
 have xX:∀ {l p},gr l=some p->l < S0.length/\β l=some p:=fun {l p} h=>by
  by_cases hl:l < S0.length
  ·exact⟨hl,by rw[← iM l hl]; exact h⟩
  ·have:gr l=none:=if_neg hl
   rw[this] at h; cases h
 have xh:∀ {l:Nat} {b':ak},S0[l]?=some b'->l < S0.length/\∃ b,(oF++T)[l]?=some b/\dR b b':=fun {l b'} cv=>by
  have bG:l < S0.length:=(List.getElem?_eq_some_iff.1 cv).1
  have xY:l < oF.length:=by omega
  refine⟨bG,oF[l],by rw[List.getElem?_append_left xY]; simp[xY],DQ l _ b' (by simp[xY]) cv⟩
 have low:∀ {l:Nat} {b':ak},S0[l]?=some b'->b'.k.qL=true->∀ c∈b'.cs,∀ m∈c.cr,m < S0.length:=fun {l b'} cv hk c hc m k7=>by
  rw[List.all_eq_true] at fT
  have:=fT b' (List.mem_of_getElem? cv)
  unfold vh at this
  have cZ:b'.cs.all (fun c=>c.cr.all fun l=>Nat.blt l S0.length)=true:=by
   cases bS:b'.k with
   | dyn=>rw[bS] at hk; cases hk
   | mp=>rw[bS] at hk; cases hk
   | loc=>rw[bS] at this; exact this
   | arr=>rw[bS] at this; exact this
  rw[List.all_eq_true] at cZ
  have:=cZ c hc
  rw[List.all_eq_true] at this
  exact Nat.le_of_ble_eq_true (this m k7)
 have J4:aD I gr S0 w:=by
  refine⟨fun l hl=>if_neg (by omega),fun l b' cv az=>?_⟩
  obtain⟨bG,b,hb,DS⟩:=xh cv
  obtain⟨e1,e2,e3,e4,e5,e6,e7⟩:=bV DS
  obtain⟨p,hp,hB⟩:=hH.fp l b hb e4
  have own:∀ {g:Nat} {fr:Nat × Nat},Own I β (oF++T) l g fr b->Own I gr S0 l g fr b':=fun {g fr} ho=>by
   refine⟨fun hr=>?_,fun hr=>ho.2 (by rw[e3]; exact hr)⟩
   obtain⟨h1,h2,h3⟩:=ho.1 (by rw[e3]; exact hr)
   refine⟨h1,h2,fun l2 b2 bZ eJ bn p2 g2 o2 fQ fP=>?_⟩
   obtain⟨_,b3,jA,jZ⟩:=xh eJ
   exact h3 l2 b3 bZ jA (bV jZ).2.2.2.1 p2 g2 o2 (xX fQ).2 fP
  have cells:b'.k.qL=true->∀ {arr:Array Value} {o:Nat},aS w I β b.cs arr o->aS w I gr b'.cs arr o:=fun hk {arr o} hc i c hi=>by
   have kG:aS w I β b'.cs arr o:=by
    rcases e7 with ⟨hd,_⟩|⟨_,h7⟩
    ·(rw[e6,hk] at hd; cases hd)
    ·exact gg h7 hc
   obtain⟨u,lR,DF,h1⟩:=kG i c hi
   exact⟨u,lR,PV.Is.mono (fun _ h=>h) (fun _ _=>rfl) c β gr u (fun m p k7 dk=>by rw[iM m (low cv hk c (List.mem_of_getElem? hi) m k7)]; exact dk) DF,h1⟩
  refine⟨p,by rw[iM l bG]; exact hp,?_⟩
  split at hB
  ·rename_i bS
   have fg:b'.k = .loc:=by rw[← e6]; exact bS
   obtain⟨g,o,arr,ty,fr,h1,h2,h3,ho⟩:=hB
   rw[fg]
   exact⟨g,o,arr,ty,fr,h1,h2,cells (by rw[fg]; rfl) h3,own ho⟩
  ·rename_i bS
   have fg:b'.k = .arr:=by rw[← e6]; exact bS
   obtain⟨g,arr,fr,h1,h2,h3,ho,h4,h5,h6,h7,h8⟩:=hB
   have hlen:b'.cs.length=b.cs.length:=by
    rcases e7 with ⟨hd,_⟩|⟨_,h9⟩
    ·rw[bS] at hd; cases hd
    ·exact (kq h9).symm
   rw[fg]
   exact⟨g,arr,fr,h1,by rw[← e1]; exact h2,cells (by rw[fg]; rfl) h3,own ho,by rw[hlen,← e2]; exact h4,h5,h6,by rw[← e2]; exact h7,by rw[← e2]; exact h8⟩
  ·rename_i bS
   have fg:b'.k = .dyn:=by rw[← e6]; exact bS
   have gU:b.cs=b'.cs:=by
    rcases e7 with ⟨_,h9⟩|⟨hd,_⟩
    ·exact h9
    ·(rw[bS] at hd; cases hd)
   obtain⟨⟨h1,h2,h3,h4⟩,hB⟩:=hB
   rw[fg]
   refine⟨⟨by rw[← e2]; exact h1,by rw[← gU]; exact h2,h3,h4⟩,?_⟩
   rcases hB with h|⟨g,arr,fr,h5,h6,h7,ho,h8⟩
   ·exact .inl h
   ·exact .inr ⟨g,arr,fr,h5,by rw[← e1]; exact h6,by rw[← gU,← e2]; exact h7,own ho,by rw[← e2]; exact h8⟩
  ·rename_i bS
   have fg:b'.k = .mp:=by rw[← e6]; exact bS
   have gU:b.cs=b'.cs:=by
    rcases e7 with ⟨_,h9⟩|⟨hd,_⟩
    ·exact h9
    ·(rw[bS] at hd; cases hd)
   obtain⟨g,h1,h2,ho⟩:=hB
   rw[fg]
   exact⟨g,h1,by rw[← gU]; exact h2,own ho⟩
 have Lm:a_ w I aX gr aZ:=by
  have:=gu (fun _ _=>dK) hle hA
  refine a_.mono (fun _ h=>h) (fun _ _=>rfl) aX β gr aZ (fun m p k7 dk=>?_) this
  rw[List.all_eq_true] at hu
  rw[iM m (Nat.le_of_ble_eq_true (hu m k7))]; exact dk
 refine (h.run.2 I gr w aZ J4 hM Lm).mono fun e w' ⟨v,r,S',I',aI,he,⟨e1,e2⟩,hi,ml,ks,hE,hlen,lg⟩=>?_
 subst e1; subst e2
 have vr:∀ l,l < S0.length->aI l=β l:=fun l hl=>(lg l hl (by simp)).trans (iM l hl)
 have AO:∀ l p,aI l=some p->β l=some p:=fun l p hp=>by
  have:l < S0.length:=by have:=ml.lt hp; omega
  rw[← vr l this]; exact hp
 have DT:∀ {g},Wr gr S0 g->Wr β (oF++T) g:=fun {g} ⟨l,b,p,o,h1,h2,h3,h4,h5⟩=>by
  obtain⟨bG,b2,cR,lp⟩:=xh h1
  obtain⟨_,_,q3,q4,_⟩:=bV lp
  exact⟨l,b2,p,o,cR,q4,by rw[q3]; exact h3,(xX h4).2,h5⟩
 have QY:∀ {g},Wr β (S'++T) g->(Wr aI S' g)\/∃ l b p o,S0.length<=l/\(oF++T)[l]?=some b/\b.live=true/\b.m = .w/\β l=some p/\p.a=some (g,o):=fun {g} ⟨l,b,p,o,h1,h2,h3,h4,h5⟩=>by
  by_cases hl:l < S'.length
  ·rw[List.getElem?_append_left hl] at h1
   exact .inl ⟨l,b,p,o,h1,h2,h3,by rw[vr l (by omega)]; exact h4,h5⟩
  ·rw[List.getElem?_append_right (by omega)] at h1
   refine .inr ⟨l,b,p,o,by omega,?_,h2,h3,h4,h5⟩
   rw[List.getElem?_append_right (by omega),Cr,qN]; exact h1
 
 have apart:∀ {l:Nat} {b:ak} {p:nN} {g o:Nat},S0.length<=l->(oF++T)[l]?=some b->b.live=true->β l=some p->p.a=some (g,o)->¬ Wr gr S0 g:=fun {l b p g o} hl hb az hp ha ⟨l2,b2,p2,o2,h1,h2,h3,h4,h5⟩=>by
  obtain⟨bG,b3,jA,jZ⟩:=xh h1
  obtain⟨_,_,q3,q4,_⟩:=bV jZ
  obtain⟨arr,ty,fr,_,ho⟩:=(hH.fp l2 b3 jA q4).place (xX h4).2 h5
  exact (ho.1 (by rw[q3,h3]; nofun)).2.2 l b (by omega) hb az p g o hp ha rfl
 refine⟨v,r,S'++T,I',β,he,hk,PV.Is.mono (fun _ h=>h) (fun _ _=>rfl) r aI β v (fun m p _ hp=>AO m p hp) hi,⟨fun l hl=>hH.jI l (by simp only[List.length_append] at hl ⊢; omega),fun l b hb az=>?_⟩,ks,⟨hE.os,hE.tape,hE.output,hE.size,fun g hg hn=>hE.block g hg fun h=>hn (DT h),fun g hg h=>?_,hE.aw,fun g hg h=>(hE.new g hg h).imp id DT⟩,by simp only[List.length_append]; omega,fun _ _ _=>rfl⟩
 ·by_cases hl:l < S'.length
  ·rw[List.getElem?_append_left hl] at hb
   have hB:=ml.fp l b hb az
   refine hB.mono (fun _ h=>h) (fun _ _=>rfl) AO fun p g o hp ha=>⟨rfl,fun hr=>?_⟩
   obtain⟨arr,ty,fr,hh,ho⟩:=hB.place hp ha
   obtain⟨h1,h2,h3⟩:=ho.1 hr
   refine⟨h2,fun l2 b2 bZ cR bn p2 g2 o2 fQ fP=>?_⟩
   by_cases eJ:l2 < S'.length
   ·rw[List.getElem?_append_left eJ] at cR
    exact h3 l2 b2 bZ cR bn p2 g2 o2 (by rw[vr l2 (by omega)]; exact fQ) fP
   ·rw[List.getElem?_append_right (by omega)] at cR
    have DU:(oF++T)[l2]?=some b2:=by rw[List.getElem?_append_right (by omega),Cr,qN]; exact cR
    obtain⟨b0,fO⟩:∃ b0,S0[l]?=some b0:=⟨S0[l]'(by omega),by simp[show l < S0.length by omega]⟩
    obtain⟨_,b3,jA,jZ⟩:=xh fO
    obtain⟨_,_,q3,q4,_⟩:=bV jZ
    obtain⟨_,q5⟩:=Hb l b0 b fO hb
    obtain⟨_,_,_,_,Sd⟩:=(hH.fp l b3 jA q4).place (AO l p hp) ha
    exact (Sd.1 (by rw[q3,q5]; exact hr)).2.2 l2 b2 bZ DU bn p2 g2 o2 fQ fP
  ·rw[List.getElem?_append_right (by omega)] at hb
   have cv:(oF++T)[l]?=some b:=by rw[List.getElem?_append_right (by omega),Cr,qN]; exact hb
   have hB:=hH.fp l b cv az
   have same:∀ {p g o},β l=some p->p.a=some (g,o)->g < w.heap.size/\w'.heap[g]?=w.heap[g]?:=fun {p g o} hp ha=>by
    have bG:=hH.cM ⟨l,b,p,o,cv,az,hp,ha⟩
    exact⟨bG,hE.block g bG (apart (by omega) cv az hp ha)⟩
   refine hB.mono hE.aw (fun g hg=>hE.block g (hM.aw g hg) fun hw=>?_) (fun _ _ h=>h) fun p g o hp ha=>⟨(same hp ha).2,fun hr=>?_⟩
   ·exact J4.k_ hw hg
   ·obtain⟨arr,ty,fr,hh,ho⟩:=hB.place hp ha
    obtain⟨h1,h2,h3⟩:=ho.1 hr
    refine⟨fun hI=>(hE.new g (same hp ha).1 hI).elim h2 (apart (by omega) cv az hp ha),fun l2 b2 bZ cR bn p2 g2 o2 fQ fP=>?_⟩
    by_cases eJ:l2 < S'.length
    ·obtain⟨b0,fO⟩:∃ b0,S0[l2]?=some b0:=⟨S0[l2]'(by omega),by simp[show l2 < S0.length by omega]⟩
     obtain⟨_,b3,jA,jZ⟩:=xh fO
     exact h3 l2 b3 bZ jA (bV jZ).2.2.2.1 p2 g2 o2 fQ fP
    ·rw[List.getElem?_append_right (by omega)] at cR
     exact h3 l2 b2 bZ (by rw[List.getElem?_append_right (by omega),Cr,qN]; exact cR) bn p2 g2 o2 fQ fP
 ·rcases QY h with h|⟨l,b,p,o,_,h2,h3,h4,h5,h6⟩
  ·exact DT (hE.wr g hg h)
  ·exact⟨l,b,p,o,h2,h3,h4,h5,h6⟩
def qV:List ak->List ak->Prop
 | [],[]=>True
 | b::S,b'::S'=>dR b b'/\qV S S'
 | _,_=>False
theorem oX:∀ {S S':List ak},qV S S'->S.length=S'.length/\∀ (l:Nat) (b b':ak),S[l]?=some b->S'[l]?=some b'->dR b b'
 | [],[],_=>⟨rfl,fun l b b' h=>by simp at h⟩
 | b::S,b'::S',h=>by
  obtain⟨h1,h2⟩:=oX h.2
  refine⟨by simp[h1],fun l c c' hc rO=>?_⟩
  cases l with
  | zero=>simp at hc rO; subst hc; subst rO; exact h.1
  | succ l=>exact h2 l c c' (by simpa using hc) (by simpa using rO)
 | [],_::_,h=>h.elim
 | _::_,[],h=>h.elim
theorem nj {S S':List ak} (h:qV S S') {l:Nat} {b':ak} (hb:S'[l]?=some b'):∃ b,S[l]?=some b/\dR b b':=by
 obtain⟨h1,h2⟩:=oX h
 have hl:l < S.length:=by rw[h1]; exact (List.getElem?_eq_some_iff.1 hb).1
 exact⟨S[l],by simp[hl],h2 l _ _ (by simp[hl]) hb⟩
theorem aD.le {S S':List ak} (h:qV S S') (hH:aD I β S w):aD I β S' w:=by
 refine⟨fun l hl=>hH.jI l (by rw[(oX h).1]; exact hl),fun l b' cv az=>?_⟩
 obtain⟨b,hb,DS⟩:=nj h cv
 obtain⟨e1,e2,e3,e4,e5,e6,e7⟩:=bV DS
 obtain⟨p,hp,hB⟩:=hH.fp l b hb e4
 have own:∀ {g:Nat} {fr:Nat × Nat},Own I β S l g fr b->Own I β S' l g fr b':=fun {g fr} ho=>by
  refine⟨fun hr=>?_,fun hr=>ho.2 (by rw[e3]; exact hr)⟩
  obtain⟨h1,h2,h3⟩:=ho.1 (by rw[e3]; exact hr)
  refine⟨h1,h2,fun l2 b2 bZ eJ bn p2 g2 o2 fQ fP=>?_⟩
  obtain⟨b3,jA,jZ⟩:=nj h eJ
  exact h3 l2 b3 bZ jA (bV jZ).2.2.2.1 p2 g2 o2 fQ fP
 have cells:b'.k.qL=true->∀ {arr:Array Value} {o:Nat},aS w I β b.cs arr o->aS w I β b'.cs arr o:=fun hk {arr o} hc=>by
  rcases e7 with ⟨hd,_⟩|⟨_,h7⟩
  ·(rw[e6,hk] at hd; cases hd)
  ·exact gg h7 hc
 refine⟨p,hp,?_⟩
 split at hB
 ·rename_i bS
  have fg:b'.k = .loc:=by rw[← e6]; exact bS
  obtain⟨g,o,arr,ty,fr,h1,h2,h3,ho⟩:=hB
  rw[fg]
  exact⟨g,o,arr,ty,fr,h1,h2,cells (by rw[fg]; rfl) h3,own ho⟩
 ·rename_i bS
  have fg:b'.k = .arr:=by rw[← e6]; exact bS
  obtain⟨g,arr,fr,h1,h2,h3,ho,h4,h5,h6,h7,h8⟩:=hB
  have hlen:b'.cs.length=b.cs.length:=by
   rcases e7 with ⟨hd,_⟩|⟨_,h9⟩
   ·rw[bS] at hd; cases hd
   ·exact (kq h9).symm
  rw[fg]
  exact⟨g,arr,fr,h1,by rw[← e1]; exact h2,cells (by rw[fg]; rfl) h3,own ho,by rw[hlen,← e2]; exact h4,h5,h6,by rw[← e2]; exact h7,by rw[← e2]; exact h8⟩
 ·rename_i bS
  have fg:b'.k = .dyn:=by rw[← e6]; exact bS
  have gU:b.cs=b'.cs:=by
   rcases e7 with ⟨_,h9⟩|⟨hd,_⟩
   ·exact h9
   ·(rw[bS] at hd; cases hd)
  obtain⟨⟨h1,h2,h3,h4⟩,hB⟩:=hB
  rw[fg]
  refine⟨⟨by rw[← e2]; exact h1,by rw[← gU]; exact h2,h3,h4⟩,?_⟩
  rcases hB with h|⟨g,arr,fr,h5,h6,h7,ho,h8⟩
  ·exact .inl h
  ·exact .inr ⟨g,arr,fr,h5,by rw[← e1]; exact h6,by rw[← gU,← e2]; exact h7,own ho,by rw[← e2]; exact h8⟩
 ·rename_i bS
  have fg:b'.k = .mp:=by rw[← e6]; exact bS
  have gU:b.cs=b'.cs:=by
   rcases e7 with ⟨_,h9⟩|⟨hd,_⟩
   ·exact h9
   ·(rw[bS] at hd; cases hd)
  obtain⟨g,h1,h2,ho⟩:=hB
  rw[fg]
  exact⟨g,h1,by rw[← gU]; exact h2,own ho⟩
theorem Spec.rT {f:FuncId} {args:List PV} {S:List ak} {rl:List Nat} {r0:PV} {S1:List ak} (h:Spec G f args S rl fun x S'=>x=r0/\qV S' S1):Spec G f args S rl fun x S'=>x=r0/\S'=S1 :=
 Spec.intro h.run.1 fun I β w aZ hH hM hA=>(h.run.2 I β w aZ hH hM hA).mono fun e w' ⟨v,r,S',I',aI,he,⟨e1,e2⟩,hi,ml,ks,hE,hlen,lg⟩ =>
  ⟨v,r,S1,I',aI,he,⟨e1,rfl⟩,hi,ml.le e2,ks,⟨hE.os,hE.tape,hE.output,hE.size,hE.block,fun g hg ⟨l,b,p,o,h1,h2,h3,h4,h5⟩=>by
   obtain⟨b0,fO,DQ⟩:=nj e2 h1
   obtain⟨_,_,q3,q4,_⟩:=bV DQ
   exact hE.wr g hg ⟨l,b0,p,o,fO,q4,by rw[q3]; exact h3,h4,h5⟩,hE.aw,hE.new⟩,by rw[← (oX e2).1]; exact hlen,lg⟩
theorem Se {r r0:PV} {S' S1:List ak} (h:mT r r0) (hs:qV S' S1):∃ r',pJ r r'/\(fun x S'=>x=r0/\qV S' S1) r' S':=⟨r0,dK h,rfl,hs⟩
end
def aO.vt (s:aO) (c:Code) (vs:List (Nat × PV)) (dc:List ak):aO:=match s with
 | ⟨n,t,_,b,rl⟩=>⟨n,(iL vs (pQ (pP c) t)).vp,dc,b,rl⟩
theorem SW.ZU {G:Gx} {s:aO} (hG:oS G) (R:List (Nat × aF)) {α:Type} {c:Code} {Q:X->aO->Prop} (hc:ca R c=true) (vs:α->List (Nat × PV)) (stx:α->List ak) (μ:α->Nat) (x0:α) (N:Nat) (π:fx) (h0:jF G.cx π s (s.vt c (vs x0) (stx x0)))
  (h:∀ x,QW (s.vt c (vs x) (stx x)) (pw G R N c (pH (fun s'=>∃ y π,μ y < μ x/\jF G.cx π s' (s.vt c (vs y) (stx y))) Q))):SW G (.loop c) Q s :=
 SW.inv hG (fun x=>s.vt c (vs x) (stx x)) μ (N:=N) hc x0 (aM hG.ok h0) (fun x s'=>∃ y π,μ y < μ x/\jF G.cx π s' (s.vt c (vs y) (stx y))) (fun x s' ⟨y,_,hy,hs⟩=>⟨y,hy,aM hG.ok hs⟩) fun x=>pO (h x)
theorem av {p:Nat->Prop}:∀ l∈([]:List Nat),p l:=fun l hl=>absurd hl List.not_mem_nil
section
variable {w w':World} {I I':Nat->Prop} {β aI:ax} {G:Gx} {s:aO} {a:Act} {st dc:List ak}
theorem df.take {es:List PV} {n:Nat} {xs:List Value} (h:df w I es n xs) {k:Nat} (hk:k<=es.length):df w I (es.take k) n (xs.take (k*n)):=by
 have h1:k*n<=es.length*n:=Nat.mul_le_mul_right _ hk
 refine⟨by rw[List.length_take,List.length_take,h.1,Nat.min_eq_left h1,Nat.min_eq_left hk],fun i e he=>?_⟩
 rw[List.getElem?_take] at he
 split at he
 ·rename_i hi
  obtain⟨h2,h3⟩:=h.2 i e he
  refine⟨h2,fun j c hc=>?_⟩
  obtain⟨v,hv,h4⟩:=h3 j c hc
  have hj:j < n:=by rw[← h2]; exact (List.getElem?_eq_some_iff.1 hc).1
  have:i*n+n<=k*n:=by rw[← Nat.succ_mul]; exact Nat.mul_le_mul_right _ hi
  exact⟨v,by rw[List.getElem?_take,if_pos (by omega)]; exact hv,h4⟩
 ·cases he
theorem df.drop {es:List PV} {n:Nat} {xs:List Value} (h:df w I es n xs) (k:Nat):df w I (es.drop k) n (xs.drop (k*n)):=by
 refine⟨by rw[List.length_drop,List.length_drop,h.1,Nat.sub_mul],fun i e he=>?_⟩
 rw[List.getElem?_drop] at he
 obtain⟨h2,h3⟩:=h.2 _ e he
 refine⟨h2,fun j c hc=>?_⟩
 obtain⟨v,hv,h4⟩:=h3 j c hc
 exact⟨v,by rw[List.getElem?_drop,← Nat.add_assoc,← Nat.add_mul]; exact hv,h4⟩
theorem pe.intro {o:Oper} {q:PV->aO->Prop} (h:∀ I β a w,Rel G I β s a w->Ev.ou G.cx.P (cf G s I β w a q) ((execOp a.eval o).run G.cx.P w)):pe G s o q:=by unfold pe; exact h
end
def Sf (G:Gx) (rs:List ResultVar) (base:Nat) (K:PV->List ak->Prop) (x:X) (s:aO):Prop:=match x with
 | .exit _=>False
 | _=>∃ (π:fx) (vs:List (Nat × PV)) (S':List ak),jF G.cx π s ⟨s.n,iL vs .nil,S',s.base,s.rl⟩/\base<=S'.length/\Hm G ⟨s.n,iL vs .nil,S',s.base,s.rl⟩ rs fun r=>K r S'
def DW (G:Gx) (R:List (Nat × aF)) (N:Nat) (fn:Func) (c:Code) (args:List PV) (S:List ak) (rl:List Nat) (K:PV->List ak->Prop):Prop :=
 bif Nat.ble args.length fn.ntmps && Nat.ble fn.ntmps 16777215 && !(fn.name == "runtime.NumGoroutine") then
  la S 0 fun b=>Hl args 0 .nil fun t=>pw G R N c (Sf G fn.results.toList b K) ⟨fn.ntmps,t,S,b,rl⟩ else False
section
variable {w w':World} {I I':Nat->Prop} {β aI:ax} {G:Gx} {s:aO} {a:Act} {st dc:List ak}
theorem Spec.DW (hG:oS G) (R:List (Nat × aF)) {f:FuncId} {fn:Func} {c:Code} {args:List PV} {S:List ak} {rl:List Nat} {K:PV->List ak->Prop} (N:Nat) (hf:G.cx.P.funcs[f]?=some fn) (hb:fn.body=some c) (ow:ca R c=true) (h:DW G R N fn c args S rl K) (hd:G.Vm = []:=by rfl):Spec G f args S rl K:=by
 obtain⟨hc,h⟩:=aQ h
 simp only[Bool.and_eq_true,Bool.not_eq_true'] at hc
 obtain⟨⟨hle,uW⟩,DH⟩:=hc
 have hle:=Nat.le_of_ble_eq_true hle
 have uW:=Nat.le_of_ble_eq_true uW
 replace h:=gW h
 rw[Nat.zero_add] at h
 obtain⟨t,h,ht⟩:=tv h
 refine Spec.intro (Ev.mW hf hb DH) fun I β w aZ hH hM hA=>calls_of_wp hf hb ?_
 have W2:=hA.length
 have hR:Rel G I β ⟨fn.ntmps,t,S,S.length,rl⟩ { tmps:=aZ.toArray++Array.replicate (fn.ntmps - aZ.toArray.size) Go.undef,defers:=[] } w:=by
  refine⟨uW,hd.symm,by simp; omega,Nat.le_refl _,fun n x hx=>?_,hH,hM⟩
  rcases ht n x hx with ⟨j,hj,hx⟩|hx
  ·rw[Nat.zero_add] at hj
   subst hj
   obtain⟨v,hv,hi⟩:=hA.get hx
   have bG:n < aZ.length:=(List.getElem?_eq_some_iff.1 hv).1
   exact⟨v,by rw[Array.getElem?_append_left (by simpa using bG)]; simpa using hv,hi⟩
  ·cases hx
 refine wp_mono ((jz hG N c _ _ ow h).run hR) fun e a' w' hp=>?_
 obtain⟨x,s',I',aI,rfl,hq,di,hg⟩:=hp.goes
 have iH:Sf G fn.results.toList S.length K .nO s'->a'.defers = []/\∃ v,(results fn a'.tmps).run G.cx.P w' = .ok v w'/\∃ v',∃ r S' I' aI,Ending.returned v = .returned v'/\K r S'/\r.Is w' I' aI v'/\aD I' aI S' w'/\cL G I' w'/\Ext I β S w I' aI S' w'/\S.length<=S'.length/\∀ l,l < S.length->l ∉ rl->aI l=β l:=by
  rintro⟨π,vs,S',uQ,hlen,tw⟩
  obtain⟨I2,gY,jR,Dq⟩:=aM hG.ok uQ I' aI a' w' di
  obtain⟨r,v,hK,hr,bx⟩:=zm hG jR tw
  have ZV:=hg.trans Dq
  exact⟨di.defers.trans hd,v,bx,v,r,S',I2,gY,rfl,hK,hr,jR.heap,jR.aw,ZV.ext,hlen,fun l hl hr=>ZV.low l hl hr⟩
 cases x with
 | nO=>exact iH hq
 | ret=>exact iH hq
 | exit id=>exact hq.elim
theorem Spec.XF {f:FuncId} {args aX:List PV} {b:ak} {K:PV->List ak->Prop} (h:Spec G f aX [] [] fun r S'=>r = .wref 0/\S' = [b]) (hm:b.m = .w) (JU:b.live=true) (hk:b.k = .dyn) (hle:kp mT args aX) (hu:c8 aX = [])
  (hK:la st 0 fun l=>xq st b fun dc=>K (.wref l) dc):Spec G f args st [] K:=by
 refine Spec.intro h.run.1 fun I β w aZ hH hM hA=>?_
 replace hK:=lU (gW hK)
 rw[Nat.zero_add] at hK
 have h0:aD I (fun _=>none) ([]:List ak) w:=⟨fun _ _=>rfl,fun l b hl=>by simp at hl⟩
 refine (h.run.2 I (fun _=>none) w aZ h0 hM (ji hu (gu (fun _ _=>dK) hle hA))).mono fun e w' ⟨v,r',S',I',aI,he,⟨uu,Cs⟩,hi,ml,ks,hE,_,_⟩=>?_
 subst uu
 subst Cs
 have Cv:∀ g,¬ Wr (fun _=>none) ([]:List ak) g:=fun g ⟨l,b,p,o,h1,_⟩=>by simp at h1
 have hold:∀ g,g < w.heap.size->w'.heap[g]?=w.heap[g]?:=fun g hg=>hE.block g hg (Cv g)
 have DI:∀ g,g < w.heap.size->I' g->I g:=fun g hg h=>(hE.new g hg h).elim id fun h=>absurd h (Cv g)
 simp only[PV.Is] at hi
 obtain⟨p,hp,rfl⟩:=hi
 have eu:∀ g o,p.a=some (g,o)->w.heap.size<=g:=fun g o ha=>by
  rcases Nat.lt_or_ge g w.heap.size with bG|RJ
  ·exact absurd (hE.wr g bG ⟨0,b,p,o,rfl,JU,hm,hp,ha⟩) (Cv g)
  ·exact RJ
 have hHo:aD I' β st w':=⟨hH.jI,fun l b hl az=>by
  have hb:=hH.fp l b hl az
  refine hb.mono hE.aw (fun g hg=>hold g (hM.aw g hg)) (fun _ _ h=>h) fun p g o hp ha=>?_
  obtain⟨arr,ty,fr,hh,ho⟩:=hb.place hp ha
  have bG:=cw hh
  exact⟨hold g bG,fun hr=>⟨fun hI=>(ho.1 hr).2.1 (DI g bG hI),(ho.1 hr).2.2⟩⟩⟩
 have fT:∀ g,iD β st g->g < w.heap.size:=fun g hg=>hH.cM hg
 have Hj:=ml.fp 0 b rfl JU
 have XG:aD I' (β.set st.length p) (st++[b]) w':=by
  refine hHo.add (fun _ _=>rfl) (fun g o ha=>⟨?_,fun hL=>by have:=fT g hL; have:=eu g o ha; omega⟩) ?_
  ·obtain⟨arr,ty,fr,hh,ho⟩:=Hj.place hp ha
   exact (ho.1 (by rw[hm]; decide)).2.1
  ·obtain⟨p',dk,hd⟩:=Hj
   obtain rfl:=Option.some.inj (hp.symm.trans dk)
   refine⟨p,ax.eP ..,?_⟩
   rw[hk] at hd ⊢
   refine⟨hd.1,hd.2.imp id ?_⟩
   rintro⟨g,arr,fr,h1,h2,h3,ho,h4⟩
   refine⟨g,arr,fr,h1,h2,h3,⟨fun hr=>⟨(ho.1 hr).1,(ho.1 hr).2.1,fun l' b' bZ iz eg q g' o' hq dJ e=>?_⟩,ho.2⟩,h4⟩
   subst e
   unfold ax.set at hq
   rw[if_neg bZ] at hq
   have bG:=hH.lt hq
   rw[List.getElem?_append_left bG] at iz
   have:=fT g' ⟨l',b',q,o',iz,eg,hq,dJ⟩
   have:=eu g' _ h1
   omega
 refine⟨_,.wref st.length,st++[b],I',β.set st.length p,he,hK,?_,XG,ks,⟨hE.os,hE.tape,hE.output,hE.size,fun g hg _=>hold g hg,fun g hg ⟨l,b',q,o,h1,h2,h3,h4,h5⟩=>?_,hE.aw,fun g hg h=>.inl (DI g hg h)⟩,by simp,fun l hl _=>?_⟩
 ·simp only[PV.Is]; exact⟨p,ax.eP ..,rfl⟩
 ·unfold ax.set at h4
  split at h4
  ·cases h4
   have:=eu g o h5
   omega
  ·have:=hH.lt h4
   rw[List.getElem?_append_left this] at h1
   exact⟨l,b',q,o,h1,h2,h3,h4,h5⟩
 ·unfold ax.set
  rw[if_neg (by omega)]
end
def DX (G:Gx) (s:aO) (o:Oper) (q:PV->aO->Prop):Prop:=match o.op with
 | .call { callee:=.builtin .clear,args:=⟨[d]⟩,argTypes:=⟨t::_⟩ }=>aV (G.cx.kX t) fun td=>match td with
  | .slice elem=>aV (Ev.cU G.cx elem) fun n=>aV (Ev.eL G.cx elem) fun ag=>mX G.cx elem fun z=>s.ev d fun d=>(match d with
   | .ref l off len=>aV s.st[l]? fun b=>(match b.k with
    | .dyn=>bif b.can && Nat.beq b.size n && Nat.blt 0 n && (ag || Nat.beq n 1) && Nat.beq z.length n && z.all PV.jL then aV (dZ ag n (.stat z)) fun fs=>(match fs with
     | [e]=>∃ i:Nat,off=i*n/\i+len=b.cs.length/\0 < len/\s7 s.st l (b.eO (b.cs.take i++List.replicate len e)) fun st=>q (.tup []) (s.store st)
     | _=>False) else False
    | _=>False)
   | _=>False)
  | _=>False
 | _=>False
section
variable {w w':World} {I I':Nat->Prop} {β aI:ax} {G:Gx} {s:aO} {a:Act} {st dc:List ak}
theorem qW (z:Array Value) (len k:Nat) (hk:k < len*z.size) (hz:0 < z.size):(Builtin.zeroCells z len).toList[k]?=z.toList[k % z.size]?:=by
 have hm:k % z.size < z.size:=Nat.mod_lt _ hz
 simp[Builtin.zeroCells,hk,hm]
theorem AP (hG:oS G) {o:Oper} {q:PV->aO->Prop} (h:DX G s o q):pe G s o q:=pe.intro fun I β a w hR=>by
 unfold DX at h
 split at h
 ·rename_i od t r tj
  replace h:=aq h
  obtain⟨d,hu,h⟩:=h
  split at h
  ·rename_i elem
   replace h:=aq h
   obtain⟨n,hn,h⟩:=h
   replace h:=aq h
   obtain⟨ag,Gq,h⟩:=h
   replace h:=iC (w:=w) (I:=I) (β:=β) hG.ok h
   obtain⟨z,inf,v,h,XH,Gp,xy⟩:=h
   replace h:=aO.bL hR h
   obtain⟨d,h,hd⟩:=h
   split at h
   ·rename_i l off len
    replace h:=aq h
    obtain⟨b,hb,h⟩:=h
    split at h
    ·rename_i hk
     replace h:=aQ h
     obtain⟨hc,h⟩:=h
     simp only[Bool.and_eq_true,Bool.or_eq_true] at hc
     obtain⟨⟨⟨⟨⟨qR,pt⟩,jy⟩,XI⟩,JM⟩,Co⟩:=hc
     obtain⟨az,hm⟩:=pq qR
     have pt:=Nat.eq_of_beq_eq_true pt
     have jy:=Nat.le_of_ble_eq_true jy
     have JM:=Nat.eq_of_beq_eq_true JM
     replace h:=aq h
     obtain⟨fs,KI,h⟩:=h
     split at h
     ·rename_i e
      obtain⟨i,rfl,Y_,hlen,h⟩:=h
      replace h:=jd h
      obtain⟨bG,h⟩:=h
      have ze:∀ u∈v.cells.toList,u.oneCell'=true:=fun u hu=>by
       obtain⟨j,hj,hju⟩:=List.mem_iff_getElem.1 hu
       have ZW:z[j]?=some (z[j]'(by rw[xy.length]; exact hj)):=List.getElem?_eq_getElem _
       obtain⟨u',lR,XJ⟩:=xy.get ZW
       rw[List.getElem?_eq_getElem hj,hju] at lR
       cases lR
       exact lN (XJ.flat (List.all_eq_true.1 Co _ (List.mem_of_getElem? ZW)))
      have QL:v.cells.toList.length=n:=by rw[← xy.length,JM]
      have Ln:v.cells.size=n:=by simpa using QL
      have m9:lX w I β n (.stat z) v.cells.toList:=⟨xy.length.symm,fun j c hc=>by
       obtain⟨u,hu,XJ⟩:=xy.get hc
       exact⟨u,hu,XJ,ze u (List.mem_of_getElem? hu)⟩⟩
      obtain⟨_,pr⟩:=ew (len:=1) jy (XI.imp id Nat.eq_of_beq_eq_true) KI m9 (by rw[QL,Nat.one_mul])
      simp only[PV.Is] at hd
      obtain⟨p,g0,o0,cap,hp,Hx,hdv,JJ⟩:=hd
      obtain⟨Gr,vu,hle,pn,lf⟩:=ct hR.heap hb az hk hp
      rcases lf with ⟨Sg,pk,_⟩|⟨g,arr,fr,ha,hw,fS,kN,dd,has⟩
      ·rw[Sg] at Hx; cases Hx
      ·rw[ha] at Hx
       obtain⟨rfl,rfl⟩:g=g0/\0=o0:=by cases Hx; exact⟨rfl,rfl⟩
       have xA:fr=(0,0):=(dd.1 (by rw[hm]; decide)).1
       subst xA
       rw[pt] at kN has
       obtain⟨xs,mZ,JH⟩:=kN.row
       obtain⟨news,uR⟩:∃ L,L=(Builtin.zeroCells v.cells len).toList:=⟨_,rfl⟩
       have zd:news.length=len*n:=by rw[uR,Array.length_toList,size_zeroCells,Ln]
       have J5:∀ k,k < len*n->news[k]?=v.cells.toList[k % n]?:=fun k hk=>by
        rw[uR,qW _ _ _ (by rw[Ln]; exact hk) (by omega),Ln]
       have Lo:∀ u∈news,u.oneCell'=true:=fun u hu=>by
        obtain⟨k,hk,hku⟩:=List.mem_iff_getElem.1 hu
        have h1:=J5 k (by omega)
        rw[List.getElem?_eq_getElem hk,hku] at h1
        exact ze u (List.mem_of_getElem? h1.symm)
       have Df:i*n+len*n<=p.cap*n:=by rw[← Nat.add_mul]; exact Nat.mul_le_mul_right _ (by omega)
       have Cq:=run_storeCells_at (P:=G.cx.P) g (i*n) b.ty news 0 arr w fS (by rw[zd,has]; omega) Lo
       obtain⟨arr',DY⟩:∃ A,A=(arr.toList.take (i*n+0)++news++arr.toList.drop (i*n+0+news.length)).toArray:=⟨_,rfl⟩
       rw[← DY] at Cq
       have W2:arr.toList.length=p.cap*n:=by rw[Array.length_toList,has]
       have KV:arr'.size=arr.size:=by
        rw[DY]; simp only[List.size_toArray,List.length_append,List.length_take,List.length_drop,W2,zd,has]; omega
       have bx:(execOp a.eval o).run G.cx.P w = .ok (.value (.tuple #[])) (w.setRow g arr'):=by
        have Wx:(zeroValue elem).run G.cx.P w = .ok v w:=by
         simp[zeroValue,run_typeInfo _ XH,Gp]
        have ur:∀ ty,(Builtin.clear_ (t::r).toArray ty #[a.eval od]).run G.cx.P w = .ok (.tuple #[]) (w.setRow g arr'):=fun ty=>by
         rw[hdv]
         obtain⟨m,rfl⟩:∃ m,len=m+1:=⟨len - 1,by omega⟩
         simp[Builtin.clear_,run_underlying (hG.ok.un hu),Wx,← uR,Cq]
        unfold execOp
        rw[tj]
        simp[resolve,invoke,builtin,ur]
       rw[bx]
       obtain⟨k1,k2,k3,k4,k5,k6⟩:=lW b (b.cs.take i++List.replicate len e)
       have XK:df w I (List.replicate len e) n news:=by
        refine⟨by rw[zd,List.length_replicate],fun j e' he=>?_⟩
        rw[List.getElem?_replicate] at he
        split at he
        ·rename_i hj
         cases he
         obtain⟨h1,h2⟩:=pr.2 0 e rfl
         refine⟨h1,fun j2 c hc=>?_⟩
         obtain⟨u,hu,h3⟩:=h2 j2 c hc
         have xe:j2 < n:=by rw[← h1]; exact (List.getElem?_eq_some_iff.1 hc).1
         refine⟨u,?_,h3⟩
         have hjn:j*n+n<=len*n:=by rw[← Nat.succ_mul]; exact Nat.mul_le_mul_right _ hj
         rw[J5 _ (by omega),Nat.mul_comm,Nat.mul_add_mod,Nat.mod_eq_of_lt xe]
         simpa using hu
        ·cases he
       have Hy:df w I (b.cs.take i++List.replicate len e) n (xs.take (i*n)++news):=(mZ.take (by omega)).append XK
       have Hz:(b.cs.take i++List.replicate len e).length=p.len:=by
        rw[List.length_append,List.length_take,List.length_replicate]; omega
       have px:xs.length=p.len*n:=by rw[mZ.1,vu]
       obtain⟨hH,hE⟩:=hR.heap.write (b':=b.eO (b.cs.take i++List.replicate len e)) hb az hm hp ha fS (by rw[k5]; exact az) (by rw[k4]; exact hm) (arr':=arr') (fun hI hO=>by
        have hr:=setRow_heap w g arr arr' b.ty (0,0) fS
        refine⟨p,hp,?_⟩
        rw[k1,hk]
        refine⟨⟨by rw[k3]; exact Gr,by rw[k6]; exact Hz,hle,pn⟩,.inr ⟨g,arr',(0,0),ha,by rw[k2]; exact hr,?_,hO,by rw[KV,k3,has,pt]⟩⟩
        rw[k6,k3,pt]
        refine Hy.at (fun j u hv=>?_) (fun _ h=>h) hI
        rw[Ev.dN hr,DY]
        simp only[List.getElem?_toArray,Nat.add_zero]
        have Vx:i*n<=p.len*n:=Nat.mul_le_mul_right _ (by omega)
        have hxt:(xs.take (i*n)).length=i*n:=by rw[List.length_take]; omega
        have AL:(arr.toList.take (i*n)).length=i*n:=by rw[List.length_take]; omega
        by_cases hj:j < i*n
        ·rw[List.getElem?_append_left (by omega),List.getElem?_take,if_pos hj] at hv
         rw[List.append_assoc,List.getElem?_append_left (by omega),List.getElem?_take,if_pos hj]
         have:=JH _ u hv
         rw[Ev.dN fS,Nat.zero_add] at this
         simpa using this
        ·rw[List.getElem?_append_right (by omega),hxt] at hv
         have QO:j - i*n < news.length:=(List.getElem?_eq_some_iff.1 hv).1
         rw[List.append_assoc,List.getElem?_append_right (by omega),AL,List.getElem?_append_left QO]
         exact hv)
       refine cf.mk' hR h hH hE (fun _ _ h=>h) (by simp) (fun _ _=>rfl) ?_
       simp only[PV.Is]
       exact⟨_,rfl,trivial⟩
     ·exact h.elim
    ·exact h.elim
   ·exact h.elim
  ·exact h.elim
 ·exact h.elim
theorem Spec.cut {f:FuncId} {args:List PV} {b0:ak} {n:Nat} {es:List PV} (h:Spec G f args [b0] [] fun r S'=>∃ b:ak,S' = [b]/\b.k = .dyn/\b.live=true/\b.m = .w/\b.size=n/\((r = .wref 0/\b.cs=es)\/(r = .ref 0 0 es.length/\b.cs.take es.length=es))) :
  Spec G f args [b0] [] fun r S'=>r = .sl n es/\S' = [⟨.dyn,b0.ty,n,.w,false,[]⟩]:=by
 refine Spec.intro h.run.1 fun I β w aZ hH hM hA=>(h.run.2 I β w aZ hH hM hA).mono fun e w' ⟨v,r,S',I',aI,he,⟨b,hS,hk,hl,hm,hn,hc⟩,hi,ml,ks,hE,hlen,lg⟩=>?_
 subst hS
 have hb:[b][0]?=some b:=rfl
 obtain⟨p,hp,Hj⟩:=ml.fp 0 b hb hl
 obtain⟨Gr,vu,hle,pn,lf⟩:=ct ml hb hl hk hp
 rw[hn] at Gr lf
 have rM:∀ g,I' g->(I' g\/∃ o,p.a=some (g,o)):=fun g h=>.inl h
 have Lp:∀ {g o:Nat},p.a=some (g,o)->Wr aI [b] g:=fun {g o} ha=>⟨0,b,p,o,hb,hl,hm,hp,ha⟩
 have XL:∀ g,(I' g\/∃ o,p.a=some (g,o))->g < w'.heap.size:=fun g hg=>by
  rcases hg with hg|⟨o,ha⟩
  ·exact ks.aw g hg
  ·rcases lf with ⟨zf,_⟩|⟨g1,arr,fr,QZ,_,fS,_⟩
   ·rw[zf] at ha; cases ha
   ·rw[QZ] at ha; cases ha; exact cw fS
 have C':es.length<=b.cs.length:=by
  rcases hc with ⟨_,rfl⟩|⟨_,hc⟩
  ·exact Nat.le_refl _
  ·rw[← hc,List.length_take]; omega
 have J6:b.cs.take es.length=es:=by
  rcases hc with ⟨_,rfl⟩|⟨_,hc⟩
  ·rw[List.take_length]
  ·exact hc
 have XM:(PV.sl n es).Is w' (fun g=>I' g\/∃ o,p.a=some (g,o)) aI v:=by
  simp only[PV.Is]
  rcases lf with ⟨zf,pk,hw⟩|⟨g,arr,fr,ha,hw,fS,kN,dd,has⟩
  ·have h0:es = []:=List.eq_nil_of_length_eq_zero (by omega)
   subst h0
   rcases hc with ⟨rfl,_⟩|⟨rfl,_⟩
   ·simp only[PV.Is] at hi
    obtain⟨p',dk,rfl⟩:=hi
    rw[hp] at dk; cases dk
    exact⟨none,0,by rw[hw]; rfl,Nat.le_refl _,Nat.zero_le _,(fun _ _ e=>by cases e),fun hn=>absurd rfl hn⟩
   ·simp only[PV.Is] at hi
    obtain⟨p',g',o',DZ,dk,dJ,_⟩:=hi
    rw[hp] at dk; cases dk
    rw[zf] at dJ; cases dJ
  ·obtain⟨xs,mZ,JH⟩:=kN.row
   have Ho:bE w' (fun g=>I' g\/∃ o,p.a=some (g,o)) es n g 0:=by
    have h1:=mZ.take (k:=es.length) C'
    rw[J6] at h1
    exact h1.at (fun j u hu=>by
     rw[List.getElem?_take] at hu
     split at hu
     ·have:=JH j u hu
      rwa [Nat.zero_add] at this
     ·cases hu) rM (fun _ _=>rfl)
   have uw:es.length≠0->∃ g' o',(some (⟨g,0,none⟩:Addr))=some ⟨g',o',none⟩/\(I' g'\/∃ o,p.a=some (g',o))/\0 < n:=fun _=>⟨g,0,rfl,.inr ⟨0,ha⟩,Gr⟩
   rcases hc with ⟨rfl,XN⟩|⟨rfl,_⟩
   ·simp only[PV.Is] at hi
    obtain⟨p',dk,rfl⟩:=hi
    rw[hp] at dk; cases dk
    have ow:p.len=es.length:=by rw[← vu,XN]
    exact⟨some ⟨g,0,none⟩,p.cap,by rw[hw,ow],by omega,by omega,(fun g' o' e=>by cases e; exact Ho),uw⟩
   ·simp only[PV.Is] at hi
    obtain⟨p',g',o',DZ,dk,dJ,rfl,JJ⟩:=hi
    rw[hp] at dk; cases dk
    rw[ha] at dJ; cases dJ
    exact⟨some ⟨g,0,none⟩,DZ,rfl,JJ,by omega,(fun g' o' e=>by cases e; exact Ho),uw⟩
 refine⟨v,.sl n es,_,_,aI,he,⟨rfl,rfl⟩,XM,⟨fun l eJ=>ml.jI l eJ,fun l b2 cR az=>?_⟩,⟨XL,fun g cs hg=>⟨.inl (ks.pd g cs hg).1,cd.mono rM (fun _ _=>rfl) _ _ _ rfl (ks.pd g cs hg).2⟩,ks.row⟩,⟨hE.os,hE.tape,hE.output,hE.size,hE.block,fun g _ h=>?_,fun g hg=>.inl (hE.aw g hg),fun g hg h=>?_⟩,hlen,lg⟩
 ·match l,cR with
  | 0,cR=>cases cR; cases az
  | l+1,cR=>simp at cR
 ·obtain⟨l,b2,p2,o2,cR,az,_⟩:=h
  match l,cR with
  | 0,cR=>cases cR; cases az
  | l+1,cR=>simp at cR
 ·rcases h with h|⟨o,ha⟩
  ·exact hE.new g hg h
  ·exact .inr (hE.wr g hg (Lp ha))
theorem Spec.XO {f:FuncId} {args:List PV} {z b0:ak} (hz:z.k = .loc) (ZX:z.m = .w) (JM:z.live=true) {n:Nat} {es:List PV} (h:Spec G f args [z,b0] [] fun r S'=>∃ b:ak,S' = [z,b]/\b.k = .dyn/\b.live=true/\b.m = .w/\b.size=n/\((r = .wref 1/\b.cs=es)\/(r = .ref 1 0 es.length/\b.cs.take es.length=es))) :
  Spec G f args [z,b0] [] fun r S'=>r = .sl n es/\S' = [z,⟨.dyn,b0.ty,n,.w,false,[]⟩]:=by
 refine Spec.intro h.run.1 fun I β w aZ hH hM hA=>(h.run.2 I β w aZ hH hM hA).mono fun e w' ⟨v,r,S',I',aI,he,⟨b,hS,hk,hl,hm,hn,hc⟩,hi,ml,ks,hE,hlen,lg⟩=>?_
 subst hS
 have hb:[z,b][1]?=some b:=rfl
 obtain⟨p,hp,Hj⟩:=ml.fp 1 b hb hl
 obtain⟨Gr,vu,hle,pn,lf⟩:=ct ml hb hl hk hp
 rw[hn] at Gr lf
 have rM:∀ g,I' g->(I' g\/∃ o,p.a=some (g,o)):=fun g h=>.inl h
 have Lp:∀ {g o:Nat},p.a=some (g,o)->Wr aI [z,b] g:=fun {g o} ha=>⟨1,b,p,o,hb,hl,hm,hp,ha⟩
 have XL:∀ g,(I' g\/∃ o,p.a=some (g,o))->g < w'.heap.size:=fun g hg=>by
  rcases hg with hg|⟨o,ha⟩
  ·exact ks.aw g hg
  ·rcases lf with ⟨zf,_⟩|⟨g1,arr,fr,QZ,_,fS,_⟩
   ·rw[zf] at ha; cases ha
   ·rw[QZ] at ha; cases ha; exact cw fS
 have C':es.length<=b.cs.length:=by
  rcases hc with ⟨_,rfl⟩|⟨_,hc⟩
  ·exact Nat.le_refl _
  ·rw[← hc,List.length_take]; omega
 have J6:b.cs.take es.length=es:=by
  rcases hc with ⟨_,rfl⟩|⟨_,hc⟩
  ·rw[List.take_length]
  ·exact hc
 have XM:(PV.sl n es).Is w' (fun g=>I' g\/∃ o,p.a=some (g,o)) aI v:=by
  simp only[PV.Is]
  rcases lf with ⟨zf,pk,hw⟩|⟨g,arr,fr,ha,hw,fS,kN,dd,has⟩
  ·have h0:es = []:=List.eq_nil_of_length_eq_zero (by omega)
   subst h0
   rcases hc with ⟨rfl,_⟩|⟨rfl,_⟩
   ·simp only[PV.Is] at hi
    obtain⟨p',dk,rfl⟩:=hi
    rw[hp] at dk; cases dk
    exact⟨none,0,by rw[hw]; rfl,Nat.le_refl _,Nat.zero_le _,(fun _ _ e=>by cases e),fun hn=>absurd rfl hn⟩
   ·simp only[PV.Is] at hi
    obtain⟨p',g',o',DZ,dk,dJ,_⟩:=hi
    rw[hp] at dk; cases dk
    rw[zf] at dJ; cases dJ
  ·obtain⟨xs,mZ,JH⟩:=kN.row
   have Ho:bE w' (fun g=>I' g\/∃ o,p.a=some (g,o)) es n g 0:=by
    have h1:=mZ.take (k:=es.length) C'
    rw[J6] at h1
    exact h1.at (fun j u hu=>by
     rw[List.getElem?_take] at hu
     split at hu
     ·have:=JH j u hu
      rwa [Nat.zero_add] at this
     ·cases hu) rM (fun _ _=>rfl)
   have uw:es.length≠0->∃ g' o',(some (⟨g,0,none⟩:Addr))=some ⟨g',o',none⟩/\(I' g'\/∃ o,p.a=some (g',o))/\0 < n:=fun _=>⟨g,0,rfl,.inr ⟨0,ha⟩,Gr⟩
   rcases hc with ⟨rfl,XN⟩|⟨rfl,_⟩
   ·simp only[PV.Is] at hi
    obtain⟨p',dk,rfl⟩:=hi
    rw[hp] at dk; cases dk
    have ow:p.len=es.length:=by rw[← vu,XN]
    exact⟨some ⟨g,0,none⟩,p.cap,by rw[hw,ow],by omega,by omega,(fun g' o' e=>by cases e; exact Ho),uw⟩
   ·simp only[PV.Is] at hi
    obtain⟨p',g',o',DZ,dk,dJ,rfl,JJ⟩:=hi
    rw[hp] at dk; cases dk
    rw[ha] at dJ; cases dJ
    exact⟨some ⟨g,0,none⟩,DZ,rfl,JJ,by omega,(fun g' o' e=>by cases e; exact Ho),uw⟩
 refine⟨v,.sl n es,_,_,aI,he,⟨rfl,rfl⟩,XM,⟨fun l eJ=>ml.jI l eJ,fun l b2 cR az=>?_⟩,⟨XL,fun g cs hg=>⟨.inl (ks.pd g cs hg).1,cd.mono rM (fun _ _=>rfl) _ _ _ rfl (ks.pd g cs hg).2⟩,ks.row⟩,⟨hE.os,hE.tape,hE.output,hE.size,hE.block,fun g _ h=>?_,fun g hg=>.inl (hE.aw g hg),fun g hg h=>?_⟩,hlen,lg⟩
 ·match l,cR with
  | 0,cR =>
   cases cR
   obtain⟨p0,VD,xg⟩:=ml.fp 0 z rfl az
   rw[hz] at xg
   obtain⟨g0,o0,arr,ty,fr,q1,q2,q3,q4⟩:=xg
   obtain⟨r1,r2,r3⟩:=q4.1 (by rw[ZX]; decide)
   refine⟨p0,VD,?_⟩
   rw[hz]
   refine⟨g0,o0,arr,ty,fr,q1,q2,aS.mono rM (fun _ _=>rfl) (fun _ _ h=>h) q3,⟨fun _=>⟨r1,fun hI=>?_,fun l' b' bZ iz eg=>?_⟩,fun k7=>by rw[ZX] at k7; cases k7⟩⟩
   ·rcases hI with hI|⟨o,ha⟩
    ·exact r2 hI
    ·exact r3 1 b (by decide) rfl hl p g0 o hp ha rfl
   ·match l',iz with
    | 0,_=>exact absurd rfl bZ
    | 1,iz=>cases iz; cases eg
    | l'+2,iz=>simp at iz
  | 1,cR=>cases cR; cases az
  | l+2,cR=>simp at cR
 ·obtain⟨l,b2,p2,o2,cR,az,uL,fQ,fP⟩:=h
  match l,cR with
  | 0,cR=>cases cR; exact hE.wr _ (by assumption) ⟨0,z,p2,o2,rfl,JM,uL,fQ,fP⟩
  | 1,cR=>cases cR; cases az
  | l+2,cR=>simp at cR
 ·rcases h with h|⟨o,ha⟩
  ·exact hE.new g hg h
  ·exact .inr (hE.wr g hg (Lp ha))
end
end Go.Proofs.YtnbhdacpogplgaaGreatDoor.Pw

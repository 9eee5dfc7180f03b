/- What this claim is proved with: no condition. -/
import Derived.Test.YtlgkljpgagfndaaGreatDoorNv9
import Derived.Deep.OwnRows
import Derived.Laws.AppendOwn
set_option linter.unusedVariables false
set_option linter.unusedSimpArgs false
namespace Go.Proofs.YtlgkljpgagfndaaGreatDoor.Pw
open Go Go.RowKit
def elB (b:ak) (n:Nat) (es:List PV):Prop:=match b with
 | ⟨k,_,m,md,live,cs⟩=>bif live && B2 md && Nat.beq m n then (match k with
  | .dyn=>cs=es
  | .arr=>fL true m (.stat cs)=some es\/(m=1/\fL false m (.stat cs)=some es)
  | _=>False) else False
def J7 (S:List ak) (fz:List Nat) (x y:PV):Prop:=match x,y with
 | .wref l,.sl n es=>bif jR l fz then bu S[l]? fun b=>elB b n es else False
 | x,y=>yt x y
def Wd (S:List ak) (fz:List Nat) (x y:PV):Prop:=match x,y with
 | .wref l,.sl n es=>bif jR l fz then bu S[l]? fun b=>elB b n es else False
 | .agg cs,.agg ds=>ny (J7 S fz) cs ds
 | x,y=>kt x y
def U' (S:List ak) (fz:List Nat):Bool:=fz.all fun l=>match S[l]? with
 | some b=>b.live && B2 b.m
 | none=>false
def kT (b:Bool) (m:Md):Md:=bif b then .r else m
def j3 (fz:List Nat) (S:List ak):List ak:=mapM kT fz 0 S
def PV.Fw:PV->Bool
 | .lit ..|.int ..|.tt|.ff|.bool _|.val _|.nil=>true
 | _=>false
def PV.AG:PV->Bool
 | .agg cs=>cs.all PV.Fw
 | x=>x.Fw
def PV.Fx:PV->Bool
 | .tup cs=>cs.all PV.AG
 | x=>x.AG
section
variable {w w':World} {I I':Nat->Prop} {β aU:aB} {G:Gx} {S:List ak}
theorem wN {x:PV} {v:Value} (hf:x.Fw=true) (h:x.Is w I β v):x.Is w' I' aU v:=by
 cases x<;>first|(cases hf; done)|(simp only[PV.Is] at h ⊢; exact h)
theorem qZ {r:PV->Bool} (hr:∀ x v,r x=true->x.Is w I β v->x.Is w' I' aU v):∀ {cs:List PV} {vs:List Value},cs.all r=true->bH w I cs β vs->bH w' I' cs aU vs
 | [],[],_,_=>by simp only[bH]
 | c::cs,v::vs,hf,h=>by
  simp only[List.all_cons,Bool.and_eq_true] at hf
  simp only[bH] at h ⊢
  exact⟨hr c v hf.1 h.1,qZ hr hf.2 h.2⟩
 | [],_::_,_,h=>by simp only[bH] at h
 | _::_,[],_,h=>by simp only[bH] at h
theorem wO {x:PV} {v:Value} (hf:x.AG=true) (h:x.Is w I β v):x.Is w' I' aU v:=by
 unfold PV.AG at hf
 split at hf
 ·simp only[PV.Is] at h ⊢
  obtain⟨vs,rfl,h⟩:=h
  exact⟨vs,rfl,qZ (fun x v=>wN) hf h⟩
 ·exact wN hf h
theorem Fy {x:PV} {v:Value} (hf:x.Fx=true) (h:x.Is w I β v):x.Is w' I' aU v:=by
 unfold PV.Fx at hf
 split at hf
 ·simp only[PV.Is] at h ⊢
  obtain⟨vs,rfl,h⟩:=h
  exact⟨vs,rfl,qZ (fun x v=>wO) hf h⟩
 ·exact wO hf h
def fY (I:Nat->Prop) (β:aB) (S:List ak) (fz:List Nat) (g:Nat):Prop:=I g\/∃ l b p o,l∈fz/\S[l]?=some b/\b.live=true/\B2 b.m=true/\β l=some p/\p.a=some (g,o)
theorem y0 {fz:List Nat} (h:U' S fz=true) {l:Nat} (hl:l∈fz):∃ b,S[l]?=some b/\b.live=true/\B2 b.m=true:=by
 have:=List.all_eq_true.1 h l hl
 split at this
 ·rename_i b hb
  simp only[Bool.and_eq_true] at this
  exact⟨b,hb,this⟩
 ·cases this
theorem uV {fz:List Nat} (hH:aO I β S w) {l:Nat} {b:ak} {n:Nat} {es:List PV} (hl:l∈fz) (hb:S[l]?=some b) (h:elB b n es) {v:Value} (hx:(PV.wref l).Is w I β v):(PV.sl n es).Is w (fY I β S fz) no v:=by
 obtain⟨k,ty,m,md,live,cs⟩:=b
 unfold elB at h
 replace h:=bp h
 obtain⟨hc,h⟩:=h
 simp only[Bool.and_eq_true] at hc
 obtain⟨⟨aN,hm⟩,hn⟩:=hc
 obtain rfl:=Nat.eq_of_beq_eq_true hn
 simp only[PV.Is] at hx ⊢
 obtain⟨p,hp,rfl⟩:=hx
 have hI:∀ g,I g->fY I β S fz g:=fun g h=>.inl h
 have sJ:∀ {g o:Nat},p.a=some (g,o)->fY I β S fz g:=fun {g o} ha=>.inr ⟨l,_,p,o,hl,hb,aN,hm,hp,ha⟩
 cases k with
 | dyn =>
  obtain⟨iQ,hlen,hle,sC,na⟩:=dN hH hb aN rfl hp
  subst h
  rcases na with ⟨ha,qu,hw⟩|⟨g,arr,fr,ha,hw,h_,po,fu,has⟩
  ·have h0:cs = []:=List.eq_nil_of_length_eq_zero (by simp only at hlen; omega)
   subst h0
   exact⟨none,0,by rw[hw]; rfl,Nat.le_refl _,Nat.zero_le _,(fun _ _ e=>by cases e),fun hn=>absurd rfl hn⟩
  ·simp only at hlen
   exact⟨some ⟨g,0,none⟩,p.cap,by rw[hw,hlen],by omega,by omega,(fun g' o' e=>by cases e; exact cB.mono hI (fun _ _=>rfl) _ _ _ _ rfl po),fun _=>⟨g,0,rfl,sJ ha,iQ⟩⟩
 | arr =>
  obtain⟨g,arr,fr,ha,hw,h_,oG,fu,hlen,hle,sC,has,iQ⟩:=fW hH hb aN rfl hp
  simp only at hlen has iQ oG
  have fF:p.len*m<=arr.size:=by rw[has]; exact Nat.mul_le_mul_right _ hle
  have sq:(arr.toList.take (p.len*m)).length=p.len*m:=by rw[List.length_take,Array.length_toList]; omega
  have nh:pt w I β m (.stat cs) (arr.toList.take (p.len*m)):=by
   refine⟨by rw[sq,hlen],fun j c hj=>?_⟩
   obtain⟨u,hu,hi,h1⟩:=oG j c hj
   have qz:j < p.len*m:=by rw[← hlen]; exact (List.getElem?_eq_some_iff.1 hj).1
   exact⟨u,by rw[List.getElem?_take,if_pos qz]; simpa using hu,hi,h1⟩
  have key:es.length=p.len/\fm w I es m (arr.toList.take (p.len*m)):=by
   rcases h with h|⟨h1,h⟩
   ·exact fQ iQ (.inl rfl) h nh sq
   ·exact fQ iQ (.inr h1) h nh sq
  obtain⟨e1,e2⟩:=key
  have Fo:cB w I es m g 0:=e2.at (fun j v hj=>by
   have:=ng h_ 0 (p.len*m) j v (by simpa using hj)
   simpa using this) (fun _ h=>h) (fun _ _=>rfl)
  exact⟨some ⟨g,0,none⟩,p.cap,by rw[hw,e1],by omega,by omega,fun g' o' e=>by cases e; exact cB.mono hI (fun _ _=>rfl) _ _ _ _ rfl Fo,fun _=>⟨g,0,rfl,sJ ha,iQ⟩⟩
 | loc=>exact h.elim
 | mp=>exact h.elim
theorem OQ {fz:List Nat} (hH:aO I β S w) {x y:PV} {v:Value} (h1:J7 S fz x y) (hu:y.dk = []) (hx:x.Is w I β v):y.Is w (fY I β S fz) no v:=by
 unfold J7 at h1
 split at h1
 ·replace h1:=bp h1
  obtain⟨hl,h1⟩:=h1
  replace h1:=aA h1
  obtain⟨b,hb,h1⟩:=h1
  exact uV hH (dV.1 hl) hb h1 hx
 ·exact PV.Is.mono (fun _ h=>.inl h) (fun _ _=>rfl) y β no v (fun l p hl=>by rw[hu] at hl; cases hl) (qO h1 w I β v hx)
theorem AH {fz:List Nat} (hH:aO I β S w):∀ {args bE:List PV} {bs:List Value},ny (J7 S fz) args bE->eC bE = []->bH w I args β bs->bH w (fY I β S fz) bE no bs
 | [],[],[],_,_,_=>by simp only[bH]
 | x::xs,y::ys,v::vs,h,hu,hx=>by
  simp only[bH] at hx ⊢
  have Ea:y.dk = []/\eC ys = []:=by simpa [eC] using hu
  exact⟨OQ hH h.1 Ea.1 hx.1,AH hH h.2 Ea.2 hx.2⟩
 | [],_::_,_,h,_,_=>h.elim
 | _::_,[],_,h,_,_=>h.elim
 | [],[],_::_,_,_,hx=>by simp only[bH] at hx
 | _::_,_::_,[],_,_,hx=>by simp only[bH] at hx
theorem lG {fz:List Nat} (hH:aO I β S w):∀ {args bE:List PV} {bs:List Value},ny (Wd S fz) args bE->eC bE = []->bH w I args β bs->bH w (fY I β S fz) bE no bs
 | [],[],[],_,_,_=>by simp only[bH]
 | x::xs,y::ys,v::vs,h,hu,hx=>by
  simp only[bH] at hx ⊢
  have Ea:y.dk = []/\eC ys = []:=by simpa [eC] using hu
  refine⟨?_,lG hH h.2 Ea.2 hx.2⟩
  have h1:=h.1
  unfold Wd at h1
  split at h1
  ·obtain⟨hl,h1⟩:=bp h1
   obtain⟨b,hb,h1⟩:=aA h1
   exact uV hH (dV.1 hl) hb h1 hx.1
  ·have dF:=hx.1
   simp only[PV.Is] at dF ⊢
   obtain⟨vs',rfl,dF⟩:=dF
   exact⟨vs',rfl,AH hH h1 (by simpa [PV.dk] using Ea.1) dF⟩
  ·exact PV.Is.mono (fun _ h=>.inl h) (fun _ _=>rfl) y β no v (fun l p hl=>by rw[Ea.1] at hl; cases hl) (fA h1 w I β v hx.1)
 | [],_::_,_,h,_,_=>h.elim
 | _::_,[],_,h,_,_=>h.elim
 | [],[],_::_,_,_,hx=>by simp only[bH] at hx
 | _::_,_::_,[],_,_,hx=>by simp only[bH] at hx
theorem J8 {fz:List Nat} (hH:aO I β S w) (hM:db G I w) {g:Nat} (h:fY I β S fz g):g < w.heap.size:=by
 rcases h with h|⟨l,b,p,o,_,hb,aN,_,hp,ha⟩
 ·exact hM.az g h
 ·exact hH.dS ⟨l,b,p,o,hb,aN,hp,ha⟩
theorem nC {fz:List Nat} (hH:aO I β S w) (hM:db G I w):db G (fY I β S fz) w :=
 ⟨fun g hg=>J8 hH hM hg,fun g cs hg=>⟨.inl (hM.m0 g cs hg).1,dj.mono (fun _ h=>.inl h) (fun _ _=>rfl) _ _ _ rfl (hM.m0 g cs hg).2⟩,hM.row⟩
theorem Fz (g:Nat):¬ Wr no ([]:List ak) g:=fun ⟨l,b,p,o,h1,_⟩=>by simp at h1
theorem ai.J9 {f:FuncId} {args bE:List PV} {r:PV} {K:PV->List ak->Prop} (h:ai G f bE r) (fz:List Nat) (hz:U' S fz=true) (hle:ny (Wd S fz) args bE) (hu:eC bE = []) (hr:r.dk = []) (hK:Nm (j3 fz S) (K r)):Spec G f args S [] K:=by
 refine Spec.intro h.run.1 fun I β w bs hH hM hA=>?_
 have h0:aO (fY I β S fz) no ([]:List ak) w:=⟨fun _ _=>rfl,fun l b hl=>by simp at hl⟩
 refine (h.run.2 _ no w bs h0 (nC hH hM) (lG hH hle hu hA)).mono fun e w' ⟨v,r',S',I',aU,he,pn,hi,_,lF,hE,_,_⟩=>?_
 subst pn
 have hold:∀ g,g < w.heap.size->w'.heap[g]?=w.heap[g]?:=fun g hg=>hE.block g hg (Fz g)
 have Fq:∀ g,g < w.heap.size->I' g->fY I β S fz g:=fun g hg h=>(hE.new g hg h).elim id fun h=>absurd h (Fz g)
 have tA:∀ g,I g->I' g:=fun g h=>hE.az g (.inl h)
 have yX:∀ (l:Nat) (b:ak),(j3 fz S)[l]?=some b->∃ b0,S[l]?=some b0/\b = { b0 with m:=kT (jR l fz) b0.m }:=fun l b hb=>by
  unfold j3 at hb
  rw[fG,Option.map_eq_some_iff] at hb
  obtain⟨b0,h1,h2⟩:=hb
  rw[Nat.zero_add] at h2
  exact⟨b0,h1,h2.symm⟩
 refine⟨v,r',j3 fz S,I',β,he,uP hK,lE hr hi,⟨fun l hl=>hH.qo l (by unfold j3 at hl; rw[gi] at hl; exact hl),fun l b hb aN=>?_⟩,lF,⟨hE.os,hE.tape,hE.output,hE.size,fun g hg _=>hold g hg,fun g _ h=>?_,tA,fun g hg h=>?_⟩,by unfold j3; rw[gi]; exact Nat.le_refl _,fun _ _ _=>rfl⟩
 ·obtain⟨b0,gq,rfl⟩:=yX l b hb
  obtain⟨p,hp,hk⟩:=hH.gw l b0 gq aN
  have own:∀ {g o:Nat} {fr:Nat × Nat},p.a=some (g,o)->g < w.heap.size->Own I β S l g fr b0->Own I' β (j3 fz S) l g fr { b0 with m:=kT (jR l fz) b0.m }:=fun {g o fr} ha hg ho=>by
   refine⟨fun hm=>?_,fun hm=>?_⟩
   ·have pL:jR l fz=false/\b0.m≠.r:=by
     cases hc:jR l fz with
     | true=>simp only[hc,kT,cond_true,ne_eq,not_true_eq_false] at hm
     | false=>exact⟨rfl,by simpa only [hc,kT,cond_false] using hm⟩
    obtain⟨h1,h2,h3⟩:=ho.1 pL.2
    refine⟨h1,fun hI=>?_,fun l2 b2 de fZ bT p2 g2 o2 hU hJ=>?_⟩
    ·rcases Fq g hg hI with hI|⟨l2,b2,p2,o2,fZ,eI,bT,_,hU,hJ⟩
     ·exact h2 hI
     ·refine h3 l2 b2 (fun e=>?_) eI bT p2 g o2 hU hJ rfl
      subst e
      rw[dV.2 fZ] at pL
      cases pL.1
    ·obtain⟨b3,ku,rfl⟩:=yX l2 b2 fZ
     exact h3 l2 b3 de ku bT p2 g2 o2 hU hJ
   ·cases hc:jR l fz with
    | true =>
     obtain⟨b1,U_,k1,k2⟩:=y0 hz (dV.1 hc)
     rw[gq] at U_; cases U_
     exact hE.az g (.inr ⟨l,b0,p,o,dV.1 hc,gq,k1,k2,hp,ha⟩)
    | false=>exact tA g (ho.2 (by simpa only [hc,kT,cond_false] using hm))
  have Eh:∀ g,I g->w'.heap[g]?=w.heap[g]?:=fun g hg=>hold g (hM.az g hg)
  refine⟨p,hp,?_⟩
  split at hk
  ·rename_i cM
   obtain⟨g,o,arr,ty,fr,h1,h2,h3,ho⟩:=hk
   have hg:=bS h2
   simp only[cM]
   exact⟨g,o,arr,ty,fr,h1,(hold g hg).trans h2,bB.mono tA Eh (fun _ _ h=>h) h3,own h1 hg ho⟩
  ·rename_i cM
   obtain⟨g,arr,fr,h1,h2,h3,ho,h4⟩:=hk
   have hg:=bS h2
   simp only[cM]
   exact⟨g,arr,fr,h1,(hold g hg).trans h2,bB.mono tA Eh (fun _ _ h=>h) h3,own h1 hg ho,h4⟩
  ·rename_i cM
   obtain⟨h1,hk⟩:=hk
   simp only[cM]
   refine⟨h1,?_⟩
   rcases hk with h|⟨g,arr,fr,h2,h3,h4,ho,h5⟩
   ·exact .inl h
   ·have hg:=bS h3
    exact .inr ⟨g,arr,fr,h2,(hold g hg).trans h3,cB.mono tA Eh _ _ _ _ (hold g hg) h4,own h2 hg ho,h5⟩
  ·rename_i cM
   obtain⟨g,h1,h2,ho⟩:=hk
   have hg:g < w.heap.size:=by obtain⟨es,clock,hb,_⟩:=h2; exact bS hb
   simp only[cM]
   exact⟨g,h1,h2.uH (hold g hg),own h1 hg ho⟩
 ·obtain⟨l,b,p,o,h1,h2,h3,h4,h5⟩:=h
  obtain⟨b0,gq,rfl⟩:=yX l b h1
  refine⟨l,b0,p,o,gq,h2,?_,h4,h5⟩
  cases hc:jR l fz with
  | true=>simp only[hc,kT,cond_true] at h3; cases h3
  | false=>simpa only [hc,kT,cond_false] using h3
 ·rcases Fq g hg h with h|⟨l,b,p,o,hl,hb,aN,hm,hp,ha⟩
  ·exact .inl h
  ·cases pA:b.m with
   | w=>exact .inr ⟨l,b,p,o,hb,aN,pA,hp,ha⟩
   | p=>rw[pA] at hm; cases hm
   | r =>
    obtain⟨arr,ty,fr,_,ho⟩:=(hH.gw l b hb aN).place hp ha
    exact .inl (ho.2 pA)
theorem ai.useB {f:FuncId} {args bE:List PV} {r:PV} {K:PV->List ak->Prop} (h:ai G f bE r) (fz:List Nat) (hle:ny (Wd S fz) args bE) (hu:eC bE = []) (hr:r.Fx=true) (hK:K r S):Spec G f args S [] K:=by
 refine Spec.intro h.run.1 fun I β w bs hH hM hA=>?_
 have h0:aO (fY I β S fz) no ([]:List ak) w:=⟨fun _ _=>rfl,fun l b hl=>by simp at hl⟩
 refine (h.run.2 _ no w bs h0 (nC hH hM) (lG hH hle hu hA)).mono fun e w' ⟨v,r',S',I',aU,he,pn,hi,_,lF,hE,_,_⟩=>?_
 subst pn
 have hold:∀ g,g < w.heap.size->w'.heap[g]?=w.heap[g]?:=fun g hg=>hE.block g hg (Fz g)
 have Eh:∀ g,I g->w'.heap[g]?=w.heap[g]?:=fun g hg=>hold g (hM.az g hg)
 refine⟨v,r',S,I,β,he,hK,Fy hr hi,⟨hH.qo,fun l b hb aN=>(hH.gw l b hb aN).mono (fun _ h=>h) Eh (fun _ _ h=>h) fun p g o hp ha=>?_⟩,⟨fun g hg=>Nat.lt_of_lt_of_le (hM.az g hg) hE.size,fun g cs hg=>⟨(hM.m0 g cs hg).1,dj.mono (fun _ h=>h) Eh _ _ _ (Eh g (hM.m0 g cs hg).1) (hM.m0 g cs hg).2⟩,fun g cs hg=>by
   obtain⟨arr,ty,fr,h1,h2⟩:=hM.row g cs hg
   exact⟨arr,ty,fr,(Eh g (hM.m0 g cs hg).1).trans h1,h2⟩⟩,
  ⟨hE.os,hE.tape,hE.output,hE.size,fun g hg _=>hold g hg,fun g _ h=>h,fun _ h=>h,fun _ _ h=>.inl h⟩,Nat.le_refl _,fun _ _ _=>rfl⟩
 obtain⟨arr,ty,fr,hh,ho⟩:=(hH.gw l b hb aN).place hp ha
 exact⟨hold g (bS hh),fun hr=>⟨(ho.1 hr).2.1,(ho.1 hr).2.2⟩⟩
end
def TM.wQ:TM->TM
 | .nil=>.nil
 | .node v l r=>.node (match v with
  | some (.tup _)=>none
  | v=>v) l.wQ r.wQ
def bb.wR (s:bb) (c:Code) (vs:List (Nat × PV)):bb:=match s with
 | ⟨n,t,st,b,rl⟩=>⟨n,(kQ vs (qU (qT c) t)).wQ,st,b,rl⟩
theorem SW.q9 {G:Gx} {s:bb} (hG:ma G) (R:List (Nat × aT)) {α:Type} {c:Code} {Q:X->bb->Prop} (hc:cr R c=true) (vs:α->List (Nat × PV)) (μ:α->Nat) (x0:α) (N:Nat) (h0:gC G.cx (OK 0 s.st) s (s.wR c (vs x0)))
  (h:∀ x,U8 (s.wR c (vs x)) (pw G R N c (qN (fun s'=>∃ y,μ y < μ x/\gC G.cx (OK 0 s.st) s' (s.wR c (vs y))) Q))):SW G (.loop c) Q s :=
 SW.inv hG (fun x=>s.wR c (vs x)) μ (N:=N) hc x0 (eZ hG.ok h0) (fun x s'=>∃ y,μ y < μ x/\gC G.cx (OK 0 s.st) s' (s.wR c (vs y))) (fun x s' ⟨y,hy,hs⟩=>⟨y,hy,eZ hG.ok hs⟩) fun x=>qS (h x)
def bb.headD (s:bb) (c:Code) (vs:List (Nat × PV)) (ex:List ak):bb:=match s with
 | ⟨n,t,st,b,rl⟩=>⟨n,(kQ vs (qU (qT c) t)).wQ,st++ex,b,rl⟩
theorem SW.loopD {G:Gx} {s:bb} (hG:ma G) (R:List (Nat × aT)) {α:Type} {c:Code} {Q:X->bb->Prop} (hc:cr R c=true) (vs:α->List (Nat × PV)) (ex:α->List ak) (μ:α->Nat) (x0:α) (N:Nat) (Nr:gH) (h0:gC G.cx (OK 0 s.st++Nr) s (s.headD c (vs x0) (ex x0)))
  (h:∀ x,U8 (s.headD c (vs x) (ex x)) (pw G R N c (qN (fun s'=>∃ y π,μ y < μ x/\gC G.cx (OK 0 s.st++π) s' (s.headD c (vs y) (ex y))) Q))):SW G (.loop c) Q s :=
 SW.inv hG (fun x=>s.headD c (vs x) (ex x)) μ (N:=N) hc x0 (eZ hG.ok h0) (fun x s'=>∃ y π,μ y < μ x/\gC G.cx (OK 0 s.st++π) s' (s.headD c (vs y) (ex y))) (fun x s' ⟨y,_,hy,hs⟩=>⟨y,hy,eZ hG.ok hs⟩) fun x=>qS (h x)
def gy (b b':ak):Prop:=match b,b' with
 | ⟨k,ty,n,m,live,cs⟩,⟨k',ty',n',m',Ny,Nw⟩=>bif Nat.beq ty ty' && Nat.beq n n' && Md.beq m m' && live && Ny && BK.beq k k' then (match k with
  | .dyn=>cs=Nw
  | .mp=>cs=Nw
  | _=>ny yt cs Nw) else False
def Nz:List ak->List ak->(List ak->Prop)->Prop
 | [],T,k=>k T
 | b'::S,b::st,k=>gy b b'/\Nz S st k
 | _::_,[],_=>False
def FA (st S:List ak) (k:List ak->Prop):Prop:=Nz S st k
def y1:List ak->List ak->(List ak->Prop)->Prop
 | [],T,k=>k T
 | b::l,T,k=>y1 l T fun r=>k (b::r)
def kb:List ak->List ak->Bool
 | [],[]=>true
 | a::S,b::T=>a.live && Md.beq a.m b.m && kb S T
 | _,_=>false
theorem uW:∀ {S T:List ak} {k:List ak->Prop},y1 S T k->k (S++T)
 | [],_,_,h=>h
 | b::l,T,k,h=>uW (S:=l) h
theorem BK.mA {m n:BK} (h:BK.beq m n=true):m=n:=by cases m<;>cases n<;>first|rfl|cases h
theorem c_ {b b':ak} (h:gy b b'):b.ty=b'.ty/\b.size=b'.size/\b.m=b'.m/\b.live=true/\b'.live=true/\b.k=b'.k/\((b.k.sn=false/\b.cs=b'.cs)\/(b.k.sn=true/\ny yt b.cs b'.cs)):=by
 obtain⟨k,ty,n,m,live,cs⟩:=b
 obtain⟨k',ty',n',m',Ny,Nw⟩:=b'
 obtain⟨hc,h⟩:=bp h
 simp only[Bool.and_eq_true] at hc
 obtain⟨⟨⟨⟨⟨h1,h2⟩,h3⟩,h4⟩,h5⟩,h6⟩:=hc
 refine⟨Nat.eq_of_beq_eq_true h1,Nat.eq_of_beq_eq_true h2,Md.mA h3,h4,h5,BK.mA h6,?_⟩
 cases k with
 | dyn=>exact .inl ⟨rfl,h⟩
 | mp=>exact .inl ⟨rfl,h⟩
 | loc=>exact .inr ⟨rfl,h⟩
 | arr=>exact .inr ⟨rfl,h⟩
theorem uX:∀ {S st:List ak} {k:List ak->Prop},FA st S k->∃ oq T,st=oq++T/\oq.length=S.length/\k T/\∀ (l:Nat) (b b':ak),oq[l]?=some b->S[l]?=some b'->gy b b'
 | [],T,k,h=>⟨[],T,rfl,rfl,h,fun l b b' hb=>by simp at hb⟩
 | b'::S,b::st,k,h=>by
  obtain⟨oq,T,rfl,hl,hk,ha⟩:=uX (S:=S) (st:=st) h.2
  refine⟨b::oq,T,rfl,by simp[hl],hk,fun l c c' hc yL=>?_⟩
  cases l with
  | zero=>simp at hc yL; subst hc; subst yL; exact h.1
  | succ l=>exact ha l c c' (by simpa using hc) (by simpa using yL)
 | _::_,[],_,h=>h.elim
theorem nD:∀ {S T:List ak},kb S T=true->S.length=T.length/\∀ (l:Nat) (a b:ak),S[l]?=some a->T[l]?=some b->a.live=true/\a.m=b.m
 | [],[],_=>⟨rfl,fun l a b h=>by simp at h⟩
 | a::S,b::T,h=>by
  simp only[kb,Bool.and_eq_true] at h
  obtain⟨h1,h2⟩:=nD h.2
  refine⟨by simp[h1],fun l c d hc hd=>?_⟩
  cases l with
  | zero=>simp at hc hd; subst hc; subst hd; exact⟨h.1.1,Md.mA h.1.2⟩
  | succ l=>exact h2 l c d (by simpa using hc) (by simpa using hd)
 | [],_::_,h=>by simp[kb] at h
 | _::_,[],h=>by simp[kb] at h
section
variable {w w':World} {I I':Nat->Prop} {β aU:aB} {G:Gx} {s:bb} {a:Act} {st eA:List ak}
theorem Spec.uY {f:FuncId} {args bE:List PV} {r0:PV} {S0 S1:List ak} {K:PV->List ak->Prop} (h:Spec G f bE S0 [] fun r S'=>r=r0/\S'=S1) (hm:kb S0 S1=true) (gu:S0.all (wG S0.length)=true) (hu:(eC bE).all (fun l=>Nat.blt l S0.length)=true)
  (Fp:r0.dk.all (fun l=>Nat.blt l S0.length)=true) (hle:ny kt args bE) (hK:FA st S0 fun T=>uT S1 fun S1=>y1 S1 T (K r0)):Spec G f args st [] K:=by
 obtain⟨oq,T,rfl,BT,hk,FB⟩:=uX hK
 replace hk:=uW (nA hk)
 obtain⟨Jn,JS⟩:=nD hm
 refine Spec.intro h.run.1 fun I β w bs hH hM hA=>?_
 let fX:aB:=fun l=>if l < S0.length then β l else none
 have jF:∀ l,l < S0.length->fX l=β l:=fun l hl=>if_pos hl
 have y2:∀ {l p},fX l=some p->l < S0.length/\β l=some p:=fun {l p} h=>by
  by_cases hl:l < S0.length
  ·exact⟨hl,by rw[← jF l hl]; exact h⟩
  ·have:fX l=none:=if_neg hl
   rw[this] at h; cases h
 have yu:∀ {l:Nat} {b':ak},S0[l]?=some b'->l < S0.length/\∃ b,(oq++T)[l]?=some b/\gy b b':=fun {l b'} dq=>by
  have cJ:l < S0.length:=(List.getElem?_eq_some_iff.1 dq).1
  have y3:l < oq.length:=by omega
  refine⟨cJ,oq[l],by rw[List.getElem?_append_left y3]; simp[y3],FB l _ b' (by simp[y3]) dq⟩
 have low:∀ {l:Nat} {b':ak},S0[l]?=some b'->b'.k.sn=true->∀ c∈b'.cs,∀ m∈c.dk,m < S0.length:=fun {l b'} dq hk c hc m lQ=>by
  rw[List.all_eq_true] at gu
  have:=gu b' (List.mem_of_getElem? dq)
  unfold wG at this
  have dx:b'.cs.all (fun c=>c.dk.all fun l=>Nat.blt l S0.length)=true:=by
   cases cM:b'.k with
   | dyn=>rw[cM] at hk; cases hk
   | mp=>rw[cM] at hk; cases hk
   | loc=>rw[cM] at this; exact this
   | arr=>rw[cM] at this; exact this
  rw[List.all_eq_true] at dx
  have:=dx c hc
  rw[List.all_eq_true] at this
  exact Nat.le_of_ble_eq_true (this m lQ)
 have Jo:aO I fX S0 w:=by
  refine⟨fun l hl=>if_neg (by omega),fun l b' dq aN=>?_⟩
  obtain⟨cJ,b,hb,FC⟩:=yu dq
  obtain⟨e1,e2,e3,e4,e5,e6,e7⟩:=c_ FC
  obtain⟨p,hp,hB⟩:=hH.gw l b hb e4
  have own:∀ {g:Nat} {fr:Nat × Nat},Own I β (oq++T) l g fr b->Own I fX S0 l g fr b':=fun {g fr} ho=>by
   refine⟨fun hr=>?_,fun hr=>ho.2 (by rw[e3]; exact hr)⟩
   obtain⟨h1,h2,h3⟩:=ho.1 (by rw[e3]; exact hr)
   refine⟨h1,h2,fun l2 b2 de fZ bT p2 g2 o2 hU hJ=>?_⟩
   obtain⟨_,b3,ku,kU⟩:=yu fZ
   exact h3 l2 b3 de ku (c_ kU).2.2.2.1 p2 g2 o2 (y2 hU).2 hJ
  have cells:b'.k.sn=true->∀ {arr:Array Value} {o:Nat},bB w I β b.cs arr o->bB w I fX b'.cs arr o:=fun hk {arr o} hc i c hi=>by
   have jq:bB w I β b'.cs arr o:=by
    rcases e7 with ⟨hd,_⟩|⟨_,h7⟩
    ·(rw[e6,hk] at hd; cases hd)
    ·exact ir h7 hc
   obtain⟨u,Ea,Nv,h1⟩:=jq i c hi
   exact⟨u,Ea,PV.Is.mono (fun _ h=>h) (fun _ _=>rfl) c β fX u (fun m p lQ eU=>by rw[jF m (low dq hk c (List.mem_of_getElem? hi) m lQ)]; exact eU) Nv,h1⟩
  refine⟨p,by rw[jF l cJ]; exact hp,?_⟩
  split at hB
  ·rename_i cM
   have iV:b'.k = .loc:=by rw[← e6]; exact cM
   obtain⟨g,o,arr,ty,fr,h1,h2,h3,ho⟩:=hB
   rw[iV]
   exact⟨g,o,arr,ty,fr,h1,h2,cells (by rw[iV]; rfl) h3,own ho⟩
  ·rename_i cM
   have iV:b'.k = .arr:=by rw[← e6]; exact cM
   obtain⟨g,arr,fr,h1,h2,h3,ho,h4,h5,h6,h7,h8⟩:=hB
   have hlen:b'.cs.length=b.cs.length:=by
    rcases e7 with ⟨hd,_⟩|⟨_,h9⟩
    ·rw[cM] at hd; cases hd
    ·exact (lD h9).symm
   rw[iV]
   exact⟨g,arr,fr,h1,by rw[← e1]; exact h2,cells (by rw[iV]; rfl) h3,own ho,by rw[hlen,← e2]; exact h4,h5,h6,by rw[← e2]; exact h7,by rw[← e2]; exact h8⟩
  ·rename_i cM
   have iV:b'.k = .dyn:=by rw[← e6]; exact cM
   have gr:b.cs=b'.cs:=by
    rcases e7 with ⟨_,h9⟩|⟨hd,_⟩
    ·exact h9
    ·(rw[cM] at hd; cases hd)
   obtain⟨⟨h1,h2,h3,h4⟩,hB⟩:=hB
   rw[iV]
   refine⟨⟨by rw[← e2]; exact h1,by rw[← gr]; exact h2,h3,h4⟩,?_⟩
   rcases hB with h|⟨g,arr,fr,h5,h6,h7,ho,h8⟩
   ·exact .inl h
   ·exact .inr ⟨g,arr,fr,h5,by rw[← e1]; exact h6,by rw[← gr,← e2]; exact h7,own ho,by rw[← e2]; exact h8⟩
  ·rename_i cM
   have iV:b'.k = .mp:=by rw[← e6]; exact cM
   have gr:b.cs=b'.cs:=by
    rcases e7 with ⟨_,h9⟩|⟨hd,_⟩
    ·exact h9
    ·(rw[cM] at hd; cases hd)
   obtain⟨g,h1,h2,ho⟩:=hB
   rw[iV]
   exact⟨g,h1,by rw[← gr]; exact h2,own ho⟩
 have OR:bH w I bE fX bs:=by
  have:=jg (fun _ _=>fA) hle hA
  refine bH.mono (fun _ h=>h) (fun _ _=>rfl) bE β fX bs (fun m p lQ eU=>?_) this
  rw[List.all_eq_true] at hu
  rw[jF m (Nat.le_of_ble_eq_true (hu m lQ))]; exact eU
 refine (h.run.2 I fX w bs Jo hM OR).mono fun e w' ⟨v,r,S',I',aU,he,⟨e1,e2⟩,hi,nE,lF,hE,hlen,mw⟩=>?_
 subst e1; subst e2
 have wS:∀ l,l < S0.length->aU l=β l:=fun l hl=>(mw l hl (by simp)).trans (jF l hl)
 have B5:∀ l p,aU l=some p->β l=some p:=fun l p hp=>by
  have:l < S0.length:=by have:=nE.lt hp; omega
  rw[← wS l this]; exact hp
 have FD:∀ {g},Wr fX S0 g->Wr β (oq++T) g:=fun {g} ⟨l,b,p,o,h1,h2,h3,h4,h5⟩=>by
  obtain⟨cJ,b2,eI,Fu⟩:=yu h1
  obtain⟨_,_,q3,q4,_⟩:=c_ Fu
  exact⟨l,b2,p,o,eI,q4,by rw[q3]; exact h3,(y2 h4).2,h5⟩
 have B6:∀ {g},Wr β (S'++T) g->(Wr aU S' g)\/∃ l b p o,S0.length<=l/\(oq++T)[l]?=some b/\b.live=true/\b.m = .w/\β l=some p/\p.a=some (g,o):=fun {g} ⟨l,b,p,o,h1,h2,h3,h4,h5⟩=>by
  by_cases hl:l < S'.length
  ·rw[List.getElem?_append_left hl] at h1
   exact .inl ⟨l,b,p,o,h1,h2,h3,by rw[wS l (by omega)]; exact h4,h5⟩
  ·rw[List.getElem?_append_right (by omega)] at h1
   refine .inr ⟨l,b,p,o,by omega,?_,h2,h3,h4,h5⟩
   rw[List.getElem?_append_right (by omega),BT,Jn]; exact h1
 
 have apart:∀ {l:Nat} {b:ak} {p:ow} {g o:Nat},S0.length<=l->(oq++T)[l]?=some b->b.live=true->β l=some p->p.a=some (g,o)->¬ Wr fX S0 g:=fun {l b p g o} hl hb aN hp ha ⟨l2,b2,p2,o2,h1,h2,h3,h4,h5⟩=>by
  obtain⟨cJ,b3,ku,kU⟩:=yu h1
  obtain⟨_,_,q3,q4,_⟩:=c_ kU
  obtain⟨arr,ty,fr,_,ho⟩:=(hH.gw l2 b3 ku q4).place (y2 h4).2 h5
  exact (ho.1 (by rw[q3,h3]; nofun)).2.2 l b (by omega) hb aN p g o hp ha rfl
 refine⟨v,r,S'++T,I',β,he,hk,PV.Is.mono (fun _ h=>h) (fun _ _=>rfl) r aU β v (fun m p _ hp=>B5 m p hp) hi,⟨fun l hl=>hH.qo l (by simp only[List.length_append] at hl ⊢; omega),fun l b hb aN=>?_⟩,lF,⟨hE.os,hE.tape,hE.output,hE.size,fun g hg hn=>hE.block g hg fun h=>hn (FD h),fun g hg h=>?_,hE.az,fun g hg h=>(hE.new g hg h).imp id FD⟩,by simp only[List.length_append]; omega,fun _ _ _=>rfl⟩
 ·by_cases hl:l < S'.length
  ·rw[List.getElem?_append_left hl] at hb
   have hB:=nE.gw l b hb aN
   refine hB.mono (fun _ h=>h) (fun _ _=>rfl) B5 fun p g o hp ha=>⟨rfl,fun hr=>?_⟩
   obtain⟨arr,ty,fr,hh,ho⟩:=hB.place hp ha
   obtain⟨h1,h2,h3⟩:=ho.1 hr
   refine⟨h2,fun l2 b2 de eI bT p2 g2 o2 hU hJ=>?_⟩
   by_cases fZ:l2 < S'.length
   ·rw[List.getElem?_append_left fZ] at eI
    exact h3 l2 b2 de eI bT p2 g2 o2 (by rw[wS l2 (by omega)]; exact hU) hJ
   ·rw[List.getElem?_append_right (by omega)] at eI
    have FE:(oq++T)[l2]?=some b2:=by rw[List.getElem?_append_right (by omega),BT,Jn]; exact eI
    obtain⟨b0,gq⟩:∃ b0,S0[l]?=some b0:=⟨S0[l]'(by omega),by simp[show l < S0.length by omega]⟩
    obtain⟨_,b3,ku,kU⟩:=yu gq
    obtain⟨_,_,q3,q4,_⟩:=c_ kU
    obtain⟨_,q5⟩:=JS l b0 b gq hb
    obtain⟨_,_,_,_,We⟩:=(hH.gw l b3 ku q4).place (B5 l p hp) ha
    exact (We.1 (by rw[q3,q5]; exact hr)).2.2 l2 b2 de FE bT p2 g2 o2 hU hJ
  ·rw[List.getElem?_append_right (by omega)] at hb
   have dq:(oq++T)[l]?=some b:=by rw[List.getElem?_append_right (by omega),BT,Jn]; exact hb
   have hB:=hH.gw l b dq aN
   have same:∀ {p g o},β l=some p->p.a=some (g,o)->g < w.heap.size/\w'.heap[g]?=w.heap[g]?:=fun {p g o} hp ha=>by
    have cJ:=hH.dS ⟨l,b,p,o,dq,aN,hp,ha⟩
    exact⟨cJ,hE.block g cJ (apart (by omega) dq aN hp ha)⟩
   refine hB.mono hE.az (fun g hg=>hE.block g (hM.az g hg) fun hw=>?_) (fun _ _ h=>h) fun p g o hp ha=>⟨(same hp ha).2,fun hr=>?_⟩
   ·exact Jo.kG hw hg
   ·obtain⟨arr,ty,fr,hh,ho⟩:=hB.place hp ha
    obtain⟨h1,h2,h3⟩:=ho.1 hr
    refine⟨fun hI=>(hE.new g (same hp ha).1 hI).elim h2 (apart (by omega) dq aN hp ha),fun l2 b2 de eI bT p2 g2 o2 hU hJ=>?_⟩
    by_cases fZ:l2 < S'.length
    ·obtain⟨b0,gq⟩:∃ b0,S0[l2]?=some b0:=⟨S0[l2]'(by omega),by simp[show l2 < S0.length by omega]⟩
     obtain⟨_,b3,ku,kU⟩:=yu gq
     exact h3 l2 b3 de ku (c_ kU).2.2.2.1 p2 g2 o2 hU hJ
    ·rw[List.getElem?_append_right (by omega)] at eI
     exact h3 l2 b2 de (by rw[List.getElem?_append_right (by omega),BT,Jn]; exact eI) bT p2 g2 o2 hU hJ
 ·rcases B6 h with h|⟨l,b,p,o,_,h2,h3,h4,h5,h6⟩
  ·exact FD (hE.wr g hg h)
  ·exact⟨l,b,p,o,h2,h3,h4,h5,h6⟩
def sK:List ak->List ak->Prop
 | [],[]=>True
 | b::S,b'::S'=>gy b b'/\sK S S'
 | _,_=>False
theorem qb:∀ {S S':List ak},sK S S'->S.length=S'.length/\∀ (l:Nat) (b b':ak),S[l]?=some b->S'[l]?=some b'->gy b b'
 | [],[],_=>⟨rfl,fun l b b' h=>by simp at h⟩
 | b::S,b'::S',h=>by
  obtain⟨h1,h2⟩:=qb h.2
  refine⟨by simp[h1],fun l c c' hc yL=>?_⟩
  cases l with
  | zero=>simp at hc yL; subst hc; subst yL; exact h.1
  | succ l=>exact h2 l c c' (by simpa using hc) (by simpa using yL)
 | [],_::_,h=>h.elim
 | _::_,[],h=>h.elim
theorem oO {S S':List ak} (h:sK S S') {l:Nat} {b':ak} (hb:S'[l]?=some b'):∃ b,S[l]?=some b/\gy b b':=by
 obtain⟨h1,h2⟩:=qb h
 have hl:l < S.length:=by rw[h1]; exact (List.getElem?_eq_some_iff.1 hb).1
 exact⟨S[l],by simp[hl],h2 l _ _ (by simp[hl]) hb⟩
theorem aO.le {S S':List ak} (h:sK S S') (hH:aO I β S w):aO I β S' w:=by
 refine⟨fun l hl=>hH.qo l (by rw[(qb h).1]; exact hl),fun l b' dq aN=>?_⟩
 obtain⟨b,hb,FC⟩:=oO h dq
 obtain⟨e1,e2,e3,e4,e5,e6,e7⟩:=c_ FC
 obtain⟨p,hp,hB⟩:=hH.gw l b hb e4
 have own:∀ {g:Nat} {fr:Nat × Nat},Own I β S l g fr b->Own I β S' l g fr b':=fun {g fr} ho=>by
  refine⟨fun hr=>?_,fun hr=>ho.2 (by rw[e3]; exact hr)⟩
  obtain⟨h1,h2,h3⟩:=ho.1 (by rw[e3]; exact hr)
  refine⟨h1,h2,fun l2 b2 de fZ bT p2 g2 o2 hU hJ=>?_⟩
  obtain⟨b3,ku,kU⟩:=oO h fZ
  exact h3 l2 b3 de ku (c_ kU).2.2.2.1 p2 g2 o2 hU hJ
 have cells:b'.k.sn=true->∀ {arr:Array Value} {o:Nat},bB w I β b.cs arr o->bB w I β b'.cs arr o:=fun hk {arr o} hc=>by
  rcases e7 with ⟨hd,_⟩|⟨_,h7⟩
  ·(rw[e6,hk] at hd; cases hd)
  ·exact ir h7 hc
 refine⟨p,hp,?_⟩
 split at hB
 ·rename_i cM
  have iV:b'.k = .loc:=by rw[← e6]; exact cM
  obtain⟨g,o,arr,ty,fr,h1,h2,h3,ho⟩:=hB
  rw[iV]
  exact⟨g,o,arr,ty,fr,h1,h2,cells (by rw[iV]; rfl) h3,own ho⟩
 ·rename_i cM
  have iV:b'.k = .arr:=by rw[← e6]; exact cM
  obtain⟨g,arr,fr,h1,h2,h3,ho,h4,h5,h6,h7,h8⟩:=hB
  have hlen:b'.cs.length=b.cs.length:=by
   rcases e7 with ⟨hd,_⟩|⟨_,h9⟩
   ·rw[cM] at hd; cases hd
   ·exact (lD h9).symm
  rw[iV]
  exact⟨g,arr,fr,h1,by rw[← e1]; exact h2,cells (by rw[iV]; rfl) h3,own ho,by rw[hlen,← e2]; exact h4,h5,h6,by rw[← e2]; exact h7,by rw[← e2]; exact h8⟩
 ·rename_i cM
  have iV:b'.k = .dyn:=by rw[← e6]; exact cM
  have gr:b.cs=b'.cs:=by
   rcases e7 with ⟨_,h9⟩|⟨hd,_⟩
   ·exact h9
   ·(rw[cM] at hd; cases hd)
  obtain⟨⟨h1,h2,h3,h4⟩,hB⟩:=hB
  rw[iV]
  refine⟨⟨by rw[← e2]; exact h1,by rw[← gr]; exact h2,h3,h4⟩,?_⟩
  rcases hB with h|⟨g,arr,fr,h5,h6,h7,ho,h8⟩
  ·exact .inl h
  ·exact .inr ⟨g,arr,fr,h5,by rw[← e1]; exact h6,by rw[← gr,← e2]; exact h7,own ho,by rw[← e2]; exact h8⟩
 ·rename_i cM
  have iV:b'.k = .mp:=by rw[← e6]; exact cM
  have gr:b.cs=b'.cs:=by
   rcases e7 with ⟨_,h9⟩|⟨hd,_⟩
   ·exact h9
   ·(rw[cM] at hd; cases hd)
  obtain⟨g,h1,h2,ho⟩:=hB
  rw[iV]
  exact⟨g,h1,by rw[← gr]; exact h2,own ho⟩
theorem Spec.jS {f:FuncId} {args:List PV} {S:List ak} {rl:List Nat} {r0:PV} {S1:List ak} (h:Spec G f args S rl fun x S'=>x=r0/\sK S' S1):Spec G f args S rl fun x S'=>x=r0/\S'=S1 :=
 Spec.intro h.run.1 fun I β w bs hH hM hA=>(h.run.2 I β w bs hH hM hA).mono fun e w' ⟨v,r,S',I',aU,he,⟨e1,e2⟩,hi,nE,lF,hE,hlen,mw⟩ =>
  ⟨v,r,S1,I',aU,he,⟨e1,rfl⟩,hi,nE.le e2,lF,⟨hE.os,hE.tape,hE.output,hE.size,hE.block,fun g hg ⟨l,b,p,o,h1,h2,h3,h4,h5⟩=>by
   obtain⟨b0,gq,FB⟩:=oO e2 h1
   obtain⟨_,_,q3,q4,_⟩:=c_ FB
   exact hE.wr g hg ⟨l,b0,p,o,gq,q4,by rw[q3]; exact h3,h4,h5⟩,hE.az,hE.new⟩,by rw[← (qb e2).1]; exact hlen,mw⟩
theorem bm {r r0:PV} {S' S1:List ak} (h:kt r r0) (hs:sK S' S1):∃ r',Aw r r'/\(fun x S'=>x=r0/\sK S' S1) r' S':=⟨r0,fA h,rfl,hs⟩
end
def bb.wT (s:bb) (c:Code) (vs:List (Nat × PV)) (eA:List ak):bb:=match s with
 | ⟨n,t,_,b,rl⟩=>⟨n,(kQ vs (qU (qT c) t)).wQ,eA,b,rl⟩
theorem SW.Wf {G:Gx} {s:bb} (hG:ma G) (R:List (Nat × aT)) {α:Type} {c:Code} {Q:X->bb->Prop} (hc:cr R c=true) (vs:α->List (Nat × PV)) (stx:α->List ak) (μ:α->Nat) (x0:α) (N:Nat) (π:gH) (h0:gC G.cx π s (s.wT c (vs x0) (stx x0)))
  (h:∀ x,U8 (s.wT c (vs x) (stx x)) (pw G R N c (qN (fun s'=>∃ y π,μ y < μ x/\gC G.cx π s' (s.wT c (vs y) (stx y))) Q))):SW G (.loop c) Q s :=
 SW.inv hG (fun x=>s.wT c (vs x) (stx x)) μ (N:=N) hc x0 (eZ hG.ok h0) (fun x s'=>∃ y π,μ y < μ x/\gC G.cx π s' (s.wT c (vs y) (stx y))) (fun x s' ⟨y,_,hy,hs⟩=>⟨y,hy,eZ hG.ok hs⟩) fun x=>qS (h x)
theorem bn {p:Nat->Prop}:∀ l∈([]:List Nat),p l:=fun l hl=>absurd hl List.not_mem_nil
section
variable {w w':World} {I I':Nat->Prop} {β aU:aB} {G:Gx} {s:bb} {a:Act} {st eA:List ak}
theorem fm.take {es:List PV} {n:Nat} {xs:List Value} (h:fm w I es n xs) {k:Nat} (hk:k<=es.length):fm w I (es.take k) n (xs.take (k*n)):=by
 have h1:k*n<=es.length*n:=Nat.mul_le_mul_right _ hk
 refine⟨by rw[List.length_take,List.length_take,h.1,Nat.min_eq_left h1,Nat.min_eq_left hk],fun i e he=>?_⟩
 rw[List.getElem?_take] at he
 split at he
 ·rename_i hi
  obtain⟨h2,h3⟩:=h.2 i e he
  refine⟨h2,fun j c hc=>?_⟩
  obtain⟨v,hv,h4⟩:=h3 j c hc
  have hj:j < n:=by rw[← h2]; exact (List.getElem?_eq_some_iff.1 hc).1
  have:i*n+n<=k*n:=by rw[← Nat.succ_mul]; exact Nat.mul_le_mul_right _ hi
  exact⟨v,by rw[List.getElem?_take,if_pos (by omega)]; exact hv,h4⟩
 ·cases he
theorem fm.drop {es:List PV} {n:Nat} {xs:List Value} (h:fm w I es n xs) (k:Nat):fm w I (es.drop k) n (xs.drop (k*n)):=by
 refine⟨by rw[List.length_drop,List.length_drop,h.1,Nat.sub_mul],fun i e he=>?_⟩
 rw[List.getElem?_drop] at he
 obtain⟨h2,h3⟩:=h.2 _ e he
 refine⟨h2,fun j c hc=>?_⟩
 obtain⟨v,hv,h4⟩:=h3 j c hc
 exact⟨v,by rw[List.getElem?_drop,← Nat.add_assoc,← Nat.add_mul]; exact hv,h4⟩
theorem pK.intro {o:Oper} {q:PV->bb->Prop} (h:∀ I β a w,Rel G I β s a w->Ev.mZ G.cx.P (c9 G s I β w a q) ((execOp a.eval o).run G.cx.P w)):pK G s o q:=by unfold pK; exact h
end
def Wg (G:Gx) (rs:List ResultVar) (base:Nat) (K:PV->List ak->Prop) (x:X) (s:bb):Prop:=match x with
 | .exit _=>False
 | _=>∃ (π:gH) (vs:List (Nat × PV)) (S':List ak),gC G.cx π s ⟨s.n,kQ vs .nil,S',s.base,s.rl⟩/\base<=S'.length/\J0 G ⟨s.n,kQ vs .nil,S',s.base,s.rl⟩ rs fun r=>K r S'
def kX (G:Gx) (R:List (Nat × aT)) (N:Nat) (fn:Func) (c:Code) (args:List PV) (S:List ak) (rl:List Nat) (K:PV->List ak->Prop):Prop :=
 bif Nat.ble args.length fn.ntmps && Nat.ble fn.ntmps 16777215 && !(fn.name == "runtime.NumGoroutine") then
  lS S 0 fun b=>Fj args 0 .nil fun t=>pw G R N c (Wg G fn.results.toList b K) ⟨fn.ntmps,t,S,b,rl⟩ else False
section
variable {w w':World} {I I':Nat->Prop} {β aU:aB} {G:Gx} {s:bb} {a:Act} {st eA:List ak}
theorem Spec.kX (hG:ma G) (R:List (Nat × aT)) {f:FuncId} {fn:Func} {c:Code} {args:List PV} {S:List ak} {rl:List Nat} {K:PV->List ak->Prop} (N:Nat) (hf:G.cx.P.funcs[f]?=some fn) (hb:fn.body=some c) (pk:cr R c=true) (h:kX G R N fn c args S rl K) (hd:G.EB = []:=by rfl):Spec G f args S rl K:=by
 obtain⟨hc,h⟩:=bp h
 simp only[Bool.and_eq_true,Bool.not_eq_true'] at hc
 obtain⟨⟨hle,ni⟩,wJ⟩:=hc
 have hle:=Nat.le_of_ble_eq_true hle
 have ni:=Nat.le_of_ble_eq_true ni
 replace h:=gG h
 rw[Nat.zero_add] at h
 obtain⟨t,h,ht⟩:=qa h
 refine Spec.intro (Ev.lq hf hb wJ) fun I β w bs hH hM hA=>calls_of_wp hf hb ?_
 have hal:=hA.length
 have hR:Rel G I β ⟨fn.ntmps,t,S,S.length,rl⟩ { tmps:=bs.toArray++Array.replicate (fn.ntmps - bs.toArray.size) Go.undef,defers:=[] } w:=by
  refine⟨ni,hd.symm,by simp; omega,Nat.le_refl _,fun n x hx=>?_,hH,hM⟩
  rcases ht n x hx with ⟨j,hj,hx⟩|hx
  ·rw[Nat.zero_add] at hj
   subst hj
   obtain⟨v,hv,hi⟩:=hA.get hx
   have cJ:n < bs.length:=(List.getElem?_eq_some_iff.1 hv).1
   exact⟨v,by rw[Array.getElem?_append_left (by simpa using cJ)]; simpa using hv,hi⟩
  ·cases hx
 refine wp_mono ((jD hG N c _ _ pk h).run hR) fun e a' w' hp=>?_
 obtain⟨x,s',I',aU,rfl,hq,dt,hg⟩:=hp.goes
 have qB:Wg G fn.results.toList S.length K .iw s'->a'.defers = []/\∃ v,(results fn a'.tmps).run G.cx.P w' = .ok v w'/\∃ v',∃ r S' I' aU,Ending.returned v = .returned v'/\K r S'/\r.Is w' I' aU v'/\aO I' aU S' w'/\db G I' w'/\Ext I β S w I' aU S' w'/\S.length<=S'.length/\∀ l,l < S.length->l ∉ rl->aU l=β l:=by
  rintro⟨π,vs,S',pO,hlen,uU⟩
  obtain⟨I2,gx,nj,BX⟩:=eZ hG.ok pO I' aU a' w' dt
  obtain⟨r,v,hK,hr,cg⟩:=AA hG nj uU
  have hgg:=hg.trans BX
  exact⟨dt.defers.trans hd,v,cg,v,r,S',I2,gx,rfl,hK,hr,nj.heap,nj.az,hgg.ext,hlen,fun l hl hr=>hgg.low l hl hr⟩
 cases x with
 | iw=>exact qB hq
 | ret=>exact qB hq
 | exit id=>exact hq.elim
theorem Spec.FF {f:FuncId} {args bE:List PV} {b:ak} {K:PV->List ak->Prop} (h:Spec G f bE [] [] fun r S'=>r = .wref 0/\S' = [b]) (hm:b.m = .w) (Np:b.live=true) (hk:b.k = .dyn) (hle:ny kt args bE) (hu:eC bE = [])
  (hK:lS st 0 fun l=>yD st b fun eA=>K (.wref l) eA):Spec G f args st [] K:=by
 refine Spec.intro h.run.1 fun I β w bs hH hM hA=>?_
 replace hK:=lx (gG hK)
 rw[Nat.zero_add] at hK
 have h0:aO I (fun _=>none) ([]:List ak) w:=⟨fun _ _=>rfl,fun l b hl=>by simp at hl⟩
 refine (h.run.2 I (fun _=>none) w bs h0 hM (jY hu (jg (fun _ _=>fA) hle hA))).mono fun e w' ⟨v,r',S',I',aU,he,⟨pn,Jj⟩,hi,nE,lF,hE,_,_⟩=>?_
 subst pn
 subst Jj
 have Ee:∀ g,¬ Wr (fun _=>none) ([]:List ak) g:=fun g ⟨l,b,p,o,h1,_⟩=>by simp at h1
 have hold:∀ g,g < w.heap.size->w'.heap[g]?=w.heap[g]?:=fun g hg=>hE.block g hg (Ee g)
 have Fq:∀ g,g < w.heap.size->I' g->I g:=fun g hg h=>(hE.new g hg h).elim id fun h=>absurd h (Ee g)
 simp only[PV.Is] at hi
 obtain⟨p,hp,rfl⟩:=hi
 have fP:∀ g o,p.a=some (g,o)->w.heap.size<=g:=fun g o ha=>by
  rcases Nat.lt_or_ge g w.heap.size with cJ|Nh
  ·exact absurd (hE.wr g cJ ⟨0,b,p,o,rfl,Np,hm,hp,ha⟩) (Ee g)
  ·exact Nh
 have hHo:aO I' β st w':=⟨hH.qo,fun l b hl aN=>by
  have hb:=hH.gw l b hl aN
  refine hb.mono hE.az (fun g hg=>hold g (hM.az g hg)) (fun _ _ h=>h) fun p g o hp ha=>?_
  obtain⟨arr,ty,fr,hh,ho⟩:=hb.place hp ha
  have cJ:=bS hh
  exact⟨hold g cJ,fun hr=>⟨fun hI=>(ho.1 hr).2.1 (Fq g cJ hI),(ho.1 hr).2.2⟩⟩⟩
 have gu:∀ g,jy β st g->g < w.heap.size:=fun g hg=>hH.dS hg
 have B0:=nE.gw 0 b rfl Np
 have OS:aO I' (β.set st.length p) (st++[b]) w':=by
  refine hHo.add (fun _ _=>rfl) (fun g o ha=>⟨?_,fun hL=>by have:=gu g hL; have:=fP g o ha; omega⟩) ?_
  ·obtain⟨arr,ty,fr,hh,ho⟩:=B0.place hp ha
   exact (ho.1 (by rw[hm]; decide)).2.1
  ·obtain⟨p',eU,hd⟩:=B0
   obtain rfl:=Option.some.inj (hp.symm.trans eU)
   refine⟨p,aB.dw ..,?_⟩
   rw[hk] at hd ⊢
   refine⟨hd.1,hd.2.imp id ?_⟩
   rintro⟨g,arr,fr,h1,h2,h3,ho,h4⟩
   refine⟨g,arr,fr,h1,h2,h3,⟨fun hr=>⟨(ho.1 hr).1,(ho.1 hr).2.1,fun l' b' de jv fO q g' o' hq dv e=>?_⟩,ho.2⟩,h4⟩
   subst e
   unfold aB.set at hq
   rw[if_neg de] at hq
   have cJ:=hH.lt hq
   rw[List.getElem?_append_left cJ] at jv
   have:=gu g' ⟨l',b',q,o',jv,fO,hq,dv⟩
   have:=fP g' _ h1
   omega
 refine⟨_,.wref st.length,st++[b],I',β.set st.length p,he,hK,?_,OS,lF,⟨hE.os,hE.tape,hE.output,hE.size,fun g hg _=>hold g hg,fun g hg ⟨l,b',q,o,h1,h2,h3,h4,h5⟩=>?_,hE.az,fun g hg h=>.inl (Fq g hg h)⟩,by simp,fun l hl _=>?_⟩
 ·simp only[PV.Is]; exact⟨p,aB.dw ..,rfl⟩
 ·unfold aB.set at h4
  split at h4
  ·cases h4
   have:=fP g o h5
   omega
  ·have:=hH.lt h4
   rw[List.getElem?_append_left this] at h1
   exact⟨l,b',q,o,h1,h2,h3,h4,h5⟩
 ·unfold aB.set
  rw[if_neg (by omega)]
end
section
variable {w w':World} {I I':Nat->Prop} {β aU:aB} {G:Gx} {s:bb} {a:Act} {st eA:List ak}
theorem Spec.cut {f:FuncId} {args:List PV} {b0:ak} {n:Nat} {es:List PV} (h:Spec G f args [b0] [] fun r S'=>∃ b:ak,S' = [b]/\b.k = .dyn/\b.live=true/\b.m = .w/\b.size=n/\((r = .wref 0/\b.cs=es)\/(r = .ref 0 0 es.length/\b.cs.take es.length=es))) :
  Spec G f args [b0] [] fun r S'=>r = .sl n es/\S' = [⟨.dyn,b0.ty,n,.w,false,[]⟩]:=by
 refine Spec.intro h.run.1 fun I β w bs hH hM hA=>(h.run.2 I β w bs hH hM hA).mono fun e w' ⟨v,r,S',I',aU,he,⟨b,hS,hk,hl,hm,hn,hc⟩,hi,nE,lF,hE,hlen,mw⟩=>?_
 subst hS
 have hb:[b][0]?=some b:=rfl
 obtain⟨p,hp,B0⟩:=nE.gw 0 b hb hl
 obtain⟨Nd,FG,hle,sC,na⟩:=dN nE hb hl hk hp
 rw[hn] at Nd na
 have tA:∀ g,I' g->(I' g\/∃ o,p.a=some (g,o)):=fun g h=>.inl h
 have OT:∀ {g o:Nat},p.a=some (g,o)->Wr aU [b] g:=fun {g o} ha=>⟨0,b,p,o,hb,hl,hm,hp,ha⟩
 have hI2:∀ g,(I' g\/∃ o,p.a=some (g,o))->g < w'.heap.size:=fun g hg=>by
  rcases hg with hg|⟨o,ha⟩
  ·exact lF.az g hg
  ·rcases na with ⟨Ar,_⟩|⟨g1,arr,fr,ha1,_,h_,_⟩
   ·rw[Ar] at ha; cases ha
   ·rw[ha1] at ha; cases ha; exact bS h_
 have JF:es.length<=b.cs.length:=by
  rcases hc with ⟨_,rfl⟩|⟨_,hc⟩
  ·exact Nat.le_refl _
  ·rw[← hc,List.length_take]; omega
 have htk:b.cs.take es.length=es:=by
  rcases hc with ⟨_,rfl⟩|⟨_,hc⟩
  ·rw[List.take_length]
  ·exact hc
 have hIs:(PV.sl n es).Is w' (fun g=>I' g\/∃ o,p.a=some (g,o)) aU v:=by
  simp only[PV.Is]
  rcases na with ⟨Ar,qu,hw⟩|⟨g,arr,fr,ha,hw,h_,po,fu,has⟩
  ·have h0:es = []:=List.eq_nil_of_length_eq_zero (by omega)
   subst h0
   rcases hc with ⟨rfl,_⟩|⟨rfl,_⟩
   ·simp only[PV.Is] at hi
    obtain⟨p',eU,rfl⟩:=hi
    rw[hp] at eU; cases eU
    exact⟨none,0,by rw[hw]; rfl,Nat.le_refl _,Nat.zero_le _,(fun _ _ e=>by cases e),fun hn=>absurd rfl hn⟩
   ·simp only[PV.Is] at hi
    obtain⟨p',g',o',FH,eU,dv,_⟩:=hi
    rw[hp] at eU; cases eU
    rw[Ar] at dv; cases dv
  ·obtain⟨xs,p5,U0⟩:=po.row
   have Fo:cB w' (fun g=>I' g\/∃ o,p.a=some (g,o)) es n g 0:=by
    have h1:=p5.take (k:=es.length) JF
    rw[htk] at h1
    exact h1.at (fun j u hu=>by
     rw[List.getElem?_take] at hu
     split at hu
     ·have:=U0 j u hu
      rwa [Nat.zero_add] at this
     ·cases hu) tA (fun _ _=>rfl)
   have sJ:es.length≠0->∃ g' o',(some (⟨g,0,none⟩:Addr))=some ⟨g',o',none⟩/\(I' g'\/∃ o,p.a=some (g',o))/\0 < n:=fun _=>⟨g,0,rfl,.inr ⟨0,ha⟩,Nd⟩
   rcases hc with ⟨rfl,hce⟩|⟨rfl,_⟩
   ·simp only[PV.Is] at hi
    obtain⟨p',eU,rfl⟩:=hi
    rw[hp] at eU; cases eU
    have pk:p.len=es.length:=by rw[← FG,hce]
    exact⟨some ⟨g,0,none⟩,p.cap,by rw[hw,pk],by omega,by omega,(fun g' o' e=>by cases e; exact Fo),sJ⟩
   ·simp only[PV.Is] at hi
    obtain⟨p',g',o',FH,eU,dv,rfl,JP⟩:=hi
    rw[hp] at eU; cases eU
    rw[ha] at dv; cases dv
    exact⟨some ⟨g,0,none⟩,FH,rfl,JP,by omega,(fun g' o' e=>by cases e; exact Fo),sJ⟩
 refine⟨v,.sl n es,_,_,aU,he,⟨rfl,rfl⟩,hIs,⟨fun l fZ=>nE.qo l fZ,fun l b2 eI aN=>?_⟩,⟨hI2,fun g cs hg=>⟨.inl (lF.m0 g cs hg).1,dj.mono tA (fun _ _=>rfl) _ _ _ rfl (lF.m0 g cs hg).2⟩,lF.row⟩,⟨hE.os,hE.tape,hE.output,hE.size,hE.block,fun g _ h=>?_,fun g hg=>.inl (hE.az g hg),fun g hg h=>?_⟩,hlen,mw⟩
 ·match l,eI with
  | 0,eI=>cases eI; cases aN
  | l+1,eI=>simp at eI
 ·obtain⟨l,b2,p2,o2,eI,aN,_⟩:=h
  match l,eI with
  | 0,eI=>cases eI; cases aN
  | l+1,eI=>simp at eI
 ·rcases h with h|⟨o,ha⟩
  ·exact hE.new g hg h
  ·exact .inr (hE.wr g hg (OT ha))
theorem Spec.cut1 {f:FuncId} {args:List PV} {z b0:ak} (hz:z.k = .loc) (hzm:z.m = .w) (hzl:z.live=true) {n:Nat} {es:List PV} (h:Spec G f args [z,b0] [] fun r S'=>∃ b:ak,S' = [z,b]/\b.k = .dyn/\b.live=true/\b.m = .w/\b.size=n/\((r = .wref 1/\b.cs=es)\/(r = .ref 1 0 es.length/\b.cs.take es.length=es))) :
  Spec G f args [z,b0] [] fun r S'=>r = .sl n es/\S' = [z,⟨.dyn,b0.ty,n,.w,false,[]⟩]:=by
 refine Spec.intro h.run.1 fun I β w bs hH hM hA=>(h.run.2 I β w bs hH hM hA).mono fun e w' ⟨v,r,S',I',aU,he,⟨b,hS,hk,hl,hm,hn,hc⟩,hi,nE,lF,hE,hlen,mw⟩=>?_
 subst hS
 have hb:[z,b][1]?=some b:=rfl
 obtain⟨p,hp,B0⟩:=nE.gw 1 b hb hl
 obtain⟨Nd,FG,hle,sC,na⟩:=dN nE hb hl hk hp
 rw[hn] at Nd na
 have tA:∀ g,I' g->(I' g\/∃ o,p.a=some (g,o)):=fun g h=>.inl h
 have OT:∀ {g o:Nat},p.a=some (g,o)->Wr aU [z,b] g:=fun {g o} ha=>⟨1,b,p,o,hb,hl,hm,hp,ha⟩
 have hI2:∀ g,(I' g\/∃ o,p.a=some (g,o))->g < w'.heap.size:=fun g hg=>by
  rcases hg with hg|⟨o,ha⟩
  ·exact lF.az g hg
  ·rcases na with ⟨Ar,_⟩|⟨g1,arr,fr,ha1,_,h_,_⟩
   ·rw[Ar] at ha; cases ha
   ·rw[ha1] at ha; cases ha; exact bS h_
 have JF:es.length<=b.cs.length:=by
  rcases hc with ⟨_,rfl⟩|⟨_,hc⟩
  ·exact Nat.le_refl _
  ·rw[← hc,List.length_take]; omega
 have htk:b.cs.take es.length=es:=by
  rcases hc with ⟨_,rfl⟩|⟨_,hc⟩
  ·rw[List.take_length]
  ·exact hc
 have hIs:(PV.sl n es).Is w' (fun g=>I' g\/∃ o,p.a=some (g,o)) aU v:=by
  simp only[PV.Is]
  rcases na with ⟨Ar,qu,hw⟩|⟨g,arr,fr,ha,hw,h_,po,fu,has⟩
  ·have h0:es = []:=List.eq_nil_of_length_eq_zero (by omega)
   subst h0
   rcases hc with ⟨rfl,_⟩|⟨rfl,_⟩
   ·simp only[PV.Is] at hi
    obtain⟨p',eU,rfl⟩:=hi
    rw[hp] at eU; cases eU
    exact⟨none,0,by rw[hw]; rfl,Nat.le_refl _,Nat.zero_le _,(fun _ _ e=>by cases e),fun hn=>absurd rfl hn⟩
   ·simp only[PV.Is] at hi
    obtain⟨p',g',o',FH,eU,dv,_⟩:=hi
    rw[hp] at eU; cases eU
    rw[Ar] at dv; cases dv
  ·obtain⟨xs,p5,U0⟩:=po.row
   have Fo:cB w' (fun g=>I' g\/∃ o,p.a=some (g,o)) es n g 0:=by
    have h1:=p5.take (k:=es.length) JF
    rw[htk] at h1
    exact h1.at (fun j u hu=>by
     rw[List.getElem?_take] at hu
     split at hu
     ·have:=U0 j u hu
      rwa [Nat.zero_add] at this
     ·cases hu) tA (fun _ _=>rfl)
   have sJ:es.length≠0->∃ g' o',(some (⟨g,0,none⟩:Addr))=some ⟨g',o',none⟩/\(I' g'\/∃ o,p.a=some (g',o))/\0 < n:=fun _=>⟨g,0,rfl,.inr ⟨0,ha⟩,Nd⟩
   rcases hc with ⟨rfl,hce⟩|⟨rfl,_⟩
   ·simp only[PV.Is] at hi
    obtain⟨p',eU,rfl⟩:=hi
    rw[hp] at eU; cases eU
    have pk:p.len=es.length:=by rw[← FG,hce]
    exact⟨some ⟨g,0,none⟩,p.cap,by rw[hw,pk],by omega,by omega,(fun g' o' e=>by cases e; exact Fo),sJ⟩
   ·simp only[PV.Is] at hi
    obtain⟨p',g',o',FH,eU,dv,rfl,JP⟩:=hi
    rw[hp] at eU; cases eU
    rw[ha] at dv; cases dv
    exact⟨some ⟨g,0,none⟩,FH,rfl,JP,by omega,(fun g' o' e=>by cases e; exact Fo),sJ⟩
 refine⟨v,.sl n es,_,_,aU,he,⟨rfl,rfl⟩,hIs,⟨fun l fZ=>nE.qo l fZ,fun l b2 eI aN=>?_⟩,⟨hI2,fun g cs hg=>⟨.inl (lF.m0 g cs hg).1,dj.mono tA (fun _ _=>rfl) _ _ _ rfl (lF.m0 g cs hg).2⟩,lF.row⟩,⟨hE.os,hE.tape,hE.output,hE.size,hE.block,fun g _ h=>?_,fun g hg=>.inl (hE.az g hg),fun g hg h=>?_⟩,hlen,mw⟩
 ·match l,eI with
  | 0,eI =>
   cases eI
   obtain⟨p0,hp0,uQ⟩:=nE.gw 0 z rfl aN
   rw[hz] at uQ
   obtain⟨g0,o0,arr,ty,fr,q1,q2,q3,q4⟩:=uQ
   obtain⟨r1,r2,r3⟩:=q4.1 (by rw[hzm]; decide)
   refine⟨p0,hp0,?_⟩
   rw[hz]
   refine⟨g0,o0,arr,ty,fr,q1,q2,bB.mono tA (fun _ _=>rfl) (fun _ _ h=>h) q3,⟨fun _=>⟨r1,fun hI=>?_,fun l' b' de jv fO=>?_⟩,fun lQ=>by rw[hzm] at lQ; cases lQ⟩⟩
   ·rcases hI with hI|⟨o,ha⟩
    ·exact r2 hI
    ·exact r3 1 b (by decide) rfl hl p g0 o hp ha rfl
   ·match l',jv with
    | 0,_=>exact absurd rfl de
    | 1,jv=>cases jv; cases fO
    | l'+2,jv=>simp at jv
  | 1,eI=>cases eI; cases aN
  | l+2,eI=>simp at eI
 ·obtain⟨l,b2,p2,o2,eI,aN,v7,hU,hJ⟩:=h
  match l,eI with
  | 0,eI=>cases eI; exact hE.wr _ (by assumption) ⟨0,z,p2,o2,rfl,hzl,v7,hU,hJ⟩
  | 1,eI=>cases eI; cases aN
  | l+2,eI=>simp at eI
 ·rcases h with h|⟨o,ha⟩
  ·exact hE.new g hg h
  ·exact .inr (hE.wr g hg (OT ha))
end
end Go.Proofs.YtlgkljpgagfndaaGreatDoor.Pw

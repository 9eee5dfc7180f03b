/- What this claim is proved with: no condition. -/
import Derived.Test.YtnbngokbamifbaaGreatDoorNr9
import Derived.Deep.OwnRows
import Derived.Laws.AppendOwn
set_option linter.unusedVariables false
set_option linter.unusedSimpArgs false
namespace Go.Proofs.YtnbngokbamifbaaGreatDoor.Pw
open Go Go.RowKit
def elB (b:au) (n:Nat) (es:List PV):Prop:=match b with
 | ⟨k,_,m,md,live,cs⟩=>bif live && DW md && Nat.beq m n then (match k with
  | .dyn=>cs=es
  | .arr=>gg true m (.stat cs)=some es\/(m=1/\gg false m (.stat cs)=some es)
  | _=>False) else False
def KW (S:List au) (fz:List Nat) (x y:PV):Prop:=match x,y with
 | .wref l,.sl n es=>bif kt l fz then bD S[l]? fun b=>elB b n es else False
 | x,y=>z9 x y
def XA (S:List au) (fz:List Nat) (x y:PV):Prop:=match x,y with
 | .wref l,.sl n es=>bif kt l fz then bD S[l]? fun b=>elB b n es else False
 | .agg cs,.agg ds=>pa (KW S fz) cs ds
 | x,y=>ki x y
def V8 (S:List au) (fz:List Nat):Bool:=fz.all fun l=>match S[l]? with
 | some b=>b.live && DW b.m
 | none=>false
def lN (b:Bool) (m:Md):Md:=bif b then .r else m
def kA (fz:List Nat) (S:List au):List au:=mapM lN fz 0 S
def PV.G8:PV->Bool
 | .lit ..|.int ..|.tt|.ff|.bool _|.val _|.nil=>true
 | _=>false
def PV.Cg:PV->Bool
 | .agg cs=>cs.all PV.G8
 | x=>x.G8
def PV.G9:PV->Bool
 | .tup cs=>cs.all PV.Cg
 | x=>x.Cg
section
variable {w w':World} {I I':Nat->Prop} {β aN:ay} {G:Gx} {S:List au}
theorem yl {x:PV} {v:Value} (hf:x.G8=true) (h:x.Is w I β v):x.Is w' I' aN v:=by
 cases x<;>first|(cases hf; done)|(simp only[PV.Is] at h ⊢; exact h)
theorem sA {r:PV->Bool} (hr:∀ x v,r x=true->x.Is w I β v->x.Is w' I' aN v):∀ {cs:List PV} {vs:List Value},cs.all r=true->bJ w I cs β vs->bJ w' I' cs aN vs
 | [],[],_,_=>by simp only[bJ]
 | c::cs,v::vs,hf,h=>by
  simp only[List.all_cons,Bool.and_eq_true] at hf
  simp only[bJ] at h ⊢
  exact⟨hr c v hf.1 h.1,sA hr hf.2 h.2⟩
 | [],_::_,_,h=>by simp only[bJ] at h
 | _::_,[],_,h=>by simp only[bJ] at h
theorem ym {x:PV} {v:Value} (hf:x.Cg=true) (h:x.Is w I β v):x.Is w' I' aN v:=by
 unfold PV.Cg at hf
 split at hf
 ·simp only[PV.Is] at h ⊢
  obtain⟨vs,rfl,h⟩:=h
  exact⟨vs,rfl,sA (fun x v=>yl) hf h⟩
 ·exact yl hf h
theorem G' {x:PV} {v:Value} (hf:x.G9=true) (h:x.Is w I β v):x.Is w' I' aN v:=by
 unfold PV.G9 at hf
 split at hf
 ·simp only[PV.Is] at h ⊢
  obtain⟨vs,rfl,h⟩:=h
  exact⟨vs,rfl,sA (fun x v=>ym) hf h⟩
 ·exact ym hf h
def fV (I:Nat->Prop) (β:ay) (S:List au) (fz:List Nat) (g:Nat):Prop:=I g\/∃ l b p o,l∈fz/\S[l]?=some b/\b.live=true/\DW b.m=true/\β l=some p/\p.a=some (g,o)
theorem AO {fz:List Nat} (h:V8 S fz=true) {l:Nat} (hl:l∈fz):∃ b,S[l]?=some b/\b.live=true/\DW b.m=true:=by
 have:=List.all_eq_true.1 h l hl
 split at this
 ·rename_i b hb
  simp only[Bool.and_eq_true] at this
  exact⟨b,hb,this⟩
 ·cases this
theorem v8 {fz:List Nat} (hH:aE I β S w) {l:Nat} {b:au} {n:Nat} {es:List PV} (hl:l∈fz) (hb:S[l]?=some b) (h:elB b n es) {v:Value} (hx:(PV.wref l).Is w I β v):(PV.sl n es).Is w (fV I β S fz) no v:=by
 obtain⟨k,ty,m,md,live,cs⟩:=b
 unfold elB at h
 replace h:=bp h
 obtain⟨hc,h⟩:=h
 simp only[Bool.and_eq_true] at hc
 obtain⟨⟨aH,hm⟩,hn⟩:=hc
 obtain rfl:=Nat.eq_of_beq_eq_true hn
 simp only[PV.Is] at hx ⊢
 obtain⟨p,hp,rfl⟩:=hx
 have hI:∀ g,I g->fV I β S fz g:=fun g h=>.inl h
 have tY:∀ {g o:Nat},p.a=some (g,o)->fV I β S fz g:=fun {g o} ha=>.inr ⟨l,_,p,o,hl,hb,aH,hm,hp,ha⟩
 cases k with
 | dyn =>
  obtain⟨iP,hlen,hle,rQ,oe⟩:=dE hH hb aH rfl hp
  subst h
  rcases oe with ⟨ha,qW,hw⟩|⟨g,arr,fr,ha,hw,je,p9,fC,has⟩
  ·have h0:cs = []:=List.eq_nil_of_length_eq_zero (by simp only at hlen; omega)
   subst h0
   exact⟨none,0,by rw[hw]; rfl,Nat.le_refl _,Nat.zero_le _,(fun _ _ e=>by cases e),fun hn=>absurd rfl hn⟩
  ·simp only at hlen
   exact⟨some ⟨g,0,none⟩,p.cap,by rw[hw,hlen],by omega,by omega,(fun g' o' e=>by cases e; exact cr.mono hI (fun _ _=>rfl) _ _ _ _ rfl p9),fun _=>⟨g,0,rfl,tY ha,iP⟩⟩
 | arr =>
  obtain⟨g,arr,fr,ha,hw,je,qX,fC,hlen,hle,rQ,has,iP⟩:=fT hH hb aH rfl hp
  simp only at hlen has iP qX
  have fA:p.len*m<=arr.size:=by rw[has]; exact Nat.mul_le_mul_right _ hle
  have tO:(arr.toList.take (p.len*m)).length=p.len*m:=by rw[List.length_take,Array.length_toList]; omega
  have rX:qa w I β m (.stat cs) (arr.toList.take (p.len*m)):=by
   refine⟨by rw[tO,hlen],fun j c hj=>?_⟩
   obtain⟨u,hu,hi,h1⟩:=qX j c hj
   have vP:j < p.len*m:=by rw[← hlen]; exact (List.getElem?_eq_some_iff.1 hj).1
   exact⟨u,by rw[List.getElem?_take,if_pos vP]; simpa using hu,hi,h1⟩
  have key:es.length=p.len/\eZ w I es m (arr.toList.take (p.len*m)):=by
   rcases h with h|⟨h1,h⟩
   ·exact gI iP (.inl rfl) h rX tO
   ·exact gI iP (.inr h1) h rX tO
  obtain⟨e1,e2⟩:=key
  have G3:cr w I es m g 0:=e2.at (fun j v hj=>by
   have:=om je 0 (p.len*m) j v (by simpa using hj)
   simpa using this) (fun _ h=>h) (fun _ _=>rfl)
  exact⟨some ⟨g,0,none⟩,p.cap,by rw[hw,e1],by omega,by omega,fun g' o' e=>by cases e; exact cr.mono hI (fun _ _=>rfl) _ _ _ _ rfl G3,fun _=>⟨g,0,rfl,tY ha,iP⟩⟩
 | loc=>exact h.elim
 | mp=>exact h.elim
theorem Qn {fz:List Nat} (hH:aE I β S w) {x y:PV} {v:Value} (h1:KW S fz x y) (hu:y.dx = []) (hx:x.Is w I β v):y.Is w (fV I β S fz) no v:=by
 unfold KW at h1
 split at h1
 ·replace h1:=bp h1
  obtain⟨hl,h1⟩:=h1
  replace h1:=az h1
  obtain⟨b,hb,h1⟩:=h1
  exact v8 hH (dJ.1 hl) hb h1 hx
 ·exact PV.Is.mono (fun _ h=>.inl h) (fun _ _=>rfl) y β no v (fun l p hl=>by rw[hu] at hl; cases hl) (se h1 w I β v hx)
theorem Ch {fz:List Nat} (hH:aE I β S w):∀ {args args':List PV} {vals:List Value},pa (KW S fz) args args'->dZ args' = []->bJ w I args β vals->bJ w (fV I β S fz) args' no vals
 | [],[],[],_,_,_=>by simp only[bJ]
 | x::xs,y::ys,v::vs,h,hu,hx=>by
  simp only[bJ] at hx ⊢
  have FN:y.dx = []/\dZ ys = []:=by simpa [dZ] using hu
  exact⟨Qn hH h.1 FN.1 hx.1,Ch hH h.2 FN.2 hx.2⟩
 | [],_::_,_,h,_,_=>h.elim
 | _::_,[],_,h,_,_=>h.elim
 | [],[],_::_,_,_,hx=>by simp only[bJ] at hx
 | _::_,_::_,[],_,_,hx=>by simp only[bJ] at hx
theorem mz {fz:List Nat} (hH:aE I β S w):∀ {args args':List PV} {vals:List Value},pa (XA S fz) args args'->dZ args' = []->bJ w I args β vals->bJ w (fV I β S fz) args' no vals
 | [],[],[],_,_,_=>by simp only[bJ]
 | x::xs,y::ys,v::vs,h,hu,hx=>by
  simp only[bJ] at hx ⊢
  have FN:y.dx = []/\dZ ys = []:=by simpa [dZ] using hu
  refine⟨?_,mz hH h.2 FN.2 hx.2⟩
  have h1:=h.1
  unfold XA at h1
  split at h1
  ·obtain⟨hl,h1⟩:=bp h1
   obtain⟨b,hb,h1⟩:=az h1
   exact v8 hH (dJ.1 hl) hb h1 hx.1
  ·have qf:=hx.1
   simp only[PV.Is] at qf ⊢
   obtain⟨vs',rfl,qf⟩:=qf
   exact⟨vs',rfl,Ch hH h1 (by simpa [PV.dx] using FN.1) qf⟩
  ·exact PV.Is.mono (fun _ h=>.inl h) (fun _ _=>rfl) y β no v (fun l p hl=>by rw[FN.1] at hl; cases hl) (e9 h1 w I β v hx.1)
 | [],_::_,_,h,_,_=>h.elim
 | _::_,[],_,h,_,_=>h.elim
 | [],[],_::_,_,_,hx=>by simp only[bJ] at hx
 | _::_,_::_,[],_,_,hx=>by simp only[bJ] at hx
theorem KX {fz:List Nat} (hH:aE I β S w) (hM:dd G I w) {g:Nat} (h:fV I β S fz g):g < w.heap.size:=by
 rcases h with h|⟨l,b,p,o,_,hb,aH,_,hp,ha⟩
 ·exact hM.av g h
 ·exact hH.dH ⟨l,b,p,o,hb,aH,hp,ha⟩
theorem oE {fz:List Nat} (hH:aE I β S w) (hM:dd G I w):dd G (fV I β S fz) w :=
 ⟨fun g hg=>KX hH hM hg,fun g cs hg=>⟨.inl (hM.nY g cs hg).1,dc.mono (fun _ h=>.inl h) (fun _ _=>rfl) _ _ _ rfl (hM.nY g cs hg).2⟩,hM.row⟩
theorem G_ (g:Nat):¬ Wr no ([]:List au) g:=fun ⟨l,b,p,o,h1,_⟩=>by simp at h1
theorem ah.Ha {f:FuncId} {args args':List PV} {r:PV} {K:PV->List au->Prop} (h:ah G f args' r) (fz:List Nat) (hz:V8 S fz=true) (hle:pa (XA S fz) args args') (hu:dZ args' = []) (hr:r.dx = []) (hK:Ov (kA fz S) (K r)):Spec G f args S [] K:=by
 refine Spec.intro h.run.1 fun I β w vals hH hM hA=>?_
 have h0:aE (fV I β S fz) no ([]:List au) w:=⟨fun _ _=>rfl,fun l b hl=>by simp at hl⟩
 refine (h.run.2 _ no w vals h0 (oE hH hM) (mz hH hle hu hA)).mono fun e w' ⟨v,r',S',I',aN,he,p6,hi,_,mw,hE,_,_⟩=>?_
 subst p6
 have hold:∀ g,g < w.heap.size->w'.heap[g]?=w.heap[g]?:=fun g hg=>hE.block g hg (G_ g)
 have G4:∀ g,g < w.heap.size->I' g->fV I β S fz g:=fun g hg h=>(hE.new g hg h).elim id fun h=>absurd h (G_ g)
 have uB:∀ g,I g->I' g:=fun g h=>hE.av g (.inl h)
 have v5:∀ (l:Nat) (b:au),(kA fz S)[l]?=some b->∃ b0,S[l]?=some b0/\b = { b0 with m:=lN (kt l fz) b0.m }:=fun l b hb=>by
  unfold kA at hb
  rw[fD,Option.map_eq_some_iff] at hb
  obtain⟨b0,h1,h2⟩:=hb
  rw[Nat.zero_add] at h2
  exact⟨b0,h1,h2.symm⟩
 refine⟨v,r',kA fz S,I',β,he,vU hK,mv hr hi,⟨fun l hl=>hH.qS l (by unfold kA at hl; rw[gi] at hl; exact hl),fun l b hb aH=>?_⟩,mw,⟨hE.os,hE.tape,hE.output,hE.size,fun g hg _=>hold g hg,fun g _ h=>?_,uB,fun g hg h=>?_⟩,by unfold kA; rw[gi]; exact Nat.le_refl _,fun _ _ _=>rfl⟩
 ·obtain⟨b0,gw,rfl⟩:=v5 l b hb
  obtain⟨p,hp,hk⟩:=hH.gA l b0 gw aH
  have own:∀ {g o:Nat} {fr:Nat × Nat},p.a=some (g,o)->g < w.heap.size->Own I β S l g fr b0->Own I' β (kA fz S) l g fr { b0 with m:=lN (kt l fz) b0.m }:=fun {g o fr} ha hg ho=>by
   refine⟨fun hm=>?_,fun hm=>?_⟩
   ·have lG:kt l fz=false/\b0.m≠.r:=by
     cases hc:kt l fz with
     | true=>simp only[hc,lN,cond_true,ne_eq,not_true_eq_false] at hm
     | false=>exact⟨rfl,by simpa only [hc,lN,cond_false] using hm⟩
    obtain⟨h1,h2,h3⟩:=ho.1 lG.2
    refine⟨h1,fun hI=>?_,fun l2 b2 dt fM bS p2 g2 o2 iv ir=>?_⟩
    ·rcases G4 g hg hI with hI|⟨l2,b2,p2,o2,fM,dO,bS,_,iv,ir⟩
     ·exact h2 hI
     ·refine h3 l2 b2 (fun e=>?_) dO bS p2 g o2 iv ir rfl
      subst e
      rw[dJ.2 fM] at lG
      cases lG.1
    ·obtain⟨b3,kv,rfl⟩:=v5 l2 b2 fM
     exact h3 l2 b3 dt kv bS p2 g2 o2 iv ir
   ·cases hc:kt l fz with
    | true =>
     obtain⟨b1,Qo,k1,k2⟩:=AO hz (dJ.1 hc)
     rw[gw] at Qo; cases Qo
     exact hE.av g (.inr ⟨l,b0,p,o,dJ.1 hc,gw,k1,k2,hp,ha⟩)
    | false=>exact uB g (ho.2 (by simpa only [hc,lN,cond_false] using hm))
  have FY:∀ g,I g->w'.heap[g]?=w.heap[g]?:=fun g hg=>hold g (hM.av g hg)
  refine⟨p,hp,?_⟩
  split at hk
  ·rename_i cP
   obtain⟨g,o,arr,ty,fr,h1,h2,h3,ho⟩:=hk
   have hg:=bR h2
   simp only[cP]
   exact⟨g,o,arr,ty,fr,h1,(hold g hg).trans h2,bB.mono uB FY (fun _ _ h=>h) h3,own h1 hg ho⟩
  ·rename_i cP
   obtain⟨g,arr,fr,h1,h2,h3,ho,h4⟩:=hk
   have hg:=bR h2
   simp only[cP]
   exact⟨g,arr,fr,h1,(hold g hg).trans h2,bB.mono uB FY (fun _ _ h=>h) h3,own h1 hg ho,h4⟩
  ·rename_i cP
   obtain⟨h1,hk⟩:=hk
   simp only[cP]
   refine⟨h1,?_⟩
   rcases hk with h|⟨g,arr,fr,h2,h3,h4,ho,h5⟩
   ·exact .inl h
   ·have hg:=bR h3
    exact .inr ⟨g,arr,fr,h2,(hold g hg).trans h3,cr.mono uB FY _ _ _ _ (hold g hg) h4,own h2 hg ho,h5⟩
  ·rename_i cP
   obtain⟨g,h1,h2,ho⟩:=hk
   have hg:g < w.heap.size:=by obtain⟨es,clock,hb,_⟩:=h2; exact bR hb
   simp only[cP]
   exact⟨g,h1,h2.og (hold g hg),own h1 hg ho⟩
 ·obtain⟨l,b,p,o,h1,h2,h3,h4,h5⟩:=h
  obtain⟨b0,gw,rfl⟩:=v5 l b h1
  refine⟨l,b0,p,o,gw,h2,?_,h4,h5⟩
  cases hc:kt l fz with
  | true=>simp only[hc,lN,cond_true] at h3; cases h3
  | false=>simpa only [hc,lN,cond_false] using h3
 ·rcases G4 g hg h with h|⟨l,b,p,o,hl,hb,aH,hm,hp,ha⟩
  ·exact .inl h
  ·cases xE:b.m with
   | w=>exact .inr ⟨l,b,p,o,hb,aH,xE,hp,ha⟩
   | p=>rw[xE] at hm; cases hm
   | r =>
    obtain⟨arr,ty,fr,_,ho⟩:=(hH.gA l b hb aH).place hp ha
    exact .inl (ho.2 xE)
theorem ah.useB {f:FuncId} {args args':List PV} {r:PV} {K:PV->List au->Prop} (h:ah G f args' r) (fz:List Nat) (hle:pa (XA S fz) args args') (hu:dZ args' = []) (hr:r.G9=true) (hK:K r S):Spec G f args S [] K:=by
 refine Spec.intro h.run.1 fun I β w vals hH hM hA=>?_
 have h0:aE (fV I β S fz) no ([]:List au) w:=⟨fun _ _=>rfl,fun l b hl=>by simp at hl⟩
 refine (h.run.2 _ no w vals h0 (oE hH hM) (mz hH hle hu hA)).mono fun e w' ⟨v,r',S',I',aN,he,p6,hi,_,mw,hE,_,_⟩=>?_
 subst p6
 have hold:∀ g,g < w.heap.size->w'.heap[g]?=w.heap[g]?:=fun g hg=>hE.block g hg (G_ g)
 have FY:∀ g,I g->w'.heap[g]?=w.heap[g]?:=fun g hg=>hold g (hM.av g hg)
 refine⟨v,r',S,I,β,he,hK,G' hr hi,⟨hH.qS,fun l b hb aH=>(hH.gA l b hb aH).mono (fun _ h=>h) FY (fun _ _ h=>h) fun p g o hp ha=>?_⟩,⟨fun g hg=>Nat.lt_of_lt_of_le (hM.av g hg) hE.size,fun g cs hg=>⟨(hM.nY g cs hg).1,dc.mono (fun _ h=>h) FY _ _ _ (FY g (hM.nY g cs hg).1) (hM.nY g cs hg).2⟩,fun g cs hg=>by
   obtain⟨arr,ty,fr,h1,h2⟩:=hM.row g cs hg
   exact⟨arr,ty,fr,(FY g (hM.nY g cs hg).1).trans h1,h2⟩⟩,
  ⟨hE.os,hE.tape,hE.output,hE.size,fun g hg _=>hold g hg,fun g _ h=>h,fun _ h=>h,fun _ _ h=>.inl h⟩,Nat.le_refl _,fun _ _ _=>rfl⟩
 obtain⟨arr,ty,fr,hh,ho⟩:=(hH.gA l b hb aH).place hp ha
 exact⟨hold g (bR hh),fun hr=>⟨(ho.1 hr).2.1,(ho.1 hr).2.2⟩⟩
end
def TM.yn:TM->TM
 | .nil=>.nil
 | .node v l r=>.node (match v with
  | some (.tup _)=>none
  | v=>v) l.yn r.yn
def aV.yo (s:aV) (c:Code) (vs:List (Nat × PV)):aV:=match s with
 | ⟨n,t,st,b,rl⟩=>⟨n,(ig vs (sq (sn c) t)).yn,st,b,rl⟩
theorem SW.iw {G:Gx} {s:aV} (hG:nA G) (R:List (Nat × aG)) {α:Type} {c:Code} {Q:X->aV->Prop} (hc:cp R c=true) (vs:α->List (Nat × PV)) (μ:α->Nat) (x0:α) (N:Nat) (h0:ee G.cx (Qi 0 s.st) s (s.yo c (vs x0)))
  (h:∀ x,V6 (s.yo c (vs x)) (pw G R N c (sd (fun s'=>∃ y,μ y < μ x/\ee G.cx (Qi 0 s.st) s' (s.yo c (vs y))) Q))):SW G (.loop c) Q s :=
 SW.inv hG (fun x=>s.yo c (vs x)) μ (N:=N) hc x0 (da hG.ok h0) (fun x s'=>∃ y,μ y < μ x/\ee G.cx (Qi 0 s.st) s' (s.yo c (vs y))) (fun x s' ⟨y,hy,hs⟩=>⟨y,hy,da hG.ok hs⟩) fun x=>sk (h x)
def aV.headD (s:aV) (c:Code) (vs:List (Nat × PV)) (ex:List au):aV:=match s with
 | ⟨n,t,st,b,rl⟩=>⟨n,(ig vs (sq (sn c) t)).yn,st++ex,b,rl⟩
theorem SW.loopD {G:Gx} {s:aV} (hG:nA G) (R:List (Nat × aG)) {α:Type} {c:Code} {Q:X->aV->Prop} (hc:cp R c=true) (vs:α->List (Nat × PV)) (ex:α->List au) (μ:α->Nat) (x0:α) (N:Nat) (OB:gS) (h0:ee G.cx (Qi 0 s.st++OB) s (s.headD c (vs x0) (ex x0)))
  (h:∀ x,V6 (s.headD c (vs x) (ex x)) (pw G R N c (sd (fun s'=>∃ y π,μ y < μ x/\ee G.cx (Qi 0 s.st++π) s' (s.headD c (vs y) (ex y))) Q))):SW G (.loop c) Q s :=
 SW.inv hG (fun x=>s.headD c (vs x) (ex x)) μ (N:=N) hc x0 (da hG.ok h0) (fun x s'=>∃ y π,μ y < μ x/\ee G.cx (Qi 0 s.st++π) s' (s.headD c (vs y) (ex y))) (fun x s' ⟨y,_,hy,hs⟩=>⟨y,hy,da hG.ok hs⟩) fun x=>sk (h x)
def gB (b b':au):Prop:=match b,b' with
 | ⟨k,ty,n,m,live,cs⟩,⟨k',ty',n',m',OI,OG⟩=>bif Nat.beq ty ty' && Nat.beq n n' && Md.beq m m' && live && OI && BK.beq k k' then (match k with
  | .dyn=>cs=OG
  | .mp=>cs=OG
  | _=>pa z9 cs OG) else False
def OJ:List au->List au->(List au->Prop)->Prop
 | [],T,k=>k T
 | b'::S,b::st,k=>gB b b'/\OJ S st k
 | _::_,[],_=>False
def KY (st S:List au) (k:List au->Prop):Prop:=OJ S st k
def D2:List au->List au->(List au->Prop)->Prop
 | [],T,k=>k T
 | b::l,T,k=>D2 l T fun r=>k (b::r)
def kQ:List au->List au->Bool
 | [],[]=>true
 | a::S,b::T=>a.live && Md.beq a.m b.m && kQ S T
 | _,_=>false
theorem v9:∀ {S T:List au} {k:List au->Prop},D2 S T k->k (S++T)
 | [],_,_,h=>h
 | b::l,T,k,h=>v9 (S:=l) h
theorem BK.nF {m n:BK} (h:BK.beq m n=true):m=n:=by cases m<;>cases n<;>first|rfl|cases h
theorem de {b b':au} (h:gB b b'):b.ty=b'.ty/\b.size=b'.size/\b.m=b'.m/\b.live=true/\b'.live=true/\b.k=b'.k/\((b.k.tN=false/\b.cs=b'.cs)\/(b.k.tN=true/\pa z9 b.cs b'.cs)):=by
 obtain⟨k,ty,n,m,live,cs⟩:=b
 obtain⟨k',ty',n',m',OI,OG⟩:=b'
 obtain⟨hc,h⟩:=bp h
 simp only[Bool.and_eq_true] at hc
 obtain⟨⟨⟨⟨⟨h1,h2⟩,h3⟩,h4⟩,h5⟩,h6⟩:=hc
 refine⟨Nat.eq_of_beq_eq_true h1,Nat.eq_of_beq_eq_true h2,Md.nF h3,h4,h5,BK.nF h6,?_⟩
 cases k with
 | dyn=>exact .inl ⟨rfl,h⟩
 | mp=>exact .inl ⟨rfl,h⟩
 | loc=>exact .inr ⟨rfl,h⟩
 | arr=>exact .inr ⟨rfl,h⟩
theorem v_:∀ {S st:List au} {k:List au->Prop},KY st S k->∃ pd T,st=pd++T/\pd.length=S.length/\k T/\∀ (l:Nat) (b b':au),pd[l]?=some b->S[l]?=some b'->gB b b'
 | [],T,k,h=>⟨[],T,rfl,rfl,h,fun l b b' hb=>by simp at hb⟩
 | b'::S,b::st,k,h=>by
  obtain⟨pd,T,rfl,hl,hk,ha⟩:=v_ (S:=S) (st:=st) h.2
  refine⟨b::pd,T,rfl,by simp[hl],hk,fun l c c' hc vO=>?_⟩
  cases l with
  | zero=>simp at hc vO; subst hc; subst vO; exact h.1
  | succ l=>exact ha l c c' (by simpa using hc) (by simpa using vO)
 | _::_,[],_,h=>h.elim
theorem oF:∀ {S T:List au},kQ S T=true->S.length=T.length/\∀ (l:Nat) (a b:au),S[l]?=some a->T[l]?=some b->a.live=true/\a.m=b.m
 | [],[],_=>⟨rfl,fun l a b h=>by simp at h⟩
 | a::S,b::T,h=>by
  simp only[kQ,Bool.and_eq_true] at h
  obtain⟨h1,h2⟩:=oF h.2
  refine⟨by simp[h1],fun l c d hc hd=>?_⟩
  cases l with
  | zero=>simp at hc hd; subst hc; subst hd; exact⟨h.1.1,Md.nF h.1.2⟩
  | succ l=>exact h2 l c d (by simpa using hc) (by simpa using hd)
 | [],_::_,h=>by simp[kQ] at h
 | _::_,[],h=>by simp[kQ] at h
section
variable {w w':World} {I I':Nat->Prop} {β aN:ay} {G:Gx} {s:aV} {a:Act} {st dY:List au}
theorem Spec.yp {f:FuncId} {args args':List PV} {r0:PV} {S0 S1:List au} {K:PV->List au->Prop} (h:Spec G f args' S0 [] fun r S'=>r=r0/\S'=S1) (hm:kQ S0 S1=true) (gx:S0.all (ye S0.length)=true) (hu:(dZ args').all (fun l=>Nat.blt l S0.length)=true)
  (sw:r0.dx.all (fun l=>Nat.blt l S0.length)=true) (hle:pa ki args args') (hK:KY st S0 fun T=>yd S1 fun S1=>D2 S1 T (K r0)):Spec G f args st [] K:=by
 obtain⟨pd,T,rfl,FP,hk,Hb⟩:=v_ hK
 replace hk:=v9 (oB hk)
 obtain⟨Kb,KL⟩:=oF hm
 refine Spec.intro h.run.1 fun I β w vals hH hM hA=>?_
 let fO:ay:=fun l=>if l < S0.length then β l else none
 have jS:∀ l,l < S0.length->fO l=β l:=fun l hl=>if_pos hl
 have AP:∀ {l p},fO l=some p->l < S0.length/\β l=some p:=fun {l p} h=>by
  by_cases hl:l < S0.length
  ·exact⟨hl,by rw[← jS l hl]; exact h⟩
  ·have:fO l=none:=if_neg hl
   rw[this] at h; cases h
 have z_:∀ {l:Nat} {b':au},S0[l]?=some b'->l < S0.length/\∃ b,(pd++T)[l]?=some b/\gB b b':=fun {l b'} di=>by
  have cI:l < S0.length:=(List.getElem?_eq_some_iff.1 di).1
  have AQ:l < pd.length:=by omega
  refine⟨cI,pd[l],by rw[List.getElem?_append_left AQ]; simp[AQ],Hb l _ b' (by simp[AQ]) di⟩
 have low:∀ {l:Nat} {b':au},S0[l]?=some b'->b'.k.tN=true->∀ c∈b'.cs,∀ m∈c.dx,m < S0.length:=fun {l b'} di hk c hc m mY=>by
  rw[List.all_eq_true] at gx
  have:=gx b' (List.mem_of_getElem? di)
  unfold ye at this
  have du:b'.cs.all (fun c=>c.dx.all fun l=>Nat.blt l S0.length)=true:=by
   cases cP:b'.k with
   | dyn=>rw[cP] at hk; cases hk
   | mp=>rw[cP] at hk; cases hk
   | loc=>rw[cP] at this; exact this
   | arr=>rw[cP] at this; exact this
  rw[List.all_eq_true] at du
  have:=du c hc
  rw[List.all_eq_true] at this
  exact Nat.le_of_ble_eq_true (this m mY)
 have OK:aE I fO S0 w:=by
  refine⟨fun l hl=>if_neg (by omega),fun l b' di aH=>?_⟩
  obtain⟨cI,b,hb,Hc⟩:=z_ di
  obtain⟨e1,e2,e3,e4,e5,e6,e7⟩:=de Hc
  obtain⟨p,hp,hB⟩:=hH.gA l b hb e4
  have own:∀ {g:Nat} {fr:Nat × Nat},Own I β (pd++T) l g fr b->Own I fO S0 l g fr b':=fun {g fr} ho=>by
   refine⟨fun hr=>?_,fun hr=>ho.2 (by rw[e3]; exact hr)⟩
   obtain⟨h1,h2,h3⟩:=ho.1 (by rw[e3]; exact hr)
   refine⟨h1,h2,fun l2 b2 dt fM bS p2 g2 o2 iv ir=>?_⟩
   obtain⟨_,b3,kv,lO⟩:=z_ fM
   exact h3 l2 b3 dt kv (de lO).2.2.2.1 p2 g2 o2 (AP iv).2 ir
  have cells:b'.k.tN=true->∀ {arr:Array Value} {o:Nat},bB w I β b.cs arr o->bB w I fO b'.cs arr o:=fun hk {arr o} hc i c hi=>by
   have jv:bB w I β b'.cs arr o:=by
    rcases e7 with ⟨hd,_⟩|⟨_,h7⟩
    ·(rw[e6,hk] at hd; cases hd)
    ·exact iL h7 hc
   obtain⟨u,FN,OF,h1⟩:=jv i c hi
   exact⟨u,FN,PV.Is.mono (fun _ h=>h) (fun _ _=>rfl) c β fO u (fun m p mY dA=>by rw[jS m (low di hk c (List.mem_of_getElem? hi) m mY)]; exact dA) OF,h1⟩
  refine⟨p,by rw[jS l cI]; exact hp,?_⟩
  split at hB
  ·rename_i cP
   have jf:b'.k = .loc:=by rw[← e6]; exact cP
   obtain⟨g,o,arr,ty,fr,h1,h2,h3,ho⟩:=hB
   rw[jf]
   exact⟨g,o,arr,ty,fr,h1,h2,cells (by rw[jf]; rfl) h3,own ho⟩
  ·rename_i cP
   have jf:b'.k = .arr:=by rw[← e6]; exact cP
   obtain⟨g,arr,fr,h1,h2,h3,ho,h4,h5,h6,h7,h8⟩:=hB
   have hlen:b'.cs.length=b.cs.length:=by
    rcases e7 with ⟨hd,_⟩|⟨_,h9⟩
    ·rw[cP] at hd; cases hd
    ·exact (mu h9).symm
   rw[jf]
   exact⟨g,arr,fr,h1,by rw[← e1]; exact h2,cells (by rw[jf]; rfl) h3,own ho,by rw[hlen,← e2]; exact h4,h5,h6,by rw[← e2]; exact h7,by rw[← e2]; exact h8⟩
  ·rename_i cP
   have jf:b'.k = .dyn:=by rw[← e6]; exact cP
   have ja:b.cs=b'.cs:=by
    rcases e7 with ⟨_,h9⟩|⟨hd,_⟩
    ·exact h9
    ·(rw[cP] at hd; cases hd)
   obtain⟨⟨h1,h2,h3,h4⟩,hB⟩:=hB
   rw[jf]
   refine⟨⟨by rw[← e2]; exact h1,by rw[← ja]; exact h2,h3,h4⟩,?_⟩
   rcases hB with h|⟨g,arr,fr,h5,h6,h7,ho,h8⟩
   ·exact .inl h
   ·exact .inr ⟨g,arr,fr,h5,by rw[← e1]; exact h6,by rw[← ja,← e2]; exact h7,own ho,by rw[← e2]; exact h8⟩
  ·rename_i cP
   have jf:b'.k = .mp:=by rw[← e6]; exact cP
   have ja:b.cs=b'.cs:=by
    rcases e7 with ⟨_,h9⟩|⟨hd,_⟩
    ·exact h9
    ·(rw[cP] at hd; cases hd)
   obtain⟨g,h1,h2,ho⟩:=hB
   rw[jf]
   exact⟨g,h1,by rw[← ja]; exact h2,own ho⟩
 have Qp:bJ w I args' fO vals:=by
  have:=jx (fun _ _=>e9) hle hA
  refine bJ.mono (fun _ h=>h) (fun _ _=>rfl) args' β fO vals (fun m p mY dA=>?_) this
  rw[List.all_eq_true] at hu
  rw[jS m (Nat.le_of_ble_eq_true (hu m mY))]; exact dA
 refine (h.run.2 I fO w vals OK hM Qp).mono fun e w' ⟨v,r,S',I',aN,he,⟨e1,e2⟩,hi,oG,mw,hE,hlen,nz⟩=>?_
 subst e1; subst e2
 have yq:∀ l,l < S0.length->aN l=β l:=fun l hl=>(nz l hl (by simp)).trans (jS l hl)
 have D3:∀ l p,aN l=some p->β l=some p:=fun l p hp=>by
  have:l < S0.length:=by have:=oG.lt hp; omega
  rw[← yq l this]; exact hp
 have Hd:∀ {g},Wr fO S0 g->Wr β (pd++T) g:=fun {g} ⟨l,b,p,o,h1,h2,h3,h4,h5⟩=>by
  obtain⟨cI,b2,dO,G6⟩:=z_ h1
  obtain⟨_,_,q3,q4,_⟩:=de G6
  exact⟨l,b2,p,o,dO,q4,by rw[q3]; exact h3,(AP h4).2,h5⟩
 have V9:∀ {g},Wr β (S'++T) g->(Wr aN S' g)\/∃ l b p o,S0.length<=l/\(pd++T)[l]?=some b/\b.live=true/\b.m = .w/\β l=some p/\p.a=some (g,o):=fun {g} ⟨l,b,p,o,h1,h2,h3,h4,h5⟩=>by
  by_cases hl:l < S'.length
  ·rw[List.getElem?_append_left hl] at h1
   exact .inl ⟨l,b,p,o,h1,h2,h3,by rw[yq l (by omega)]; exact h4,h5⟩
  ·rw[List.getElem?_append_right (by omega)] at h1
   refine .inr ⟨l,b,p,o,by omega,?_,h2,h3,h4,h5⟩
   rw[List.getElem?_append_right (by omega),FP,Kb]; exact h1
 
 have apart:∀ {l:Nat} {b:au} {p:ph} {g o:Nat},S0.length<=l->(pd++T)[l]?=some b->b.live=true->β l=some p->p.a=some (g,o)->¬ Wr fO S0 g:=fun {l b p g o} hl hb aH hp ha ⟨l2,b2,p2,o2,h1,h2,h3,h4,h5⟩=>by
  obtain⟨cI,b3,kv,lO⟩:=z_ h1
  obtain⟨_,_,q3,q4,_⟩:=de lO
  obtain⟨arr,ty,fr,_,ho⟩:=(hH.gA l2 b3 kv q4).place (AP h4).2 h5
  exact (ho.1 (by rw[q3,h3]; nofun)).2.2 l b (by omega) hb aH p g o hp ha rfl
 refine⟨v,r,S'++T,I',β,he,hk,PV.Is.mono (fun _ h=>h) (fun _ _=>rfl) r aN β v (fun m p _ hp=>D3 m p hp) hi,⟨fun l hl=>hH.qS l (by simp only[List.length_append] at hl ⊢; omega),fun l b hb aH=>?_⟩,mw,⟨hE.os,hE.tape,hE.output,hE.size,fun g hg hn=>hE.block g hg fun h=>hn (Hd h),fun g hg h=>?_,hE.av,fun g hg h=>(hE.new g hg h).imp id Hd⟩,by simp only[List.length_append]; omega,fun _ _ _=>rfl⟩
 ·by_cases hl:l < S'.length
  ·rw[List.getElem?_append_left hl] at hb
   have hB:=oG.gA l b hb aH
   refine hB.mono (fun _ h=>h) (fun _ _=>rfl) D3 fun p g o hp ha=>⟨rfl,fun hr=>?_⟩
   obtain⟨arr,ty,fr,hh,ho⟩:=hB.place hp ha
   obtain⟨h1,h2,h3⟩:=ho.1 hr
   refine⟨h2,fun l2 b2 dt dO bS p2 g2 o2 iv ir=>?_⟩
   by_cases fM:l2 < S'.length
   ·rw[List.getElem?_append_left fM] at dO
    exact h3 l2 b2 dt dO bS p2 g2 o2 (by rw[yq l2 (by omega)]; exact iv) ir
   ·rw[List.getElem?_append_right (by omega)] at dO
    have He:(pd++T)[l2]?=some b2:=by rw[List.getElem?_append_right (by omega),FP,Kb]; exact dO
    obtain⟨b0,gw⟩:∃ b0,S0[l]?=some b0:=⟨S0[l]'(by omega),by simp[show l < S0.length by omega]⟩
    obtain⟨_,b3,kv,lO⟩:=z_ gw
    obtain⟨_,_,q3,q4,_⟩:=de lO
    obtain⟨_,q5⟩:=KL l b0 b gw hb
    obtain⟨_,_,_,_,XB⟩:=(hH.gA l b3 kv q4).place (D3 l p hp) ha
    exact (XB.1 (by rw[q3,q5]; exact hr)).2.2 l2 b2 dt He bS p2 g2 o2 iv ir
  ·rw[List.getElem?_append_right (by omega)] at hb
   have di:(pd++T)[l]?=some b:=by rw[List.getElem?_append_right (by omega),FP,Kb]; exact hb
   have hB:=hH.gA l b di aH
   have same:∀ {p g o},β l=some p->p.a=some (g,o)->g < w.heap.size/\w'.heap[g]?=w.heap[g]?:=fun {p g o} hp ha=>by
    have cI:=hH.dH ⟨l,b,p,o,di,aH,hp,ha⟩
    exact⟨cI,hE.block g cI (apart (by omega) di aH hp ha)⟩
   refine hB.mono hE.av (fun g hg=>hE.block g (hM.av g hg) fun hw=>?_) (fun _ _ h=>h) fun p g o hp ha=>⟨(same hp ha).2,fun hr=>?_⟩
   ·exact OK.lC hw hg
   ·obtain⟨arr,ty,fr,hh,ho⟩:=hB.place hp ha
    obtain⟨h1,h2,h3⟩:=ho.1 hr
    refine⟨fun hI=>(hE.new g (same hp ha).1 hI).elim h2 (apart (by omega) di aH hp ha),fun l2 b2 dt dO bS p2 g2 o2 iv ir=>?_⟩
    by_cases fM:l2 < S'.length
    ·obtain⟨b0,gw⟩:∃ b0,S0[l2]?=some b0:=⟨S0[l2]'(by omega),by simp[show l2 < S0.length by omega]⟩
     obtain⟨_,b3,kv,lO⟩:=z_ gw
     exact h3 l2 b3 dt kv (de lO).2.2.2.1 p2 g2 o2 iv ir
    ·rw[List.getElem?_append_right (by omega)] at dO
     exact h3 l2 b2 dt (by rw[List.getElem?_append_right (by omega),FP,Kb]; exact dO) bS p2 g2 o2 iv ir
 ·rcases V9 h with h|⟨l,b,p,o,_,h2,h3,h4,h5,h6⟩
  ·exact Hd (hE.wr g hg h)
  ·exact⟨l,b,p,o,h2,h3,h4,h5,h6⟩
def sB:List au->List au->Prop
 | [],[]=>True
 | b::S,b'::S'=>gB b b'/\sB S S'
 | _,_=>False
theorem q9:∀ {S S':List au},sB S S'->S.length=S'.length/\∀ (l:Nat) (b b':au),S[l]?=some b->S'[l]?=some b'->gB b b'
 | [],[],_=>⟨rfl,fun l b b' h=>by simp at h⟩
 | b::S,b'::S',h=>by
  obtain⟨h1,h2⟩:=q9 h.2
  refine⟨by simp[h1],fun l c c' hc vO=>?_⟩
  cases l with
  | zero=>simp at hc vO; subst hc; subst vO; exact h.1
  | succ l=>exact h2 l c c' (by simpa using hc) (by simpa using vO)
 | [],_::_,h=>h.elim
 | _::_,[],h=>h.elim
theorem pD {S S':List au} (h:sB S S') {l:Nat} {b':au} (hb:S'[l]?=some b'):∃ b,S[l]?=some b/\gB b b':=by
 obtain⟨h1,h2⟩:=q9 h
 have hl:l < S.length:=by rw[h1]; exact (List.getElem?_eq_some_iff.1 hb).1
 exact⟨S[l],by simp[hl],h2 l _ _ (by simp[hl]) hb⟩
theorem aE.le {S S':List au} (h:sB S S') (hH:aE I β S w):aE I β S' w:=by
 refine⟨fun l hl=>hH.qS l (by rw[(q9 h).1]; exact hl),fun l b' di aH=>?_⟩
 obtain⟨b,hb,Hc⟩:=pD h di
 obtain⟨e1,e2,e3,e4,e5,e6,e7⟩:=de Hc
 obtain⟨p,hp,hB⟩:=hH.gA l b hb e4
 have own:∀ {g:Nat} {fr:Nat × Nat},Own I β S l g fr b->Own I β S' l g fr b':=fun {g fr} ho=>by
  refine⟨fun hr=>?_,fun hr=>ho.2 (by rw[e3]; exact hr)⟩
  obtain⟨h1,h2,h3⟩:=ho.1 (by rw[e3]; exact hr)
  refine⟨h1,h2,fun l2 b2 dt fM bS p2 g2 o2 iv ir=>?_⟩
  obtain⟨b3,kv,lO⟩:=pD h fM
  exact h3 l2 b3 dt kv (de lO).2.2.2.1 p2 g2 o2 iv ir
 have cells:b'.k.tN=true->∀ {arr:Array Value} {o:Nat},bB w I β b.cs arr o->bB w I β b'.cs arr o:=fun hk {arr o} hc=>by
  rcases e7 with ⟨hd,_⟩|⟨_,h7⟩
  ·(rw[e6,hk] at hd; cases hd)
  ·exact iL h7 hc
 refine⟨p,hp,?_⟩
 split at hB
 ·rename_i cP
  have jf:b'.k = .loc:=by rw[← e6]; exact cP
  obtain⟨g,o,arr,ty,fr,h1,h2,h3,ho⟩:=hB
  rw[jf]
  exact⟨g,o,arr,ty,fr,h1,h2,cells (by rw[jf]; rfl) h3,own ho⟩
 ·rename_i cP
  have jf:b'.k = .arr:=by rw[← e6]; exact cP
  obtain⟨g,arr,fr,h1,h2,h3,ho,h4,h5,h6,h7,h8⟩:=hB
  have hlen:b'.cs.length=b.cs.length:=by
   rcases e7 with ⟨hd,_⟩|⟨_,h9⟩
   ·rw[cP] at hd; cases hd
   ·exact (mu h9).symm
  rw[jf]
  exact⟨g,arr,fr,h1,by rw[← e1]; exact h2,cells (by rw[jf]; rfl) h3,own ho,by rw[hlen,← e2]; exact h4,h5,h6,by rw[← e2]; exact h7,by rw[← e2]; exact h8⟩
 ·rename_i cP
  have jf:b'.k = .dyn:=by rw[← e6]; exact cP
  have ja:b.cs=b'.cs:=by
   rcases e7 with ⟨_,h9⟩|⟨hd,_⟩
   ·exact h9
   ·(rw[cP] at hd; cases hd)
  obtain⟨⟨h1,h2,h3,h4⟩,hB⟩:=hB
  rw[jf]
  refine⟨⟨by rw[← e2]; exact h1,by rw[← ja]; exact h2,h3,h4⟩,?_⟩
  rcases hB with h|⟨g,arr,fr,h5,h6,h7,ho,h8⟩
  ·exact .inl h
  ·exact .inr ⟨g,arr,fr,h5,by rw[← e1]; exact h6,by rw[← ja,← e2]; exact h7,own ho,by rw[← e2]; exact h8⟩
 ·rename_i cP
  have jf:b'.k = .mp:=by rw[← e6]; exact cP
  have ja:b.cs=b'.cs:=by
   rcases e7 with ⟨_,h9⟩|⟨hd,_⟩
   ·exact h9
   ·(rw[cP] at hd; cases hd)
  obtain⟨g,h1,h2,ho⟩:=hB
  rw[jf]
  exact⟨g,h1,by rw[← ja]; exact h2,own ho⟩
theorem Spec.kB {f:FuncId} {args:List PV} {S:List au} {rl:List Nat} {r0:PV} {S1:List au} (h:Spec G f args S rl fun x S'=>x=r0/\sB S' S1):Spec G f args S rl fun x S'=>x=r0/\S'=S1 :=
 Spec.intro h.run.1 fun I β w vals hH hM hA=>(h.run.2 I β w vals hH hM hA).mono fun e w' ⟨v,r,S',I',aN,he,⟨e1,e2⟩,hi,oG,mw,hE,hlen,nz⟩ =>
  ⟨v,r,S1,I',aN,he,⟨e1,rfl⟩,hi,oG.le e2,mw,⟨hE.os,hE.tape,hE.output,hE.size,hE.block,fun g hg ⟨l,b,p,o,h1,h2,h3,h4,h5⟩=>by
   obtain⟨b0,gw,Hb⟩:=pD e2 h1
   obtain⟨_,_,q3,q4,_⟩:=de Hb
   exact hE.wr g hg ⟨l,b0,p,o,gw,q4,by rw[q3]; exact h3,h4,h5⟩,hE.av,hE.new⟩,by rw[← (q9 e2).1]; exact hlen,nz⟩
theorem bj {r r0:PV} {S' S1:List au} (h:ki r r0) (hs:sB S' S1):∃ r',AD r r'/\(fun x S'=>x=r0/\sB S' S1) r' S':=⟨r0,e9 h,rfl,hs⟩
end
def aV.yr (s:aV) (c:Code) (vs:List (Nat × PV)) (dY:List au):aV:=match s with
 | ⟨n,t,_,b,rl⟩=>⟨n,(ig vs (sq (sn c) t)).yn,dY,b,rl⟩
theorem SW.loopW {G:Gx} {s:aV} (hG:nA G) (R:List (Nat × aG)) {α:Type} {c:Code} {Q:X->aV->Prop} (hc:cp R c=true) (vs:α->List (Nat × PV)) (stx:α->List au) (μ:α->Nat) (x0:α) (N:Nat) (π:gS) (h0:ee G.cx π s (s.yr c (vs x0) (stx x0)))
  (h:∀ x,V6 (s.yr c (vs x) (stx x)) (pw G R N c (sd (fun s'=>∃ y π,μ y < μ x/\ee G.cx π s' (s.yr c (vs y) (stx y))) Q))):SW G (.loop c) Q s :=
 SW.inv hG (fun x=>s.yr c (vs x) (stx x)) μ (N:=N) hc x0 (da hG.ok h0) (fun x s'=>∃ y π,μ y < μ x/\ee G.cx π s' (s.yr c (vs y) (stx y))) (fun x s' ⟨y,_,hy,hs⟩=>⟨y,hy,da hG.ok hs⟩) fun x=>sk (h x)
theorem aT {p:Nat->Prop}:∀ l∈([]:List Nat),p l:=fun l hl=>absurd hl List.not_mem_nil
section
variable {w w':World} {I I':Nat->Prop} {β aN:ay} {G:Gx} {s:aV} {a:Act} {st dY:List au}
theorem eZ.take {es:List PV} {n:Nat} {xs:List Value} (h:eZ w I es n xs) {k:Nat} (hk:k<=es.length):eZ w I (es.take k) n (xs.take (k*n)):=by
 have h1:k*n<=es.length*n:=Nat.mul_le_mul_right _ hk
 refine⟨by rw[List.length_take,List.length_take,h.1,Nat.min_eq_left h1,Nat.min_eq_left hk],fun i e he=>?_⟩
 rw[List.getElem?_take] at he
 split at he
 ·rename_i hi
  obtain⟨h2,h3⟩:=h.2 i e he
  refine⟨h2,fun j c hc=>?_⟩
  obtain⟨v,hv,h4⟩:=h3 j c hc
  have hj:j < n:=by rw[← h2]; exact (List.getElem?_eq_some_iff.1 hc).1
  have:i*n+n<=k*n:=by rw[← Nat.succ_mul]; exact Nat.mul_le_mul_right _ hi
  exact⟨v,by rw[List.getElem?_take,if_pos (by omega)]; exact hv,h4⟩
 ·cases he
theorem eZ.drop {es:List PV} {n:Nat} {xs:List Value} (h:eZ w I es n xs) (k:Nat):eZ w I (es.drop k) n (xs.drop (k*n)):=by
 refine⟨by rw[List.length_drop,List.length_drop,h.1,Nat.sub_mul],fun i e he=>?_⟩
 rw[List.getElem?_drop] at he
 obtain⟨h2,h3⟩:=h.2 _ e he
 refine⟨h2,fun j c hc=>?_⟩
 obtain⟨v,hv,h4⟩:=h3 j c hc
 exact⟨v,by rw[List.getElem?_drop,← Nat.add_assoc,← Nat.add_mul]; exact hv,h4⟩
theorem rL.intro {o:Oper} {q:PV->aV->Prop} (h:∀ I β a w,Rel G I β s a w->Ev.nX G.cx.P (dn G s I β w a q) ((execOp a.eval o).run G.cx.P w)):rL G s o q:=by unfold rL; exact h
end
def XC (G:Gx) (rs:List ResultVar) (base:Nat) (K:PV->List au->Prop) (x:X) (s:aV):Prop:=match x with
 | .exit _=>False
 | _=>∃ (π:gS) (vs:List (Nat × PV)) (S':List au),ee G.cx π s ⟨s.n,ig vs .nil,S',s.base,s.rl⟩/\base<=S'.length/\KR G ⟨s.n,ig vs .nil,S',s.base,s.rl⟩ rs fun r=>K r S'
def kC (G:Gx) (R:List (Nat × aG)) (N:Nat) (fn:Func) (c:Code) (args:List PV) (S:List au) (rl:List Nat) (K:PV->List au->Prop):Prop :=
 bif Nat.ble args.length fn.ntmps && Nat.ble fn.ntmps 16777215 && !(fn.name == "runtime.NumGoroutine") then
  lD S 0 fun b=>AH args 0 .nil fun t=>pw G R N c (XC G fn.results.toList b K) ⟨fn.ntmps,t,S,b,rl⟩ else False
section
variable {w w':World} {I I':Nat->Prop} {β aN:ay} {G:Gx} {s:aV} {a:Act} {st dY:List au}
theorem Spec.kC (hG:nA G) (R:List (Nat × aG)) {f:FuncId} {fn:Func} {c:Code} {args:List PV} {S:List au} {rl:List Nat} {K:PV->List au->Prop} (N:Nat) (hf:G.cx.P.funcs[f]?=some fn) (hb:fn.body=some c) (o_:cp R c=true) (h:kC G R N fn c args S rl K) (hd:G.Gg = []:=by rfl):Spec G f args S rl K:=by
 obtain⟨hc,h⟩:=bp h
 simp only[Bool.and_eq_true,Bool.not_eq_true'] at hc
 obtain⟨⟨hle,oq⟩,yh⟩:=hc
 have hle:=Nat.le_of_ble_eq_true hle
 have oq:=Nat.le_of_ble_eq_true oq
 replace h:=gR h
 rw[Nat.zero_add] at h
 obtain⟨t,h,ht⟩:=oC h
 refine Spec.intro (Ev.mi hf hb yh) fun I β w vals hH hM hA=>calls_of_wp hf hb ?_
 have hal:=hA.length
 have hR:Rel G I β ⟨fn.ntmps,t,S,S.length,rl⟩ { tmps:=vals.toArray++Array.replicate (fn.ntmps - vals.toArray.size) Go.undef,defers:=[] } w:=by
  refine⟨oq,hd.symm,by simp; omega,Nat.le_refl _,fun n x hx=>?_,hH,hM⟩
  rcases ht n x hx with ⟨j,hj,hx⟩|hx
  ·rw[Nat.zero_add] at hj
   subst hj
   obtain⟨v,hv,hi⟩:=hA.get hx
   have cI:n < vals.length:=(List.getElem?_eq_some_iff.1 hv).1
   exact⟨v,by rw[Array.getElem?_append_left (by simpa using cI)]; simpa using hv,hi⟩
  ·cases hx
 refine wp_mono ((gk hG N c _ _ o_ h).run hR) fun e a' w' hp=>?_
 obtain⟨x,s',I',aN,rfl,hq,dp,hg⟩:=hp.goes
 have oo:XC G fn.results.toList S.length K .fL s'->a'.defers = []/\∃ v,(results fn a'.tmps).run G.cx.P w' = .ok v w'/\∃ v',∃ r S' I' aN,Ending.returned v = .returned v'/\K r S'/\r.Is w' I' aN v'/\aE I' aN S' w'/\dd G I' w'/\Ext I β S w I' aN S' w'/\S.length<=S'.length/\∀ l,l < S.length->l ∉ rl->aN l=β l:=by
  rintro⟨π,vs,S',nD,hlen,vZ⟩
  obtain⟨I2,fU,kP,xB⟩:=da hG.ok nD I' aN a' w' dp
  obtain⟨r,v,hK,hr,ck⟩:=Cb hG kP vZ
  have hgg:=hg.trans xB
  exact⟨dp.defers.trans hd,v,ck,v,r,S',I2,fU,rfl,hK,hr,kP.heap,kP.av,hgg.ext,hlen,fun l hl hr=>hgg.low l hl hr⟩
 cases x with
 | fL=>exact oo hq
 | ret=>exact oo hq
 | exit id=>exact hq.elim
theorem Spec.useNew {f:FuncId} {args args':List PV} {b:au} {K:PV->List au->Prop} (h:Spec G f args' [] [] fun r S'=>r = .wref 0/\S' = [b]) (hm:b.m = .w) (Oy:b.live=true) (hk:b.k = .dyn) (hle:pa ki args args') (hu:dZ args' = [])
  (hK:lD st 0 fun l=>Al st b fun dY=>K (.wref l) dY):Spec G f args st [] K:=by
 refine Spec.intro h.run.1 fun I β w vals hH hM hA=>?_
 replace hK:=mo (gR hK)
 rw[Nat.zero_add] at hK
 have h0:aE I (fun _=>none) ([]:List au) w:=⟨fun _ _=>rfl,fun l b hl=>by simp at hl⟩
 refine (h.run.2 I (fun _=>none) w vals h0 hM (kx hu (jx (fun _ _=>e9) hle hA))).mono fun e w' ⟨v,r',S',I',aN,he,⟨p6,J8⟩,hi,oG,mw,hE,_,_⟩=>?_
 subst p6
 subst J8
 have FR:∀ g,¬ Wr (fun _=>none) ([]:List au) g:=fun g ⟨l,b,p,o,h1,_⟩=>by simp at h1
 have hold:∀ g,g < w.heap.size->w'.heap[g]?=w.heap[g]?:=fun g hg=>hE.block g hg (FR g)
 have G4:∀ g,g < w.heap.size->I' g->I g:=fun g hg h=>(hE.new g hg h).elim id fun h=>absurd h (FR g)
 simp only[PV.Is] at hi
 obtain⟨p,hp,rfl⟩:=hi
 have fN:∀ g o,p.a=some (g,o)->w.heap.size<=g:=fun g o ha=>by
  rcases Nat.lt_or_ge g w.heap.size with cI|Xb
  ·exact absurd (hE.wr g cI ⟨0,b,p,o,rfl,Oy,hm,hp,ha⟩) (FR g)
  ·exact Xb
 have hHo:aE I' β st w':=⟨hH.qS,fun l b hl aH=>by
  have hb:=hH.gA l b hl aH
  refine hb.mono hE.av (fun g hg=>hold g (hM.av g hg)) (fun _ _ h=>h) fun p g o hp ha=>?_
  obtain⟨arr,ty,fr,hh,ho⟩:=hb.place hp ha
  have cI:=bR hh
  exact⟨hold g cI,fun hr=>⟨fun hI=>(ho.1 hr).2.1 (G4 g cI hI),(ho.1 hr).2.2⟩⟩⟩
 have gx:∀ g,jN β st g->g < w.heap.size:=fun g hg=>hH.dH hg
 have DU:=oG.gA 0 b rfl Oy
 have hadd:aE I' (β.set st.length p) (st++[b]) w':=by
  refine hHo.add (fun _ _=>rfl) (fun g o ha=>⟨?_,fun hL=>by have:=gx g hL; have:=fN g o ha; omega⟩) ?_
  ·obtain⟨arr,ty,fr,hh,ho⟩:=DU.place hp ha
   exact (ho.1 (by rw[hm]; decide)).2.1
  ·obtain⟨p',dA,hd⟩:=DU
   obtain rfl:=Option.some.inj (hp.symm.trans dA)
   refine⟨p,ay.eU ..,?_⟩
   rw[hk] at hd ⊢
   refine⟨hd.1,hd.2.imp id ?_⟩
   rintro⟨g,arr,fr,h1,h2,h3,ho,h4⟩
   refine⟨g,arr,fr,h1,h2,h3,⟨fun hr=>⟨(ho.1 hr).1,(ho.1 hr).2.1,fun l' b' dt jL eY q g' o' hq dv e=>?_⟩,ho.2⟩,h4⟩
   subst e
   unfold ay.set at hq
   rw[if_neg dt] at hq
   have cI:=hH.lt hq
   rw[List.getElem?_append_left cI] at jL
   have:=gx g' ⟨l',b',q,o',jL,eY,hq,dv⟩
   have:=fN g' _ h1
   omega
 refine⟨_,.wref st.length,st++[b],I',β.set st.length p,he,hK,?_,hadd,mw,⟨hE.os,hE.tape,hE.output,hE.size,fun g hg _=>hold g hg,fun g hg ⟨l,b',q,o,h1,h2,h3,h4,h5⟩=>?_,hE.av,fun g hg h=>.inl (G4 g hg h)⟩,by simp,fun l hl _=>?_⟩
 ·simp only[PV.Is]; exact⟨p,ay.eU ..,rfl⟩
 ·unfold ay.set at h4
  split at h4
  ·cases h4
   have:=fN g o h5
   omega
  ·have:=hH.lt h4
   rw[List.getElem?_append_left this] at h1
   exact⟨l,b',q,o,h1,h2,h3,h4,h5⟩
 ·unfold ay.set
  rw[if_neg (by omega)]
end
section
variable {w w':World} {I I':Nat->Prop} {β aN:ay} {G:Gx} {s:aV} {a:Act} {st dY:List au}
theorem Spec.cut {f:FuncId} {args:List PV} {b0:au} {n:Nat} {es:List PV} (h:Spec G f args [b0] [] fun r S'=>∃ b:au,S' = [b]/\b.k = .dyn/\b.live=true/\b.m = .w/\b.size=n/\((r = .wref 0/\b.cs=es)\/(r = .ref 0 0 es.length/\b.cs.take es.length=es))) :
  Spec G f args [b0] [] fun r S'=>r = .sl n es/\S' = [⟨.dyn,b0.ty,n,.w,false,[]⟩]:=by
 refine Spec.intro h.run.1 fun I β w vals hH hM hA=>(h.run.2 I β w vals hH hM hA).mono fun e w' ⟨v,r,S',I',aN,he,⟨b,hS,hk,hl,hm,hn,hc⟩,hi,oG,mw,hE,hlen,nz⟩=>?_
 subst hS
 have hb:[b][0]?=some b:=rfl
 obtain⟨p,hp,DU⟩:=oG.gA 0 b hb hl
 obtain⟨Om,Hf,hle,rQ,oe⟩:=dE oG hb hl hk hp
 rw[hn] at Om oe
 have uB:∀ g,I' g->(I' g\/∃ o,p.a=some (g,o)):=fun g h=>.inl h
 have Qq:∀ {g o:Nat},p.a=some (g,o)->Wr aN [b] g:=fun {g o} ha=>⟨0,b,p,o,hb,hl,hm,hp,ha⟩
 have hI2:∀ g,(I' g\/∃ o,p.a=some (g,o))->g < w'.heap.size:=fun g hg=>by
  rcases hg with hg|⟨o,ha⟩
  ·exact mw.av g hg
  ·rcases oe with ⟨tP,_⟩|⟨g1,arr,fr,ha1,_,je,_⟩
   ·rw[tP] at ha; cases ha
   ·rw[ha1] at ha; cases ha; exact bR je
 have DM:es.length<=b.cs.length:=by
  rcases hc with ⟨_,rfl⟩|⟨_,hc⟩
  ·exact Nat.le_refl _
  ·rw[← hc,List.length_take]; omega
 have htk:b.cs.take es.length=es:=by
  rcases hc with ⟨_,rfl⟩|⟨_,hc⟩
  ·rw[List.take_length]
  ·exact hc
 have hIs:(PV.sl n es).Is w' (fun g=>I' g\/∃ o,p.a=some (g,o)) aN v:=by
  simp only[PV.Is]
  rcases oe with ⟨tP,qW,hw⟩|⟨g,arr,fr,ha,hw,je,p9,fC,has⟩
  ·have h0:es = []:=List.eq_nil_of_length_eq_zero (by omega)
   subst h0
   rcases hc with ⟨rfl,_⟩|⟨rfl,_⟩
   ·simp only[PV.Is] at hi
    obtain⟨p',dA,rfl⟩:=hi
    rw[hp] at dA; cases dA
    exact⟨none,0,by rw[hw]; rfl,Nat.le_refl _,Nat.zero_le _,(fun _ _ e=>by cases e),fun hn=>absurd rfl hn⟩
   ·simp only[PV.Is] at hi
    obtain⟨p',g',o',Hg,dA,dv,_⟩:=hi
    rw[hp] at dA; cases dA
    rw[tP] at dv; cases dv
  ·obtain⟨xs,qU,VY⟩:=p9.row
   have G3:cr w' (fun g=>I' g\/∃ o,p.a=some (g,o)) es n g 0:=by
    have h1:=qU.take (k:=es.length) DM
    rw[htk] at h1
    exact h1.at (fun j u hu=>by
     rw[List.getElem?_take] at hu
     split at hu
     ·have:=VY j u hu
      rwa [Nat.zero_add] at this
     ·cases hu) uB (fun _ _=>rfl)
   have tY:es.length≠0->∃ g' o',(some (⟨g,0,none⟩:Addr))=some ⟨g',o',none⟩/\(I' g'\/∃ o,p.a=some (g',o))/\0 < n:=fun _=>⟨g,0,rfl,.inr ⟨0,ha⟩,Om⟩
   rcases hc with ⟨rfl,XD⟩|⟨rfl,_⟩
   ·simp only[PV.Is] at hi
    obtain⟨p',dA,rfl⟩:=hi
    rw[hp] at dA; cases dA
    have o_:p.len=es.length:=by rw[← Hf,XD]
    exact⟨some ⟨g,0,none⟩,p.cap,by rw[hw,o_],by omega,by omega,(fun g' o' e=>by cases e; exact G3),tY⟩
   ·simp only[PV.Is] at hi
    obtain⟨p',g',o',Hg,dA,dv,rfl,P8⟩:=hi
    rw[hp] at dA; cases dA
    rw[ha] at dv; cases dv
    exact⟨some ⟨g,0,none⟩,Hg,rfl,P8,by omega,(fun g' o' e=>by cases e; exact G3),tY⟩
 refine⟨v,.sl n es,_,_,aN,he,⟨rfl,rfl⟩,hIs,⟨fun l fM=>oG.qS l fM,fun l b2 dO aH=>?_⟩,⟨hI2,fun g cs hg=>⟨.inl (mw.nY g cs hg).1,dc.mono uB (fun _ _=>rfl) _ _ _ rfl (mw.nY g cs hg).2⟩,mw.row⟩,⟨hE.os,hE.tape,hE.output,hE.size,hE.block,fun g _ h=>?_,fun g hg=>.inl (hE.av g hg),fun g hg h=>?_⟩,hlen,nz⟩
 ·match l,dO with
  | 0,dO=>cases dO; cases aH
  | l+1,dO=>simp at dO
 ·obtain⟨l,b2,p2,o2,dO,aH,_⟩:=h
  match l,dO with
  | 0,dO=>cases dO; cases aH
  | l+1,dO=>simp at dO
 ·rcases h with h|⟨o,ha⟩
  ·exact hE.new g hg h
  ·exact .inr (hE.wr g hg (Qq ha))
theorem Spec.cut1 {f:FuncId} {args:List PV} {z b0:au} (hz:z.k = .loc) (hzm:z.m = .w) (hzl:z.live=true) {n:Nat} {es:List PV} (h:Spec G f args [z,b0] [] fun r S'=>∃ b:au,S' = [z,b]/\b.k = .dyn/\b.live=true/\b.m = .w/\b.size=n/\((r = .wref 1/\b.cs=es)\/(r = .ref 1 0 es.length/\b.cs.take es.length=es))) :
  Spec G f args [z,b0] [] fun r S'=>r = .sl n es/\S' = [z,⟨.dyn,b0.ty,n,.w,false,[]⟩]:=by
 refine Spec.intro h.run.1 fun I β w vals hH hM hA=>(h.run.2 I β w vals hH hM hA).mono fun e w' ⟨v,r,S',I',aN,he,⟨b,hS,hk,hl,hm,hn,hc⟩,hi,oG,mw,hE,hlen,nz⟩=>?_
 subst hS
 have hb:[z,b][1]?=some b:=rfl
 obtain⟨p,hp,DU⟩:=oG.gA 1 b hb hl
 obtain⟨Om,Hf,hle,rQ,oe⟩:=dE oG hb hl hk hp
 rw[hn] at Om oe
 have uB:∀ g,I' g->(I' g\/∃ o,p.a=some (g,o)):=fun g h=>.inl h
 have Qq:∀ {g o:Nat},p.a=some (g,o)->Wr aN [z,b] g:=fun {g o} ha=>⟨1,b,p,o,hb,hl,hm,hp,ha⟩
 have hI2:∀ g,(I' g\/∃ o,p.a=some (g,o))->g < w'.heap.size:=fun g hg=>by
  rcases hg with hg|⟨o,ha⟩
  ·exact mw.av g hg
  ·rcases oe with ⟨tP,_⟩|⟨g1,arr,fr,ha1,_,je,_⟩
   ·rw[tP] at ha; cases ha
   ·rw[ha1] at ha; cases ha; exact bR je
 have DM:es.length<=b.cs.length:=by
  rcases hc with ⟨_,rfl⟩|⟨_,hc⟩
  ·exact Nat.le_refl _
  ·rw[← hc,List.length_take]; omega
 have htk:b.cs.take es.length=es:=by
  rcases hc with ⟨_,rfl⟩|⟨_,hc⟩
  ·rw[List.take_length]
  ·exact hc
 have hIs:(PV.sl n es).Is w' (fun g=>I' g\/∃ o,p.a=some (g,o)) aN v:=by
  simp only[PV.Is]
  rcases oe with ⟨tP,qW,hw⟩|⟨g,arr,fr,ha,hw,je,p9,fC,has⟩
  ·have h0:es = []:=List.eq_nil_of_length_eq_zero (by omega)
   subst h0
   rcases hc with ⟨rfl,_⟩|⟨rfl,_⟩
   ·simp only[PV.Is] at hi
    obtain⟨p',dA,rfl⟩:=hi
    rw[hp] at dA; cases dA
    exact⟨none,0,by rw[hw]; rfl,Nat.le_refl _,Nat.zero_le _,(fun _ _ e=>by cases e),fun hn=>absurd rfl hn⟩
   ·simp only[PV.Is] at hi
    obtain⟨p',g',o',Hg,dA,dv,_⟩:=hi
    rw[hp] at dA; cases dA
    rw[tP] at dv; cases dv
  ·obtain⟨xs,qU,VY⟩:=p9.row
   have G3:cr w' (fun g=>I' g\/∃ o,p.a=some (g,o)) es n g 0:=by
    have h1:=qU.take (k:=es.length) DM
    rw[htk] at h1
    exact h1.at (fun j u hu=>by
     rw[List.getElem?_take] at hu
     split at hu
     ·have:=VY j u hu
      rwa [Nat.zero_add] at this
     ·cases hu) uB (fun _ _=>rfl)
   have tY:es.length≠0->∃ g' o',(some (⟨g,0,none⟩:Addr))=some ⟨g',o',none⟩/\(I' g'\/∃ o,p.a=some (g',o))/\0 < n:=fun _=>⟨g,0,rfl,.inr ⟨0,ha⟩,Om⟩
   rcases hc with ⟨rfl,XD⟩|⟨rfl,_⟩
   ·simp only[PV.Is] at hi
    obtain⟨p',dA,rfl⟩:=hi
    rw[hp] at dA; cases dA
    have o_:p.len=es.length:=by rw[← Hf,XD]
    exact⟨some ⟨g,0,none⟩,p.cap,by rw[hw,o_],by omega,by omega,(fun g' o' e=>by cases e; exact G3),tY⟩
   ·simp only[PV.Is] at hi
    obtain⟨p',g',o',Hg,dA,dv,rfl,P8⟩:=hi
    rw[hp] at dA; cases dA
    rw[ha] at dv; cases dv
    exact⟨some ⟨g,0,none⟩,Hg,rfl,P8,by omega,(fun g' o' e=>by cases e; exact G3),tY⟩
 refine⟨v,.sl n es,_,_,aN,he,⟨rfl,rfl⟩,hIs,⟨fun l fM=>oG.qS l fM,fun l b2 dO aH=>?_⟩,⟨hI2,fun g cs hg=>⟨.inl (mw.nY g cs hg).1,dc.mono uB (fun _ _=>rfl) _ _ _ rfl (mw.nY g cs hg).2⟩,mw.row⟩,⟨hE.os,hE.tape,hE.output,hE.size,hE.block,fun g _ h=>?_,fun g hg=>.inl (hE.av g hg),fun g hg h=>?_⟩,hlen,nz⟩
 ·match l,dO with
  | 0,dO =>
   cases dO
   obtain⟨p0,hp0,xC⟩:=oG.gA 0 z rfl aH
   rw[hz] at xC
   obtain⟨g0,o0,arr,ty,fr,q1,q2,q3,q4⟩:=xC
   obtain⟨r1,r2,r3⟩:=q4.1 (by rw[hzm]; decide)
   refine⟨p0,hp0,?_⟩
   rw[hz]
   refine⟨g0,o0,arr,ty,fr,q1,q2,bB.mono uB (fun _ _=>rfl) (fun _ _ h=>h) q3,⟨fun _=>⟨r1,fun hI=>?_,fun l' b' dt jL eY=>?_⟩,fun mY=>by rw[hzm] at mY; cases mY⟩⟩
   ·rcases hI with hI|⟨o,ha⟩
    ·exact r2 hI
    ·exact r3 1 b (by decide) rfl hl p g0 o hp ha rfl
   ·match l',jL with
    | 0,_=>exact absurd rfl dt
    | 1,jL=>cases jL; cases eY
    | l'+2,jL=>simp at jL
  | 1,dO=>cases dO; cases aH
  | l+2,dO=>simp at dO
 ·obtain⟨l,b2,p2,o2,dO,aH,xA,iv,ir⟩:=h
  match l,dO with
  | 0,dO=>cases dO; exact hE.wr _ (by assumption) ⟨0,z,p2,o2,rfl,hzl,xA,iv,ir⟩
  | 1,dO=>cases dO; cases aH
  | l+2,dO=>simp at dO
 ·rcases h with h|⟨o,ha⟩
  ·exact hE.new g hg h
  ·exact .inr (hE.wr g hg (Qq ha))
end
end Go.Proofs.YtnbngokbamifbaaGreatDoor.Pw

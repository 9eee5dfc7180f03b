/- What this claim is proved with: no condition. -/
import Derived.Test.YtnbhdacpogplgaaGreatDoorPv6
import Derived.Deep.OwnRows
import Derived.Laws.AppendOwn
set_option linter.unusedVariables false
set_option linter.unusedSimpArgs false
namespace Go.Proofs.YtnbhdacpogplgaaGreatDoor.Pw
open Go Go.RowKit
def elB (b:an) (n:Nat) (es:List PV):Prop:=match b with
 | ⟨k,_,m,md,live,cs⟩=>bif live && Ih md && Nat.beq m n then (match k with
  | .dyn=>cs=es
  | .arr=>fw true m (.stat cs)=some es\/(m=1/\fw false m (.stat cs)=some es)
  | _=>False) else False
def P4 (S:List an) (fz:List Nat) (x y:PV):Prop:=match x,y with
 | .wref l,.sl n es=>bif kS l fz then aP S[l]? fun b=>elB b n es else False
 | x,y=>tR x y
def leB (S:List an) (fz:List Nat) (x y:PV):Prop:=match x,y with
 | .wref l,.sl n es=>bif kS l fz then aP S[l]? fun b=>elB b n es else False
 | .agg cs,.agg ds=>na (P4 S fz) cs ds
 | x,y=>qC x y
def Uk (S:List an) (fz:List Nat):Bool:=fz.all fun l=>match S[l]? with
 | some b=>b.live && Ih b.m
 | none=>false
def mH (b:Bool) (m:Md):Md:=bif b then .r else m
def gX (fz:List Nat) (S:List an):List an:=mapM mH fz 0 S
def PV.LD:PV->Bool
 | .lit ..|.int ..|.tt|.ff|.bool _|.val _|.nil=>true
 | _=>false
def PV.Gn:PV->Bool
 | .agg cs=>cs.all PV.LD
 | x=>x.LD
def PV.LF:PV->Bool
 | .tup cs=>cs.all PV.Gn
 | x=>x.Gn
section
variable {w w':World} {I I':Nat->Prop} {β aM:ax} {G:Gx} {S:List an}
theorem BT {x:PV} {v:Value} (hf:x.LD=true) (h:x.Is w I β v):x.Is w' I' aM v:=by
 cases x<;>first|(cases hf; done)|(simp only[PV.Is] at h ⊢; exact h)
theorem vR {r:PV->Bool} (hr:∀ x v,r x=true->x.Is w I β v->x.Is w' I' aM v):∀ {cs:List PV} {vs:List Value},cs.all r=true->bp w I cs β vs->bp w' I' cs aM vs
 | [],[],_,_=>by simp only[bp]
 | c::cs,v::vs,hf,h=>by
  simp only[List.all_cons,Bool.and_eq_true] at hf
  simp only[bp] at h ⊢
  exact⟨hr c v hf.1 h.1,vR hr hf.2 h.2⟩
 | [],_::_,_,h=>by simp only[bp] at h
 | _::_,[],_,h=>by simp only[bp] at h
theorem BU {x:PV} {v:Value} (hf:x.Gn=true) (h:x.Is w I β v):x.Is w' I' aM v:=by
 unfold PV.Gn at hf
 split at hf
 ·simp only[PV.Is] at h ⊢
  obtain⟨vs,rfl,h⟩:=h
  exact⟨vs,rfl,vR (fun x v=>BT) hf h⟩
 ·exact BT hf h
theorem LG {x:PV} {v:Value} (hf:x.LF=true) (h:x.Is w I β v):x.Is w' I' aM v:=by
 unfold PV.LF at hf
 split at hf
 ·simp only[PV.Is] at h ⊢
  obtain⟨vs,rfl,h⟩:=h
  exact⟨vs,rfl,vR (fun x v=>BU) hf h⟩
 ·exact BU hf h
def gl (I:Nat->Prop) (β:ax) (S:List an) (fz:List Nat) (g:Nat):Prop:=I g\/∃ l b p o,l∈fz/\S[l]?=some b/\b.live=true/\Ih b.m=true/\β l=some p/\p.a=some (g,o)
theorem EB {fz:List Nat} (h:Uk S fz=true) {l:Nat} (hl:l∈fz):∃ b,S[l]?=some b/\b.live=true/\Ih b.m=true:=by
 have:=List.all_eq_true.1 h l hl
 split at this
 ·rename_i b hb
  simp only[Bool.and_eq_true] at this
  exact⟨b,hb,this⟩
 ·cases this
theorem uP {fz:List Nat} (hH:aL I β S w) {l:Nat} {b:an} {n:Nat} {es:List PV} (hl:l∈fz) (hb:S[l]?=some b) (h:elB b n es) {v:Value} (hx:(PV.wref l).Is w I β v):(PV.sl n es).Is w (gl I β S fz) no v:=by
 obtain⟨k,ty,m,md,live,cs⟩:=b
 unfold elB at h
 replace h:=aZ h
 obtain⟨hc,h⟩:=h
 simp only[Bool.and_eq_true] at hc
 obtain⟨⟨aF,hm⟩,hn⟩:=hc
 obtain rfl:=Nat.eq_of_beq_eq_true hn
 simp only[PV.Is] at hx ⊢
 obtain⟨p,hp,rfl⟩:=hx
 have hI:∀ g,I g->gl I β S fz g:=fun g h=>.inl h
 have A4:∀ {g o:Nat},p.a=some (g,o)->gl I β S fz g:=fun {g o} ha=>.inr ⟨l,_,p,o,hl,hb,aF,hm,hp,ha⟩
 cases k with
 | dyn =>
  obtain⟨lh,hlen,hle,sD,pg⟩:=da hH hb aF rfl hp
  subst h
  rcases pg with ⟨ha,tL,hw⟩|⟨g,arr,fr,ha,hw,iX,mq,dj,has⟩
  ·have h0:cs = []:=List.eq_nil_of_length_eq_zero (by simp only at hlen; omega)
   subst h0
   exact⟨none,0,by rw[hw]; rfl,Nat.le_refl _,Nat.zero_le _,(fun _ _ e=>by cases e),fun hn=>absurd rfl hn⟩
  ·simp only at hlen
   exact⟨some ⟨g,0,none⟩,p.cap,by rw[hw,hlen],by omega,by omega,(fun g' o' e=>by cases e; exact cg.mono hI (fun _ _=>rfl) _ _ _ _ rfl mq),fun _=>⟨g,0,rfl,A4 ha,lh⟩⟩
 | arr =>
  obtain⟨g,arr,fr,ha,hw,iX,uL,dj,hlen,hle,sD,has,lh⟩:=gQ hH hb aF rfl hp
  simp only at hlen has lh uL
  have fY:p.len*m<=arr.size:=by rw[has]; exact Nat.mul_le_mul_right _ hle
  have uj:(arr.toList.take (p.len*m)).length=p.len*m:=by rw[List.length_take,Array.length_toList]; omega
  have pk:qN w I β m (.stat cs) (arr.toList.take (p.len*m)):=by
   refine⟨by rw[uj,hlen],fun j c hj=>?_⟩
   obtain⟨u,hu,hi,h1⟩:=uL j c hj
   have Bn:j < p.len*m:=by rw[← hlen]; exact (List.getElem?_eq_some_iff.1 hj).1
   exact⟨u,by rw[List.getElem?_take,if_pos Bn]; simpa using hu,hi,h1⟩
  have key:es.length=p.len/\eJ w I es m (arr.toList.take (p.len*m)):=by
   rcases h with h|⟨h1,h⟩
   ·exact fe lh (.inl rfl) h pk uj
   ·exact fe lh (.inr h1) h pk uj
  obtain⟨e1,e2⟩:=key
  have Ly:cg w I es m g 0:=e2.at (fun j v hj=>by
   have:=qO iX 0 (p.len*m) j v (by simpa using hj)
   simpa using this) (fun _ h=>h) (fun _ _=>rfl)
  exact⟨some ⟨g,0,none⟩,p.cap,by rw[hw,e1],by omega,by omega,fun g' o' e=>by cases e; exact cg.mono hI (fun _ _=>rfl) _ _ _ _ rfl Ly,fun _=>⟨g,0,rfl,A4 ha,lh⟩⟩
 | loc=>exact h.elim
 | mp=>exact h.elim
theorem Ul {fz:List Nat} (hH:aL I β S w) {x y:PV} {v:Value} (h1:P4 S fz x y) (hu:y.c9 = []) (hx:x.Is w I β v):y.Is w (gl I β S fz) no v:=by
 unfold P4 at h1
 split at h1
 ·replace h1:=aZ h1
  obtain⟨hl,h1⟩:=h1
  replace h1:=au h1
  obtain⟨b,hb,h1⟩:=h1
  exact uP hH (dx.1 hl) hb h1 hx
 ·exact PV.Is.mono (fun _ h=>.inl h) (fun _ _=>rfl) y β no v (fun l p hl=>by rw[hu] at hl; cases hl) (sO h1 w I β v hx)
theorem Gp {fz:List Nat} (hH:aL I β S w):∀ {args bf:List PV} {a_:List Value},na (P4 S fz) args bf->eu bf = []->bp w I args β a_->bp w (gl I β S fz) bf no a_
 | [],[],[],_,_,_=>by simp only[bp]
 | x::xs,y::ys,v::vs,h,hu,hx=>by
  simp only[bp] at hx ⊢
  have Bh:y.c9 = []/\eu ys = []:=by simpa [eu] using hu
  exact⟨Ul hH h.1 Bh.1 hx.1,Gp hH h.2 Bh.2 hx.2⟩
 | [],_::_,_,h,_,_=>h.elim
 | _::_,[],_,h,_,_=>h.elim
 | [],[],_::_,_,_,hx=>by simp only[bp] at hx
 | _::_,_::_,[],_,_,hx=>by simp only[bp] at hx
theorem oM {fz:List Nat} (hH:aL I β S w):∀ {args bf:List PV} {a_:List Value},na (leB S fz) args bf->eu bf = []->bp w I args β a_->bp w (gl I β S fz) bf no a_
 | [],[],[],_,_,_=>by simp only[bp]
 | x::xs,y::ys,v::vs,h,hu,hx=>by
  simp only[bp] at hx ⊢
  have Bh:y.c9 = []/\eu ys = []:=by simpa [eu] using hu
  refine⟨?_,oM hH h.2 Bh.2 hx.2⟩
  have h1:=h.1
  unfold leB at h1
  split at h1
  ·obtain⟨hl,h1⟩:=aZ h1
   obtain⟨b,hb,h1⟩:=au h1
   exact uP hH (dx.1 hl) hb h1 hx.1
  ·have LH:=hx.1
   simp only[PV.Is] at LH ⊢
   obtain⟨vs',rfl,LH⟩:=LH
   exact⟨vs',rfl,Gp hH h1 (by simpa [PV.c9] using Bh.1) LH⟩
  ·exact PV.Is.mono (fun _ h=>.inl h) (fun _ _=>rfl) y β no v (fun l p hl=>by rw[Bh.1] at hl; cases hl) (fZ h1 w I β v hx.1)
 | [],_::_,_,h,_,_=>h.elim
 | _::_,[],_,h,_,_=>h.elim
 | [],[],_::_,_,_,hx=>by simp only[bp] at hx
 | _::_,_::_,[],_,_,hx=>by simp only[bp] at hx
theorem P5 {fz:List Nat} (hH:aL I β S w) (hM:d_ G I w) {g:Nat} (h:gl I β S fz g):g < w.heap.size:=by
 rcases h with h|⟨l,b,p,o,_,hb,aF,_,hp,ha⟩
 ·exact hM.aC g h
 ·exact hH.dk ⟨l,b,p,o,hb,aF,hp,ha⟩
theorem nN {fz:List Nat} (hH:aL I β S w) (hM:d_ G I w):d_ G (gl I β S fz) w :=
 ⟨fun g hg=>P5 hH hM hg,fun g cs hg=>⟨.inl (hM.vn g cs hg).1,c8.mono (fun _ h=>.inl h) (fun _ _=>rfl) _ _ _ rfl (hM.vn g cs hg).2⟩,hM.row⟩
theorem LI (g:Nat):¬ Wr no ([]:List an) g:=fun ⟨l,b,p,o,h1,_⟩=>by simp at h1
theorem aj.ic {f:FuncId} {args bf:List PV} {r:PV} {K:PV->List an->Prop} (h:aj G f bf r) (fz:List Nat) (hz:Uk S fz=true) (hle:na (leB S fz) args bf) (hu:eu bf = []) (hr:r.c9 = []) (hK:Sx (gX fz S) (K r)):Spec G f args S [] K:=by
 refine Spec.intro h.run.1 fun I β w a_ hH hM hA=>?_
 have h0:aL (gl I β S fz) no ([]:List an) w:=⟨fun _ _=>rfl,fun l b hl=>by simp at hl⟩
 refine (h.run.2 _ no w a_ h0 (nN hH hM) (oM hH hle hu hA)).mono fun e w' ⟨v,r',S',I',aM,he,xH,hi,_,oL,hE,_,_⟩=>?_
 subst xH
 have hold:∀ g,g < w.heap.size->w'.heap[g]?=w.heap[g]?:=fun g hg=>hE.block g hg (LI g)
 have Lz:∀ g,g < w.heap.size->I' g->gl I β S fz g:=fun g hg h=>(hE.new g hg h).elim id fun h=>absurd h (LI g)
 have yv:∀ g,I g->I' g:=fun g h=>hE.aC g (.inl h)
 have z5:∀ (l:Nat) (b:an),(gX fz S)[l]?=some b->∃ b0,S[l]?=some b0/\b = { b0 with m:=mH (kS l fz) b0.m }:=fun l b hb=>by
  unfold gX at hb
  rw[gj,Option.map_eq_some_iff] at hb
  obtain⟨b0,h1,h2⟩:=hb
  rw[Nat.zero_add] at h2
  exact⟨b0,h1,h2.symm⟩
 refine⟨v,r',gX fz S,I',β,he,zR hK,oK hr hi,⟨fun l hl=>hH.py l (by unfold gX at hl; rw[gk] at hl; exact hl),fun l b hb aF=>?_⟩,oL,⟨hE.os,hE.tape,hE.output,hE.size,fun g hg _=>hold g hg,fun g _ h=>?_,yv,fun g hg h=>?_⟩,by unfold gX; rw[gk]; exact Nat.le_refl _,fun _ _ _=>rfl⟩
 ·obtain⟨b0,jL,rfl⟩:=z5 l b hb
  obtain⟨p,hp,hk⟩:=hH.iI l b0 jL aF
  have own:∀ {g o:Nat} {fr:Nat × Nat},p.a=some (g,o)->g < w.heap.size->Own I β S l g fr b0->Own I' β (gX fz S) l g fr { b0 with m:=mH (kS l fz) b0.m }:=fun {g o fr} ha hg ho=>by
   refine⟨fun hm=>?_,fun hm=>?_⟩
   ·have sq:kS l fz=false/\b0.m≠.r:=by
     cases hc:kS l fz with
     | true=>simp only[hc,mH,cond_true,ne_eq,not_true_eq_false] at hm
     | false=>exact⟨rfl,by simpa only [hc,mH,cond_false] using hm⟩
    obtain⟨h1,h2,h3⟩:=ho.1 sq.2
    refine⟨h1,fun hI=>?_,fun l2 b2 cH gz bH p2 g2 o2 jN jM=>?_⟩
    ·rcases Lz g hg hI with hI|⟨l2,b2,p2,o2,gz,eG,bH,_,jN,jM⟩
     ·exact h2 hI
     ·refine h3 l2 b2 (fun e=>?_) eG bH p2 g o2 jN jM rfl
      subst e
      rw[dx.2 gz] at sq
      cases sq.1
    ·obtain⟨b3,ml,rfl⟩:=z5 l2 b2 gz
     exact h3 l2 b3 cH ml bH p2 g2 o2 jN jM
   ·cases hc:kS l fz with
    | true =>
     obtain⟨b1,Gq,k1,k2⟩:=EB hz (dx.1 hc)
     rw[jL] at Gq; cases Gq
     exact hE.aC g (.inr ⟨l,b0,p,o,dx.1 hc,jL,k1,k2,hp,ha⟩)
    | false=>exact yv g (ho.2 (by simpa only [hc,mH,cond_false] using hm))
  have Kj:∀ g,I g->w'.heap[g]?=w.heap[g]?:=fun g hg=>hold g (hM.aC g hg)
  refine⟨p,hp,?_⟩
  split at hk
  ·rename_i cQ
   obtain⟨g,o,arr,ty,fr,h1,h2,h3,ho⟩:=hk
   have hg:=dD h2
   simp only[cQ]
   exact⟨g,o,arr,ty,fr,h1,(hold g hg).trans h2,bg.mono yv Kj (fun _ _ h=>h) h3,own h1 hg ho⟩
  ·rename_i cQ
   obtain⟨g,arr,fr,h1,h2,h3,ho,h4⟩:=hk
   have hg:=dD h2
   simp only[cQ]
   exact⟨g,arr,fr,h1,(hold g hg).trans h2,bg.mono yv Kj (fun _ _ h=>h) h3,own h1 hg ho,h4⟩
  ·rename_i cQ
   obtain⟨h1,hk⟩:=hk
   simp only[cQ]
   refine⟨h1,?_⟩
   rcases hk with h|⟨g,arr,fr,h2,h3,h4,ho,h5⟩
   ·exact .inl h
   ·have hg:=dD h3
    exact .inr ⟨g,arr,fr,h2,(hold g hg).trans h3,cg.mono yv Kj _ _ _ _ (hold g hg) h4,own h2 hg ho,h5⟩
  ·rename_i cQ
   obtain⟨g,h1,h2,ho⟩:=hk
   have hg:g < w.heap.size:=by obtain⟨es,clock,hb,_⟩:=h2; exact dD hb
   simp only[cQ]
   exact⟨g,h1,h2.pj (hold g hg),own h1 hg ho⟩
 ·obtain⟨l,b,p,o,h1,h2,h3,h4,h5⟩:=h
  obtain⟨b0,jL,rfl⟩:=z5 l b h1
  refine⟨l,b0,p,o,jL,h2,?_,h4,h5⟩
  cases hc:kS l fz with
  | true=>simp only[hc,mH,cond_true] at h3; cases h3
  | false=>simpa only [hc,mH,cond_false] using h3
 ·rcases Lz g hg h with h|⟨l,b,p,o,hl,hb,aF,hm,hp,ha⟩
  ·exact .inl h
  ·cases pF:b.m with
   | w=>exact .inr ⟨l,b,p,o,hb,aF,pF,hp,ha⟩
   | p=>rw[pF] at hm; cases hm
   | r =>
    obtain⟨arr,ty,fr,_,ho⟩:=(hH.iI l b hb aF).place hp ha
    exact .inl (ho.2 pF)
theorem aj.BV {f:FuncId} {args bf:List PV} {r:PV} {K:PV->List an->Prop} (h:aj G f bf r) (fz:List Nat) (hle:na (leB S fz) args bf) (hu:eu bf = []) (hr:r.LF=true) (hK:K r S):Spec G f args S [] K:=by
 refine Spec.intro h.run.1 fun I β w a_ hH hM hA=>?_
 have h0:aL (gl I β S fz) no ([]:List an) w:=⟨fun _ _=>rfl,fun l b hl=>by simp at hl⟩
 refine (h.run.2 _ no w a_ h0 (nN hH hM) (oM hH hle hu hA)).mono fun e w' ⟨v,r',S',I',aM,he,xH,hi,_,oL,hE,_,_⟩=>?_
 subst xH
 have hold:∀ g,g < w.heap.size->w'.heap[g]?=w.heap[g]?:=fun g hg=>hE.block g hg (LI g)
 have Kj:∀ g,I g->w'.heap[g]?=w.heap[g]?:=fun g hg=>hold g (hM.aC g hg)
 refine⟨v,r',S,I,β,he,hK,LG hr hi,⟨hH.py,fun l b hb aF=>(hH.iI l b hb aF).mono (fun _ h=>h) Kj (fun _ _ h=>h) fun p g o hp ha=>?_⟩,⟨fun g hg=>Nat.lt_of_lt_of_le (hM.aC g hg) hE.size,fun g cs hg=>⟨(hM.vn g cs hg).1,c8.mono (fun _ h=>h) Kj _ _ _ (Kj g (hM.vn g cs hg).1) (hM.vn g cs hg).2⟩,fun g cs hg=>by
   obtain⟨arr,ty,fr,h1,h2⟩:=hM.row g cs hg
   exact⟨arr,ty,fr,(Kj g (hM.vn g cs hg).1).trans h1,h2⟩⟩,
  ⟨hE.os,hE.tape,hE.output,hE.size,fun g hg _=>hold g hg,fun g _ h=>h,fun _ h=>h,fun _ _ h=>.inl h⟩,Nat.le_refl _,fun _ _ _=>rfl⟩
 obtain⟨arr,ty,fr,hh,ho⟩:=(hH.iI l b hb aF).place hp ha
 exact⟨hold g (dD hh),fun hr=>⟨(ho.1 hr).2.1,(ho.1 hr).2.2⟩⟩
end
def TM.BW:TM->TM
 | .nil=>.nil
 | .node v l r=>.node (match v with
  | some (.tup _)=>none
  | v=>v) l.BW r.BW
def aN.BX (s:aN) (c:Code) (vs:List (Nat × PV)):aN:=match s with
 | ⟨n,t,st,b,rl⟩=>⟨n,(ll vs (vN (vM c) t)).BW,st,b,rl⟩
theorem SW.ko {G:Gx} {s:aN} (hG:nC G) (R:List (Nat × aJ)) {α:Type} {c:Code} {Q:X->aN->Prop} (hc:b_ R c=true) (vs:α->List (Nat × PV)) (μ:α->Nat) (x0:α) (N:Nat) (h0:lj G.cx (Uc 0 s.st) s (s.BX c (vs x0)))
  (h:∀ x,Ub (s.BX c (vs x)) (pw G R N c (qV (fun s'=>∃ y,μ y < μ x/\lj G.cx (Uc 0 s.st) s' (s.BX c (vs y))) Q))):SW G (.loop c) Q s :=
 SW.inv hG (fun x=>s.BX c (vs x)) μ (N:=N) hc x0 (aT hG.ok h0) (fun x s'=>∃ y,μ y < μ x/\lj G.cx (Uc 0 s.st) s' (s.BX c (vs y))) (fun x s' ⟨y,hy,hs⟩=>⟨y,hy,aT hG.ok hs⟩) fun x=>sS (h x)
def aN.headD (s:aN) (c:Code) (vs:List (Nat × PV)) (ex:List an):aN:=match s with
 | ⟨n,t,st,b,rl⟩=>⟨n,(ll vs (vN (vM c) t)).BW,st++ex,b,rl⟩
theorem SW.SF {G:Gx} {s:aN} (hG:nC G) (R:List (Nat × aJ)) {α:Type} {c:Code} {Q:X->aN->Prop} (hc:b_ R c=true) (vs:α->List (Nat × PV)) (ex:α->List an) (μ:α->Nat) (x0:α) (N:Nat) (O4:iM) (h0:lj G.cx (Uc 0 s.st++O4) s (s.headD c (vs x0) (ex x0)))
  (h:∀ x,Ub (s.headD c (vs x) (ex x)) (pw G R N c (qV (fun s'=>∃ y π,μ y < μ x/\lj G.cx (Uc 0 s.st++π) s' (s.headD c (vs y) (ex y))) Q))):SW G (.loop c) Q s :=
 SW.inv hG (fun x=>s.headD c (vs x) (ex x)) μ (N:=N) hc x0 (aT hG.ok h0) (fun x s'=>∃ y π,μ y < μ x/\lj G.cx (Uc 0 s.st++π) s' (s.headD c (vs y) (ex y))) (fun x s' ⟨y,_,hy,hs⟩=>⟨y,hy,aT hG.ok hs⟩) fun x=>sS (h x)
def fT (b b':an):Prop:=match b,b' with
 | ⟨k,ty,n,m,live,cs⟩,⟨k',ty',n',m',SG,yC⟩=>bif Nat.beq ty ty' && Nat.beq n n' && Md.beq m m' && live && SG && BK.beq k k' then (match k with
  | .dyn=>cs=yC
  | .mp=>cs=yC
  | _=>na tR cs yC) else False
def SI:List an->List an->(List an->Prop)->Prop
 | [],T,k=>k T
 | b'::S,b::st,k=>fT b b'/\SI S st k
 | _::_,[],_=>False
def EC (st S:List an) (k:List an->Prop):Prop:=SI S st k
def BY:List an->List an->(List an->Prop)->Prop
 | [],T,k=>k T
 | b::l,T,k=>BY l T fun r=>k (b::r)
def nc:List an->List an->Bool
 | [],[]=>true
 | a::S,b::T=>a.live && Md.beq a.m b.m && nc S T
 | _,_=>false
theorem z8:∀ {S T:List an} {k:List an->Prop},BY S T k->k (S++T)
 | [],_,_,h=>h
 | b::l,T,k,h=>z8 (S:=l) h
theorem BK.qa {m n:BK} (h:BK.beq m n=true):m=n:=by cases m<;>cases n<;>first|rfl|cases h
theorem cX {b b':an} (h:fT b b'):b.ty=b'.ty/\b.size=b'.size/\b.m=b'.m/\b.live=true/\b'.live=true/\b.k=b'.k/\((b.k.xx=false/\b.cs=b'.cs)\/(b.k.xx=true/\na tR b.cs b'.cs)):=by
 obtain⟨k,ty,n,m,live,cs⟩:=b
 obtain⟨k',ty',n',m',SG,yC⟩:=b'
 obtain⟨hc,h⟩:=aZ h
 simp only[Bool.and_eq_true] at hc
 obtain⟨⟨⟨⟨⟨h1,h2⟩,h3⟩,h4⟩,h5⟩,h6⟩:=hc
 refine⟨Nat.eq_of_beq_eq_true h1,Nat.eq_of_beq_eq_true h2,Md.qa h3,h4,h5,BK.qa h6,?_⟩
 cases k with
 | dyn=>exact .inl ⟨rfl,h⟩
 | mp=>exact .inl ⟨rfl,h⟩
 | loc=>exact .inr ⟨rfl,h⟩
 | arr=>exact .inr ⟨rfl,h⟩
theorem z9:∀ {S st:List an} {k:List an->Prop},EC st S k->∃ uv T,st=uv++T/\uv.length=S.length/\k T/\∀ (l:Nat) (b b':an),uv[l]?=some b->S[l]?=some b'->fT b b'
 | [],T,k,h=>⟨[],T,rfl,rfl,h,fun l b b' hb=>by simp at hb⟩
 | b'::S,b::st,k,h=>by
  obtain⟨uv,T,rfl,hl,hk,ha⟩:=z9 (S:=S) (st:=st) h.2
  refine⟨b::uv,T,rfl,by simp[hl],hk,fun l c c' hc A0=>?_⟩
  cases l with
  | zero=>simp at hc A0; subst hc; subst A0; exact h.1
  | succ l=>exact ha l c c' (by simpa using hc) (by simpa using A0)
 | _::_,[],_,h=>h.elim
theorem q_:∀ {S T:List an},nc S T=true->S.length=T.length/\∀ (l:Nat) (a b:an),S[l]?=some a->T[l]?=some b->a.live=true/\a.m=b.m
 | [],[],_=>⟨rfl,fun l a b h=>by simp at h⟩
 | a::S,b::T,h=>by
  simp only[nc,Bool.and_eq_true] at h
  obtain⟨h1,h2⟩:=q_ h.2
  refine⟨by simp[h1],fun l c d hc hd=>?_⟩
  cases l with
  | zero=>simp at hc hd; subst hc; subst hd; exact⟨h.1.1,Md.qa h.1.2⟩
  | succ l=>exact h2 l c d (by simpa using hc) (by simpa using hd)
 | [],_::_,h=>by simp[nc] at h
 | _::_,[],h=>by simp[nc] at h
section
variable {w w':World} {I I':Nat->Prop} {β aM:ax} {G:Gx} {s:aN} {a:Act} {st eP:List an}
theorem Spec.P' {f:FuncId} {args bf:List PV} {r0:PV} {S0 S1:List an} {K:PV->List an->Prop} (h:Spec G f bf S0 [] fun r S'=>r=r0/\S'=S1) (hm:nc S0 S1=true) (gh:S0.all (BL S0.length)=true) (hu:(eu bf).all (fun l=>Nat.blt l S0.length)=true)
  (z4:r0.c9.all (fun l=>Nat.blt l S0.length)=true) (hle:na qC args bf) (hK:EC st S0 fun T=>xN S1 fun S1=>BY S1 T (K r0)):Spec G f args st [] K:=by
 obtain⟨uv,T,rfl,Ke,hk,LJ⟩:=z9 hK
 replace hk:=z8 (qX hk)
 obtain⟨uQ,Ga⟩:=q_ hm
 refine Spec.intro h.run.1 fun I β w a_ hH hM hA=>?_
 let jE:ax:=fun l=>if l < S0.length then β l else none
 have lR:∀ l,l < S0.length->jE l=β l:=fun l hl=>if_pos hl
 have ED:∀ {l p},jE l=some p->l < S0.length/\β l=some p:=fun {l p} h=>by
  by_cases hl:l < S0.length
  ·exact⟨hl,by rw[← lR l hl]; exact h⟩
  ·have:jE l=none:=if_neg hl
   rw[this] at h; cases h
 have uw:∀ {l:Nat} {b':an},S0[l]?=some b'->l < S0.length/\∃ b,(uv++T)[l]?=some b/\fT b b':=fun {l b'} dw=>by
  have ch:l < S0.length:=(List.getElem?_eq_some_iff.1 dw).1
  have EE:l < uv.length:=by omega
  refine⟨ch,uv[l],by rw[List.getElem?_append_left EE]; simp[EE],LJ l _ b' (by simp[EE]) dw⟩
 have low:∀ {l:Nat} {b':an},S0[l]?=some b'->b'.k.xx=true->∀ c∈b'.cs,∀ m∈c.c9,m < S0.length:=fun {l b'} dw hk c hc m pW=>by
  rw[List.all_eq_true] at gh
  have:=gh b' (List.mem_of_getElem? dw)
  unfold BL at this
  have cA:b'.cs.all (fun c=>c.c9.all fun l=>Nat.blt l S0.length)=true:=by
   cases cQ:b'.k with
   | dyn=>rw[cQ] at hk; cases hk
   | mp=>rw[cQ] at hk; cases hk
   | loc=>rw[cQ] at this; exact this
   | arr=>rw[cQ] at this; exact this
  rw[List.all_eq_true] at cA
  have:=cA c hc
  rw[List.all_eq_true] at this
  exact Nat.le_of_ble_eq_true (this m pW)
 have SJ:aL I jE S0 w:=by
  refine⟨fun l hl=>if_neg (by omega),fun l b' dw aF=>?_⟩
  obtain⟨ch,b,hb,LK⟩:=uw dw
  obtain⟨e1,e2,e3,e4,e5,e6,e7⟩:=cX LK
  obtain⟨p,hp,hB⟩:=hH.iI l b hb e4
  have own:∀ {g:Nat} {fr:Nat × Nat},Own I β (uv++T) l g fr b->Own I jE S0 l g fr b':=fun {g fr} ho=>by
   refine⟨fun hr=>?_,fun hr=>ho.2 (by rw[e3]; exact hr)⟩
   obtain⟨h1,h2,h3⟩:=ho.1 (by rw[e3]; exact hr)
   refine⟨h1,h2,fun l2 b2 cH gz bH p2 g2 o2 jN jM=>?_⟩
   obtain⟨_,b3,ml,nO⟩:=uw gz
   exact h3 l2 b3 cH ml (cX nO).2.2.2.1 p2 g2 o2 (ED jN).2 jM
  have cells:b'.k.xx=true->∀ {arr:Array Value} {o:Nat},bg w I β b.cs arr o->bg w I jE b'.cs arr o:=fun hk {arr o} hc i c hi=>by
   have ph:bg w I β b'.cs arr o:=by
    rcases e7 with ⟨hd,_⟩|⟨_,h7⟩
    ·(rw[e6,hk] at hd; cases hd)
    ·exact j8 h7 hc
   obtain⟨u,Bh,PX,h1⟩:=ph i c hi
   exact⟨u,Bh,PV.Is.mono (fun _ h=>h) (fun _ _=>rfl) c β jE u (fun m p pW e_=>by rw[lR m (low dw hk c (List.mem_of_getElem? hi) m pW)]; exact e_) PX,h1⟩
  refine⟨p,by rw[lR l ch]; exact hp,?_⟩
  split at hB
  ·rename_i cQ
   have jC:b'.k = .loc:=by rw[← e6]; exact cQ
   obtain⟨g,o,arr,ty,fr,h1,h2,h3,ho⟩:=hB
   rw[jC]
   exact⟨g,o,arr,ty,fr,h1,h2,cells (by rw[jC]; rfl) h3,own ho⟩
  ·rename_i cQ
   have jC:b'.k = .arr:=by rw[← e6]; exact cQ
   obtain⟨g,arr,fr,h1,h2,h3,ho,h4,h5,h6,h7,h8⟩:=hB
   have hlen:b'.cs.length=b.cs.length:=by
    rcases e7 with ⟨hd,_⟩|⟨_,h9⟩
    ·rw[cQ] at hd; cases hd
    ·exact (oJ h9).symm
   rw[jC]
   exact⟨g,arr,fr,h1,by rw[← e1]; exact h2,cells (by rw[jC]; rfl) h3,own ho,by rw[hlen,← e2]; exact h4,h5,h6,by rw[← e2]; exact h7,by rw[← e2]; exact h8⟩
  ·rename_i cQ
   have jC:b'.k = .dyn:=by rw[← e6]; exact cQ
   have jA:b.cs=b'.cs:=by
    rcases e7 with ⟨_,h9⟩|⟨hd,_⟩
    ·exact h9
    ·(rw[cQ] at hd; cases hd)
   obtain⟨⟨h1,h2,h3,h4⟩,hB⟩:=hB
   rw[jC]
   refine⟨⟨by rw[← e2]; exact h1,by rw[← jA]; exact h2,h3,h4⟩,?_⟩
   rcases hB with h|⟨g,arr,fr,h5,h6,h7,ho,h8⟩
   ·exact .inl h
   ·exact .inr ⟨g,arr,fr,h5,by rw[← e1]; exact h6,by rw[← jA,← e2]; exact h7,own ho,by rw[← e2]; exact h8⟩
  ·rename_i cQ
   have jC:b'.k = .mp:=by rw[← e6]; exact cQ
   have jA:b.cs=b'.cs:=by
    rcases e7 with ⟨_,h9⟩|⟨hd,_⟩
    ·exact h9
    ·(rw[cQ] at hd; cases hd)
   obtain⟨g,h1,h2,ho⟩:=hB
   rw[jC]
   exact⟨g,h1,by rw[← jA]; exact h2,own ho⟩
 have Um:bp w I bf jE a_:=by
  have:=kl (fun _ _=>fZ) hle hA
  refine bp.mono (fun _ h=>h) (fun _ _=>rfl) bf β jE a_ (fun m p pW e_=>?_) this
  rw[List.all_eq_true] at hu
  rw[lR m (Nat.le_of_ble_eq_true (hu m pW))]; exact e_
 refine (h.run.2 I jE w a_ SJ hM Um).mono fun e w' ⟨v,r,S',I',aM,he,⟨e1,e2⟩,hi,rb,oL,hE,hlen,p7⟩=>?_
 subst e1; subst e2
 have BZ:∀ l,l < S0.length->aM l=β l:=fun l hl=>(p7 l hl (by simp)).trans (lR l hl)
 have Im:∀ l p,aM l=some p->β l=some p:=fun l p hp=>by
  have:l < S0.length:=by have:=rb.lt hp; omega
  rw[← BZ l this]; exact hp
 have LL:∀ {g},Wr jE S0 g->Wr β (uv++T) g:=fun {g} ⟨l,b,p,o,h1,h2,h3,h4,h5⟩=>by
  obtain⟨ch,b2,eG,sT⟩:=uw h1
  obtain⟨_,_,q3,q4,_⟩:=cX sT
  exact⟨l,b2,p,o,eG,q4,by rw[q3]; exact h3,(ED h4).2,h5⟩
 have wr1:∀ {g},Wr β (S'++T) g->(Wr aM S' g)\/∃ l b p o,S0.length<=l/\(uv++T)[l]?=some b/\b.live=true/\b.m = .w/\β l=some p/\p.a=some (g,o):=fun {g} ⟨l,b,p,o,h1,h2,h3,h4,h5⟩=>by
  by_cases hl:l < S'.length
  ·rw[List.getElem?_append_left hl] at h1
   exact .inl ⟨l,b,p,o,h1,h2,h3,by rw[BZ l (by omega)]; exact h4,h5⟩
  ·rw[List.getElem?_append_right (by omega)] at h1
   refine .inr ⟨l,b,p,o,by omega,?_,h2,h3,h4,h5⟩
   rw[List.getElem?_append_right (by omega),Ke,uQ]; exact h1
 
 have apart:∀ {l:Nat} {b:an} {p:tI} {g o:Nat},S0.length<=l->(uv++T)[l]?=some b->b.live=true->β l=some p->p.a=some (g,o)->¬ Wr jE S0 g:=fun {l b p g o} hl hb aF hp ha ⟨l2,b2,p2,o2,h1,h2,h3,h4,h5⟩=>by
  obtain⟨ch,b3,ml,nO⟩:=uw h1
  obtain⟨_,_,q3,q4,_⟩:=cX nO
  obtain⟨arr,ty,fr,_,ho⟩:=(hH.iI l2 b3 ml q4).place (ED h4).2 h5
  exact (ho.1 (by rw[q3,h3]; nofun)).2.2 l b (by omega) hb aF p g o hp ha rfl
 refine⟨v,r,S'++T,I',β,he,hk,PV.Is.mono (fun _ h=>h) (fun _ _=>rfl) r aM β v (fun m p _ hp=>Im m p hp) hi,⟨fun l hl=>hH.py l (by simp only[List.length_append] at hl ⊢; omega),fun l b hb aF=>?_⟩,oL,⟨hE.os,hE.tape,hE.output,hE.size,fun g hg hn=>hE.block g hg fun h=>hn (LL h),fun g hg h=>?_,hE.aC,fun g hg h=>(hE.new g hg h).imp id LL⟩,by simp only[List.length_append]; omega,fun _ _ _=>rfl⟩
 ·by_cases hl:l < S'.length
  ·rw[List.getElem?_append_left hl] at hb
   have hB:=rb.iI l b hb aF
   refine hB.mono (fun _ h=>h) (fun _ _=>rfl) Im fun p g o hp ha=>⟨rfl,fun hr=>?_⟩
   obtain⟨arr,ty,fr,hh,ho⟩:=hB.place hp ha
   obtain⟨h1,h2,h3⟩:=ho.1 hr
   refine⟨h2,fun l2 b2 cH eG bH p2 g2 o2 jN jM=>?_⟩
   by_cases gz:l2 < S'.length
   ·rw[List.getElem?_append_left gz] at eG
    exact h3 l2 b2 cH eG bH p2 g2 o2 (by rw[BZ l2 (by omega)]; exact jN) jM
   ·rw[List.getElem?_append_right (by omega)] at eG
    have LM:(uv++T)[l2]?=some b2:=by rw[List.getElem?_append_right (by omega),Ke,uQ]; exact eG
    obtain⟨b0,jL⟩:∃ b0,S0[l]?=some b0:=⟨S0[l]'(by omega),by simp[show l < S0.length by omega]⟩
    obtain⟨_,b3,ml,nO⟩:=uw jL
    obtain⟨_,_,q3,q4,_⟩:=cX nO
    obtain⟨_,q5⟩:=Ga l b0 b jL hb
    obtain⟨_,_,_,_,ho3⟩:=(hH.iI l b3 ml q4).place (Im l p hp) ha
    exact (ho3.1 (by rw[q3,q5]; exact hr)).2.2 l2 b2 cH LM bH p2 g2 o2 jN jM
  ·rw[List.getElem?_append_right (by omega)] at hb
   have dw:(uv++T)[l]?=some b:=by rw[List.getElem?_append_right (by omega),Ke,uQ]; exact hb
   have hB:=hH.iI l b dw aF
   have same:∀ {p g o},β l=some p->p.a=some (g,o)->g < w.heap.size/\w'.heap[g]?=w.heap[g]?:=fun {p g o} hp ha=>by
    have ch:=hH.dk ⟨l,b,p,o,dw,aF,hp,ha⟩
    exact⟨ch,hE.block g ch (apart (by omega) dw aF hp ha)⟩
   refine hB.mono hE.aC (fun g hg=>hE.block g (hM.aC g hg) fun hw=>?_) (fun _ _ h=>h) fun p g o hp ha=>⟨(same hp ha).2,fun hr=>?_⟩
   ·exact SJ.pZ hw hg
   ·obtain⟨arr,ty,fr,hh,ho⟩:=hB.place hp ha
    obtain⟨h1,h2,h3⟩:=ho.1 hr
    refine⟨fun hI=>(hE.new g (same hp ha).1 hI).elim h2 (apart (by omega) dw aF hp ha),fun l2 b2 cH eG bH p2 g2 o2 jN jM=>?_⟩
    by_cases gz:l2 < S'.length
    ·obtain⟨b0,jL⟩:∃ b0,S0[l2]?=some b0:=⟨S0[l2]'(by omega),by simp[show l2 < S0.length by omega]⟩
     obtain⟨_,b3,ml,nO⟩:=uw jL
     exact h3 l2 b3 cH ml (cX nO).2.2.2.1 p2 g2 o2 jN jM
    ·rw[List.getElem?_append_right (by omega)] at eG
     exact h3 l2 b2 cH (by rw[List.getElem?_append_right (by omega),Ke,uQ]; exact eG) bH p2 g2 o2 jN jM
 ·rcases wr1 h with h|⟨l,b,p,o,_,h2,h3,h4,h5,h6⟩
  ·exact LL (hE.wr g hg h)
  ·exact⟨l,b,p,o,h2,h3,h4,h5,h6⟩
def vS:List an->List an->Prop
 | [],[]=>True
 | b::S,b'::S'=>fT b b'/\vS S S'
 | _,_=>False
theorem uR:∀ {S S':List an},vS S S'->S.length=S'.length/\∀ (l:Nat) (b b':an),S[l]?=some b->S'[l]?=some b'->fT b b'
 | [],[],_=>⟨rfl,fun l b b' h=>by simp at h⟩
 | b::S,b'::S',h=>by
  obtain⟨h1,h2⟩:=uR h.2
  refine⟨by simp[h1],fun l c c' hc A0=>?_⟩
  cases l with
  | zero=>simp at hc A0; subst hc; subst A0; exact h.1
  | succ l=>exact h2 l c c' (by simpa using hc) (by simpa using A0)
 | [],_::_,h=>h.elim
 | _::_,[],h=>h.elim
theorem sU {S S':List an} (h:vS S S') {l:Nat} {b':an} (hb:S'[l]?=some b'):∃ b,S[l]?=some b/\fT b b':=by
 obtain⟨h1,h2⟩:=uR h
 have hl:l < S.length:=by rw[h1]; exact (List.getElem?_eq_some_iff.1 hb).1
 exact⟨S[l],by simp[hl],h2 l _ _ (by simp[hl]) hb⟩
theorem aL.le {S S':List an} (h:vS S S') (hH:aL I β S w):aL I β S' w:=by
 refine⟨fun l hl=>hH.py l (by rw[(uR h).1]; exact hl),fun l b' dw aF=>?_⟩
 obtain⟨b,hb,LK⟩:=sU h dw
 obtain⟨e1,e2,e3,e4,e5,e6,e7⟩:=cX LK
 obtain⟨p,hp,hB⟩:=hH.iI l b hb e4
 have own:∀ {g:Nat} {fr:Nat × Nat},Own I β S l g fr b->Own I β S' l g fr b':=fun {g fr} ho=>by
  refine⟨fun hr=>?_,fun hr=>ho.2 (by rw[e3]; exact hr)⟩
  obtain⟨h1,h2,h3⟩:=ho.1 (by rw[e3]; exact hr)
  refine⟨h1,h2,fun l2 b2 cH gz bH p2 g2 o2 jN jM=>?_⟩
  obtain⟨b3,ml,nO⟩:=sU h gz
  exact h3 l2 b3 cH ml (cX nO).2.2.2.1 p2 g2 o2 jN jM
 have cells:b'.k.xx=true->∀ {arr:Array Value} {o:Nat},bg w I β b.cs arr o->bg w I β b'.cs arr o:=fun hk {arr o} hc=>by
  rcases e7 with ⟨hd,_⟩|⟨_,h7⟩
  ·(rw[e6,hk] at hd; cases hd)
  ·exact j8 h7 hc
 refine⟨p,hp,?_⟩
 split at hB
 ·rename_i cQ
  have jC:b'.k = .loc:=by rw[← e6]; exact cQ
  obtain⟨g,o,arr,ty,fr,h1,h2,h3,ho⟩:=hB
  rw[jC]
  exact⟨g,o,arr,ty,fr,h1,h2,cells (by rw[jC]; rfl) h3,own ho⟩
 ·rename_i cQ
  have jC:b'.k = .arr:=by rw[← e6]; exact cQ
  obtain⟨g,arr,fr,h1,h2,h3,ho,h4,h5,h6,h7,h8⟩:=hB
  have hlen:b'.cs.length=b.cs.length:=by
   rcases e7 with ⟨hd,_⟩|⟨_,h9⟩
   ·rw[cQ] at hd; cases hd
   ·exact (oJ h9).symm
  rw[jC]
  exact⟨g,arr,fr,h1,by rw[← e1]; exact h2,cells (by rw[jC]; rfl) h3,own ho,by rw[hlen,← e2]; exact h4,h5,h6,by rw[← e2]; exact h7,by rw[← e2]; exact h8⟩
 ·rename_i cQ
  have jC:b'.k = .dyn:=by rw[← e6]; exact cQ
  have jA:b.cs=b'.cs:=by
   rcases e7 with ⟨_,h9⟩|⟨hd,_⟩
   ·exact h9
   ·(rw[cQ] at hd; cases hd)
  obtain⟨⟨h1,h2,h3,h4⟩,hB⟩:=hB
  rw[jC]
  refine⟨⟨by rw[← e2]; exact h1,by rw[← jA]; exact h2,h3,h4⟩,?_⟩
  rcases hB with h|⟨g,arr,fr,h5,h6,h7,ho,h8⟩
  ·exact .inl h
  ·exact .inr ⟨g,arr,fr,h5,by rw[← e1]; exact h6,by rw[← jA,← e2]; exact h7,own ho,by rw[← e2]; exact h8⟩
 ·rename_i cQ
  have jC:b'.k = .mp:=by rw[← e6]; exact cQ
  have jA:b.cs=b'.cs:=by
   rcases e7 with ⟨_,h9⟩|⟨hd,_⟩
   ·exact h9
   ·(rw[cQ] at hd; cases hd)
  obtain⟨g,h1,h2,ho⟩:=hB
  rw[jC]
  exact⟨g,h1,by rw[← jA]; exact h2,own ho⟩
theorem Spec.rf {f:FuncId} {args:List PV} {S:List an} {rl:List Nat} {r0:PV} {S1:List an} (h:Spec G f args S rl fun x S'=>x=r0/\vS S' S1):Spec G f args S rl fun x S'=>x=r0/\S'=S1 :=
 Spec.intro h.run.1 fun I β w a_ hH hM hA=>(h.run.2 I β w a_ hH hM hA).mono fun e w' ⟨v,r,S',I',aM,he,⟨e1,e2⟩,hi,rb,oL,hE,hlen,p7⟩ =>
  ⟨v,r,S1,I',aM,he,⟨e1,rfl⟩,hi,rb.le e2,oL,⟨hE.os,hE.tape,hE.output,hE.size,hE.block,fun g hg ⟨l,b,p,o,h1,h2,h3,h4,h5⟩=>by
   obtain⟨b0,jL,LJ⟩:=sU e2 h1
   obtain⟨_,_,q3,q4,_⟩:=cX LJ
   exact hE.wr g hg ⟨l,b0,p,o,jL,q4,by rw[q3]; exact h3,h4,h5⟩,hE.aC,hE.new⟩,by rw[← (uR e2).1]; exact hlen,p7⟩
theorem fy {r r0:PV} {S' S1:List an} (h:qC r r0) (hs:vS S' S1):∃ r',yA r r'/\(fun x S'=>x=r0/\vS S' S1) r' S':=⟨r0,fZ h,rfl,hs⟩
end
def aN.B0 (s:aN) (c:Code) (vs:List (Nat × PV)) (eP:List an):aN:=match s with
 | ⟨n,t,_,b,rl⟩=>⟨n,(ll vs (vN (vM c) t)).BW,eP,b,rl⟩
theorem SW.SK {G:Gx} {s:aN} (hG:nC G) (R:List (Nat × aJ)) {α:Type} {c:Code} {Q:X->aN->Prop} (hc:b_ R c=true) (vs:α->List (Nat × PV)) (stx:α->List an) (μ:α->Nat) (x0:α) (N:Nat) (π:iM) (h0:lj G.cx π s (s.B0 c (vs x0) (stx x0)))
  (h:∀ x,Ub (s.B0 c (vs x) (stx x)) (pw G R N c (qV (fun s'=>∃ y π,μ y < μ x/\lj G.cx π s' (s.B0 c (vs y) (stx y))) Q))):SW G (.loop c) Q s :=
 SW.inv hG (fun x=>s.B0 c (vs x) (stx x)) μ (N:=N) hc x0 (aT hG.ok h0) (fun x s'=>∃ y π,μ y < μ x/\lj G.cx π s' (s.B0 c (vs y) (stx y))) (fun x s' ⟨y,_,hy,hs⟩=>⟨y,hy,aT hG.ok hs⟩) fun x=>sS (h x)
theorem az {p:Nat->Prop}:∀ l∈([]:List Nat),p l:=fun l hl=>absurd hl List.not_mem_nil
def SL (G:Gx) (s:aN) (o:Oper) (q:PV->aN->Prop):Prop:=match o.op with
 | .makeSlice t l c=>aP (G.cx.ns t) fun d=>match d with
  | .slice elem=>aP (Ev.dN G.cx elem) fun n=>aP (Ev.ye elem G.bt) fun bD=>nu G.cx elem fun z=>s.ev l fun l=>s.ev c fun c=>(match l,c,z with
   | .lit _ a,.lit _ b,[x]=>bif decide (a=b) && decide (0<=a) && Nat.beq n 1 && Nat.ble (bD*a.toNat) 281474976710656 && Nat.ble a.toNat maxLen && x.pz then pC s ⟨.dyn,elem,1,.w,true,List.replicate a.toNat x.norm⟩ q else False
   | _,_,_=>False)
  | _=>False
 | _=>False
def SM (G:Gx) (s:aN) (o:Oper) (q:PV->aN->Prop):Prop:=match o.op with
 | .call { callee:=.builtin .copy,args:=⟨[d,x]⟩,argTypes:=⟨t::_⟩ }=>aP (G.cx.ns t) fun td=>match td with
  | .slice elem=>aP (Ev.dN G.cx elem) fun n=>aP (Ev.gD G.cx elem) fun ag=>s.ev d fun d=>s.ev x fun x=>(match d with
   | .wref l=>aP s.st[l]? fun b=>(match b.k with
    | .dyn=>bif b.can && Nat.beq b.size n && Nat.blt 0 n && (ag || Nat.beq n 1) then Pu G.cx s.st n x fun src=>aP (fw ag n src) fun fs=>b.cs.length≠0/\xE s.st l (b.fX (fs.take b.cs.length++b.cs.drop fs.length)) fun st=>q (.int .i64 (min fs.length b.cs.length:Nat)) (s.store st) else False
    | _=>False)
   | _=>False)
  | _=>False
 | _=>False
def SN (G:Gx) (f:FuncId) (args:List PV) (r:PV):Prop:=∀ I β w a_,bp w I args β a_->∃ v,(callFunc f a_.toArray).run G.cx.P w = .ok (.value v) w/\r.Is w I β v
def pext (G:Gx) (s:aN) (o:Oper) (f:FuncId) (q:PV->aN->Prop):Prop:=match o.op with
 | .call { callee:=.value (.func g),args:=⟨KM⟩,argTypes:=_ }=>bif Nat.beq g f then Bd s KM fun l=>∃ r,SN G f l r/\q r s else False
 | _=>False
section
variable {w w':World} {I I':Nat->Prop} {β aM:ax} {G:Gx} {s:aN} {a:Act} {st eP:List an}
theorem eJ.take {es:List PV} {n:Nat} {xs:List Value} (h:eJ w I es n xs) {k:Nat} (hk:k<=es.length):eJ w I (es.take k) n (xs.take (k*n)):=by
 have h1:k*n<=es.length*n:=Nat.mul_le_mul_right _ hk
 refine⟨by rw[List.length_take,List.length_take,h.1,Nat.min_eq_left h1,Nat.min_eq_left hk],fun i e he=>?_⟩
 rw[List.getElem?_take] at he
 split at he
 ·rename_i hi
  obtain⟨h2,h3⟩:=h.2 i e he
  refine⟨h2,fun j c hc=>?_⟩
  obtain⟨v,hv,h4⟩:=h3 j c hc
  have hj:j < n:=by rw[← h2]; exact (List.getElem?_eq_some_iff.1 hc).1
  have:i*n+n<=k*n:=by rw[← Nat.succ_mul]; exact Nat.mul_le_mul_right _ hi
  exact⟨v,by rw[List.getElem?_take,if_pos (by omega)]; exact hv,h4⟩
 ·cases he
theorem eJ.drop {es:List PV} {n:Nat} {xs:List Value} (h:eJ w I es n xs) (k:Nat):eJ w I (es.drop k) n (xs.drop (k*n)):=by
 refine⟨by rw[List.length_drop,List.length_drop,h.1,Nat.sub_mul],fun i e he=>?_⟩
 rw[List.getElem?_drop] at he
 obtain⟨h2,h3⟩:=h.2 _ e he
 refine⟨h2,fun j c hc=>?_⟩
 obtain⟨v,hv,h4⟩:=h3 j c hc
 exact⟨v,by rw[List.getElem?_drop,← Nat.add_assoc,← Nat.add_mul]; exact hv,h4⟩
theorem oB.intro {o:Oper} {q:PV->aN->Prop} (h:∀ I β a w,Rel G I β s a w->Ev.sv G.cx.P (cC G s I β w a q) ((execOp a.eval o).run G.cx.P w)):oB G s o q:=by unfold oB; exact h
theorem LO (hG:nC G) {o:Oper} {q:PV->aN->Prop} (h:SL G s o q):oB G s o q:=oB.intro fun I β a w hR=>by
 unfold SL at h
 split at h
 ·rename_i t l c p9
  replace h:=au h
  obtain⟨d,hu,h⟩:=h
  split at h
  ·rename_i elem
   replace h:=au h
   obtain⟨n,hn,h⟩:=h
   replace h:=au h
   obtain⟨bD,KT,h⟩:=h
   replace h:=iJ (w:=w) (I:=I) (β:=β) hG.ok h
   obtain⟨z,i,v,h,hi,F0,nw⟩:=h
   replace h:=aN.cc hR h
   obtain⟨x,h,hx⟩:=h
   replace h:=aN.cc hR h
   obtain⟨y,h,hy⟩:=h
   split at h
   ·rename_i k1 m1 k2 m2 x
    replace h:=aZ h
    obtain⟨hc,h⟩:=h
    simp only[Bool.and_eq_true,decide_eq_true_eq] at hc
    obtain⟨⟨⟨⟨⟨h1,h2⟩,h3⟩,h4⟩,h5⟩,h6⟩:=hc
    subst h1
    obtain⟨N,rfl⟩:∃ N:Nat,m1=N:=⟨m1.toNat,by omega⟩
    simp only[Int.toNat_natCast] at h4 h5 h
    have h4:=Nat.le_of_ble_eq_true h4
    have h5:=Nat.le_of_ble_eq_true h5
    obtain rfl:=Nat.eq_of_beq_eq_true h3
    simp only[PV.Is] at hx hy
    obtain⟨i2,D2,ux⟩:=hG.bD _ (Ev.jT KT)
    rw[hi] at D2; cases D2
    obtain⟨i3,PN,his⟩:=Ev.kb hG.ok hn
    rw[hi] at PN; cases PN
    match Z7:v.cells.toList,nw with
    | [u],nw =>
     have LP:v.cells = #[u]:=by rw[← Array.toArray_toList (xs:=v.cells),Z7]
     simp only[bp,and_true] at nw
     have hu1:u.oneCell'=true:=by
      refine jj (nw.flat (show x.lC=true from ?_))
      cases x<;>first|rfl|cases h6
     have hv1:v.cells = #[u]:=LP
     have bI:(execOp a.eval o).run G.cx.P w = .ok (.value (.slice (some ⟨w.heap.size,0,none⟩) N N)) (w.alloc (.cells (madeCells #[u] N) elem)):=by
      have h7:((bD*N:Nat):Int)<=281474976710656:=Int.ofNat_le.2 h4
      have h8:(i.bytes:Int)*(N:Int)<=281474976710656:=by rw[ux,← Int.natCast_mul]; exact h7
      have:=run_make (P:=G.cx.P) w t elem i v (hG.ok.un hu) hi F0 k1 k2 N N (by omega) (Int.le_refl _) h8 (by unfold maxLen at h5; omega)
      rw[show i.size=1 from his,hv1] at this
      simp only[Int.toNat_natCast,Nat.mul_one] at this
      unfold execOp
      rw[p9]
      simp only[hx,hy,Sem.run_bind,this,Result.andThen_ok,Sem.run_pure]
     rw[bI]
     replace h:=oD (iY h)
     rw[Nat.zero_add] at h
     have zN:=ax.lF hR.heap ⟨some (w.heap.size,0),N,N⟩
     have fY:(madeCells #[u] N).size=N:=size_madeCells _ _
     have hec:x.norm.cells = [x.norm]:=by cases x<;>first|rfl|cases h6
     have Ly:cg (w.alloc (.cells (madeCells #[u] N) elem)) I (List.replicate N x.norm) 1 w.heap.size 0:=cg.of fun j e he=>by
      rw[List.getElem?_replicate] at he
      split at he
      ·rename_i hj
       cases he
       refine⟨by rw[hec]; rfl,c8.of fun j2 c hc=>?_⟩
       rw[hec] at hc
       match j2,hc with
       | 0,hc =>
        simp at hc; subst hc
        refine⟨u,?_,zO ?_,hu1⟩
        ·rw[Ev.dZ (Ev.qE w _)]
         simp[madeCells,hj,Nat.mod_one]
        ·refine PV.Is.mono (fun _ h=>h) (fun g hg=>kQ hR.heap hR.aC.aC _ g (.inr hg)) x β _ u (fun l p hl=>?_) nw
         exfalso
         cases x<;>first|(simp[PV.c9] at hl; done)|(simp[PV.pz] at h6; done)
      ·cases he
     obtain⟨hH,hE⟩:=sK (vs:=madeCells #[u] N) (t:=elem) hR.heap hR.aC.aC (b:=⟨.dyn,elem,1,.w,true,List.replicate N x.norm⟩) (p:=⟨some (w.heap.size,0),N,N⟩) rfl (fun ho =>
      ⟨_,ax.eI ..,⟨Nat.zero_lt_one,List.length_replicate,Nat.le_refl _,h5⟩,.inr ⟨w.heap.size,madeCells #[u] N,(0,0),rfl,Ev.qE w _,Ly,ho,by rw[fY,Nat.mul_one]⟩⟩) rfl
     refine cC.mk' hR h hH hE zN (by simp) (fun l hl=>if_neg (by omega)) ?_
     simp only[PV.Is]; exact⟨_,ax.eI ..,rfl⟩
    | [],nw=>simp only[bp] at nw
    | _::_::_,nw=>simp only[bp,and_false] at nw
   ·exact h.elim
  ·exact h.elim
 ·exact h.elim
theorem P_ {o:Oper} {f:FuncId} {q:PV->aN->Prop} (h:pext G s o f q):oB G s o q:=oB.intro fun I β a w hR=>by
 unfold pext at h
 split at h
 ·rename_i g KM Un p9
  replace h:=aZ h
  obtain⟨hg,h⟩:=h
  obtain rfl:=Nat.eq_of_beq_eq_true hg
  replace h:=vw hR h
  obtain⟨l,⟨r,hx,hq⟩,hl⟩:=h
  obtain⟨v,hv,hr⟩:=hx I β w _ hl
  have bI:(execOp a.eval o).run G.cx.P w = .ok (.value v) w:=by
   unfold execOp
   rw[p9]
   have e1:(Array.mk KM).map a.eval=(KM.map a.eval).toArray:=by simp
   simp only[resolve,Act.eval,Deferred.ofValue,Sem.run_bind,Sem.run_pure,Result.andThen_ok,invoke]
   simp only[Array.empty_append,Array.append_empty]
   rw[e1]
   exact hv
  rw[bI]
  exact cC.same hR hq hr
 ·exact h.elim
theorem LQ (hG:nC G) {o:Oper} {q:PV->aN->Prop} (h:SM G s o q):oB G s o q:=oB.intro fun I β a w hR=>by
 unfold SM at h
 split at h
 ·rename_i od ox t r p9
  replace h:=au h
  obtain⟨d,hu,h⟩:=h
  split at h
  ·rename_i elem
   replace h:=au h
   obtain⟨n,hn,h⟩:=h
   replace h:=au h
   obtain⟨ag,K1,h⟩:=h
   replace h:=aN.cc hR h
   obtain⟨d,h,hd⟩:=h
   replace h:=aN.cc hR h
   obtain⟨x,h,hx⟩:=h
   split at h
   ·rename_i l
    replace h:=au h
    obtain⟨b,hb,h⟩:=h
    split at h
    ·rename_i hk
     replace h:=aZ h
     obtain⟨hc,h⟩:=h
     simp only[Bool.and_eq_true,Bool.or_eq_true] at hc
     obtain⟨⟨⟨ui,qM⟩,lh⟩,Uo⟩:=hc
     obtain⟨aF,hm⟩:=sF ui
     have qM:=Nat.eq_of_beq_eq_true qM
     have lh:=Nat.le_of_ble_eq_true lh
     obtain⟨src,ad,len,c,news,h,hxv,pk,D1,So,z7⟩:=F9 hG.ok hR.heap lh h hx
     replace h:=au h
     obtain⟨fs,KU,cH,h⟩:=h
     replace h:=kP h
     obtain⟨ch,h⟩:=h
     obtain⟨hfl,sJ⟩:=fe lh (Uo.imp id Nat.eq_of_beq_eq_true) KU pk D1
     simp only[PV.Is] at hd
     obtain⟨p,hp,Qa⟩:=hd
     obtain⟨Kb,hlen,hle,sD,pg⟩:=da hR.heap hb aF hk hp
     rcases pg with ⟨_,tL,_⟩|⟨g,arr,fr,ha,hw,iX,mq,dj,has⟩
     ·exact absurd (show b.cs.length=0 by omega) cH
     ·have pD:fr=(0,0):=(dj.1 (by rw[hm]; decide)).1
      subst pD
      rw[hw] at Qa
      rw[qM] at mq has
      obtain⟨xs,qJ,O0⟩:=mq.row
      obtain⟨m,Ga⟩:∃ m,m=min len p.len:=⟨_,rfl⟩
      have hml:m<=len:=by omega
      have hmp:m<=p.len:=by omega
      have K8:m*n<=len*n:=Nat.mul_le_mul_right _ hml
      have hmn2:m*n<=p.cap*n:=Nat.mul_le_mul_right _ (by omega)
      have htl:(news.take (m*n)).length=m*n:=by rw[List.length_take]; omega
      have hfc:(Builtin.firstCells n m (.slice ad len c)).run G.cx.P w = .ok (news.take (m*n)).toArray w:=by
       have z5:∀ j v,(news.take (m*n))[j]?=some v->news[j]?=some v:=fun j v hv=>by
        rw[List.getElem?_take] at hv
        split at hv
        ·exact hv
        ·cases hv
       rcases So with h0|⟨g',o',rfl⟩
       ·have sq:m=0:=by omega
        have hnil:news.take (m*n) = []:=by rw[sq,Nat.zero_mul]; rfl
        cases ad with
        | none=>rw[hnil,run_firstCells_none w]
        | some b'=>exact run_firstCells_some w n m b' len c _ htl fun j v hv=>by rw[hnil] at hv; simp at hv
       ·exact run_firstCells_some w n m ⟨g',o',none⟩ len c _ htl fun j v hv=>by have h0:=z7 g' o' rfl j v (z5 j v hv); by_cases hj:j=0<;>simpa [Addr.add,hj] using h0
      have yw:∀ v∈news.take (m*n),v.oneCell'=true:=fun v hv=>pk.H' v (List.mem_of_mem_take hv)
      have um:=run_storeCells_at (P:=G.cx.P) g 0 b.ty (news.take (m*n)) 0 arr w iX (by rw[htl,has]; omega) yw
      obtain⟨arr',yD⟩:∃ A,A=(arr.toList.take (0+0)++news.take (m*n)++arr.toList.drop (0+0+(news.take (m*n)).length)).toArray:=⟨_,rfl⟩
      rw[← yD] at um
      have SO:arr'=(news.take (m*n)++arr.toList.drop (m*n)).toArray:=by rw[yD,htl]; simp
      have PL:arr'.size=arr.size:=by
       rw[SO]; simp only[List.size_toArray,List.length_append,htl,List.length_drop,Array.length_toList]; rw[has]; omega
      have bI:(execOp a.eval o).run G.cx.P w = .ok (.value (.int .i64 (m:Nat))) (w.setRow g arr'):=by
       have hcp:∀ ty,(Builtin.copy_ (t::r).toArray ty #[a.eval od,a.eval ox]).run G.cx.P w = .ok (.int .i64 (m:Nat)) (w.setRow g arr'):=fun ty=>by
        rw[Qa,hxv]
        have pF:Nat.min len p.len=m:=Ga.symm
        simp[Builtin.copy_,run_underlying (hG.ok.un hu),Builtin.lenOf,pF,Ev.dY hG.ok hn,hfc,um,goInt]
       unfold execOp
       rw[p9]
       simp[resolve,invoke,builtin,hcp]
      rw[bI]
      obtain⟨k1,k2,k3,k4,k5,k6⟩:=nz b (fs.take b.cs.length++b.cs.drop fs.length)
      have e1:fs.take b.cs.length=fs.take m:=by
       rcases Nat.le_total len p.len with hh|hh
       ·rw[List.take_of_length_le (by omega),List.take_of_length_le (by omega)]
       ·rw[hlen,show p.len=m by omega]
      have e2:b.cs.drop fs.length=b.cs.drop m:=by
       rcases Nat.le_total len p.len with hh|hh
       ·rw[hfl,show len=m by omega]
       ·rw[List.drop_of_length_le (by omega),List.drop_of_length_le (by omega)]
      have z_:eJ w I (fs.take b.cs.length++b.cs.drop fs.length) n (news.take (m*n)++xs.drop (m*n)):=by
       rw[e1,e2]
       exact (sJ.take (by omega)).append (qJ.drop m)
      have Aa:(fs.take b.cs.length++b.cs.drop fs.length).length=p.len:=by
       rw[List.length_append,List.length_take,List.length_drop]; omega
      obtain⟨hH,hE⟩:=hR.heap.write (b':=b.fX (fs.take b.cs.length++b.cs.drop fs.length)) hb aF hm hp ha iX (by rw[k5]; exact aF) (by rw[k4]; exact hm) (arr':=arr') (fun hI hO=>by
       have hr:=setRow_heap w g arr arr' b.ty (0,0) iX
       refine⟨p,hp,?_⟩
       rw[k1,hk]
       refine⟨⟨by rw[k3]; exact Kb,by rw[k6]; exact Aa,hle,sD⟩,.inr ⟨g,arr',(0,0),ha,by rw[k2]; exact hr,?_,hO,by rw[PL,k3,has,qM]⟩⟩
       rw[k6,k3,qM]
       refine z_.at (fun j v hv=>?_) (fun _ h=>h) hI
       rw[Ev.dZ hr,SO]
       simp only[List.getElem?_toArray]
       by_cases hj:j < m*n
       ·rw[List.getElem?_append_left (by omega)] at hv ⊢
        exact hv
       ·rw[List.getElem?_append_right (by omega)] at hv ⊢
        rw[List.getElem?_drop] at hv ⊢
        have:=O0 _ v hv
        rw[Ev.dZ iX,Nat.zero_add] at this
        simpa using this)
      refine cC.mk' hR h hH hE (fun _ _ h=>h) (by simp) (fun _ _=>rfl) ?_
      simp only[PV.Is]
      rw[hfl,hlen,Ga]
    ·exact h.elim
   ·exact h.elim
  ·exact h.elim
 ·exact h.elim
end
def retN (G:Gx) (rs:List ResultVar) (base:Nat) (K:PV->List an->Prop) (x:X) (s:aN):Prop:=match x with
 | .exit _=>False
 | _=>∃ (π:iM) (vs:List (Nat × PV)) (S':List an),lj G.cx π s ⟨s.n,ll vs .nil,S',s.base,s.rl⟩/\base<=S'.length/\PU G ⟨s.n,ll vs .nil,S',s.base,s.rl⟩ rs fun r=>K r S'
def nQ (G:Gx) (R:List (Nat × aJ)) (N:Nat) (fn:Func) (c:Code) (args:List PV) (S:List an) (rl:List Nat) (K:PV->List an->Prop):Prop :=
 bif Nat.ble args.length fn.ntmps && Nat.ble fn.ntmps 16777215 && !(fn.name == "runtime.NumGoroutine") then
  pf S 0 fun b=>Lu args 0 .nil fun t=>pw G R N c (retN G fn.results.toList b K) ⟨fn.ntmps,t,S,b,rl⟩ else False
section
variable {w w':World} {I I':Nat->Prop} {β aM:ax} {G:Gx} {s:aN} {a:Act} {st eP:List an}
theorem Spec.nQ (hG:nC G) (R:List (Nat × aJ)) {f:FuncId} {fn:Func} {c:Code} {args:List PV} {S:List an} {rl:List Nat} {K:PV->List an->Prop} (N:Nat) (hf:G.cx.P.funcs[f]?=some fn) (hb:fn.body=some c) (lD:b_ R c=true) (h:nQ G R N fn c args S rl K) (hd:G.dfs = []:=by rfl):Spec G f args S rl K:=by
 obtain⟨hc,h⟩:=aZ h
 simp only[Bool.and_eq_true,Bool.not_eq_true'] at hc
 obtain⟨⟨hle,uq⟩,BO⟩:=hc
 have hle:=Nat.le_of_ble_eq_true hle
 have uq:=Nat.le_of_ble_eq_true uq
 replace h:=iY h
 rw[Nat.zero_add] at h
 obtain⟨t,h,ht⟩:=uO h
 refine Spec.intro (Ev.lB hf hb BO) fun I β w a_ hH hM hA=>calls_of_wp hf hb ?_
 have hal:=hA.length
 have hR:Rel G I β ⟨fn.ntmps,t,S,S.length,rl⟩ { tmps:=a_.toArray++Array.replicate (fn.ntmps - a_.toArray.size) Go.undef,defers:=[] } w:=by
  refine⟨uq,hd.symm,by simp; omega,Nat.le_refl _,fun n x hx=>?_,hH,hM⟩
  rcases ht n x hx with ⟨j,hj,hx⟩|hx
  ·rw[Nat.zero_add] at hj
   subst hj
   obtain⟨v,hv,hi⟩:=hA.get hx
   have ch:n < a_.length:=(List.getElem?_eq_some_iff.1 hv).1
   exact⟨v,by rw[Array.getElem?_append_left (by simpa using ch)]; simpa using hv,hi⟩
  ·cases hx
 refine wp_mono ((kj hG N c _ _ lD h).run hR) fun e a' w' hp=>?_
 obtain⟨x,s',I',aM,rfl,hq,cd,hg⟩:=hp.goes
 have jl:retN G fn.results.toList S.length K .hU s'->a'.defers = []/\∃ v,(results fn a'.tmps).run G.cx.P w' = .ok v w'/\∃ v',∃ r S' I' aM,Ending.returned v = .returned v'/\K r S'/\r.Is w' I' aM v'/\aL I' aM S' w'/\d_ G I' w'/\Ext I β S w I' aM S' w'/\S.length<=S'.length/\∀ l,l < S.length->l ∉ rl->aM l=β l:=by
  rintro⟨π,vs,S',vv,hlen,zZ⟩
  obtain⟨I2,jm,kh,zT⟩:=aT hG.ok vv I' aM a' w' cd
  obtain⟨r,v,hK,hr,bI⟩:=Gi hG kh zZ
  have hgg:=hg.trans zT
  exact⟨cd.defers.trans hd,v,bI,v,r,S',I2,jm,rfl,hK,hr,kh.heap,kh.aC,hgg.ext,hlen,fun l hl hr=>hgg.low l hl hr⟩
 cases x with
 | hU=>exact jl hq
 | ret=>exact jl hq
 | exit id=>exact hq.elim
theorem Spec.useNew {f:FuncId} {args bf:List PV} {b:an} {K:PV->List an->Prop} (h:Spec G f bf [] [] fun r S'=>r = .wref 0/\S' = [b]) (hm:b.m = .w) (O2:b.live=true) (hk:b.k = .dyn) (hle:na qC args bf) (hu:eu bf = [])
  (hK:pf st 0 fun l=>Ec st b fun eP=>K (.wref l) eP):Spec G f args st [] K:=by
 refine Spec.intro h.run.1 fun I β w a_ hH hM hA=>?_
 replace hK:=oD (iY hK)
 rw[Nat.zero_add] at hK
 have h0:aL I (fun _=>none) ([]:List an) w:=⟨fun _ _=>rfl,fun l b hl=>by simp at hl⟩
 refine (h.run.2 I (fun _=>none) w a_ h0 hM (mF hu (kl (fun _ _=>fZ) hle hA))).mono fun e w' ⟨v,r',S',I',aM,he,⟨xH,Kg⟩,hi,rb,oL,hE,_,_⟩=>?_
 subst xH
 subst Kg
 have tO:∀ g,¬ Wr (fun _=>none) ([]:List an) g:=fun g ⟨l,b,p,o,h1,_⟩=>by simp at h1
 have hold:∀ g,g < w.heap.size->w'.heap[g]?=w.heap[g]?:=fun g hg=>hE.block g hg (tO g)
 have Lz:∀ g,g < w.heap.size->I' g->I g:=fun g hg h=>(hE.new g hg h).elim id fun h=>absurd h (tO g)
 simp only[PV.Is] at hi
 obtain⟨p,hp,rfl⟩:=hi
 have gI:∀ g o,p.a=some (g,o)->w.heap.size<=g:=fun g o ha=>by
  rcases Nat.lt_or_ge g w.heap.size with ch|En
  ·exact absurd (hE.wr g ch ⟨0,b,p,o,rfl,O2,hm,hp,ha⟩) (tO g)
  ·exact En
 have hHo:aL I' β st w':=⟨hH.py,fun l b hl aF=>by
  have hb:=hH.iI l b hl aF
  refine hb.mono hE.aC (fun g hg=>hold g (hM.aC g hg)) (fun _ _ h=>h) fun p g o hp ha=>?_
  obtain⟨arr,ty,fr,hh,ho⟩:=hb.place hp ha
  have ch:=dD hh
  exact⟨hold g ch,fun hr=>⟨fun hI=>(ho.1 hr).2.1 (Lz g ch hI),(ho.1 hr).2.2⟩⟩⟩
 have gh:∀ g,lE β st g->g < w.heap.size:=fun g hg=>hH.dk hg
 have xM:=rb.iI 0 b rfl O2
 have hadd:aL I' (β.set st.length p) (st++[b]) w':=by
  refine hHo.add (fun _ _=>rfl) (fun g o ha=>⟨?_,fun hL=>by have:=gh g hL; have:=gI g o ha; omega⟩) ?_
  ·obtain⟨arr,ty,fr,hh,ho⟩:=xM.place hp ha
   exact (ho.1 (by rw[hm]; decide)).2.1
  ·obtain⟨p',e_,hd⟩:=xM
   obtain rfl:=Option.some.inj (hp.symm.trans e_)
   refine⟨p,ax.eI ..,?_⟩
   rw[hk] at hd ⊢
   refine⟨hd.1,hd.2.imp id ?_⟩
   rintro⟨g,arr,fr,h1,h2,h3,ho,h4⟩
   refine⟨g,arr,fr,h1,h2,h3,⟨fun hr=>⟨(ho.1 hr).1,(ho.1 hr).2.1,fun l' b' cH kf gF q g' o' hq fW e=>?_⟩,ho.2⟩,h4⟩
   subst e
   unfold ax.set at hq
   rw[if_neg cH] at hq
   have ch:=hH.lt hq
   rw[List.getElem?_append_left ch] at kf
   have:=gh g' ⟨l',b',q,o',kf,gF,hq,fW⟩
   have:=gI g' _ h1
   omega
 refine⟨_,.wref st.length,st++[b],I',β.set st.length p,he,hK,?_,hadd,oL,⟨hE.os,hE.tape,hE.output,hE.size,fun g hg _=>hold g hg,fun g hg ⟨l,b',q,o,h1,h2,h3,h4,h5⟩=>?_,hE.aC,fun g hg h=>.inl (Lz g hg h)⟩,by simp,fun l hl _=>?_⟩
 ·simp only[PV.Is]; exact⟨p,ax.eI ..,rfl⟩
 ·unfold ax.set at h4
  split at h4
  ·cases h4
   have:=gI g o h5
   omega
  ·have:=hH.lt h4
   rw[List.getElem?_append_left this] at h1
   exact⟨l,b',q,o,h1,h2,h3,h4,h5⟩
 ·unfold ax.set
  rw[if_neg (by omega)]
end
def LR (G:Gx) (s:aN) (o:Oper) (q:PV->aN->Prop):Prop:=match o.op with
 | .call { callee:=.builtin .clear,args:=⟨[d]⟩,argTypes:=⟨t::_⟩ }=>aP (G.cx.ns t) fun td=>match td with
  | .slice elem=>aP (Ev.dN G.cx elem) fun n=>aP (Ev.gD G.cx elem) fun ag=>nu G.cx elem fun z=>s.ev d fun d=>(match d with
   | .ref l off len=>aP s.st[l]? fun b=>(match b.k with
    | .dyn=>bif b.can && Nat.beq b.size n && Nat.blt 0 n && (ag || Nat.beq n 1) && Nat.beq z.length n && z.all PV.lC then aP (fw ag n (.stat z)) fun fs=>(match fs with
     | [e]=>∃ i:Nat,off=i*n/\i+len=b.cs.length/\0 < len/\xE s.st l (b.fX (b.cs.take i++List.replicate len e)) fun st=>q (.tup []) (s.store st)
     | _=>False) else False
    | _=>False)
   | _=>False)
  | _=>False
 | _=>False
section
variable {w w':World} {I I':Nat->Prop} {β aM:ax} {G:Gx} {s:aN} {a:Act} {st eP:List an}
theorem xP (z:Array Value) (len k:Nat) (hk:k < len*z.size) (hz:0 < z.size):(Builtin.zeroCells z len).toList[k]?=z.toList[k % z.size]?:=by
 have hm:k % z.size < z.size:=Nat.mod_lt _ hz
 simp[Builtin.zeroCells,hk,hm]
theorem Io (hG:nC G) {o:Oper} {q:PV->aN->Prop} (h:LR G s o q):oB G s o q:=oB.intro fun I β a w hR=>by
 unfold LR at h
 split at h
 ·rename_i od t r p9
  replace h:=au h
  obtain⟨d,hu,h⟩:=h
  split at h
  ·rename_i elem
   replace h:=au h
   obtain⟨n,hn,h⟩:=h
   replace h:=au h
   obtain⟨ag,K1,h⟩:=h
   replace h:=iJ (w:=w) (I:=I) (β:=β) hG.ok h
   obtain⟨z,inf,v,h,hinf,F0,nw⟩:=h
   replace h:=aN.cc hR h
   obtain⟨d,h,hd⟩:=h
   split at h
   ·rename_i l off len
    replace h:=au h
    obtain⟨b,hb,h⟩:=h
    split at h
    ·rename_i hk
     replace h:=aZ h
     obtain⟨hc,h⟩:=h
     simp only[Bool.and_eq_true,Bool.or_eq_true] at hc
     obtain⟨⟨⟨⟨⟨ui,qM⟩,lh⟩,Uo⟩,Sn⟩,Kc⟩:=hc
     obtain⟨aF,hm⟩:=sF ui
     have qM:=Nat.eq_of_beq_eq_true qM
     have lh:=Nat.le_of_ble_eq_true lh
     have Sn:=Nat.eq_of_beq_eq_true Sn
     replace h:=au h
     obtain⟨fs,KU,h⟩:=h
     split at h
     ·rename_i e
      obtain⟨i,rfl,hil,hlen,h⟩:=h
      replace h:=kP h
      obtain⟨ch,h⟩:=h
      have yw:∀ u∈v.cells.toList,u.oneCell'=true:=fun u hu=>by
       obtain⟨j,hj,hju⟩:=List.mem_iff_getElem.1 hu
       have hzj:z[j]?=some (z[j]'(by rw[nw.length]; exact hj)):=List.getElem?_eq_getElem _
       obtain⟨u',Bh,hcu⟩:=nw.get hzj
       rw[List.getElem?_eq_getElem hj,hju] at Bh
       cases Bh
       exact jj (hcu.flat (List.all_eq_true.1 Kc _ (List.mem_of_getElem? hzj)))
      have Z2:v.cells.toList.length=n:=by rw[← nw.length,Sn]
      have Up:v.cells.size=n:=by simpa using Z2
      have pk:qN w I β n (.stat z) v.cells.toList:=⟨nw.length.symm,fun j c hc=>by
       obtain⟨u,hu,hcu⟩:=nw.get hc
       exact⟨u,hu,hcu,yw u (List.mem_of_getElem? hu)⟩⟩
      obtain⟨_,sJ⟩:=fe (len:=1) lh (Uo.imp id Nat.eq_of_beq_eq_true) KU pk (by rw[Z2,Nat.one_mul])
      simp only[PV.Is] at hd
      obtain⟨p,g0,o0,cap,hp,LS,Qa,Sl⟩:=hd
      obtain⟨Kb,B6,hle,sD,pg⟩:=da hR.heap hb aF hk hp
      rcases pg with ⟨hnone,tL,_⟩|⟨g,arr,fr,ha,hw,iX,mq,dj,has⟩
      ·rw[hnone] at LS; cases LS
      ·rw[ha] at LS
       obtain⟨rfl,rfl⟩:g=g0/\0=o0:=by cases LS; exact⟨rfl,rfl⟩
       have pD:fr=(0,0):=(dj.1 (by rw[hm]; decide)).1
       subst pD
       rw[qM] at mq has
       obtain⟨xs,qJ,O0⟩:=mq.row
       obtain⟨news,Br⟩:∃ L,L=(Builtin.zeroCells v.cells len).toList:=⟨_,rfl⟩
       have D1:news.length=len*n:=by rw[Br,Array.length_toList,size_zeroCells,Up]
       have SQ:∀ k,k < len*n->news[k]?=v.cells.toList[k % n]?:=fun k hk=>by
        rw[Br,xP _ _ _ (by rw[Up]; exact hk) (by omega),Up]
       have Uq:∀ u∈news,u.oneCell'=true:=fun u hu=>by
        obtain⟨k,hk,hku⟩:=List.mem_iff_getElem.1 hu
        have h1:=SQ k (by omega)
        rw[List.getElem?_eq_getElem hk,hku] at h1
        exact yw u (List.mem_of_getElem? h1.symm)
       have K9:i*n+len*n<=p.cap*n:=by rw[← Nat.add_mul]; exact Nat.mul_le_mul_right _ (by omega)
       have um:=run_storeCells_at (P:=G.cx.P) g (i*n) b.ty news 0 arr w iX (by rw[D1,has]; omega) Uq
       obtain⟨arr',yD⟩:∃ A,A=(arr.toList.take (i*n+0)++news++arr.toList.drop (i*n+0+news.length)).toArray:=⟨_,rfl⟩
       rw[← yD] at um
       have hal:arr.toList.length=p.cap*n:=by rw[Array.length_toList,has]
       have PL:arr'.size=arr.size:=by
        rw[yD]; simp only[List.size_toArray,List.length_append,List.length_take,List.length_drop,hal,D1,has]; omega
       have bI:(execOp a.eval o).run G.cx.P w = .ok (.value (.tuple #[])) (w.setRow g arr'):=by
        have hzr:(zeroValue elem).run G.cx.P w = .ok v w:=by
         simp[zeroValue,run_typeInfo _ hinf,F0]
        have AZ:∀ ty,(Builtin.clear_ (t::r).toArray ty #[a.eval od]).run G.cx.P w = .ok (.tuple #[]) (w.setRow g arr'):=fun ty=>by
         rw[Qa]
         obtain⟨m,rfl⟩:∃ m,len=m+1:=⟨len - 1,by omega⟩
         simp[Builtin.clear_,run_underlying (hG.ok.un hu),hzr,← Br,um]
        unfold execOp
        rw[p9]
        simp[resolve,invoke,builtin,AZ]
       rw[bI]
       obtain⟨k1,k2,k3,k4,k5,k6⟩:=nz b (b.cs.take i++List.replicate len e)
       have hrep:eJ w I (List.replicate len e) n news:=by
        refine⟨by rw[D1,List.length_replicate],fun j e' he=>?_⟩
        rw[List.getElem?_replicate] at he
        split at he
        ·rename_i hj
         cases he
         obtain⟨h1,h2⟩:=sJ.2 0 e rfl
         refine⟨h1,fun j2 c hc=>?_⟩
         obtain⟨u,hu,h3⟩:=h2 j2 c hc
         have D0:j2 < n:=by rw[← h1]; exact (List.getElem?_eq_some_iff.1 hc).1
         refine⟨u,?_,h3⟩
         have hjn:j*n+n<=len*n:=by rw[← Nat.succ_mul]; exact Nat.mul_le_mul_right _ hj
         rw[SQ _ (by omega),Nat.mul_comm,Nat.mul_add_mod,Nat.mod_eq_of_lt D0]
         simpa using hu
        ·cases he
       have z_:eJ w I (b.cs.take i++List.replicate len e) n (xs.take (i*n)++news):=(qJ.take (by omega)).append hrep
       have Aa:(b.cs.take i++List.replicate len e).length=p.len:=by
        rw[List.length_append,List.length_take,List.length_replicate]; omega
       have uj:xs.length=p.len*n:=by rw[qJ.1,B6]
       obtain⟨hH,hE⟩:=hR.heap.write (b':=b.fX (b.cs.take i++List.replicate len e)) hb aF hm hp ha iX (by rw[k5]; exact aF) (by rw[k4]; exact hm) (arr':=arr') (fun hI hO=>by
        have hr:=setRow_heap w g arr arr' b.ty (0,0) iX
        refine⟨p,hp,?_⟩
        rw[k1,hk]
        refine⟨⟨by rw[k3]; exact Kb,by rw[k6]; exact Aa,hle,sD⟩,.inr ⟨g,arr',(0,0),ha,by rw[k2]; exact hr,?_,hO,by rw[PL,k3,has,qM]⟩⟩
        rw[k6,k3,qM]
        refine z_.at (fun j u hv=>?_) (fun _ h=>h) hI
        rw[Ev.dZ hr,yD]
        simp only[List.getElem?_toArray,Nat.add_zero]
        have hpn:i*n<=p.len*n:=Nat.mul_le_mul_right _ (by omega)
        have hxt:(xs.take (i*n)).length=i*n:=by rw[List.length_take]; omega
        have z7:(arr.toList.take (i*n)).length=i*n:=by rw[List.length_take]; omega
        by_cases hj:j < i*n
        ·rw[List.getElem?_append_left (by omega),List.getElem?_take,if_pos hj] at hv
         rw[List.append_assoc,List.getElem?_append_left (by omega),List.getElem?_take,if_pos hj]
         have:=O0 _ u hv
         rw[Ev.dZ iX,Nat.zero_add] at this
         simpa using this
        ·rw[List.getElem?_append_right (by omega),hxt] at hv
         have Z4:j - i*n < news.length:=(List.getElem?_eq_some_iff.1 hv).1
         rw[List.append_assoc,List.getElem?_append_right (by omega),z7,List.getElem?_append_left Z4]
         exact hv)
       refine cC.mk' hR h hH hE (fun _ _ h=>h) (by simp) (fun _ _=>rfl) ?_
       simp only[PV.Is]
       exact⟨_,rfl,trivial⟩
     ·exact h.elim
    ·exact h.elim
   ·exact h.elim
  ·exact h.elim
 ·exact h.elim
theorem Spec.cut {f:FuncId} {args:List PV} {b0:an} {n:Nat} {es:List PV} (h:Spec G f args [b0] [] fun r S'=>∃ b:an,S' = [b]/\b.k = .dyn/\b.live=true/\b.m = .w/\b.size=n/\((r = .wref 0/\b.cs=es)\/(r = .ref 0 0 es.length/\b.cs.take es.length=es))) :
  Spec G f args [b0] [] fun r S'=>r = .sl n es/\S' = [⟨.dyn,b0.ty,n,.w,false,[]⟩]:=by
 refine Spec.intro h.run.1 fun I β w a_ hH hM hA=>(h.run.2 I β w a_ hH hM hA).mono fun e w' ⟨v,r,S',I',aM,he,⟨b,hS,hk,hl,hm,hn,hc⟩,hi,rb,oL,hE,hlen,p7⟩=>?_
 subst hS
 have hb:[b][0]?=some b:=rfl
 obtain⟨p,hp,xM⟩:=rb.iI 0 b hb hl
 obtain⟨Kb,B6,hle,sD,pg⟩:=da rb hb hl hk hp
 rw[hn] at Kb pg
 have yv:∀ g,I' g->(I' g\/∃ o,p.a=some (g,o)):=fun g h=>.inl h
 have Ur:∀ {g o:Nat},p.a=some (g,o)->Wr aM [b] g:=fun {g o} ha=>⟨0,b,p,o,hb,hl,hm,hp,ha⟩
 have mn:∀ g,(I' g\/∃ o,p.a=some (g,o))->g < w'.heap.size:=fun g hg=>by
  rcases hg with hg|⟨o,ha⟩
  ·exact oL.aC g hg
  ·rcases pg with ⟨F_,_⟩|⟨g1,arr,fr,SR,_,iX,_⟩
   ·rw[F_] at ha; cases ha
   ·rw[SR] at ha; cases ha; exact dD iX
 have KZ:es.length<=b.cs.length:=by
  rcases hc with ⟨_,rfl⟩|⟨_,hc⟩
  ·exact Nat.le_refl _
  ·rw[← hc,List.length_take]; omega
 have htk:b.cs.take es.length=es:=by
  rcases hc with ⟨_,rfl⟩|⟨_,hc⟩
  ·rw[List.take_length]
  ·exact hc
 have hIs:(PV.sl n es).Is w' (fun g=>I' g\/∃ o,p.a=some (g,o)) aM v:=by
  simp only[PV.Is]
  rcases pg with ⟨F_,tL,hw⟩|⟨g,arr,fr,ha,hw,iX,mq,dj,has⟩
  ·have h0:es = []:=List.eq_nil_of_length_eq_zero (by omega)
   subst h0
   rcases hc with ⟨rfl,_⟩|⟨rfl,_⟩
   ·simp only[PV.Is] at hi
    obtain⟨p',e_,rfl⟩:=hi
    rw[hp] at e_; cases e_
    exact⟨none,0,by rw[hw]; rfl,Nat.le_refl _,Nat.zero_le _,(fun _ _ e=>by cases e),fun hn=>absurd rfl hn⟩
   ·simp only[PV.Is] at hi
    obtain⟨p',g',o',LU,e_,fW,_⟩:=hi
    rw[hp] at e_; cases e_
    rw[F_] at fW; cases fW
  ·obtain⟨xs,qJ,O0⟩:=mq.row
   have Ly:cg w' (fun g=>I' g\/∃ o,p.a=some (g,o)) es n g 0:=by
    have h1:=qJ.take (k:=es.length) KZ
    rw[htk] at h1
    exact h1.at (fun j u hu=>by
     rw[List.getElem?_take] at hu
     split at hu
     ·have:=O0 j u hu
      rwa [Nat.zero_add] at this
     ·cases hu) yv (fun _ _=>rfl)
   have A4:es.length≠0->∃ g' o',(some (⟨g,0,none⟩:Addr))=some ⟨g',o',none⟩/\(I' g'\/∃ o,p.a=some (g',o))/\0 < n:=fun _=>⟨g,0,rfl,.inr ⟨0,ha⟩,Kb⟩
   rcases hc with ⟨rfl,hce⟩|⟨rfl,_⟩
   ·simp only[PV.Is] at hi
    obtain⟨p',e_,rfl⟩:=hi
    rw[hp] at e_; cases e_
    have lD:p.len=es.length:=by rw[← B6,hce]
    exact⟨some ⟨g,0,none⟩,p.cap,by rw[hw,lD],by omega,by omega,(fun g' o' e=>by cases e; exact Ly),A4⟩
   ·simp only[PV.Is] at hi
    obtain⟨p',g',o',LU,e_,fW,rfl,Sl⟩:=hi
    rw[hp] at e_; cases e_
    rw[ha] at fW; cases fW
    exact⟨some ⟨g,0,none⟩,LU,rfl,Sl,by omega,(fun g' o' e=>by cases e; exact Ly),A4⟩
 refine⟨v,.sl n es,_,_,aM,he,⟨rfl,rfl⟩,hIs,⟨fun l gz=>rb.py l gz,fun l b2 eG aF=>?_⟩,⟨mn,fun g cs hg=>⟨.inl (oL.vn g cs hg).1,c8.mono yv (fun _ _=>rfl) _ _ _ rfl (oL.vn g cs hg).2⟩,oL.row⟩,⟨hE.os,hE.tape,hE.output,hE.size,hE.block,fun g _ h=>?_,fun g hg=>.inl (hE.aC g hg),fun g hg h=>?_⟩,hlen,p7⟩
 ·match l,eG with
  | 0,eG=>cases eG; cases aF
  | l+1,eG=>simp at eG
 ·obtain⟨l,b2,p2,o2,eG,aF,_⟩:=h
  match l,eG with
  | 0,eG=>cases eG; cases aF
  | l+1,eG=>simp at eG
 ·rcases h with h|⟨o,ha⟩
  ·exact hE.new g hg h
  ·exact .inr (hE.wr g hg (Ur ha))
theorem Spec.cut1 {f:FuncId} {args:List PV} {z b0:an} (hz:z.k = .loc) (hzm:z.m = .w) (Sn:z.live=true) {n:Nat} {es:List PV} (h:Spec G f args [z,b0] [] fun r S'=>∃ b:an,S' = [z,b]/\b.k = .dyn/\b.live=true/\b.m = .w/\b.size=n/\((r = .wref 1/\b.cs=es)\/(r = .ref 1 0 es.length/\b.cs.take es.length=es))) :
  Spec G f args [z,b0] [] fun r S'=>r = .sl n es/\S' = [z,⟨.dyn,b0.ty,n,.w,false,[]⟩]:=by
 refine Spec.intro h.run.1 fun I β w a_ hH hM hA=>(h.run.2 I β w a_ hH hM hA).mono fun e w' ⟨v,r,S',I',aM,he,⟨b,hS,hk,hl,hm,hn,hc⟩,hi,rb,oL,hE,hlen,p7⟩=>?_
 subst hS
 have hb:[z,b][1]?=some b:=rfl
 obtain⟨p,hp,xM⟩:=rb.iI 1 b hb hl
 obtain⟨Kb,B6,hle,sD,pg⟩:=da rb hb hl hk hp
 rw[hn] at Kb pg
 have yv:∀ g,I' g->(I' g\/∃ o,p.a=some (g,o)):=fun g h=>.inl h
 have Ur:∀ {g o:Nat},p.a=some (g,o)->Wr aM [z,b] g:=fun {g o} ha=>⟨1,b,p,o,hb,hl,hm,hp,ha⟩
 have mn:∀ g,(I' g\/∃ o,p.a=some (g,o))->g < w'.heap.size:=fun g hg=>by
  rcases hg with hg|⟨o,ha⟩
  ·exact oL.aC g hg
  ·rcases pg with ⟨F_,_⟩|⟨g1,arr,fr,SR,_,iX,_⟩
   ·rw[F_] at ha; cases ha
   ·rw[SR] at ha; cases ha; exact dD iX
 have KZ:es.length<=b.cs.length:=by
  rcases hc with ⟨_,rfl⟩|⟨_,hc⟩
  ·exact Nat.le_refl _
  ·rw[← hc,List.length_take]; omega
 have htk:b.cs.take es.length=es:=by
  rcases hc with ⟨_,rfl⟩|⟨_,hc⟩
  ·rw[List.take_length]
  ·exact hc
 have hIs:(PV.sl n es).Is w' (fun g=>I' g\/∃ o,p.a=some (g,o)) aM v:=by
  simp only[PV.Is]
  rcases pg with ⟨F_,tL,hw⟩|⟨g,arr,fr,ha,hw,iX,mq,dj,has⟩
  ·have h0:es = []:=List.eq_nil_of_length_eq_zero (by omega)
   subst h0
   rcases hc with ⟨rfl,_⟩|⟨rfl,_⟩
   ·simp only[PV.Is] at hi
    obtain⟨p',e_,rfl⟩:=hi
    rw[hp] at e_; cases e_
    exact⟨none,0,by rw[hw]; rfl,Nat.le_refl _,Nat.zero_le _,(fun _ _ e=>by cases e),fun hn=>absurd rfl hn⟩
   ·simp only[PV.Is] at hi
    obtain⟨p',g',o',LU,e_,fW,_⟩:=hi
    rw[hp] at e_; cases e_
    rw[F_] at fW; cases fW
  ·obtain⟨xs,qJ,O0⟩:=mq.row
   have Ly:cg w' (fun g=>I' g\/∃ o,p.a=some (g,o)) es n g 0:=by
    have h1:=qJ.take (k:=es.length) KZ
    rw[htk] at h1
    exact h1.at (fun j u hu=>by
     rw[List.getElem?_take] at hu
     split at hu
     ·have:=O0 j u hu
      rwa [Nat.zero_add] at this
     ·cases hu) yv (fun _ _=>rfl)
   have A4:es.length≠0->∃ g' o',(some (⟨g,0,none⟩:Addr))=some ⟨g',o',none⟩/\(I' g'\/∃ o,p.a=some (g',o))/\0 < n:=fun _=>⟨g,0,rfl,.inr ⟨0,ha⟩,Kb⟩
   rcases hc with ⟨rfl,hce⟩|⟨rfl,_⟩
   ·simp only[PV.Is] at hi
    obtain⟨p',e_,rfl⟩:=hi
    rw[hp] at e_; cases e_
    have lD:p.len=es.length:=by rw[← B6,hce]
    exact⟨some ⟨g,0,none⟩,p.cap,by rw[hw,lD],by omega,by omega,(fun g' o' e=>by cases e; exact Ly),A4⟩
   ·simp only[PV.Is] at hi
    obtain⟨p',g',o',LU,e_,fW,rfl,Sl⟩:=hi
    rw[hp] at e_; cases e_
    rw[ha] at fW; cases fW
    exact⟨some ⟨g,0,none⟩,LU,rfl,Sl,by omega,(fun g' o' e=>by cases e; exact Ly),A4⟩
 refine⟨v,.sl n es,_,_,aM,he,⟨rfl,rfl⟩,hIs,⟨fun l gz=>rb.py l gz,fun l b2 eG aF=>?_⟩,⟨mn,fun g cs hg=>⟨.inl (oL.vn g cs hg).1,c8.mono yv (fun _ _=>rfl) _ _ _ rfl (oL.vn g cs hg).2⟩,oL.row⟩,⟨hE.os,hE.tape,hE.output,hE.size,hE.block,fun g _ h=>?_,fun g hg=>.inl (hE.aC g hg),fun g hg h=>?_⟩,hlen,p7⟩
 ·match l,eG with
  | 0,eG =>
   cases eG
   obtain⟨p0,hp0,Ki⟩:=rb.iI 0 z rfl aF
   rw[hz] at Ki
   obtain⟨g0,o0,arr,ty,fr,q1,q2,q3,q4⟩:=Ki
   obtain⟨r1,r2,r3⟩:=q4.1 (by rw[hzm]; decide)
   refine⟨p0,hp0,?_⟩
   rw[hz]
   refine⟨g0,o0,arr,ty,fr,q1,q2,bg.mono yv (fun _ _=>rfl) (fun _ _ h=>h) q3,⟨fun _=>⟨r1,fun hI=>?_,fun l' b' cH kf gF=>?_⟩,fun pW=>by rw[hzm] at pW; cases pW⟩⟩
   ·rcases hI with hI|⟨o,ha⟩
    ·exact r2 hI
    ·exact r3 1 b (by decide) rfl hl p g0 o hp ha rfl
   ·match l',kf with
    | 0,_=>exact absurd rfl cH
    | 1,kf=>cases kf; cases gF
    | l'+2,kf=>simp at kf
  | 1,eG=>cases eG; cases aF
  | l+2,eG=>simp at eG
 ·obtain⟨l,b2,p2,o2,eG,aF,Bk,jN,jM⟩:=h
  match l,eG with
  | 0,eG=>cases eG; exact hE.wr _ (by assumption) ⟨0,z,p2,o2,rfl,Sn,Bk,jN,jM⟩
  | 1,eG=>cases eG; cases aF
  | l+2,eG=>simp at eG
 ·rcases h with h|⟨o,ha⟩
  ·exact hE.new g hg h
  ·exact .inr (hE.wr g hg (Ur ha))
end
end Go.Proofs.YtnbhdacpogplgaaGreatDoor.Pw

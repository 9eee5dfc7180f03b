/- What this claim is proved with: no condition. -/
import Derived.Test.YtlgkljpgagfndaaGreatDoorNu9
import Derived.Deep.OwnRows
import Derived.Laws.AppendOwn
set_option linter.unusedVariables false
set_option linter.unusedSimpArgs false
namespace Go.Proofs.YtlgkljpgagfndaaGreatDoor.Pw
open Go Go.RowKit
def elB (b:an) (n:Nat) (es:List PV):Prop:=match b with
 | ⟨k,_,m,md,live,cs⟩=>bif live && C1 md && Nat.beq m n then (match k with
  | .dyn=>cs=es
  | .arr=>gA true m (.stat cs)=some es\/(m=1/\gA false m (.stat cs)=some es)
  | _=>False) else False
def Ll (S:List an) (fz:List Nat) (x y:PV):Prop:=match x,y with
 | .wref l,.sl n es=>bif ko l fz then bB S[l]? fun b=>elB b n es else False
 | x,y=>zw x y
def Ya (S:List an) (fz:List Nat) (x y:PV):Prop:=match x,y with
 | .wref l,.sl n es=>bif ko l fz then bB S[l]? fun b=>elB b n es else False
 | .agg cs,.agg ds=>oa (Ll S fz) cs ds
 | x,y=>kZ x y
def WQ (S:List an) (fz:List Nat):Bool:=fz.all fun l=>match S[l]? with
 | some b=>b.live && C1 b.m
 | none=>false
def lK (b:Bool) (m:Md):Md:=bif b then .r else m
def kA (fz:List Nat) (S:List an):List an:=mapM lK fz 0 S
def PV.GN:PV->Bool
 | .lit ..|.int ..|.tt|.ff|.bool _|.val _|.nil=>true
 | _=>false
def PV.BL:PV->Bool
 | .agg cs=>cs.all PV.GN
 | x=>x.GN
def PV.GO:PV->Bool
 | .tup cs=>cs.all PV.BL
 | x=>x.BL
section
variable {w w':World} {I I':Nat->Prop} {β aU:aB} {G:Gx} {S:List an}
theorem xZ {x:PV} {v:Value} (hf:x.GN=true) (h:x.Is w I β v):x.Is w' I' aU v:=by
 cases x<;>first|(cases hf; done)|(simp only[PV.Is] at h ⊢; exact h)
theorem r5 {r:PV->Bool} (hr:∀ x v,r x=true->x.Is w I β v->x.Is w' I' aU v):∀ {cs:List PV} {vs:List Value},cs.all r=true->bG w I cs β vs->bG w' I' cs aU vs
 | [],[],_,_=>by simp only[bG]
 | c::cs,v::vs,hf,h=>by
  simp only[List.all_cons,Bool.and_eq_true] at hf
  simp only[bG] at h ⊢
  exact⟨hr c v hf.1 h.1,r5 hr hf.2 h.2⟩
 | [],_::_,_,h=>by simp only[bG] at h
 | _::_,[],_,h=>by simp only[bG] at h
theorem x4 {x:PV} {v:Value} (hf:x.BL=true) (h:x.Is w I β v):x.Is w' I' aU v:=by
 unfold PV.BL at hf
 split at hf
 ·simp only[PV.Is] at h ⊢
  obtain⟨vs,rfl,h⟩:=h
  exact⟨vs,rfl,r5 (fun x v=>xZ) hf h⟩
 ·exact xZ hf h
theorem GP {x:PV} {v:Value} (hf:x.GO=true) (h:x.Is w I β v):x.Is w' I' aU v:=by
 unfold PV.GO at hf
 split at hf
 ·simp only[PV.Is] at h ⊢
  obtain⟨vs,rfl,h⟩:=h
  exact⟨vs,rfl,r5 (fun x v=>x4) hf h⟩
 ·exact x4 hf h
def gm (I:Nat->Prop) (β:aB) (S:List an) (fz:List Nat) (g:Nat):Prop:=I g\/∃ l b p o,l∈fz/\S[l]?=some b/\b.live=true/\C1 b.m=true/\β l=some p/\p.a=some (g,o)
theorem z4 {fz:List Nat} (h:WQ S fz=true) {l:Nat} (hl:l∈fz):∃ b,S[l]?=some b/\b.live=true/\C1 b.m=true:=by
 have:=List.all_eq_true.1 h l hl
 split at this
 ·rename_i b hb
  simp only[Bool.and_eq_true] at this
  exact⟨b,hb,this⟩
 ·cases this
theorem vR {fz:List Nat} (hH:aN I β S w) {l:Nat} {b:an} {n:Nat} {es:List PV} (hl:l∈fz) (hb:S[l]?=some b) (h:elB b n es) {v:Value} (hx:(PV.wref l).Is w I β v):(PV.sl n es).Is w (gm I β S fz) no v:=by
 obtain⟨k,ty,m,md,live,cs⟩:=b
 unfold elB at h
 replace h:=bs h
 obtain⟨hc,h⟩:=h
 simp only[Bool.and_eq_true] at hc
 obtain⟨⟨aP,hm⟩,hn⟩:=hc
 obtain rfl:=Nat.eq_of_beq_eq_true hn
 simp only[PV.Is] at hx ⊢
 obtain⟨p,hp,rfl⟩:=hx
 have hI:∀ g,I g->gm I β S fz g:=fun g h=>.inl h
 have tO:∀ {g o:Nat},p.a=some (g,o)->gm I β S fz g:=fun {g o} ha=>.inr ⟨l,_,p,o,hl,hb,aP,hm,hp,ha⟩
 cases k with
 | dyn =>
  obtain⟨jk,hlen,hle,tE,nO⟩:=dS hH hb aP rfl hp
  subst h
  rcases nO with ⟨ha,rf,hw⟩|⟨g,arr,fr,ha,hw,jo,pW,fR,has⟩
  ·have h0:cs = []:=List.eq_nil_of_length_eq_zero (by simp only at hlen; omega)
   subst h0
   exact⟨none,0,by rw[hw]; rfl,Nat.le_refl _,Nat.zero_le _,(fun _ _ e=>by cases e),fun hn=>absurd rfl hn⟩
  ·simp only at hlen
   exact⟨some ⟨g,0,none⟩,p.cap,by rw[hw,hlen],by omega,by omega,(fun g' o' e=>by cases e; exact cD.mono hI (fun _ _=>rfl) _ _ _ _ rfl pW),fun _=>⟨g,0,rfl,tO ha,jk⟩⟩
 | arr =>
  obtain⟨g,arr,fr,ha,hw,jo,qK,fR,hlen,hle,tE,has,jk⟩:=gk hH hb aP rfl hp
  simp only at hlen has jk qK
  have ga:p.len*m<=arr.size:=by rw[has]; exact Nat.mul_le_mul_right _ hle
  have rr:(arr.toList.take (p.len*m)).length=p.len*m:=by rw[List.length_take,Array.length_toList]; omega
  have rz:pY w I β m (.stat cs) (arr.toList.take (p.len*m)):=by
   refine⟨by rw[rr,hlen],fun j c hj=>?_⟩
   obtain⟨u,hu,hi,h1⟩:=qK j c hj
   have vz:j < p.len*m:=by rw[← hlen]; exact (List.getElem?_eq_some_iff.1 hj).1
   exact⟨u,by rw[List.getElem?_take,if_pos vz]; simpa using hu,hi,h1⟩
  have key:es.length=p.len/\fB w I es m (arr.toList.take (p.len*m)):=by
   rcases h with h|⟨h1,h⟩
   ·exact gQ jk (.inl rfl) h rz rr
   ·exact gQ jk (.inr h1) h rz rr
  obtain⟨e1,e2⟩:=key
  have GG:cD w I es m g 0:=e2.at (fun j v hj=>by
   have:=nR jo 0 (p.len*m) j v (by simpa using hj)
   simpa using this) (fun _ h=>h) (fun _ _=>rfl)
  exact⟨some ⟨g,0,none⟩,p.cap,by rw[hw,e1],by omega,by omega,fun g' o' e=>by cases e; exact cD.mono hI (fun _ _=>rfl) _ _ _ _ rfl GG,fun _=>⟨g,0,rfl,tO ha,jk⟩⟩
 | loc=>exact h.elim
 | mp=>exact h.elim
theorem Qp {fz:List Nat} (hH:aN I β S w) {x y:PV} {v:Value} (h1:Ll S fz x y) (hu:y.dv = []) (hx:x.Is w I β v):y.Is w (gm I β S fz) no v:=by
 unfold Ll at h1
 split at h1
 ·replace h1:=bs h1
  obtain⟨hl,h1⟩:=h1
  replace h1:=aD h1
  obtain⟨b,hb,h1⟩:=h1
  exact vR hH (dY.1 hl) hb h1 hx
 ·exact PV.Is.mono (fun _ h=>.inl h) (fun _ _=>rfl) y β no v (fun l p hl=>by rw[hu] at hl; cases hl) (rN h1 w I β v hx)
theorem BM {fz:List Nat} (hH:aN I β S w):∀ {args bE:List PV} {vals:List Value},oa (Ll S fz) args bE->eO bE = []->bG w I args β vals->bG w (gm I β S fz) bE no vals
 | [],[],[],_,_,_=>by simp only[bG]
 | x::xs,y::ys,v::vs,h,hu,hx=>by
  simp only[bG] at hx ⊢
  have Fp:y.dv = []/\eO ys = []:=by simpa [eO] using hu
  exact⟨Qp hH h.1 Fp.1 hx.1,BM hH h.2 Fp.2 hx.2⟩
 | [],_::_,_,h,_,_=>h.elim
 | _::_,[],_,h,_,_=>h.elim
 | [],[],_::_,_,_,hx=>by simp only[bG] at hx
 | _::_,_::_,[],_,_,hx=>by simp only[bG] at hx
theorem mi {fz:List Nat} (hH:aN I β S w):∀ {args bE:List PV} {vals:List Value},oa (Ya S fz) args bE->eO bE = []->bG w I args β vals->bG w (gm I β S fz) bE no vals
 | [],[],[],_,_,_=>by simp only[bG]
 | x::xs,y::ys,v::vs,h,hu,hx=>by
  simp only[bG] at hx ⊢
  have Fp:y.dv = []/\eO ys = []:=by simpa [eO] using hu
  refine⟨?_,mi hH h.2 Fp.2 hx.2⟩
  have h1:=h.1
  unfold Ya at h1
  split at h1
  ·obtain⟨hl,h1⟩:=bs h1
   obtain⟨b,hb,h1⟩:=aD h1
   exact vR hH (dY.1 hl) hb h1 hx.1
  ·have dM:=hx.1
   simp only[PV.Is] at dM ⊢
   obtain⟨vs',rfl,dM⟩:=dM
   exact⟨vs',rfl,BM hH h1 (by simpa [PV.dv] using Fp.1) dM⟩
  ·exact PV.Is.mono (fun _ h=>.inl h) (fun _ _=>rfl) y β no v (fun l p hl=>by rw[Fp.1] at hl; cases hl) (fO h1 w I β v hx.1)
 | [],_::_,_,h,_,_=>h.elim
 | _::_,[],_,h,_,_=>h.elim
 | [],[],_::_,_,_,hx=>by simp only[bG] at hx
 | _::_,_::_,[],_,_,hx=>by simp only[bG] at hx
theorem Lm {fz:List Nat} (hH:aN I β S w) (hM:de G I w) {g:Nat} (h:gm I β S fz g):g < w.heap.size:=by
 rcases h with h|⟨l,b,p,o,_,hb,aP,_,hp,ha⟩
 ·exact hM.ay g h
 ·exact hH.dW ⟨l,b,p,o,hb,aP,hp,ha⟩
theorem oq {fz:List Nat} (hH:aN I β S w) (hM:de G I w):de G (gm I β S fz) w :=
 ⟨fun g hg=>Lm hH hM hg,fun g cs hg=>⟨.inl (hM.nG g cs hg).1,du.mono (fun _ h=>.inl h) (fun _ _=>rfl) _ _ _ rfl (hM.nG g cs hg).2⟩,hM.row⟩
theorem GQ (g:Nat):¬ Wr no ([]:List an) g:=fun ⟨l,b,p,o,h1,_⟩=>by simp at h1
theorem ai.x5 {f:FuncId} {args bE:List PV} {r:PV} {K:PV->List an->Prop} (h:ai G f bE r) (fz:List Nat) (hz:WQ S fz=true) (hle:oa (Ya S fz) args bE) (hu:eO bE = []) (hr:r.dv = []) (hK:OQ (kA fz S) (K r)):Spec G f args S [] K:=by
 refine Spec.intro h.run.1 fun I β w vals hH hM hA=>?_
 have h0:aN (gm I β S fz) no ([]:List an) w:=⟨fun _ _=>rfl,fun l b hl=>by simp at hl⟩
 refine (h.run.2 _ no w vals h0 (oq hH hM) (mi hH hle hu hA)).mono fun e w' ⟨v,r',S',I',aU,he,pV,hi,_,kP,hE,_,_⟩=>?_
 subst pV
 have hold:∀ g,g < w.heap.size->w'.heap[g]?=w.heap[g]?:=fun g hg=>hE.block g hg (GQ g)
 have GI:∀ g,g < w.heap.size->I' g->gm I β S fz g:=fun g hg h=>(hE.new g hg h).elim id fun h=>absurd h (GQ g)
 have uw:∀ g,I g->I' g:=fun g h=>hE.ay g (.inl h)
 have vP:∀ (l:Nat) (b:an),(kA fz S)[l]?=some b->∃ b0,S[l]?=some b0/\b = { b0 with m:=lK (ko l fz) b0.m }:=fun l b hb=>by
  unfold kA at hb
  rw[fS,Option.map_eq_some_iff] at hb
  obtain⟨b0,h1,h2⟩:=hb
  rw[Nat.zero_add] at h2
  exact⟨b0,h1,h2.symm⟩
 refine⟨v,r',kA fz S,I',β,he,vI hK,mh hr hi,⟨fun l hl=>hH.qG l (by unfold kA at hl; rw[gC] at hl; exact hl),fun l b hb aP=>?_⟩,kP,⟨hE.os,hE.tape,hE.output,hE.size,fun g hg _=>hold g hg,fun g _ h=>?_,uw,fun g hg h=>?_⟩,by unfold kA; rw[gC]; exact Nat.le_refl _,fun _ _ _=>rfl⟩
 ·obtain⟨b0,gq,rfl⟩:=vP l b hb
  obtain⟨p,hp,hk⟩:=hH.gM l b0 gq aP
  have own:∀ {g o:Nat} {fr:Nat × Nat},p.a=some (g,o)->g < w.heap.size->Own I β S l g fr b0->Own I' β (kA fz S) l g fr { b0 with m:=lK (ko l fz) b0.m }:=fun {g o fr} ha hg ho=>by
   refine⟨fun hm=>?_,fun hm=>?_⟩
   ·have m0:ko l fz=false/\b0.m≠.r:=by
     cases hc:ko l fz with
     | true=>simp only[hc,lK,cond_true,ne_eq,not_true_eq_false] at hm
     | false=>exact⟨rfl,by simpa only [hc,lK,cond_false] using hm⟩
    obtain⟨h1,h2,h3⟩:=ho.1 m0.2
    refine⟨h1,fun hI=>?_,fun l2 b2 dk gn bU p2 g2 o2 iB iA=>?_⟩
    ·rcases GI g hg hI with hI|⟨l2,b2,p2,o2,gn,eu,bU,_,iB,iA⟩
     ·exact h2 hI
     ·refine h3 l2 b2 (fun e=>?_) eu bU p2 g o2 iB iA rfl
      subst e
      rw[dY.2 gn] at m0
      cases m0.1
    ·obtain⟨b3,kv,rfl⟩:=vP l2 b2 gn
     exact h3 l2 b3 dk kv bU p2 g2 o2 iB iA
   ·cases hc:ko l fz with
    | true =>
     obtain⟨b1,O5,k1,k2⟩:=z4 hz (dY.1 hc)
     rw[gq] at O5; cases O5
     exact hE.ay g (.inr ⟨l,b0,p,o,dY.1 hc,gq,k1,k2,hp,ha⟩)
    | false=>exact uw g (ho.2 (by simpa only [hc,lK,cond_false] using hm))
  have Fz:∀ g,I g->w'.heap[g]?=w.heap[g]?:=fun g hg=>hold g (hM.ay g hg)
  refine⟨p,hp,?_⟩
  split at hk
  ·rename_i cX
   obtain⟨g,o,arr,ty,fr,h1,h2,h3,ho⟩:=hk
   have hg:=bT h2
   simp only[cX]
   exact⟨g,o,arr,ty,fr,h1,(hold g hg).trans h2,bA.mono uw Fz (fun _ _ h=>h) h3,own h1 hg ho⟩
  ·rename_i cX
   obtain⟨g,arr,fr,h1,h2,h3,ho,h4⟩:=hk
   have hg:=bT h2
   simp only[cX]
   exact⟨g,arr,fr,h1,(hold g hg).trans h2,bA.mono uw Fz (fun _ _ h=>h) h3,own h1 hg ho,h4⟩
  ·rename_i cX
   obtain⟨h1,hk⟩:=hk
   simp only[cX]
   refine⟨h1,?_⟩
   rcases hk with h|⟨g,arr,fr,h2,h3,h4,ho,h5⟩
   ·exact .inl h
   ·have hg:=bT h3
    exact .inr ⟨g,arr,fr,h2,(hold g hg).trans h3,cD.mono uw Fz _ _ _ _ (hold g hg) h4,own h2 hg ho,h5⟩
  ·rename_i cX
   obtain⟨g,h1,h2,ho⟩:=hk
   have hg:g < w.heap.size:=by obtain⟨es,clock,hb,_⟩:=h2; exact bT hb
   simp only[cX]
   exact⟨g,h1,h2.nP (hold g hg),own h1 hg ho⟩
 ·obtain⟨l,b,p,o,h1,h2,h3,h4,h5⟩:=h
  obtain⟨b0,gq,rfl⟩:=vP l b h1
  refine⟨l,b0,p,o,gq,h2,?_,h4,h5⟩
  cases hc:ko l fz with
  | true=>simp only[hc,lK,cond_true] at h3; cases h3
  | false=>simpa only [hc,lK,cond_false] using h3
 ·rcases GI g hg h with h|⟨l,b,p,o,hl,hb,aP,hm,hp,ha⟩
  ·exact .inl h
  ·cases rZ:b.m with
   | w=>exact .inr ⟨l,b,p,o,hb,aP,rZ,hp,ha⟩
   | p=>rw[rZ] at hm; cases hm
   | r =>
    obtain⟨arr,ty,fr,_,ho⟩:=(hH.gM l b hb aP).place hp ha
    exact .inl (ho.2 rZ)
theorem ai.useB {f:FuncId} {args bE:List PV} {r:PV} {K:PV->List an->Prop} (h:ai G f bE r) (fz:List Nat) (hle:oa (Ya S fz) args bE) (hu:eO bE = []) (hr:r.GO=true) (hK:K r S):Spec G f args S [] K:=by
 refine Spec.intro h.run.1 fun I β w vals hH hM hA=>?_
 have h0:aN (gm I β S fz) no ([]:List an) w:=⟨fun _ _=>rfl,fun l b hl=>by simp at hl⟩
 refine (h.run.2 _ no w vals h0 (oq hH hM) (mi hH hle hu hA)).mono fun e w' ⟨v,r',S',I',aU,he,pV,hi,_,kP,hE,_,_⟩=>?_
 subst pV
 have hold:∀ g,g < w.heap.size->w'.heap[g]?=w.heap[g]?:=fun g hg=>hE.block g hg (GQ g)
 have Fz:∀ g,I g->w'.heap[g]?=w.heap[g]?:=fun g hg=>hold g (hM.ay g hg)
 refine⟨v,r',S,I,β,he,hK,GP hr hi,⟨hH.qG,fun l b hb aP=>(hH.gM l b hb aP).mono (fun _ h=>h) Fz (fun _ _ h=>h) fun p g o hp ha=>?_⟩,⟨fun g hg=>Nat.lt_of_lt_of_le (hM.ay g hg) hE.size,fun g cs hg=>⟨(hM.nG g cs hg).1,du.mono (fun _ h=>h) Fz _ _ _ (Fz g (hM.nG g cs hg).1) (hM.nG g cs hg).2⟩,fun g cs hg=>by
   obtain⟨arr,ty,fr,h1,h2⟩:=hM.row g cs hg
   exact⟨arr,ty,fr,(Fz g (hM.nG g cs hg).1).trans h1,h2⟩⟩,
  ⟨hE.os,hE.tape,hE.output,hE.size,fun g hg _=>hold g hg,fun g _ h=>h,fun _ h=>h,fun _ _ h=>.inl h⟩,Nat.le_refl _,fun _ _ _=>rfl⟩
 obtain⟨arr,ty,fr,hh,ho⟩:=(hH.gM l b hb aP).place hp ha
 exact⟨hold g (bT hh),fun hr=>⟨(ho.1 hr).2.1,(ho.1 hr).2.2⟩⟩
end
def TM.x6:TM->TM
 | .nil=>.nil
 | .node v l r=>.node (match v with
  | some (.tup _)=>none
  | v=>v) l.x6 r.x6
def ba.x7 (s:ba) (c:Code) (vs:List (Nat × PV)):ba:=match s with
 | ⟨n,t,st,b,rl⟩=>⟨n,(ig vs (rU (rT c) t)).x6,st,b,rl⟩
theorem SW.r9 {G:Gx} {s:ba} (hG:m5 G) (R:List (Nat × aS)) {α:Type} {c:Code} {Q:X->ba->Prop} (hc:cr R c=true) (vs:α->List (Nat × PV)) (μ:α->Nat) (x0:α) (N:Nat) (h0:fD G.cx (Qj 0 s.st) s (s.x7 c (vs x0)))
  (h:∀ x,WM (s.x7 c (vs x)) (pw G R N c (rM (fun s'=>∃ y,μ y < μ x/\fD G.cx (Qj 0 s.st) s' (s.x7 c (vs y))) Q))):SW G (.loop c) Q s :=
 SW.inv hG (fun x=>s.x7 c (vs x)) μ (N:=N) hc x0 (cL hG.ok h0) (fun x s'=>∃ y,μ y < μ x/\fD G.cx (Qj 0 s.st) s' (s.x7 c (vs y))) (fun x s' ⟨y,hy,hs⟩=>⟨y,hy,cL hG.ok hs⟩) fun x=>rR (h x)
def ba.headD (s:ba) (c:Code) (vs:List (Nat × PV)) (ex:List an):ba:=match s with
 | ⟨n,t,st,b,rl⟩=>⟨n,(ig vs (rU (rT c) t)).x6,st++ex,b,rl⟩
theorem SW.loopD {G:Gx} {s:ba} (hG:m5 G) (R:List (Nat × aS)) {α:Type} {c:Code} {Q:X->ba->Prop} (hc:cr R c=true) (vs:α->List (Nat × PV)) (ex:α->List an) (μ:α->Nat) (x0:α) (N:Nat) (OW:gZ) (h0:fD G.cx (Qj 0 s.st++OW) s (s.headD c (vs x0) (ex x0)))
  (h:∀ x,WM (s.headD c (vs x) (ex x)) (pw G R N c (rM (fun s'=>∃ y π,μ y < μ x/\fD G.cx (Qj 0 s.st++π) s' (s.headD c (vs y) (ex y))) Q))):SW G (.loop c) Q s :=
 SW.inv hG (fun x=>s.headD c (vs x) (ex x)) μ (N:=N) hc x0 (cL hG.ok h0) (fun x s'=>∃ y π,μ y < μ x/\fD G.cx (Qj 0 s.st++π) s' (s.headD c (vs y) (ex y))) (fun x s' ⟨y,_,hy,hs⟩=>⟨y,hy,cL hG.ok hs⟩) fun x=>rR (h x)
def gN (b b':an):Prop:=match b,b' with
 | ⟨k,ty,n,m,live,cs⟩,⟨k',ty',n',m',O6,O2⟩=>bif Nat.beq ty ty' && Nat.beq n n' && Md.beq m m' && live && O6 && BK.beq k k' then (match k with
  | .dyn=>cs=O2
  | .mp=>cs=O2
  | _=>oa zw cs O2) else False
def O7:List an->List an->(List an->Prop)->Prop
 | [],T,k=>k T
 | b'::S,b::st,k=>gN b b'/\O7 S st k
 | _::_,[],_=>False
def GR (st S:List an) (k:List an->Prop):Prop:=O7 S st k
def z5:List an->List an->(List an->Prop)->Prop
 | [],T,k=>k T
 | b::l,T,k=>z5 l T fun r=>k (b::r)
def kQ:List an->List an->Bool
 | [],[]=>true
 | a::S,b::T=>a.live && Md.beq a.m b.m && kQ S T
 | _,_=>false
theorem vS:∀ {S T:List an} {k:List an->Prop},z5 S T k->k (S++T)
 | [],_,_,h=>h
 | b::l,T,k,h=>vS (S:=l) h
theorem BK.m_ {m n:BK} (h:BK.beq m n=true):m=n:=by cases m<;>cases n<;>first|rfl|cases h
theorem df {b b':an} (h:gN b b'):b.ty=b'.ty/\b.size=b'.size/\b.m=b'.m/\b.live=true/\b'.live=true/\b.k=b'.k/\((b.k.tD=false/\b.cs=b'.cs)\/(b.k.tD=true/\oa zw b.cs b'.cs)):=by
 obtain⟨k,ty,n,m,live,cs⟩:=b
 obtain⟨k',ty',n',m',O6,O2⟩:=b'
 obtain⟨hc,h⟩:=bs h
 simp only[Bool.and_eq_true] at hc
 obtain⟨⟨⟨⟨⟨h1,h2⟩,h3⟩,h4⟩,h5⟩,h6⟩:=hc
 refine⟨Nat.eq_of_beq_eq_true h1,Nat.eq_of_beq_eq_true h2,Md.m_ h3,h4,h5,BK.m_ h6,?_⟩
 cases k with
 | dyn=>exact .inl ⟨rfl,h⟩
 | mp=>exact .inl ⟨rfl,h⟩
 | loc=>exact .inr ⟨rfl,h⟩
 | arr=>exact .inr ⟨rfl,h⟩
theorem vT:∀ {S st:List an} {k:List an->Prop},GR st S k->∃ o6 T,st=o6++T/\o6.length=S.length/\k T/\∀ (l:Nat) (b b':an),o6[l]?=some b->S[l]?=some b'->gN b b'
 | [],T,k,h=>⟨[],T,rfl,rfl,h,fun l b b' hb=>by simp at hb⟩
 | b'::S,b::st,k,h=>by
  obtain⟨o6,T,rfl,hl,hk,ha⟩:=vT (S:=S) (st:=st) h.2
  refine⟨b::o6,T,rfl,by simp[hl],hk,fun l c c' hc zO=>?_⟩
  cases l with
  | zero=>simp at hc zO; subst hc; subst zO; exact h.1
  | succ l=>exact ha l c c' (by simpa using hc) (by simpa using zO)
 | _::_,[],_,h=>h.elim
theorem ot:∀ {S T:List an},kQ S T=true->S.length=T.length/\∀ (l:Nat) (a b:an),S[l]?=some a->T[l]?=some b->a.live=true/\a.m=b.m
 | [],[],_=>⟨rfl,fun l a b h=>by simp at h⟩
 | a::S,b::T,h=>by
  simp only[kQ,Bool.and_eq_true] at h
  obtain⟨h1,h2⟩:=ot h.2
  refine⟨by simp[h1],fun l c d hc hd=>?_⟩
  cases l with
  | zero=>simp at hc hd; subst hc; subst hd; exact⟨h.1.1,Md.m_ h.1.2⟩
  | succ l=>exact h2 l c d (by simpa using hc) (by simpa using hd)
 | [],_::_,h=>by simp[kQ] at h
 | _::_,[],h=>by simp[kQ] at h
section
variable {w w':World} {I I':Nat->Prop} {β aU:aB} {G:Gx} {s:ba} {a:Act} {st eU:List an}
theorem Spec.vU {f:FuncId} {args bE:List PV} {r0:PV} {S0 S1:List an} {K:PV->List an->Prop} (h:Spec G f bE S0 [] fun r S'=>r=r0/\S'=S1) (hm:kQ S0 S1=true) (gJ:S0.all (xQ S0.length)=true) (hu:(eO bE).all (fun l=>Nat.blt l S0.length)=true)
  (GH:r0.dv.all (fun l=>Nat.blt l S0.length)=true) (hle:oa kZ args bE) (hK:GR st S0 fun T=>vN S1 fun S1=>z5 S1 T (K r0)):Spec G f args st [] K:=by
 obtain⟨o6,T,rfl,Ft,hk,GS⟩:=vT hK
 replace hk:=vS (oe hk)
 obtain⟨Kx,K7⟩:=ot hm
 refine Spec.intro h.run.1 fun I β w vals hH hM hA=>?_
 let gd:aB:=fun l=>if l < S0.length then β l else none
 have j4:∀ l,l < S0.length->gd l=β l:=fun l hl=>if_pos hl
 have z6:∀ {l p},gd l=some p->l < S0.length/\β l=some p:=fun {l p} h=>by
  by_cases hl:l < S0.length
  ·exact⟨hl,by rw[← j4 l hl]; exact h⟩
  ·have:gd l=none:=if_neg hl
   rw[this] at h; cases h
 have zy:∀ {l:Nat} {b':an},S0[l]?=some b'->l < S0.length/\∃ b,(o6++T)[l]?=some b/\gN b b':=fun {l b'} dw=>by
  have cE:l < S0.length:=(List.getElem?_eq_some_iff.1 dw).1
  have z7:l < o6.length:=by omega
  refine⟨cE,o6[l],by rw[List.getElem?_append_left z7]; simp[z7],GS l _ b' (by simp[z7]) dw⟩
 have low:∀ {l:Nat} {b':an},S0[l]?=some b'->b'.k.tD=true->∀ c∈b'.cs,∀ m∈c.dv,m < S0.length:=fun {l b'} dw hk c hc m mw=>by
  rw[List.all_eq_true] at gJ
  have:=gJ b' (List.mem_of_getElem? dw)
  unfold xQ at this
  have eQ:b'.cs.all (fun c=>c.dv.all fun l=>Nat.blt l S0.length)=true:=by
   cases cX:b'.k with
   | dyn=>rw[cX] at hk; cases hk
   | mp=>rw[cX] at hk; cases hk
   | loc=>rw[cX] at this; exact this
   | arr=>rw[cX] at this; exact this
  rw[List.all_eq_true] at eQ
  have:=eQ c hc
  rw[List.all_eq_true] at this
  exact Nat.le_of_ble_eq_true (this m mw)
 have Ky:aN I gd S0 w:=by
  refine⟨fun l hl=>if_neg (by omega),fun l b' dw aP=>?_⟩
  obtain⟨cE,b,hb,GU⟩:=zy dw
  obtain⟨e1,e2,e3,e4,e5,e6,e7⟩:=df GU
  obtain⟨p,hp,hB⟩:=hH.gM l b hb e4
  have own:∀ {g:Nat} {fr:Nat × Nat},Own I β (o6++T) l g fr b->Own I gd S0 l g fr b':=fun {g fr} ho=>by
   refine⟨fun hr=>?_,fun hr=>ho.2 (by rw[e3]; exact hr)⟩
   obtain⟨h1,h2,h3⟩:=ho.1 (by rw[e3]; exact hr)
   refine⟨h1,h2,fun l2 b2 dk gn bU p2 g2 o2 iB iA=>?_⟩
   obtain⟨_,b3,kv,lL⟩:=zy gn
   exact h3 l2 b3 dk kv (df lL).2.2.2.1 p2 g2 o2 (z6 iB).2 iA
  have cells:b'.k.tD=true->∀ {arr:Array Value} {o:Nat},bA w I β b.cs arr o->bA w I gd b'.cs arr o:=fun hk {arr o} hc i c hi=>by
   have iP:bA w I β b'.cs arr o:=by
    rcases e7 with ⟨hd,_⟩|⟨_,h7⟩
    ·(rw[e6,hk] at hd; cases hd)
    ·exact iR h7 hc
   obtain⟨u,Fp,O0,h1⟩:=iP i c hi
   exact⟨u,Fp,PV.Is.mono (fun _ h=>h) (fun _ _=>rfl) c β gd u (fun m p mw e_=>by rw[j4 m (low dw hk c (List.mem_of_getElem? hi) m mw)]; exact e_) O0,h1⟩
  refine⟨p,by rw[j4 l cE]; exact hp,?_⟩
  split at hB
  ·rename_i cX
   have jq:b'.k = .loc:=by rw[← e6]; exact cX
   obtain⟨g,o,arr,ty,fr,h1,h2,h3,ho⟩:=hB
   rw[jq]
   exact⟨g,o,arr,ty,fr,h1,h2,cells (by rw[jq]; rfl) h3,own ho⟩
  ·rename_i cX
   have jq:b'.k = .arr:=by rw[← e6]; exact cX
   obtain⟨g,arr,fr,h1,h2,h3,ho,h4,h5,h6,h7,h8⟩:=hB
   have hlen:b'.cs.length=b.cs.length:=by
    rcases e7 with ⟨hd,_⟩|⟨_,h9⟩
    ·rw[cX] at hd; cases hd
    ·exact (mg h9).symm
   rw[jq]
   exact⟨g,arr,fr,h1,by rw[← e1]; exact h2,cells (by rw[jq]; rfl) h3,own ho,by rw[hlen,← e2]; exact h4,h5,h6,by rw[← e2]; exact h7,by rw[← e2]; exact h8⟩
  ·rename_i cX
   have jq:b'.k = .dyn:=by rw[← e6]; exact cX
   have iD:b.cs=b'.cs:=by
    rcases e7 with ⟨_,h9⟩|⟨hd,_⟩
    ·exact h9
    ·(rw[cX] at hd; cases hd)
   obtain⟨⟨h1,h2,h3,h4⟩,hB⟩:=hB
   rw[jq]
   refine⟨⟨by rw[← e2]; exact h1,by rw[← iD]; exact h2,h3,h4⟩,?_⟩
   rcases hB with h|⟨g,arr,fr,h5,h6,h7,ho,h8⟩
   ·exact .inl h
   ·exact .inr ⟨g,arr,fr,h5,by rw[← e1]; exact h6,by rw[← iD,← e2]; exact h7,own ho,by rw[← e2]; exact h8⟩
  ·rename_i cX
   have jq:b'.k = .mp:=by rw[← e6]; exact cX
   have iD:b.cs=b'.cs:=by
    rcases e7 with ⟨_,h9⟩|⟨hd,_⟩
    ·exact h9
    ·(rw[cX] at hd; cases hd)
   obtain⟨g,h1,h2,ho⟩:=hB
   rw[jq]
   exact⟨g,h1,by rw[← iD]; exact h2,own ho⟩
 have Qq:bG w I bE gd vals:=by
  have:=jG (fun _ _=>fO) hle hA
  refine bG.mono (fun _ h=>h) (fun _ _=>rfl) bE β gd vals (fun m p mw e_=>?_) this
  rw[List.all_eq_true] at hu
  rw[j4 m (Nat.le_of_ble_eq_true (hu m mw))]; exact e_
 refine (h.run.2 I gd w vals Ky hM Qq).mono fun e w' ⟨v,r,S',I',aU,he,⟨e1,e2⟩,hi,ou,kP,hE,hlen,m4⟩=>?_
 subst e1; subst e2
 have x8:∀ l,l < S0.length->aU l=β l:=fun l hl=>(m4 l hl (by simp)).trans (j4 l hl)
 have C5:∀ l p,aU l=some p->β l=some p:=fun l p hp=>by
  have:l < S0.length:=by have:=ou.lt hp; omega
  rw[← x8 l this]; exact hp
 have GV:∀ {g},Wr gd S0 g->Wr β (o6++T) g:=fun {g} ⟨l,b,p,o,h1,h2,h3,h4,h5⟩=>by
  obtain⟨cE,b2,eu,GL⟩:=zy h1
  obtain⟨_,_,q3,q4,_⟩:=df GL
  exact⟨l,b2,p,o,eu,q4,by rw[q3]; exact h3,(z6 h4).2,h5⟩
 have C6:∀ {g},Wr β (S'++T) g->(Wr aU S' g)\/∃ l b p o,S0.length<=l/\(o6++T)[l]?=some b/\b.live=true/\b.m = .w/\β l=some p/\p.a=some (g,o):=fun {g} ⟨l,b,p,o,h1,h2,h3,h4,h5⟩=>by
  by_cases hl:l < S'.length
  ·rw[List.getElem?_append_left hl] at h1
   exact .inl ⟨l,b,p,o,h1,h2,h3,by rw[x8 l (by omega)]; exact h4,h5⟩
  ·rw[List.getElem?_append_right (by omega)] at h1
   refine .inr ⟨l,b,p,o,by omega,?_,h2,h3,h4,h5⟩
   rw[List.getElem?_append_right (by omega),Ft,Kx]; exact h1
 
 have apart:∀ {l:Nat} {b:an} {p:o8} {g o:Nat},S0.length<=l->(o6++T)[l]?=some b->b.live=true->β l=some p->p.a=some (g,o)->¬ Wr gd S0 g:=fun {l b p g o} hl hb aP hp ha ⟨l2,b2,p2,o2,h1,h2,h3,h4,h5⟩=>by
  obtain⟨cE,b3,kv,lL⟩:=zy h1
  obtain⟨_,_,q3,q4,_⟩:=df lL
  obtain⟨arr,ty,fr,_,ho⟩:=(hH.gM l2 b3 kv q4).place (z6 h4).2 h5
  exact (ho.1 (by rw[q3,h3]; nofun)).2.2 l b (by omega) hb aP p g o hp ha rfl
 refine⟨v,r,S'++T,I',β,he,hk,PV.Is.mono (fun _ h=>h) (fun _ _=>rfl) r aU β v (fun m p _ hp=>C5 m p hp) hi,⟨fun l hl=>hH.qG l (by simp only[List.length_append] at hl ⊢; omega),fun l b hb aP=>?_⟩,kP,⟨hE.os,hE.tape,hE.output,hE.size,fun g hg hn=>hE.block g hg fun h=>hn (GV h),fun g hg h=>?_,hE.ay,fun g hg h=>(hE.new g hg h).imp id GV⟩,by simp only[List.length_append]; omega,fun _ _ _=>rfl⟩
 ·by_cases hl:l < S'.length
  ·rw[List.getElem?_append_left hl] at hb
   have hB:=ou.gM l b hb aP
   refine hB.mono (fun _ h=>h) (fun _ _=>rfl) C5 fun p g o hp ha=>⟨rfl,fun hr=>?_⟩
   obtain⟨arr,ty,fr,hh,ho⟩:=hB.place hp ha
   obtain⟨h1,h2,h3⟩:=ho.1 hr
   refine⟨h2,fun l2 b2 dk eu bU p2 g2 o2 iB iA=>?_⟩
   by_cases gn:l2 < S'.length
   ·rw[List.getElem?_append_left gn] at eu
    exact h3 l2 b2 dk eu bU p2 g2 o2 (by rw[x8 l2 (by omega)]; exact iB) iA
   ·rw[List.getElem?_append_right (by omega)] at eu
    have GW:(o6++T)[l2]?=some b2:=by rw[List.getElem?_append_right (by omega),Ft,Kx]; exact eu
    obtain⟨b0,gq⟩:∃ b0,S0[l]?=some b0:=⟨S0[l]'(by omega),by simp[show l < S0.length by omega]⟩
    obtain⟨_,b3,kv,lL⟩:=zy gq
    obtain⟨_,_,q3,q4,_⟩:=df lL
    obtain⟨_,q5⟩:=K7 l b0 b gq hb
    obtain⟨_,_,_,_,Yb⟩:=(hH.gM l b3 kv q4).place (C5 l p hp) ha
    exact (Yb.1 (by rw[q3,q5]; exact hr)).2.2 l2 b2 dk GW bU p2 g2 o2 iB iA
  ·rw[List.getElem?_append_right (by omega)] at hb
   have dw:(o6++T)[l]?=some b:=by rw[List.getElem?_append_right (by omega),Ft,Kx]; exact hb
   have hB:=hH.gM l b dw aP
   have same:∀ {p g o},β l=some p->p.a=some (g,o)->g < w.heap.size/\w'.heap[g]?=w.heap[g]?:=fun {p g o} hp ha=>by
    have cE:=hH.dW ⟨l,b,p,o,dw,aP,hp,ha⟩
    exact⟨cE,hE.block g cE (apart (by omega) dw aP hp ha)⟩
   refine hB.mono hE.ay (fun g hg=>hE.block g (hM.ay g hg) fun hw=>?_) (fun _ _ h=>h) fun p g o hp ha=>⟨(same hp ha).2,fun hr=>?_⟩
   ·exact Ky.ly hw hg
   ·obtain⟨arr,ty,fr,hh,ho⟩:=hB.place hp ha
    obtain⟨h1,h2,h3⟩:=ho.1 hr
    refine⟨fun hI=>(hE.new g (same hp ha).1 hI).elim h2 (apart (by omega) dw aP hp ha),fun l2 b2 dk eu bU p2 g2 o2 iB iA=>?_⟩
    by_cases gn:l2 < S'.length
    ·obtain⟨b0,gq⟩:∃ b0,S0[l2]?=some b0:=⟨S0[l2]'(by omega),by simp[show l2 < S0.length by omega]⟩
     obtain⟨_,b3,kv,lL⟩:=zy gq
     exact h3 l2 b3 dk kv (df lL).2.2.2.1 p2 g2 o2 iB iA
    ·rw[List.getElem?_append_right (by omega)] at eu
     exact h3 l2 b2 dk (by rw[List.getElem?_append_right (by omega),Ft,Kx]; exact eu) bU p2 g2 o2 iB iA
 ·rcases C6 h with h|⟨l,b,p,o,_,h2,h3,h4,h5,h6⟩
  ·exact GV (hE.wr g hg h)
  ·exact⟨l,b,p,o,h2,h3,h4,h5,h6⟩
def r_:List an->List an->Prop
 | [],[]=>True
 | b::S,b'::S'=>gN b b'/\r_ S S'
 | _,_=>False
theorem qN:∀ {S S':List an},r_ S S'->S.length=S'.length/\∀ (l:Nat) (b b':an),S[l]?=some b->S'[l]?=some b'->gN b b'
 | [],[],_=>⟨rfl,fun l b b' h=>by simp at h⟩
 | b::S,b'::S',h=>by
  obtain⟨h1,h2⟩:=qN h.2
  refine⟨by simp[h1],fun l c c' hc zO=>?_⟩
  cases l with
  | zero=>simp at hc zO; subst hc; subst zO; exact h.1
  | succ l=>exact h2 l c c' (by simpa using hc) (by simpa using zO)
 | [],_::_,h=>h.elim
 | _::_,[],h=>h.elim
theorem pq {S S':List an} (h:r_ S S') {l:Nat} {b':an} (hb:S'[l]?=some b'):∃ b,S[l]?=some b/\gN b b':=by
 obtain⟨h1,h2⟩:=qN h
 have hl:l < S.length:=by rw[h1]; exact (List.getElem?_eq_some_iff.1 hb).1
 exact⟨S[l],by simp[hl],h2 l _ _ (by simp[hl]) hb⟩
theorem aN.le {S S':List an} (h:r_ S S') (hH:aN I β S w):aN I β S' w:=by
 refine⟨fun l hl=>hH.qG l (by rw[(qN h).1]; exact hl),fun l b' dw aP=>?_⟩
 obtain⟨b,hb,GU⟩:=pq h dw
 obtain⟨e1,e2,e3,e4,e5,e6,e7⟩:=df GU
 obtain⟨p,hp,hB⟩:=hH.gM l b hb e4
 have own:∀ {g:Nat} {fr:Nat × Nat},Own I β S l g fr b->Own I β S' l g fr b':=fun {g fr} ho=>by
  refine⟨fun hr=>?_,fun hr=>ho.2 (by rw[e3]; exact hr)⟩
  obtain⟨h1,h2,h3⟩:=ho.1 (by rw[e3]; exact hr)
  refine⟨h1,h2,fun l2 b2 dk gn bU p2 g2 o2 iB iA=>?_⟩
  obtain⟨b3,kv,lL⟩:=pq h gn
  exact h3 l2 b3 dk kv (df lL).2.2.2.1 p2 g2 o2 iB iA
 have cells:b'.k.tD=true->∀ {arr:Array Value} {o:Nat},bA w I β b.cs arr o->bA w I β b'.cs arr o:=fun hk {arr o} hc=>by
  rcases e7 with ⟨hd,_⟩|⟨_,h7⟩
  ·(rw[e6,hk] at hd; cases hd)
  ·exact iR h7 hc
 refine⟨p,hp,?_⟩
 split at hB
 ·rename_i cX
  have jq:b'.k = .loc:=by rw[← e6]; exact cX
  obtain⟨g,o,arr,ty,fr,h1,h2,h3,ho⟩:=hB
  rw[jq]
  exact⟨g,o,arr,ty,fr,h1,h2,cells (by rw[jq]; rfl) h3,own ho⟩
 ·rename_i cX
  have jq:b'.k = .arr:=by rw[← e6]; exact cX
  obtain⟨g,arr,fr,h1,h2,h3,ho,h4,h5,h6,h7,h8⟩:=hB
  have hlen:b'.cs.length=b.cs.length:=by
   rcases e7 with ⟨hd,_⟩|⟨_,h9⟩
   ·rw[cX] at hd; cases hd
   ·exact (mg h9).symm
  rw[jq]
  exact⟨g,arr,fr,h1,by rw[← e1]; exact h2,cells (by rw[jq]; rfl) h3,own ho,by rw[hlen,← e2]; exact h4,h5,h6,by rw[← e2]; exact h7,by rw[← e2]; exact h8⟩
 ·rename_i cX
  have jq:b'.k = .dyn:=by rw[← e6]; exact cX
  have iD:b.cs=b'.cs:=by
   rcases e7 with ⟨_,h9⟩|⟨hd,_⟩
   ·exact h9
   ·(rw[cX] at hd; cases hd)
  obtain⟨⟨h1,h2,h3,h4⟩,hB⟩:=hB
  rw[jq]
  refine⟨⟨by rw[← e2]; exact h1,by rw[← iD]; exact h2,h3,h4⟩,?_⟩
  rcases hB with h|⟨g,arr,fr,h5,h6,h7,ho,h8⟩
  ·exact .inl h
  ·exact .inr ⟨g,arr,fr,h5,by rw[← e1]; exact h6,by rw[← iD,← e2]; exact h7,own ho,by rw[← e2]; exact h8⟩
 ·rename_i cX
  have jq:b'.k = .mp:=by rw[← e6]; exact cX
  have iD:b.cs=b'.cs:=by
   rcases e7 with ⟨_,h9⟩|⟨hd,_⟩
   ·exact h9
   ·(rw[cX] at hd; cases hd)
  obtain⟨g,h1,h2,ho⟩:=hB
  rw[jq]
  exact⟨g,h1,by rw[← iD]; exact h2,own ho⟩
theorem Spec.jP {f:FuncId} {args:List PV} {S:List an} {rl:List Nat} {r0:PV} {S1:List an} (h:Spec G f args S rl fun x S'=>x=r0/\r_ S' S1):Spec G f args S rl fun x S'=>x=r0/\S'=S1 :=
 Spec.intro h.run.1 fun I β w vals hH hM hA=>(h.run.2 I β w vals hH hM hA).mono fun e w' ⟨v,r,S',I',aU,he,⟨e1,e2⟩,hi,ou,kP,hE,hlen,m4⟩ =>
  ⟨v,r,S1,I',aU,he,⟨e1,rfl⟩,hi,ou.le e2,kP,⟨hE.os,hE.tape,hE.output,hE.size,hE.block,fun g hg ⟨l,b,p,o,h1,h2,h3,h4,h5⟩=>by
   obtain⟨b0,gq,GS⟩:=pq e2 h1
   obtain⟨_,_,q3,q4,_⟩:=df GS
   exact hE.wr g hg ⟨l,b0,p,o,gq,q4,by rw[q3]; exact h3,h4,h5⟩,hE.ay,hE.new⟩,by rw[← (qN e2).1]; exact hlen,m4⟩
theorem bo {r r0:PV} {S' S1:List an} (h:kZ r r0) (hs:r_ S' S1):∃ r',zx r r'/\(fun x S'=>x=r0/\r_ S' S1) r' S':=⟨r0,fO h,rfl,hs⟩
end
def ba.x9 (s:ba) (c:Code) (vs:List (Nat × PV)) (eU:List an):ba:=match s with
 | ⟨n,t,_,b,rl⟩=>⟨n,(ig vs (rU (rT c) t)).x6,eU,b,rl⟩
theorem SW.loopW {G:Gx} {s:ba} (hG:m5 G) (R:List (Nat × aS)) {α:Type} {c:Code} {Q:X->ba->Prop} (hc:cr R c=true) (vs:α->List (Nat × PV)) (stx:α->List an) (μ:α->Nat) (x0:α) (N:Nat) (π:gZ) (h0:fD G.cx π s (s.x9 c (vs x0) (stx x0)))
  (h:∀ x,WM (s.x9 c (vs x) (stx x)) (pw G R N c (rM (fun s'=>∃ y π,μ y < μ x/\fD G.cx π s' (s.x9 c (vs y) (stx y))) Q))):SW G (.loop c) Q s :=
 SW.inv hG (fun x=>s.x9 c (vs x) (stx x)) μ (N:=N) hc x0 (cL hG.ok h0) (fun x s'=>∃ y π,μ y < μ x/\fD G.cx π s' (s.x9 c (vs y) (stx y))) (fun x s' ⟨y,_,hy,hs⟩=>⟨y,hy,cL hG.ok hs⟩) fun x=>rR (h x)
theorem bf {p:Nat->Prop}:∀ l∈([]:List Nat),p l:=fun l hl=>absurd hl List.not_mem_nil
section
variable {w w':World} {I I':Nat->Prop} {β aU:aB} {G:Gx} {s:ba} {a:Act} {st eU:List an}
theorem fB.take {es:List PV} {n:Nat} {xs:List Value} (h:fB w I es n xs) {k:Nat} (hk:k<=es.length):fB w I (es.take k) n (xs.take (k*n)):=by
 have h1:k*n<=es.length*n:=Nat.mul_le_mul_right _ hk
 refine⟨by rw[List.length_take,List.length_take,h.1,Nat.min_eq_left h1,Nat.min_eq_left hk],fun i e he=>?_⟩
 rw[List.getElem?_take] at he
 split at he
 ·rename_i hi
  obtain⟨h2,h3⟩:=h.2 i e he
  refine⟨h2,fun j c hc=>?_⟩
  obtain⟨v,hv,h4⟩:=h3 j c hc
  have hj:j < n:=by rw[← h2]; exact (List.getElem?_eq_some_iff.1 hc).1
  have:i*n+n<=k*n:=by rw[← Nat.succ_mul]; exact Nat.mul_le_mul_right _ hi
  exact⟨v,by rw[List.getElem?_take,if_pos (by omega)]; exact hv,h4⟩
 ·cases he
theorem fB.drop {es:List PV} {n:Nat} {xs:List Value} (h:fB w I es n xs) (k:Nat):fB w I (es.drop k) n (xs.drop (k*n)):=by
 refine⟨by rw[List.length_drop,List.length_drop,h.1,Nat.sub_mul],fun i e he=>?_⟩
 rw[List.getElem?_drop] at he
 obtain⟨h2,h3⟩:=h.2 _ e he
 refine⟨h2,fun j c hc=>?_⟩
 obtain⟨v,hv,h4⟩:=h3 j c hc
 exact⟨v,by rw[List.getElem?_drop,← Nat.add_assoc,← Nat.add_mul]; exact hv,h4⟩
theorem qZ.intro {o:Oper} {q:PV->ba->Prop} (h:∀ I β a w,Rel G I β s a w->Ev.nF G.cx.P (dj G s I β w a q) ((execOp a.eval o).run G.cx.P w)):qZ G s o q:=by unfold qZ; exact h
end
def Yc (G:Gx) (rs:List ResultVar) (base:Nat) (K:PV->List an->Prop) (x:X) (s:ba):Prop:=match x with
 | .exit _=>False
 | _=>∃ (π:gZ) (vs:List (Nat × PV)) (S':List an),fD G.cx π s ⟨s.n,ig vs .nil,S',s.base,s.rl⟩/\base<=S'.length/\Le G ⟨s.n,ig vs .nil,S',s.base,s.rl⟩ rs fun r=>K r S'
def kB (G:Gx) (R:List (Nat × aS)) (N:Nat) (fn:Func) (c:Code) (args:List PV) (S:List an) (rl:List Nat) (K:PV->List an->Prop):Prop :=
 bif Nat.ble args.length fn.ntmps && Nat.ble fn.ntmps 16777215 && !(fn.name == "runtime.NumGoroutine") then
  lz S 0 fun b=>zZ args 0 .nil fun t=>pw G R N c (Yc G fn.results.toList b K) ⟨fn.ntmps,t,S,b,rl⟩ else False
section
variable {w w':World} {I I':Nat->Prop} {β aU:aB} {G:Gx} {s:ba} {a:Act} {st eU:List an}
theorem Spec.kB (hG:m5 G) (R:List (Nat × aS)) {f:FuncId} {fn:Func} {c:Code} {args:List PV} {S:List an} {rl:List Nat} {K:PV->List an->Prop} (N:Nat) (hf:G.cx.P.funcs[f]?=some fn) (hb:fn.body=some c) (pU:cr R c=true) (h:kB G R N fn c args S rl K) (hd:G.FT = []:=by rfl):Spec G f args S rl K:=by
 obtain⟨hc,h⟩:=bs h
 simp only[Bool.and_eq_true,Bool.not_eq_true'] at hc
 obtain⟨⟨hle,nT⟩,xU⟩:=hc
 have hle:=Nat.le_of_ble_eq_true hle
 have nT:=Nat.le_of_ble_eq_true nT
 replace h:=gY h
 rw[Nat.zero_add] at h
 obtain⟨t,h,ht⟩:=og h
 refine Spec.intro (Ev.l7 hf hb xU) fun I β w vals hH hM hA=>calls_of_wp hf hb ?_
 have O1:=hA.length
 have hR:Rel G I β ⟨fn.ntmps,t,S,S.length,rl⟩ { tmps:=vals.toArray++Array.replicate (fn.ntmps - vals.toArray.size) Go.undef,defers:=[] } w:=by
  refine⟨nT,hd.symm,by simp; omega,Nat.le_refl _,fun n x hx=>?_,hH,hM⟩
  rcases ht n x hx with ⟨j,hj,hx⟩|hx
  ·rw[Nat.zero_add] at hj
   subst hj
   obtain⟨v,hv,hi⟩:=hA.get hx
   have cE:n < vals.length:=(List.getElem?_eq_some_iff.1 hv).1
   exact⟨v,by rw[Array.getElem?_append_left (by simpa using cE)]; simpa using hv,hi⟩
  ·cases hx
 refine wp_mono ((gE hG N c _ _ pU h).run hR) fun e a' w' hp=>?_
 obtain⟨x,s',I',aU,rfl,hq,dm,hg⟩:=hp.goes
 have nS:Yc G fn.results.toList S.length K .f_ s'->a'.defers = []/\∃ v,(results fn a'.tmps).run G.cx.P w' = .ok v w'/\∃ v',∃ r S' I' aU,Ending.returned v = .returned v'/\K r S'/\r.Is w' I' aU v'/\aN I' aU S' w'/\de G I' w'/\Ext I β S w I' aU S' w'/\S.length<=S'.length/\∀ l,l < S.length->l ∉ rl->aU l=β l:=by
  rintro⟨π,vs,S',m7,hlen,vO⟩
  obtain⟨I2,gl,kO,xa⟩:=cL hG.ok m7 I' aU a' w' dm
  obtain⟨r,v,hK,hr,cj⟩:=BH hG kO vO
  have hgg:=hg.trans xa
  exact⟨dm.defers.trans hd,v,cj,v,r,S',I2,gl,rfl,hK,hr,kO.heap,kO.ay,hgg.ext,hlen,fun l hl hr=>hgg.low l hl hr⟩
 cases x with
 | f_=>exact nS hq
 | ret=>exact nS hq
 | exit id=>exact hq.elim
theorem Spec.GX {f:FuncId} {args bE:List PV} {b:an} {K:PV->List an->Prop} (h:Spec G f bE [] [] fun r S'=>r = .wref 0/\S' = [b]) (hm:b.m = .w) (OT:b.live=true) (hk:b.k = .dyn) (hle:oa kZ args bE) (hu:eO bE = [])
  (hK:lz st 0 fun l=>zG st b fun eU=>K (.wref l) eU):Spec G f args st [] K:=by
 refine Spec.intro h.run.1 fun I β w vals hH hM hA=>?_
 replace hK:=ma (gY hK)
 rw[Nat.zero_add] at hK
 have h0:aN I (fun _=>none) ([]:List an) w:=⟨fun _ _=>rfl,fun l b hl=>by simp at hl⟩
 refine (h.run.2 I (fun _=>none) w vals h0 hM (kx hu (jG (fun _ _=>fO) hle hA))).mono fun e w' ⟨v,r',S',I',aU,he,⟨pV,Kt⟩,hi,ou,kP,hE,_,_⟩=>?_
 subst pV
 subst Kt
 have Fv:∀ g,¬ Wr (fun _=>none) ([]:List an) g:=fun g ⟨l,b,p,o,h1,_⟩=>by simp at h1
 have hold:∀ g,g < w.heap.size->w'.heap[g]?=w.heap[g]?:=fun g hg=>hE.block g hg (Fv g)
 have GI:∀ g,g < w.heap.size->I' g->I g:=fun g hg h=>(hE.new g hg h).elim id fun h=>absurd h (Fv g)
 simp only[PV.Is] at hi
 obtain⟨p,hp,rfl⟩:=hi
 have gb:∀ g o,p.a=some (g,o)->w.heap.size<=g:=fun g o ha=>by
  rcases Nat.lt_or_ge g w.heap.size with cE|Bz
  ·exact absurd (hE.wr g cE ⟨0,b,p,o,rfl,OT,hm,hp,ha⟩) (Fv g)
  ·exact Bz
 have hHo:aN I' β st w':=⟨hH.qG,fun l b hl aP=>by
  have hb:=hH.gM l b hl aP
  refine hb.mono hE.ay (fun g hg=>hold g (hM.ay g hg)) (fun _ _ h=>h) fun p g o hp ha=>?_
  obtain⟨arr,ty,fr,hh,ho⟩:=hb.place hp ha
  have cE:=bT hh
  exact⟨hold g cE,fun hr=>⟨fun hI=>(ho.1 hr).2.1 (GI g cE hI),(ho.1 hr).2.2⟩⟩⟩
 have gJ:∀ g,jV β st g->g < w.heap.size:=fun g hg=>hH.dW hg
 have CZ:=ou.gM 0 b rfl OT
 have Qr:aN I' (β.set st.length p) (st++[b]) w':=by
  refine hHo.add (fun _ _=>rfl) (fun g o ha=>⟨?_,fun hL=>by have:=gJ g hL; have:=gb g o ha; omega⟩) ?_
  ·obtain⟨arr,ty,fr,hh,ho⟩:=CZ.place hp ha
   exact (ho.1 (by rw[hm]; decide)).2.1
  ·obtain⟨p',e_,hd⟩:=CZ
   obtain rfl:=Option.some.inj (hp.symm.trans e_)
   refine⟨p,aB.dB ..,?_⟩
   rw[hk] at hd ⊢
   refine⟨hd.1,hd.2.imp id ?_⟩
   rintro⟨g,arr,fr,h1,h2,h3,ho,h4⟩
   refine⟨g,arr,fr,h1,h2,h3,⟨fun hr=>⟨(ho.1 hr).1,(ho.1 hr).2.1,fun l' b' dk jT fA q g' o' hq dH e=>?_⟩,ho.2⟩,h4⟩
   subst e
   unfold aB.set at hq
   rw[if_neg dk] at hq
   have cE:=hH.lt hq
   rw[List.getElem?_append_left cE] at jT
   have:=gJ g' ⟨l',b',q,o',jT,fA,hq,dH⟩
   have:=gb g' _ h1
   omega
 refine⟨_,.wref st.length,st++[b],I',β.set st.length p,he,hK,?_,Qr,kP,⟨hE.os,hE.tape,hE.output,hE.size,fun g hg _=>hold g hg,fun g hg ⟨l,b',q,o,h1,h2,h3,h4,h5⟩=>?_,hE.ay,fun g hg h=>.inl (GI g hg h)⟩,by simp,fun l hl _=>?_⟩
 ·simp only[PV.Is]; exact⟨p,aB.dB ..,rfl⟩
 ·unfold aB.set at h4
  split at h4
  ·cases h4
   have:=gb g o h5
   omega
  ·have:=hH.lt h4
   rw[List.getElem?_append_left this] at h1
   exact⟨l,b',q,o,h1,h2,h3,h4,h5⟩
 ·unfold aB.set
  rw[if_neg (by omega)]
end
section
variable {w w':World} {I I':Nat->Prop} {β aU:aB} {G:Gx} {s:ba} {a:Act} {st eU:List an}
theorem Spec.cut {f:FuncId} {args:List PV} {b0:an} {n:Nat} {es:List PV} (h:Spec G f args [b0] [] fun r S'=>∃ b:an,S' = [b]/\b.k = .dyn/\b.live=true/\b.m = .w/\b.size=n/\((r = .wref 0/\b.cs=es)\/(r = .ref 0 0 es.length/\b.cs.take es.length=es))) :
  Spec G f args [b0] [] fun r S'=>r = .sl n es/\S' = [⟨.dyn,b0.ty,n,.w,false,[]⟩]:=by
 refine Spec.intro h.run.1 fun I β w vals hH hM hA=>(h.run.2 I β w vals hH hM hA).mono fun e w' ⟨v,r,S',I',aU,he,⟨b,hS,hk,hl,hm,hn,hc⟩,hi,ou,kP,hE,hlen,m4⟩=>?_
 subst hS
 have hb:[b][0]?=some b:=rfl
 obtain⟨p,hp,CZ⟩:=ou.gM 0 b hb hl
 obtain⟨OK,GY,hle,tE,nO⟩:=dS ou hb hl hk hp
 rw[hn] at OK nO
 have uw:∀ g,I' g->(I' g\/∃ o,p.a=some (g,o)):=fun g h=>.inl h
 have Qs:∀ {g o:Nat},p.a=some (g,o)->Wr aU [b] g:=fun {g o} ha=>⟨0,b,p,o,hb,hl,hm,hp,ha⟩
 have hI2:∀ g,(I' g\/∃ o,p.a=some (g,o))->g < w'.heap.size:=fun g hg=>by
  rcases hg with hg|⟨o,ha⟩
  ·exact kP.ay g hg
  ·rcases nO with ⟨BA,_⟩|⟨g1,arr,fr,ha1,_,jo,_⟩
   ·rw[BA] at ha; cases ha
   ·rw[ha1] at ha; cases ha; exact bT jo
 have KU:es.length<=b.cs.length:=by
  rcases hc with ⟨_,rfl⟩|⟨_,hc⟩
  ·exact Nat.le_refl _
  ·rw[← hc,List.length_take]; omega
 have htk:b.cs.take es.length=es:=by
  rcases hc with ⟨_,rfl⟩|⟨_,hc⟩
  ·rw[List.take_length]
  ·exact hc
 have hIs:(PV.sl n es).Is w' (fun g=>I' g\/∃ o,p.a=some (g,o)) aU v:=by
  simp only[PV.Is]
  rcases nO with ⟨BA,rf,hw⟩|⟨g,arr,fr,ha,hw,jo,pW,fR,has⟩
  ·have h0:es = []:=List.eq_nil_of_length_eq_zero (by omega)
   subst h0
   rcases hc with ⟨rfl,_⟩|⟨rfl,_⟩
   ·simp only[PV.Is] at hi
    obtain⟨p',e_,rfl⟩:=hi
    rw[hp] at e_; cases e_
    exact⟨none,0,by rw[hw]; rfl,Nat.le_refl _,Nat.zero_le _,(fun _ _ e=>by cases e),fun hn=>absurd rfl hn⟩
   ·simp only[PV.Is] at hi
    obtain⟨p',g',o',GZ,e_,dH,_⟩:=hi
    rw[hp] at e_; cases e_
    rw[BA] at dH; cases dH
  ·obtain⟨xs,qI,WD⟩:=pW.row
   have GG:cD w' (fun g=>I' g\/∃ o,p.a=some (g,o)) es n g 0:=by
    have h1:=qI.take (k:=es.length) KU
    rw[htk] at h1
    exact h1.at (fun j u hu=>by
     rw[List.getElem?_take] at hu
     split at hu
     ·have:=WD j u hu
      rwa [Nat.zero_add] at this
     ·cases hu) uw (fun _ _=>rfl)
   have tO:es.length≠0->∃ g' o',(some (⟨g,0,none⟩:Addr))=some ⟨g',o',none⟩/\(I' g'\/∃ o,p.a=some (g',o))/\0 < n:=fun _=>⟨g,0,rfl,.inr ⟨0,ha⟩,OK⟩
   rcases hc with ⟨rfl,Yd⟩|⟨rfl,_⟩
   ·simp only[PV.Is] at hi
    obtain⟨p',e_,rfl⟩:=hi
    rw[hp] at e_; cases e_
    have pU:p.len=es.length:=by rw[← GY,Yd]
    exact⟨some ⟨g,0,none⟩,p.cap,by rw[hw,pU],by omega,by omega,(fun g' o' e=>by cases e; exact GG),tO⟩
   ·simp only[PV.Is] at hi
    obtain⟨p',g',o',GZ,e_,dH,rfl,P5⟩:=hi
    rw[hp] at e_; cases e_
    rw[ha] at dH; cases dH
    exact⟨some ⟨g,0,none⟩,GZ,rfl,P5,by omega,(fun g' o' e=>by cases e; exact GG),tO⟩
 refine⟨v,.sl n es,_,_,aU,he,⟨rfl,rfl⟩,hIs,⟨fun l gn=>ou.qG l gn,fun l b2 eu aP=>?_⟩,⟨hI2,fun g cs hg=>⟨.inl (kP.nG g cs hg).1,du.mono uw (fun _ _=>rfl) _ _ _ rfl (kP.nG g cs hg).2⟩,kP.row⟩,⟨hE.os,hE.tape,hE.output,hE.size,hE.block,fun g _ h=>?_,fun g hg=>.inl (hE.ay g hg),fun g hg h=>?_⟩,hlen,m4⟩
 ·match l,eu with
  | 0,eu=>cases eu; cases aP
  | l+1,eu=>simp at eu
 ·obtain⟨l,b2,p2,o2,eu,aP,_⟩:=h
  match l,eu with
  | 0,eu=>cases eu; cases aP
  | l+1,eu=>simp at eu
 ·rcases h with h|⟨o,ha⟩
  ·exact hE.new g hg h
  ·exact .inr (hE.wr g hg (Qs ha))
theorem Spec.cut1 {f:FuncId} {args:List PV} {z b0:an} (hz:z.k = .loc) (hzm:z.m = .w) (hzl:z.live=true) {n:Nat} {es:List PV} (h:Spec G f args [z,b0] [] fun r S'=>∃ b:an,S' = [z,b]/\b.k = .dyn/\b.live=true/\b.m = .w/\b.size=n/\((r = .wref 1/\b.cs=es)\/(r = .ref 1 0 es.length/\b.cs.take es.length=es))) :
  Spec G f args [z,b0] [] fun r S'=>r = .sl n es/\S' = [z,⟨.dyn,b0.ty,n,.w,false,[]⟩]:=by
 refine Spec.intro h.run.1 fun I β w vals hH hM hA=>(h.run.2 I β w vals hH hM hA).mono fun e w' ⟨v,r,S',I',aU,he,⟨b,hS,hk,hl,hm,hn,hc⟩,hi,ou,kP,hE,hlen,m4⟩=>?_
 subst hS
 have hb:[z,b][1]?=some b:=rfl
 obtain⟨p,hp,CZ⟩:=ou.gM 1 b hb hl
 obtain⟨OK,GY,hle,tE,nO⟩:=dS ou hb hl hk hp
 rw[hn] at OK nO
 have uw:∀ g,I' g->(I' g\/∃ o,p.a=some (g,o)):=fun g h=>.inl h
 have Qs:∀ {g o:Nat},p.a=some (g,o)->Wr aU [z,b] g:=fun {g o} ha=>⟨1,b,p,o,hb,hl,hm,hp,ha⟩
 have hI2:∀ g,(I' g\/∃ o,p.a=some (g,o))->g < w'.heap.size:=fun g hg=>by
  rcases hg with hg|⟨o,ha⟩
  ·exact kP.ay g hg
  ·rcases nO with ⟨BA,_⟩|⟨g1,arr,fr,ha1,_,jo,_⟩
   ·rw[BA] at ha; cases ha
   ·rw[ha1] at ha; cases ha; exact bT jo
 have KU:es.length<=b.cs.length:=by
  rcases hc with ⟨_,rfl⟩|⟨_,hc⟩
  ·exact Nat.le_refl _
  ·rw[← hc,List.length_take]; omega
 have htk:b.cs.take es.length=es:=by
  rcases hc with ⟨_,rfl⟩|⟨_,hc⟩
  ·rw[List.take_length]
  ·exact hc
 have hIs:(PV.sl n es).Is w' (fun g=>I' g\/∃ o,p.a=some (g,o)) aU v:=by
  simp only[PV.Is]
  rcases nO with ⟨BA,rf,hw⟩|⟨g,arr,fr,ha,hw,jo,pW,fR,has⟩
  ·have h0:es = []:=List.eq_nil_of_length_eq_zero (by omega)
   subst h0
   rcases hc with ⟨rfl,_⟩|⟨rfl,_⟩
   ·simp only[PV.Is] at hi
    obtain⟨p',e_,rfl⟩:=hi
    rw[hp] at e_; cases e_
    exact⟨none,0,by rw[hw]; rfl,Nat.le_refl _,Nat.zero_le _,(fun _ _ e=>by cases e),fun hn=>absurd rfl hn⟩
   ·simp only[PV.Is] at hi
    obtain⟨p',g',o',GZ,e_,dH,_⟩:=hi
    rw[hp] at e_; cases e_
    rw[BA] at dH; cases dH
  ·obtain⟨xs,qI,WD⟩:=pW.row
   have GG:cD w' (fun g=>I' g\/∃ o,p.a=some (g,o)) es n g 0:=by
    have h1:=qI.take (k:=es.length) KU
    rw[htk] at h1
    exact h1.at (fun j u hu=>by
     rw[List.getElem?_take] at hu
     split at hu
     ·have:=WD j u hu
      rwa [Nat.zero_add] at this
     ·cases hu) uw (fun _ _=>rfl)
   have tO:es.length≠0->∃ g' o',(some (⟨g,0,none⟩:Addr))=some ⟨g',o',none⟩/\(I' g'\/∃ o,p.a=some (g',o))/\0 < n:=fun _=>⟨g,0,rfl,.inr ⟨0,ha⟩,OK⟩
   rcases hc with ⟨rfl,Yd⟩|⟨rfl,_⟩
   ·simp only[PV.Is] at hi
    obtain⟨p',e_,rfl⟩:=hi
    rw[hp] at e_; cases e_
    have pU:p.len=es.length:=by rw[← GY,Yd]
    exact⟨some ⟨g,0,none⟩,p.cap,by rw[hw,pU],by omega,by omega,(fun g' o' e=>by cases e; exact GG),tO⟩
   ·simp only[PV.Is] at hi
    obtain⟨p',g',o',GZ,e_,dH,rfl,P5⟩:=hi
    rw[hp] at e_; cases e_
    rw[ha] at dH; cases dH
    exact⟨some ⟨g,0,none⟩,GZ,rfl,P5,by omega,(fun g' o' e=>by cases e; exact GG),tO⟩
 refine⟨v,.sl n es,_,_,aU,he,⟨rfl,rfl⟩,hIs,⟨fun l gn=>ou.qG l gn,fun l b2 eu aP=>?_⟩,⟨hI2,fun g cs hg=>⟨.inl (kP.nG g cs hg).1,du.mono uw (fun _ _=>rfl) _ _ _ rfl (kP.nG g cs hg).2⟩,kP.row⟩,⟨hE.os,hE.tape,hE.output,hE.size,hE.block,fun g _ h=>?_,fun g hg=>.inl (hE.ay g hg),fun g hg h=>?_⟩,hlen,m4⟩
 ·match l,eu with
  | 0,eu =>
   cases eu
   obtain⟨p0,hp0,vK⟩:=ou.gM 0 z rfl aP
   rw[hz] at vK
   obtain⟨g0,o0,arr,ty,fr,q1,q2,q3,q4⟩:=vK
   obtain⟨r1,r2,r3⟩:=q4.1 (by rw[hzm]; decide)
   refine⟨p0,hp0,?_⟩
   rw[hz]
   refine⟨g0,o0,arr,ty,fr,q1,q2,bA.mono uw (fun _ _=>rfl) (fun _ _ h=>h) q3,⟨fun _=>⟨r1,fun hI=>?_,fun l' b' dk jT fA=>?_⟩,fun mw=>by rw[hzm] at mw; cases mw⟩⟩
   ·rcases hI with hI|⟨o,ha⟩
    ·exact r2 hI
    ·exact r3 1 b (by decide) rfl hl p g0 o hp ha rfl
   ·match l',jT with
    | 0,_=>exact absurd rfl dk
    | 1,jT=>cases jT; cases fA
    | l'+2,jT=>simp at jT
  | 1,eu=>cases eu; cases aP
  | l+2,eu=>simp at eu
 ·obtain⟨l,b2,p2,o2,eu,aP,xp,iB,iA⟩:=h
  match l,eu with
  | 0,eu=>cases eu; exact hE.wr _ (by assumption) ⟨0,z,p2,o2,rfl,hzl,xp,iB,iA⟩
  | 1,eu=>cases eu; cases aP
  | l+2,eu=>simp at eu
 ·rcases h with h|⟨o,ha⟩
  ·exact hE.new g hg h
  ·exact .inr (hE.wr g hg (Qs ha))
end
end Go.Proofs.YtlgkljpgagfndaaGreatDoor.Pw

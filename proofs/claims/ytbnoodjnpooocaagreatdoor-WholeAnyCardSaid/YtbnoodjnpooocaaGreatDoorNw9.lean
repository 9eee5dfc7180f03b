/- What this claim is proved with: no condition. -/
import Derived.Test.YtbnoodjnpooocaaGreatDoorNw7
import Derived.Deep.OwnRows
import Derived.Laws.AppendOwn
set_option linter.unusedVariables false
set_option linter.unusedSimpArgs false
namespace Go.Proofs.YtbnoodjnpooocaaGreatDoor.Pw
open Go Go.RowKit
def elB (b:aj) (n:Nat) (es:List PV):Prop:=match b with
 | ⟨k,_,m,md,live,cs⟩=>bif live && E_ md && Nat.beq m n then (match k with
  | .dyn=>cs=es
  | .arr=>fW true m (.stat cs)=some es\/(m=1/\fW false m (.stat cs)=some es)
  | _=>False) else False
def Nv (S:List aj) (fz:List Nat) (x y:PV):Prop:=match x,y with
 | .wref l,.sl n es=>bif fk l fz then aU S[l]? fun b=>elB b n es else False
 | x,y=>Be x y
def ZI (S:List aj) (fz:List Nat) (x y:PV):Prop:=match x,y with
 | .wref l,.sl n es=>bif fk l fz then aU S[l]? fun b=>elB b n es else False
 | .agg cs,.agg ds=>oX (Nv S fz) cs ds
 | x,y=>ma x y
def YD (S:List aj) (fz:List Nat):Bool:=fz.all fun l=>match S[l]? with
 | some b=>b.live && E_ b.m
 | none=>false
def mj (b:Bool) (m:Md):Md:=bif b then .r else m
def lh (fz:List Nat) (S:List aj):List aj:=mapM mj fz 0 S
def PV.I_:PV->Bool
 | .lit ..|.int ..|.tt|.ff|.bool _|.val _|.nil=>true
 | _=>false
def PV.DH:PV->Bool
 | .agg cs=>cs.all PV.I_
 | x=>x.I_
def PV.Ja:PV->Bool
 | .tup cs=>cs.all PV.DH
 | x=>x.DH
section
variable {w w':World} {I I':Nat->Prop} {β ay:an} {G:Gx} {S:List aj}
theorem zK {x:PV} {v:Value} (hf:x.I_=true) (h:x.Is w I β v):x.Is w' I' ay v:=by
 cases x<;>first|(cases hf; done)|(simp only[PV.Is] at h ⊢; exact h)
theorem tF {r:PV->Bool} (hr:∀ x v,r x=true->x.Is w I β v->x.Is w' I' ay v):∀ {cs:List PV} {vs:List Value},cs.all r=true->bg w I cs β vs->bg w' I' cs ay vs
 | [],[],_,_=>by simp only[bg]
 | c::cs,v::vs,hf,h=>by
  simp only[List.all_cons,Bool.and_eq_true] at hf
  simp only[bg] at h ⊢
  exact⟨hr c v hf.1 h.1,tF hr hf.2 h.2⟩
 | [],_::_,_,h=>by simp only[bg] at h
 | _::_,[],_,h=>by simp only[bg] at h
theorem zL {x:PV} {v:Value} (hf:x.DH=true) (h:x.Is w I β v):x.Is w' I' ay v:=by
 unfold PV.DH at hf
 split at hf
 ·simp only[PV.Is] at h ⊢
  obtain⟨vs,rfl,h⟩:=h
  exact⟨vs,rfl,tF (fun x v=>zK) hf h⟩
 ·exact zK hf h
theorem Jb {x:PV} {v:Value} (hf:x.Ja=true) (h:x.Is w I β v):x.Is w' I' ay v:=by
 unfold PV.Ja at hf
 split at hf
 ·simp only[PV.Is] at h ⊢
  obtain⟨vs,rfl,h⟩:=h
  exact⟨vs,rfl,tF (fun x v=>zL) hf h⟩
 ·exact zL hf h
def gn (I:Nat->Prop) (β:an) (S:List aj) (fz:List Nat) (g:Nat):Prop:=I g\/∃ l b p o,l∈fz/\S[l]?=some b/\b.live=true/\E_ b.m=true/\β l=some p/\p.a=some (g,o)
theorem BY {fz:List Nat} (h:YD S fz=true) {l:Nat} (hl:l∈fz):∃ b,S[l]?=some b/\b.live=true/\E_ b.m=true:=by
 have:=List.all_eq_true.1 h l hl
 split at this
 ·rename_i b hb
  simp only[Bool.and_eq_true] at this
  exact⟨b,hb,this⟩
 ·cases this
theorem xU {fz:List Nat} (hH:aC I β S w) {l:Nat} {b:aj} {n:Nat} {es:List PV} (hl:l∈fz) (hb:S[l]?=some b) (h:elB b n es) {v:Value} (hx:(PV.wref l).Is w I β v):(PV.sl n es).Is w (gn I β S fz) no v:=by
 obtain⟨k,ty,m,md,live,cs⟩:=b
 unfold elB at h
 replace h:=ba h
 obtain⟨hc,h⟩:=h
 simp only[Bool.and_eq_true] at hc
 obtain⟨⟨az,hm⟩,hn⟩:=hc
 obtain rfl:=Nat.eq_of_beq_eq_true hn
 simp only[PV.Is] at hx ⊢
 obtain⟨p,hp,rfl⟩:=hx
 have hI:∀ g,I g->gn I β S fz g:=fun g h=>.inl h
 have rP:∀ {g o:Nat},p.a=some (g,o)->gn I β S fz g:=fun {g o} ha=>.inr ⟨l,_,p,o,hl,hb,az,hm,hp,ha⟩
 cases k with
 | dyn =>
  obtain⟨fS,hlen,hle,oF,oE⟩:=dO hH hb az rfl hp
  subst h
  rcases oE with ⟨ha,rZ,hw⟩|⟨g,arr,fr,ha,hw,gU,oh,dh,has⟩
  ·have h0:cs = []:=List.eq_nil_of_length_eq_zero (by simp only at hlen; omega)
   subst h0
   exact⟨none,0,by rw[hw]; rfl,Nat.le_refl _,Nat.zero_le _,(fun _ _ e=>by cases e),fun hn=>absurd rfl hn⟩
  ·simp only at hlen
   exact⟨some ⟨g,0,none⟩,p.cap,by rw[hw,hlen],by omega,by omega,(fun g' o' e=>by cases e; exact ca.mono hI (fun _ _=>rfl) _ _ _ _ rfl oh),fun _=>⟨g,0,rfl,rP ha,fS⟩⟩
 | arr =>
  obtain⟨g,arr,fr,ha,hw,gU,lQ,dh,hlen,hle,oF,has,fS⟩:=eP hH hb az rfl hp
  simp only at hlen has fS lQ
  have eL:p.len*m<=arr.size:=by rw[has]; exact Nat.mul_le_mul_right _ hle
  have mI:(arr.toList.take (p.len*m)).length=p.len*m:=by rw[List.length_take,Array.length_toList]; omega
  have ja:oJ w I β m (.stat cs) (arr.toList.take (p.len*m)):=by
   refine⟨by rw[mI,hlen],fun j c hj=>?_⟩
   obtain⟨u,hu,hi,h1⟩:=lQ j c hj
   have sL:j < p.len*m:=by rw[← hlen]; exact (List.getElem?_eq_some_iff.1 hj).1
   exact⟨u,by rw[List.getElem?_take,if_pos sL]; simpa using hu,hi,h1⟩
  have key:es.length=p.len/\eE w I es m (arr.toList.take (p.len*m)):=by
   rcases h with h|⟨h1,h⟩
   ·exact fZ fS (.inl rfl) h ja mI
   ·exact fZ fS (.inr h1) h ja mI
  obtain⟨e1,e2⟩:=key
  have Fb:ca w I es m g 0:=e2.at (fun j v hj=>by
   have:=oK gU 0 (p.len*m) j v (by simpa using hj)
   simpa using this) (fun _ h=>h) (fun _ _=>rfl)
  exact⟨some ⟨g,0,none⟩,p.cap,by rw[hw,e1],by omega,by omega,fun g' o' e=>by cases e; exact ca.mono hI (fun _ _=>rfl) _ _ _ _ rfl Fb,fun _=>⟨g,0,rfl,rP ha,fS⟩⟩
 | loc=>exact h.elim
 | mp=>exact h.elim
 | mx=>exact h.elim
theorem Sy {fz:List Nat} (hH:aC I β S w) {x y:PV} {v:Value} (h1:Nv S fz x y) (hu:y.df = []) (hx:x.Is w I β v):y.Is w (gn I β S fz) no v:=by
 unfold Nv at h1
 split at h1
 ·replace h1:=ba h1
  obtain⟨hl,h1⟩:=h1
  replace h1:=ao h1
  obtain⟨b,hb,h1⟩:=h1
  exact xU hH (cR.1 hl) hb h1 hx
 ·exact PV.Is.mono (fun _ h=>.inl h) (fun _ _=>rfl) y β no v (fun l p hl=>by rw[hu] at hl; cases hl) (tc h1 w I β v hx)
theorem DI {fz:List Nat} (hH:aC I β S w):∀ {args args':List PV} {vals:List Value},oX (Nv S fz) args args'->dp args' = []->bg w I args β vals->bg w (gn I β S fz) args' no vals
 | [],[],[],_,_,_=>by simp only[bg]
 | x::xs,y::ys,v::vs,h,hu,hx=>by
  simp only[bg] at hx ⊢
  have Bv:y.df = []/\dp ys = []:=by simpa [dp] using hu
  exact⟨Sy hH h.1 Bv.1 hx.1,DI hH h.2 Bv.2 hx.2⟩
 | [],_::_,_,h,_,_=>h.elim
 | _::_,[],_,h,_,_=>h.elim
 | [],[],_::_,_,_,hx=>by simp only[bg] at hx
 | _::_,_::_,[],_,_,hx=>by simp only[bg] at hx
theorem mP {fz:List Nat} (hH:aC I β S w):∀ {args args':List PV} {vals:List Value},oX (ZI S fz) args args'->dp args' = []->bg w I args β vals->bg w (gn I β S fz) args' no vals
 | [],[],[],_,_,_=>by simp only[bg]
 | x::xs,y::ys,v::vs,h,hu,hx=>by
  simp only[bg] at hx ⊢
  have Bv:y.df = []/\dp ys = []:=by simpa [dp] using hu
  refine⟨?_,mP hH h.2 Bv.2 hx.2⟩
  have h1:=h.1
  unfold ZI at h1
  split at h1
  ·obtain⟨hl,h1⟩:=ba h1
   obtain⟨b,hb,h1⟩:=ao h1
   exact xU hH (cR.1 hl) hb h1 hx.1
  ·have Ff:=hx.1
   simp only[PV.Is] at Ff ⊢
   obtain⟨vs',rfl,Ff⟩:=Ff
   exact⟨vs',rfl,DI hH h1 (by simpa [PV.df] using Bv.1) Ff⟩
  ·exact PV.Is.mono (fun _ h=>.inl h) (fun _ _=>rfl) y β no v (fun l p hl=>by rw[Bv.1] at hl; cases hl) (fp h1 w I β v hx.1)
 | [],_::_,_,h,_,_=>h.elim
 | _::_,[],_,h,_,_=>h.elim
 | [],[],_::_,_,_,hx=>by simp only[bg] at hx
 | _::_,_::_,[],_,_,hx=>by simp only[bg] at hx
theorem Nw {fz:List Nat} (hH:aC I β S w) (hM:cE G I w) {g:Nat} (h:gn I β S fz g):g < w.heap.size:=by
 rcases h with h|⟨l,b,p,o,_,hb,az,_,hp,ha⟩
 ·exact hM.au g h
 ·exact hH.cH ⟨l,b,p,o,hb,az,hp,ha⟩
theorem pj {fz:List Nat} (hH:aC I β S w) (hM:cE G I w):cE G (gn I β S fz) w :=
 ⟨fun g hg=>Nw hH hM hg,fun g cs hg=>⟨.inl (hM.lV g cs hg).1,cL.mono (fun _ h=>.inl h) (fun _ _=>rfl) _ _ _ rfl (hM.lV g cs hg).2⟩,hM.row⟩
theorem Jc (g:Nat):¬ Wr no ([]:List aj) g:=fun ⟨l,b,p,o,h1,_⟩=>by simp at h1
theorem al.useF {f:FuncId} {args args':List PV} {r:PV} {K:PV->List aj->Prop} (h:al G f args' r) (fz:List Nat) (hz:YD S fz=true) (hle:oX (ZI S fz) args args') (hu:dp args' = []) (hr:r.df = []) (hK:G' (lh fz S) (K r)):Spec G f args S [] K:=by
 refine Spec.intro h.run.1 fun I β w vals hH hM hA=>?_
 have h0:aC (gn I β S fz) no ([]:List aj) w:=⟨fun _ _=>rfl,fun l b hl=>by simp at hl⟩
 refine (h.run.2 _ no w vals h0 (pj hH hM) (mP hH hle hu hA)).mono fun e w' ⟨v,r',S',I',ay,he,sJ,hi,_,kN,hE,_,_⟩=>?_
 subst sJ
 have hold:∀ g,g < w.heap.size->w'.heap[g]?=w.heap[g]?:=fun g hg=>hE.block g hg (Jc g)
 have DC:∀ g,g < w.heap.size->I' g->gn I β S fz g:=fun g hg h=>(hE.new g hg h).elim id fun h=>absurd h (Jc g)
 have qf:∀ g,I g->I' g:=fun g h=>hE.au g (.inl h)
 have ig:∀ (l:Nat) (b:aj),(lh fz S)[l]?=some b->∃ b0,S[l]?=some b0/\b = { b0 with m:=mj (fk l fz) b0.m }:=fun l b hb=>by
  unfold lh at hb
  rw[eN,Option.map_eq_some_iff] at hb
  obtain⟨b0,h1,h2⟩:=hb
  rw[Nat.zero_add] at h2
  exact⟨b0,h1,h2.symm⟩
 refine⟨v,r',lh fz S,I',β,he,xx hK,kr hr hi,⟨fun l hl=>hH.p8 l (by unfold lh at hl; rw[gJ] at hl; exact hl),fun l b hb az=>?_⟩,kN,⟨hE.os,hE.tape,hE.output,hE.size,fun g hg _=>hold g hg,fun g _ h=>?_,qf,fun g hg h=>?_⟩,by unfold lh; rw[gJ]; exact Nat.le_refl _,fun _ _ _=>rfl⟩
 ·obtain⟨b0,gE,rfl⟩:=ig l b hb
  obtain⟨p,hp,hk⟩:=hH.dX l b0 gE az
  have own:∀ {g o:Nat} {fr:Nat × Nat},p.a=some (g,o)->g < w.heap.size->Own I β S l g fr b0->Own I' β (lh fz S) l g fr { b0 with m:=mj (fk l fz) b0.m }:=fun {g o fr} ha hg ho=>by
   refine⟨fun hm=>?_,fun hm=>?_⟩
   ·have l5:fk l fz=false/\b0.m≠.r:=by
     cases hc:fk l fz with
     | true=>simp only[hc,mj,cond_true,ne_eq,not_true_eq_false] at hm
     | false=>exact⟨rfl,by simpa only [hc,mj,cond_false] using hm⟩
    obtain⟨h1,h2,h3⟩:=ho.1 l5.2
    refine⟨h1,fun hI=>?_,fun l2 b2 cN eR bC p2 g2 o2 iX gX=>?_⟩
    ·rcases DC g hg hI with hI|⟨l2,b2,p2,o2,eR,dS,bC,_,iX,gX⟩
     ·exact h2 hI
     ·refine h3 l2 b2 (fun e=>?_) dS bC p2 g o2 iX gX rfl
      subst e
      rw[cR.2 eR] at l5
      cases l5.1
    ·obtain⟨b3,j6,rfl⟩:=ig l2 b2 eR
     exact h3 l2 b3 cN j6 bC p2 g2 o2 iX gX
   ·cases hc:fk l fz with
    | true =>
     obtain⟨b1,u3,k1,k2⟩:=BY hz (cR.1 hc)
     rw[gE] at u3; cases u3
     exact hE.au g (.inr ⟨l,b0,p,o,cR.1 hc,gE,k1,k2,hp,ha⟩)
    | false=>exact qf g (ho.2 (by simpa only [hc,mj,cond_false] using hm))
  have DJ:∀ g,I g->w'.heap[g]?=w.heap[g]?:=fun g hg=>hold g (hM.au g hg)
  refine⟨p,hp,?_⟩
  split at hk
  ·rename_i cm
   obtain⟨g,o,arr,ty,fr,h1,h2,h3,ho⟩:=hk
   have hg:=aV h2
   simp only[cm]
   exact⟨g,o,arr,ty,fr,h1,(hold g hg).trans h2,bj.mono qf DJ (fun _ _ h=>h) h3,own h1 hg ho⟩
  ·rename_i cm
   obtain⟨g,arr,fr,h1,h2,h3,ho,h4⟩:=hk
   have hg:=aV h2
   simp only[cm]
   exact⟨g,arr,fr,h1,(hold g hg).trans h2,bj.mono qf DJ (fun _ _ h=>h) h3,own h1 hg ho,h4⟩
  ·rename_i cm
   obtain⟨h1,hk⟩:=hk
   simp only[cm]
   refine⟨h1,?_⟩
   rcases hk with h|⟨g,arr,fr,h2,h3,h4,ho,h5⟩
   ·exact .inl h
   ·have hg:=aV h3
    exact .inr ⟨g,arr,fr,h2,(hold g hg).trans h3,ca.mono qf DJ _ _ _ _ (hold g hg) h4,own h2 hg ho,h5⟩
  ·rename_i cm
   obtain⟨g,h1,h2,ho⟩:=hk
   have hg:g < w.heap.size:=by obtain⟨es,clock,hb,_⟩:=h2; exact aV hb
   simp only[cm]
   exact⟨g,h1,h2.oH (hold g hg),own h1 hg ho⟩
  ·rename_i cm
   obtain⟨g,es,ck,h1,h2,h3,ho,h4⟩:=hk
   have hg:=aV h2
   simp only[cm]
   exact⟨g,es,ck,h1,(hold g hg).trans h2,bj.mono qf DJ (fun _ _ h=>h) h3,own h1 hg ho,h4⟩
 ·obtain⟨l,b,p,o,h1,h2,h3,h4,h5⟩:=h
  obtain⟨b0,gE,rfl⟩:=ig l b h1
  refine⟨l,b0,p,o,gE,h2,?_,h4,h5⟩
  cases hc:fk l fz with
  | true=>simp only[hc,mj,cond_true] at h3; cases h3
  | false=>simpa only [hc,mj,cond_false] using h3
 ·rcases DC g hg h with h|⟨l,b,p,o,hl,hb,az,hm,hp,ha⟩
  ·exact .inl h
  ·cases tE:b.m with
   | w=>exact .inr ⟨l,b,p,o,hb,az,tE,hp,ha⟩
   | p=>rw[tE] at hm; cases hm
   | r =>
    obtain⟨arr,ty,fr,_,ho⟩:=(hH.dX l b hb az).place hp ha
    exact .inl (ho.2 tE)
theorem al.useB {f:FuncId} {args args':List PV} {r:PV} {K:PV->List aj->Prop} (h:al G f args' r) (fz:List Nat) (hle:oX (ZI S fz) args args') (hu:dp args' = []) (hr:r.Ja=true) (hK:K r S):Spec G f args S [] K:=by
 refine Spec.intro h.run.1 fun I β w vals hH hM hA=>?_
 have h0:aC (gn I β S fz) no ([]:List aj) w:=⟨fun _ _=>rfl,fun l b hl=>by simp at hl⟩
 refine (h.run.2 _ no w vals h0 (pj hH hM) (mP hH hle hu hA)).mono fun e w' ⟨v,r',S',I',ay,he,sJ,hi,_,kN,hE,_,_⟩=>?_
 subst sJ
 have hold:∀ g,g < w.heap.size->w'.heap[g]?=w.heap[g]?:=fun g hg=>hE.block g hg (Jc g)
 have DJ:∀ g,I g->w'.heap[g]?=w.heap[g]?:=fun g hg=>hold g (hM.au g hg)
 refine⟨v,r',S,I,β,he,hK,Jb hr hi,⟨hH.p8,fun l b hb az=>(hH.dX l b hb az).mono (fun _ h=>h) DJ (fun _ _ h=>h) fun p g o hp ha=>?_⟩,⟨fun g hg=>Nat.lt_of_lt_of_le (hM.au g hg) hE.size,fun g cs hg=>⟨(hM.lV g cs hg).1,cL.mono (fun _ h=>h) DJ _ _ _ (DJ g (hM.lV g cs hg).1) (hM.lV g cs hg).2⟩,fun g cs hg=>by
   obtain⟨arr,ty,fr,h1,h2⟩:=hM.row g cs hg
   exact⟨arr,ty,fr,(DJ g (hM.lV g cs hg).1).trans h1,h2⟩⟩,
  ⟨hE.os,hE.tape,hE.output,hE.size,fun g hg _=>hold g hg,fun g _ h=>h,fun _ h=>h,fun _ _ h=>.inl h⟩,Nat.le_refl _,fun _ _ _=>rfl⟩
 obtain⟨arr,ty,fr,hh,ho⟩:=(hH.dX l b hb az).place hp ha
 exact⟨hold g (aV hh),fun hr=>⟨(ho.1 hr).2.1,(ho.1 hr).2.2⟩⟩
end
def TM.zM:TM->TM
 | .nil=>.nil
 | .node v l r=>.node (match v with
  | some (.tup _)=>none
  | v=>v) l.zM r.zM
def aD.zN (s:aD) (c:Code) (vs:List (Nat × PV)):aD:=match s with
 | ⟨n,t,st,b,rl⟩=>⟨n,(lf vs (tB (tA c) t)).zM,st,b,rl⟩
theorem SW.ZJ {G:Gx} {s:aD} (hG:fD G) (R:List (Nat × af)) {α:Type} {c:Code} {Q:X->aD->Prop} (hc:bR R c=true) (vs:α->List (Nat × PV)) (μ:α->Nat) (x0:α) (N:Nat) (h0:fK G.cx (So 0 s.st) s (s.zN c (vs x0)))
  (h:∀ x,Sn (s.zN c (vs x)) (pw G R N c (oW (fun s'=>∃ y,μ y < μ x/\fK G.cx (So 0 s.st) s' (s.zN c (vs y))) Q))):SW G (.loop c) Q s :=
 SW.inv hG (fun x=>s.zN c (vs x)) μ (N:=N) hc x0 (dD hG.ok h0) (fun x s'=>∃ y,μ y < μ x/\fK G.cx (So 0 s.st) s' (s.zN c (vs y))) (fun x s' ⟨y,hy,hs⟩=>⟨y,hy,dD hG.ok hs⟩) fun x=>qv (h x)
def aD.headD (s:aD) (c:Code) (vs:List (Nat × PV)) (ex:List aj):aD:=match s with
 | ⟨n,t,st,b,rl⟩=>⟨n,(lf vs (tB (tA c) t)).zM,st++ex,b,rl⟩
theorem SW.loopD {G:Gx} {s:aD} (hG:fD G) (R:List (Nat × af)) {α:Type} {c:Code} {Q:X->aD->Prop} (hc:bR R c=true) (vs:α->List (Nat × PV)) (ex:α->List aj) (μ:α->Nat) (x0:α) (N:Nat) (MG:ia) (h0:fK G.cx (So 0 s.st++MG) s (s.headD c (vs x0) (ex x0)))
  (h:∀ x,Sn (s.headD c (vs x) (ex x)) (pw G R N c (oW (fun s'=>∃ y π,μ y < μ x/\fK G.cx (So 0 s.st++π) s' (s.headD c (vs y) (ex y))) Q))):SW G (.loop c) Q s :=
 SW.inv hG (fun x=>s.headD c (vs x) (ex x)) μ (N:=N) hc x0 (dD hG.ok h0) (fun x s'=>∃ y π,μ y < μ x/\fK G.cx (So 0 s.st++π) s' (s.headD c (vs y) (ex y))) (fun x s' ⟨y,_,hy,hs⟩=>⟨y,hy,dD hG.ok hs⟩) fun x=>qv (h x)
def gN (b b':aj):Prop:=match b,b' with
 | ⟨k,ty,n,m,live,cs⟩,⟨k',YE,n',m',DK,zI⟩=>bif Nat.beq ty YE && Nat.beq n n' && Md.beq m m' && live && DK && BK.beq k k' then (match k with
  | .dyn=>cs=zI
  | .mp=>cs=zI
  | .mx=>False
  | _=>oX Be cs zI) else False
def QQ:List aj->List aj->(List aj->Prop)->Prop
 | [],T,k=>k T
 | b'::S,b::st,k=>gN b b'/\QQ S st k
 | _::_,[],_=>False
def Nx (st S:List aj) (k:List aj->Prop):Prop:=QQ S st k
def Fg:List aj->List aj->(List aj->Prop)->Prop
 | [],T,k=>k T
 | b::l,T,k=>Fg l T fun r=>k (b::r)
def lE:List aj->List aj->Bool
 | [],[]=>true
 | a::S,b::T=>a.live && Md.beq a.m b.m && lE S T
 | _,_=>false
theorem xW:∀ {S T:List aj} {k:List aj->Prop},Fg S T k->k (S++T)
 | [],_,_,h=>h
 | b::l,T,k,h=>xW (S:=l) h
theorem BK.nS {m n:BK} (h:BK.beq m n=true):m=n:=by cases m<;>cases n<;>first|rfl|cases h
theorem dj {b b':aj} (h:gN b b'):b.ty=b'.ty/\b.size=b'.size/\b.m=b'.m/\b.live=true/\b'.live=true/\b.k=b'.k/\((b.k.vp=false/\b.cs=b'.cs)\/(b.k.vp=true/\oX Be b.cs b'.cs)):=by
 obtain⟨k,ty,n,m,live,cs⟩:=b
 obtain⟨k',YE,n',m',DK,zI⟩:=b'
 obtain⟨hc,h⟩:=ba h
 simp only[Bool.and_eq_true] at hc
 obtain⟨⟨⟨⟨⟨h1,h2⟩,h3⟩,h4⟩,h5⟩,h6⟩:=hc
 refine⟨Nat.eq_of_beq_eq_true h1,Nat.eq_of_beq_eq_true h2,Md.nS h3,h4,h5,BK.nS h6,?_⟩
 cases k with
 | dyn=>exact .inl ⟨rfl,h⟩
 | mp=>exact .inl ⟨rfl,h⟩
 | mx=>exact h.elim
 | loc=>exact .inr ⟨rfl,h⟩
 | arr=>exact .inr ⟨rfl,h⟩
theorem tG {b b':aj} (h:gN b b'):b.k≠.mx:=by
 obtain⟨k,ty,n,m,live,cs⟩:=b
 obtain⟨k',YE,n',m',DK,zI⟩:=b'
 obtain⟨_,h⟩:=ba h
 rintro rfl
 exact h
theorem xX:∀ {S st:List aj} {k:List aj->Prop},Nx st S k->∃ p_ T,st=p_++T/\p_.length=S.length/\k T/\∀ (l:Nat) (b b':aj),p_[l]?=some b->S[l]?=some b'->gN b b'
 | [],T,k,h=>⟨[],T,rfl,rfl,h,fun l b b' hb=>by simp at hb⟩
 | b'::S,b::st,k,h=>by
  obtain⟨p_,T,rfl,hl,hk,ha⟩:=xX (S:=S) (st:=st) h.2
  refine⟨b::p_,T,rfl,by simp[hl],hk,fun l c c' hc uT=>?_⟩
  cases l with
  | zero=>simp at hc uT; subst hc; subst uT; exact h.1
  | succ l=>exact ha l c c' (by simpa using hc) (by simpa using uT)
 | _::_,[],_,h=>h.elim
theorem pk:∀ {S T:List aj},lE S T=true->S.length=T.length/\∀ (l:Nat) (a b:aj),S[l]?=some a->T[l]?=some b->a.live=true/\a.m=b.m
 | [],[],_=>⟨rfl,fun l a b h=>by simp at h⟩
 | a::S,b::T,h=>by
  simp only[lE,Bool.and_eq_true] at h
  obtain⟨h1,h2⟩:=pk h.2
  refine⟨by simp[h1],fun l c d hc hd=>?_⟩
  cases l with
  | zero=>simp at hc hd; subst hc; subst hd; exact⟨h.1.1,Md.nS h.1.2⟩
  | succ l=>exact h2 l c d (by simpa using hc) (by simpa using hd)
 | [],_::_,h=>by simp[lE] at h
 | _::_,[],h=>by simp[lE] at h
section
variable {w w':World} {I I':Nat->Prop} {β ay:an} {G:Gx} {s:aD} {a:Act} {st dY:List aj}
theorem Spec.zO {f:FuncId} {args args':List PV} {r0:PV} {S0 S1:List aj} {K:PV->List aj->Prop} (h:Spec G f args' S0 [] fun r S'=>r=r0/\S'=S1) (hm:lE S0 S1=true) (dU:S0.all (zF S0.length)=true) (hu:(dp args').all (fun l=>Nat.blt l S0.length)=true)
  (Nr:r0.df.all (fun l=>Nat.blt l S0.length)=true) (hle:oX ma args args') (hK:Nx st S0 fun T=>zD S1 fun S1=>Fg S1 T (K r0)):Spec G f args st [] K:=by
 obtain⟨p_,T,rfl,ze,hk,Jd⟩:=xX hK
 replace hk:=xW (pg hk)
 obtain⟨MJ,E0⟩:=pk hm
 refine Spec.intro h.run.1 fun I β w vals hH hM hA=>?_
 let eU:an:=fun l=>if l < S0.length then β l else none
 have ku:∀ l,l < S0.length->eU l=β l:=fun l hl=>if_pos hl
 have BZ:∀ {l p},eU l=some p->l < S0.length/\β l=some p:=fun {l p} h=>by
  by_cases hl:l < S0.length
  ·exact⟨hl,by rw[← ku l hl]; exact h⟩
  ·have:eU l=none:=if_neg hl
   rw[this] at h; cases h
 have Bg:∀ {l:Nat} {b':aj},S0[l]?=some b'->l < S0.length/\∃ b,(p_++T)[l]?=some b/\gN b b':=fun {l b'} cO=>by
  have bZ:l < S0.length:=(List.getElem?_eq_some_iff.1 cO).1
  have B0:l < p_.length:=by omega
  refine⟨bZ,p_[l],by rw[List.getElem?_append_left B0]; simp[B0],Jd l _ b' (by simp[B0]) cO⟩
 have low:∀ {l:Nat} {b':aj},S0[l]?=some b'->b'.k.vp=true->∀ c∈b'.cs,∀ m∈c.df,m < S0.length:=fun {l b'} cO hk c hc m qb=>by
  rw[List.all_eq_true] at dU
  have:=dU b' (List.mem_of_getElem? cO)
  unfold zF at this
  have eC:b'.cs.all (fun c=>c.df.all fun l=>Nat.blt l S0.length)=true:=by
   cases cm:b'.k with
   | dyn=>rw[cm] at hk; cases hk
   | mp=>rw[cm] at hk; cases hk
   | mx=>rw[cm] at this; exact this
   | loc=>rw[cm] at this; exact this
   | arr=>rw[cm] at this; exact this
  rw[List.all_eq_true] at eC
  have:=eC c hc
  rw[List.all_eq_true] at this
  exact Nat.le_of_ble_eq_true (this m qb)
 have MK:aC I eU S0 w:=by
  refine⟨fun l hl=>if_neg (by omega),fun l b' cO az=>?_⟩
  obtain⟨bZ,b,hb,zP⟩:=Bg cO
  obtain⟨e1,e2,e3,e4,e5,e6,e7⟩:=dj zP
  obtain⟨p,hp,hB⟩:=hH.dX l b hb e4
  have own:∀ {g:Nat} {fr:Nat × Nat},Own I β (p_++T) l g fr b->Own I eU S0 l g fr b':=fun {g fr} ho=>by
   refine⟨fun hr=>?_,fun hr=>ho.2 (by rw[e3]; exact hr)⟩
   obtain⟨h1,h2,h3⟩:=ho.1 (by rw[e3]; exact hr)
   refine⟨h1,h2,fun l2 b2 cN eR bC p2 g2 o2 iX gX=>?_⟩
   obtain⟨_,b3,j6,ml⟩:=Bg eR
   exact h3 l2 b3 cN j6 (dj ml).2.2.2.1 p2 g2 o2 (BZ iX).2 gX
  have cells:b'.k.vp=true->∀ {arr:Array Value} {o:Nat},bj w I β b.cs arr o->bj w I eU b'.cs arr o:=fun hk {arr o} hc i c hi=>by
   have iW:bj w I β b'.cs arr o:=by
    rcases e7 with ⟨hd,_⟩|⟨_,h7⟩
    ·(rw[e6,hk] at hd; cases hd)
    ·exact jj h7 hc
   obtain⟨u,Bv,QN,h1⟩:=iW i c hi
   exact⟨u,Bv,PV.Is.mono (fun _ h=>h) (fun _ _=>rfl) c β eU u (fun m p qb dM=>by rw[ku m (low cO hk c (List.mem_of_getElem? hi) m qb)]; exact dM) QN,h1⟩
  refine⟨p,by rw[ku l bZ]; exact hp,?_⟩
  split at hB
  ·rename_i cm
   have ji:b'.k = .loc:=by rw[← e6]; exact cm
   obtain⟨g,o,arr,ty,fr,h1,h2,h3,ho⟩:=hB
   rw[ji]
   exact⟨g,o,arr,ty,fr,h1,h2,cells (by rw[ji]; rfl) h3,own ho⟩
  ·rename_i cm
   have ji:b'.k = .arr:=by rw[← e6]; exact cm
   obtain⟨g,arr,fr,h1,h2,h3,ho,h4,h5,h6,h7,h8⟩:=hB
   have hlen:b'.cs.length=b.cs.length:=by
    rcases e7 with ⟨hd,_⟩|⟨_,h9⟩
    ·rw[cm] at hd; cases hd
    ·exact (mN h9).symm
   rw[ji]
   exact⟨g,arr,fr,h1,by rw[← e1]; exact h2,cells (by rw[ji]; rfl) h3,own ho,by rw[hlen,← e2]; exact h4,h5,h6,by rw[← e2]; exact h7,by rw[← e2]; exact h8⟩
  ·rename_i cm
   have ji:b'.k = .dyn:=by rw[← e6]; exact cm
   have fj:b.cs=b'.cs:=by
    rcases e7 with ⟨_,h9⟩|⟨hd,_⟩
    ·exact h9
    ·(rw[cm] at hd; cases hd)
   obtain⟨⟨h1,h2,h3,h4⟩,hB⟩:=hB
   rw[ji]
   refine⟨⟨by rw[← e2]; exact h1,by rw[← fj]; exact h2,h3,h4⟩,?_⟩
   rcases hB with h|⟨g,arr,fr,h5,h6,h7,ho,h8⟩
   ·exact .inl h
   ·exact .inr ⟨g,arr,fr,h5,by rw[← e1]; exact h6,by rw[← fj,← e2]; exact h7,own ho,by rw[← e2]; exact h8⟩
  ·rename_i cm
   have ji:b'.k = .mp:=by rw[← e6]; exact cm
   have fj:b.cs=b'.cs:=by
    rcases e7 with ⟨_,h9⟩|⟨hd,_⟩
    ·exact h9
    ·(rw[cm] at hd; cases hd)
   obtain⟨g,h1,h2,ho⟩:=hB
   rw[ji]
   exact⟨g,h1,by rw[← fj]; exact h2,own ho⟩
  ·rename_i cm
   exact absurd cm (tG zP)
 have Sz:bg w I args' eU vals:=by
  have:=jv (fun _ _=>fp) hle hA
  refine bg.mono (fun _ h=>h) (fun _ _=>rfl) args' β eU vals (fun m p qb dM=>?_) this
  rw[List.all_eq_true] at hu
  rw[ku m (Nat.le_of_ble_eq_true (hu m qb))]; exact dM
 refine (h.run.2 I eU w vals MK hM Sz).mono fun e w' ⟨v,r,S',I',ay,he,⟨e1,e2⟩,hi,nB,kN,hE,hlen,ny⟩=>?_
 subst e1; subst e2
 have zQ:∀ l,l < S0.length->ay l=β l:=fun l hl=>(ny l hl (by simp)).trans (ku l hl)
 have Fh:∀ l p,ay l=some p->β l=some p:=fun l p hp=>by
  have:l < S0.length:=by have:=nB.lt hp; omega
  rw[← zQ l this]; exact hp
 have Je:∀ {g},Wr eU S0 g->Wr β (p_++T) g:=fun {g} ⟨l,b,p,o,h1,h2,h3,h4,h5⟩=>by
  obtain⟨bZ,b2,dS,IY⟩:=Bg h1
  obtain⟨_,_,q3,q4,_⟩:=dj IY
  exact⟨l,b2,p,o,dS,q4,by rw[q3]; exact h3,(BZ h4).2,h5⟩
 have YF:∀ {g},Wr β (S'++T) g->(Wr ay S' g)\/∃ l b p o,S0.length<=l/\(p_++T)[l]?=some b/\b.live=true/\b.m = .w/\β l=some p/\p.a=some (g,o):=fun {g} ⟨l,b,p,o,h1,h2,h3,h4,h5⟩=>by
  by_cases hl:l < S'.length
  ·rw[List.getElem?_append_left hl] at h1
   exact .inl ⟨l,b,p,o,h1,h2,h3,by rw[zQ l (by omega)]; exact h4,h5⟩
  ·rw[List.getElem?_append_right (by omega)] at h1
   refine .inr ⟨l,b,p,o,by omega,?_,h2,h3,h4,h5⟩
   rw[List.getElem?_append_right (by omega),ze,MJ]; exact h1
 
 have apart:∀ {l:Nat} {b:aj} {p:na} {g o:Nat},S0.length<=l->(p_++T)[l]?=some b->b.live=true->β l=some p->p.a=some (g,o)->¬ Wr eU S0 g:=fun {l b p g o} hl hb az hp ha ⟨l2,b2,p2,o2,h1,h2,h3,h4,h5⟩=>by
  obtain⟨bZ,b3,j6,ml⟩:=Bg h1
  obtain⟨_,_,q3,q4,_⟩:=dj ml
  obtain⟨arr,ty,fr,_,ho⟩:=(hH.dX l2 b3 j6 q4).place (BZ h4).2 h5
  exact (ho.1 (by rw[q3,h3]; nofun)).2.2 l b (by omega) hb az p g o hp ha rfl
 refine⟨v,r,S'++T,I',β,he,hk,PV.Is.mono (fun _ h=>h) (fun _ _=>rfl) r ay β v (fun m p _ hp=>Fh m p hp) hi,⟨fun l hl=>hH.p8 l (by simp only[List.length_append] at hl ⊢; omega),fun l b hb az=>?_⟩,kN,⟨hE.os,hE.tape,hE.output,hE.size,fun g hg hn=>hE.block g hg fun h=>hn (Je h),fun g hg h=>?_,hE.au,fun g hg h=>(hE.new g hg h).imp id Je⟩,by simp only[List.length_append]; omega,fun _ _ _=>rfl⟩
 ·by_cases hl:l < S'.length
  ·rw[List.getElem?_append_left hl] at hb
   have hB:=nB.dX l b hb az
   refine hB.mono (fun _ h=>h) (fun _ _=>rfl) Fh fun p g o hp ha=>⟨rfl,fun hr=>?_⟩
   obtain⟨arr,ty,fr,hh,ho⟩:=hB.place hp ha
   obtain⟨h1,h2,h3⟩:=ho.1 hr
   refine⟨h2,fun l2 b2 cN dS bC p2 g2 o2 iX gX=>?_⟩
   by_cases eR:l2 < S'.length
   ·rw[List.getElem?_append_left eR] at dS
    exact h3 l2 b2 cN dS bC p2 g2 o2 (by rw[zQ l2 (by omega)]; exact iX) gX
   ·rw[List.getElem?_append_right (by omega)] at dS
    have Jf:(p_++T)[l2]?=some b2:=by rw[List.getElem?_append_right (by omega),ze,MJ]; exact dS
    obtain⟨b0,gE⟩:∃ b0,S0[l]?=some b0:=⟨S0[l]'(by omega),by simp[show l < S0.length by omega]⟩
    obtain⟨_,b3,j6,ml⟩:=Bg gE
    obtain⟨_,_,q3,q4,_⟩:=dj ml
    obtain⟨_,q5⟩:=E0 l b0 b gE hb
    obtain⟨_,_,_,_,ZK⟩:=(hH.dX l b3 j6 q4).place (Fh l p hp) ha
    exact (ZK.1 (by rw[q3,q5]; exact hr)).2.2 l2 b2 cN Jf bC p2 g2 o2 iX gX
  ·rw[List.getElem?_append_right (by omega)] at hb
   have cO:(p_++T)[l]?=some b:=by rw[List.getElem?_append_right (by omega),ze,MJ]; exact hb
   have hB:=hH.dX l b cO az
   have same:∀ {p g o},β l=some p->p.a=some (g,o)->g < w.heap.size/\w'.heap[g]?=w.heap[g]?:=fun {p g o} hp ha=>by
    have bZ:=hH.cH ⟨l,b,p,o,cO,az,hp,ha⟩
    exact⟨bZ,hE.block g bZ (apart (by omega) cO az hp ha)⟩
   refine hB.mono hE.au (fun g hg=>hE.block g (hM.au g hg) fun hw=>?_) (fun _ _ h=>h) fun p g o hp ha=>⟨(same hp ha).2,fun hr=>?_⟩
   ·exact MK.lY hw hg
   ·obtain⟨arr,ty,fr,hh,ho⟩:=hB.place hp ha
    obtain⟨h1,h2,h3⟩:=ho.1 hr
    refine⟨fun hI=>(hE.new g (same hp ha).1 hI).elim h2 (apart (by omega) cO az hp ha),fun l2 b2 cN dS bC p2 g2 o2 iX gX=>?_⟩
    by_cases eR:l2 < S'.length
    ·obtain⟨b0,gE⟩:∃ b0,S0[l2]?=some b0:=⟨S0[l2]'(by omega),by simp[show l2 < S0.length by omega]⟩
     obtain⟨_,b3,j6,ml⟩:=Bg gE
     exact h3 l2 b3 cN j6 (dj ml).2.2.2.1 p2 g2 o2 iX gX
    ·rw[List.getElem?_append_right (by omega)] at dS
     exact h3 l2 b2 cN (by rw[List.getElem?_append_right (by omega),ze,MJ]; exact dS) bC p2 g2 o2 iX gX
 ·rcases YF h with h|⟨l,b,p,o,_,h2,h3,h4,h5,h6⟩
  ·exact Je (hE.wr g hg h)
  ·exact⟨l,b,p,o,h2,h3,h4,h5,h6⟩
def u4:List aj->List aj->Prop
 | [],[]=>True
 | b::S,b'::S'=>gN b b'/\u4 S S'
 | _,_=>False
theorem sk:∀ {S S':List aj},u4 S S'->S.length=S'.length/\∀ (l:Nat) (b b':aj),S[l]?=some b->S'[l]?=some b'->gN b b'
 | [],[],_=>⟨rfl,fun l b b' h=>by simp at h⟩
 | b::S,b'::S',h=>by
  obtain⟨h1,h2⟩:=sk h.2
  refine⟨by simp[h1],fun l c c' hc uT=>?_⟩
  cases l with
  | zero=>simp at hc uT; subst hc; subst uT; exact h.1
  | succ l=>exact h2 l c c' (by simpa using hc) (by simpa using uT)
 | [],_::_,h=>h.elim
 | _::_,[],h=>h.elim
theorem qw {S S':List aj} (h:u4 S S') {l:Nat} {b':aj} (hb:S'[l]?=some b'):∃ b,S[l]?=some b/\gN b b':=by
 obtain⟨h1,h2⟩:=sk h
 have hl:l < S.length:=by rw[h1]; exact (List.getElem?_eq_some_iff.1 hb).1
 exact⟨S[l],by simp[hl],h2 l _ _ (by simp[hl]) hb⟩
theorem aC.le {S S':List aj} (h:u4 S S') (hH:aC I β S w):aC I β S' w:=by
 refine⟨fun l hl=>hH.p8 l (by rw[(sk h).1]; exact hl),fun l b' cO az=>?_⟩
 obtain⟨b,hb,zP⟩:=qw h cO
 obtain⟨e1,e2,e3,e4,e5,e6,e7⟩:=dj zP
 obtain⟨p,hp,hB⟩:=hH.dX l b hb e4
 have own:∀ {g:Nat} {fr:Nat × Nat},Own I β S l g fr b->Own I β S' l g fr b':=fun {g fr} ho=>by
  refine⟨fun hr=>?_,fun hr=>ho.2 (by rw[e3]; exact hr)⟩
  obtain⟨h1,h2,h3⟩:=ho.1 (by rw[e3]; exact hr)
  refine⟨h1,h2,fun l2 b2 cN eR bC p2 g2 o2 iX gX=>?_⟩
  obtain⟨b3,j6,ml⟩:=qw h eR
  exact h3 l2 b3 cN j6 (dj ml).2.2.2.1 p2 g2 o2 iX gX
 have cells:b'.k.vp=true->∀ {arr:Array Value} {o:Nat},bj w I β b.cs arr o->bj w I β b'.cs arr o:=fun hk {arr o} hc=>by
  rcases e7 with ⟨hd,_⟩|⟨_,h7⟩
  ·(rw[e6,hk] at hd; cases hd)
  ·exact jj h7 hc
 refine⟨p,hp,?_⟩
 split at hB
 ·rename_i cm
  have ji:b'.k = .loc:=by rw[← e6]; exact cm
  obtain⟨g,o,arr,ty,fr,h1,h2,h3,ho⟩:=hB
  rw[ji]
  exact⟨g,o,arr,ty,fr,h1,h2,cells (by rw[ji]; rfl) h3,own ho⟩
 ·rename_i cm
  have ji:b'.k = .arr:=by rw[← e6]; exact cm
  obtain⟨g,arr,fr,h1,h2,h3,ho,h4,h5,h6,h7,h8⟩:=hB
  have hlen:b'.cs.length=b.cs.length:=by
   rcases e7 with ⟨hd,_⟩|⟨_,h9⟩
   ·rw[cm] at hd; cases hd
   ·exact (mN h9).symm
  rw[ji]
  exact⟨g,arr,fr,h1,by rw[← e1]; exact h2,cells (by rw[ji]; rfl) h3,own ho,by rw[hlen,← e2]; exact h4,h5,h6,by rw[← e2]; exact h7,by rw[← e2]; exact h8⟩
 ·rename_i cm
  have ji:b'.k = .dyn:=by rw[← e6]; exact cm
  have fj:b.cs=b'.cs:=by
   rcases e7 with ⟨_,h9⟩|⟨hd,_⟩
   ·exact h9
   ·(rw[cm] at hd; cases hd)
  obtain⟨⟨h1,h2,h3,h4⟩,hB⟩:=hB
  rw[ji]
  refine⟨⟨by rw[← e2]; exact h1,by rw[← fj]; exact h2,h3,h4⟩,?_⟩
  rcases hB with h|⟨g,arr,fr,h5,h6,h7,ho,h8⟩
  ·exact .inl h
  ·exact .inr ⟨g,arr,fr,h5,by rw[← e1]; exact h6,by rw[← fj,← e2]; exact h7,own ho,by rw[← e2]; exact h8⟩
 ·rename_i cm
  have ji:b'.k = .mp:=by rw[← e6]; exact cm
  have fj:b.cs=b'.cs:=by
   rcases e7 with ⟨_,h9⟩|⟨hd,_⟩
   ·exact h9
   ·(rw[cm] at hd; cases hd)
  obtain⟨g,h1,h2,ho⟩:=hB
  rw[ji]
  exact⟨g,h1,by rw[← fj]; exact h2,own ho⟩
 ·rename_i cm
  exact absurd cm (tG zP)
theorem Spec.lJ {f:FuncId} {args:List PV} {S:List aj} {rl:List Nat} {r0:PV} {S1:List aj} (h:Spec G f args S rl fun x S'=>x=r0/\u4 S' S1):Spec G f args S rl fun x S'=>x=r0/\S'=S1 :=
 Spec.intro h.run.1 fun I β w vals hH hM hA=>(h.run.2 I β w vals hH hM hA).mono fun e w' ⟨v,r,S',I',ay,he,⟨e1,e2⟩,hi,nB,kN,hE,hlen,ny⟩ =>
  ⟨v,r,S1,I',ay,he,⟨e1,rfl⟩,hi,nB.le e2,kN,⟨hE.os,hE.tape,hE.output,hE.size,hE.block,fun g hg ⟨l,b,p,o,h1,h2,h3,h4,h5⟩=>by
   obtain⟨b0,gE,Jd⟩:=qw e2 h1
   obtain⟨_,_,q3,q4,_⟩:=dj Jd
   exact hE.wr g hg ⟨l,b0,p,o,gE,q4,by rw[q3]; exact h3,h4,h5⟩,hE.au,hE.new⟩,by rw[← (sk e2).1]; exact hlen,ny⟩
theorem bq {r r0:PV} {S' S1:List aj} (h:ma r r0) (hs:u4 S' S1):∃ r',qq r r'/\(fun x S'=>x=r0/\u4 S' S1) r' S':=⟨r0,fp h,rfl,hs⟩
end
def aD.zR (s:aD) (c:Code) (vs:List (Nat × PV)) (dY:List aj):aD:=match s with
 | ⟨n,t,_,b,rl⟩=>⟨n,(lf vs (tB (tA c) t)).zM,dY,b,rl⟩
theorem SW.loopW {G:Gx} {s:aD} (hG:fD G) (R:List (Nat × af)) {α:Type} {c:Code} {Q:X->aD->Prop} (hc:bR R c=true) (vs:α->List (Nat × PV)) (stx:α->List aj) (μ:α->Nat) (x0:α) (N:Nat) (π:ia) (h0:fK G.cx π s (s.zR c (vs x0) (stx x0)))
  (h:∀ x,Sn (s.zR c (vs x) (stx x)) (pw G R N c (oW (fun s'=>∃ y π,μ y < μ x/\fK G.cx π s' (s.zR c (vs y) (stx y))) Q))):SW G (.loop c) Q s :=
 SW.inv hG (fun x=>s.zR c (vs x) (stx x)) μ (N:=N) hc x0 (dD hG.ok h0) (fun x s'=>∃ y π,μ y < μ x/\fK G.cx π s' (s.zR c (vs y) (stx y))) (fun x s' ⟨y,_,hy,hs⟩=>⟨y,hy,dD hG.ok hs⟩) fun x=>qv (h x)
theorem bI {p:Nat->Prop}:∀ l∈([]:List Nat),p l:=fun l hl=>absurd hl List.not_mem_nil
def Jg (G:Gx) (f:FuncId) (args:List PV) (r:PV):Prop:=∀ I β w vals,bg w I args β vals->∃ v,(callFunc f vals.toArray).run G.cx.P w = .ok (.value v) w/\r.Is w I β v
section
variable {w w':World} {I I':Nat->Prop} {β ay:an} {G:Gx} {s:aD} {a:Act} {st dY:List aj}
theorem eE.take {es:List PV} {n:Nat} {xs:List Value} (h:eE w I es n xs) {k:Nat} (hk:k<=es.length):eE w I (es.take k) n (xs.take (k*n)):=by
 have h1:k*n<=es.length*n:=Nat.mul_le_mul_right _ hk
 refine⟨by rw[List.length_take,List.length_take,h.1,Nat.min_eq_left h1,Nat.min_eq_left hk],fun i e he=>?_⟩
 rw[List.getElem?_take] at he
 split at he
 ·rename_i hi
  obtain⟨h2,h3⟩:=h.2 i e he
  refine⟨h2,fun j c hc=>?_⟩
  obtain⟨v,hv,h4⟩:=h3 j c hc
  have hj:j < n:=by rw[← h2]; exact (List.getElem?_eq_some_iff.1 hc).1
  have:i*n+n<=k*n:=by rw[← Nat.succ_mul]; exact Nat.mul_le_mul_right _ hi
  exact⟨v,by rw[List.getElem?_take,if_pos (by omega)]; exact hv,h4⟩
 ·cases he
theorem eE.drop {es:List PV} {n:Nat} {xs:List Value} (h:eE w I es n xs) (k:Nat):eE w I (es.drop k) n (xs.drop (k*n)):=by
 refine⟨by rw[List.length_drop,List.length_drop,h.1,Nat.sub_mul],fun i e he=>?_⟩
 rw[List.getElem?_drop] at he
 obtain⟨h2,h3⟩:=h.2 _ e he
 refine⟨h2,fun j c hc=>?_⟩
 obtain⟨v,hv,h4⟩:=h3 j c hc
 exact⟨v,by rw[List.getElem?_drop,← Nat.add_assoc,← Nat.add_mul]; exact hv,h4⟩
theorem fO.intro {o:Oper} {q:PV->aD->Prop} (h:∀ I β a w,Rel G I β s a w->Ev.lU G.cx.P (bF G s I β w a q) ((execOp a.eval o).run G.cx.P w)):fO G s o q:=by unfold fO; exact h
end
def ZL (G:Gx) (rs:List ResultVar) (base:Nat) (K:PV->List aj->Prop) (x:X) (s:aD):Prop:=match x with
 | .exit _=>False
 | _=>∃ (π:ia) (vs:List (Nat × PV)) (S':List aj),fK G.cx π s ⟨s.n,lf vs .nil,S',s.base,s.rl⟩/\base<=S'.length/\E' G ⟨s.n,lf vs .nil,S',s.base,s.rl⟩ rs fun r=>K r S'
def fq (G:Gx) (R:List (Nat × af)) (N:Nat) (fn:Func) (c:Code) (args:List PV) (S:List aj) (rl:List Nat) (K:PV->List aj->Prop):Prop :=
 bif Nat.ble args.length fn.ntmps && Nat.ble fn.ntmps 16777215 && !(fn.name == "runtime.NumGoroutine") then
  lH S 0 fun b=>BV args 0 .nil fun t=>pw G R N c (ZL G fn.results.toList b K) ⟨fn.ntmps,t,S,b,rl⟩ else False
section
variable {w w':World} {I I':Nat->Prop} {β ay:an} {G:Gx} {s:aD} {a:Act} {st dY:List aj}
theorem Spec.fq (hG:fD G) (R:List (Nat × af)) {f:FuncId} {fn:Func} {c:Code} {args:List PV} {S:List aj} {rl:List Nat} {K:PV->List aj->Prop} (N:Nat) (hf:G.cx.P.funcs[f]?=some fn) (hb:fn.body=some c) (j3:bR R c=true) (h:fq G R N fn c args S rl K) (hd:G.Bn = []:=by rfl):Spec G f args S rl K:=by
 obtain⟨hc,h⟩:=ba h
 simp only[Bool.and_eq_true,Bool.not_eq_true'] at hc
 obtain⟨⟨hle,jK⟩,mg⟩:=hc
 have hle:=Nat.le_of_ble_eq_true hle
 have jK:=Nat.le_of_ble_eq_true jK
 replace h:=gC h
 rw[Nat.zero_add] at h
 obtain⟨t,h,ht⟩:=mO h
 refine Spec.intro (Ev.gi hf hb mg) fun I β w vals hH hM hA=>calls_of_wp hf hb ?_
 have ZD:=hA.length
 have hR:Rel G I β ⟨fn.ntmps,t,S,S.length,rl⟩ { tmps:=vals.toArray++Array.replicate (fn.ntmps - vals.toArray.size) Go.undef,defers:=[] } w:=by
  refine⟨jK,hd.symm,by simp; omega,Nat.le_refl _,fun n x hx=>?_,hH,hM⟩
  rcases ht n x hx with ⟨j,hj,hx⟩|hx
  ·rw[Nat.zero_add] at hj
   subst hj
   obtain⟨v,hv,hi⟩:=hA.get hx
   have bZ:n < vals.length:=(List.getElem?_eq_some_iff.1 hv).1
   exact⟨v,by rw[Array.getElem?_append_left (by simpa using bZ)]; simpa using hv,hi⟩
  ·cases hx
 refine wp_mono ((er hG N c _ _ j3 h).run hR) fun e a' w' hp=>?_
 obtain⟨x,s',I',ay,rfl,hq,br,hg⟩:=hp.goes
 have kT:ZL G fn.results.toList S.length K .cA s'->a'.defers = []/\∃ v,(results fn a'.tmps).run G.cx.P w' = .ok v w'/\∃ v',∃ r S' I' ay,Ending.returned v = .returned v'/\K r S'/\r.Is w' I' ay v'/\aC I' ay S' w'/\cE G I' w'/\Ext I β S w I' ay S' w'/\S.length<=S'.length/\∀ l,l < S.length->l ∉ rl->ay l=β l:=by
  rintro⟨π,vs,S',oM,hlen,xT⟩
  obtain⟨I2,ee,eM,jq⟩:=dD hG.ok oM I' ay a' w' br
  obtain⟨r,v,hK,hr,bp⟩:=xS hG eM xT
  have SA:=hg.trans jq
  exact⟨br.defers.trans hd,v,bp,v,r,S',I2,ee,rfl,hK,hr,eM.heap,eM.au,SA.ext,hlen,fun l hl hr=>SA.low l hl hr⟩
 cases x with
 | cA=>exact kT hq
 | ret=>exact kT hq
 | exit id=>exact hq.elim
theorem Spec.useNew {f:FuncId} {args args':List PV} {b:aj} {K:PV->List aj->Prop} (h:Spec G f args' [] [] fun r S'=>r = .wref 0/\S' = [b]) (hm:b.m = .w) (MD:b.live=true) (hk:b.k = .dyn) (hle:oX ma args args') (hu:dp args' = [])
  (hK:lH st 0 fun l=>sF st b fun dY=>K (.wref l) dY):Spec G f args st [] K:=by
 refine Spec.intro h.run.1 fun I β w vals hH hM hA=>?_
 replace hK:=mG (gC hK)
 rw[Nat.zero_add] at hK
 have h0:aC I (fun _=>none) ([]:List aj) w:=⟨fun _ _=>rfl,fun l b hl=>by simp at hl⟩
 refine (h.run.2 I (fun _=>none) w vals h0 hM (jB hu (jv (fun _ _=>fp) hle hA))).mono fun e w' ⟨v,r',S',I',ay,he,⟨sJ,qZ⟩,hi,nB,kN,hE,_,_⟩=>?_
 subst sJ
 subst qZ
 have BI:∀ g,¬ Wr (fun _=>none) ([]:List aj) g:=fun g ⟨l,b,p,o,h1,_⟩=>by simp at h1
 have hold:∀ g,g < w.heap.size->w'.heap[g]?=w.heap[g]?:=fun g hg=>hE.block g hg (BI g)
 have DC:∀ g,g < w.heap.size->I' g->I g:=fun g hg h=>(hE.new g hg h).elim id fun h=>absurd h (BI g)
 simp only[PV.Is] at hi
 obtain⟨p,hp,rfl⟩:=hi
 have eH:∀ g o,p.a=some (g,o)->w.heap.size<=g:=fun g o ha=>by
  rcases Nat.lt_or_ge g w.heap.size with bZ|Yw
  ·exact absurd (hE.wr g bZ ⟨0,b,p,o,rfl,MD,hm,hp,ha⟩) (BI g)
  ·exact Yw
 have hHo:aC I' β st w':=⟨hH.p8,fun l b hl az=>by
  have hb:=hH.dX l b hl az
  refine hb.mono hE.au (fun g hg=>hold g (hM.au g hg)) (fun _ _ h=>h) fun p g o hp ha=>?_
  obtain⟨arr,ty,fr,hh,ho⟩:=hb.place hp ha
  have bZ:=aV hh
  exact⟨hold g bZ,fun hr=>⟨fun hI=>(ho.1 hr).2.1 (DC g bZ hI),(ho.1 hr).2.2⟩⟩⟩
 have dU:∀ g,gD β st g->g < w.heap.size:=fun g hg=>hH.cH hg
 have zB:=nB.dX 0 b rfl MD
 have hadd:aC I' (β.set st.length p) (st++[b]) w':=by
  refine hHo.add (fun _ _=>rfl) (fun g o ha=>⟨?_,fun hL=>by have:=dU g hL; have:=eH g o ha; omega⟩) ?_
  ·obtain⟨arr,ty,fr,hh,ho⟩:=zB.place hp ha
   exact (ho.1 (by rw[hm]; decide)).2.1
  ·obtain⟨p',dM,hd⟩:=zB
   obtain rfl:=Option.some.inj (hp.symm.trans dM)
   refine⟨p,an.dy ..,?_⟩
   rw[hk] at hd ⊢
   refine⟨hd.1,hd.2.imp id ?_⟩
   rintro⟨g,arr,fr,h1,h2,h3,ho,h4⟩
   refine⟨g,arr,fr,h1,h2,h3,⟨fun hr=>⟨(ho.1 hr).1,(ho.1 hr).2.1,fun l' b' cN iu fi q g' o' hq cJ e=>?_⟩,ho.2⟩,h4⟩
   subst e
   unfold an.set at hq
   rw[if_neg cN] at hq
   have bZ:=hH.lt hq
   rw[List.getElem?_append_left bZ] at iu
   have:=dU g' ⟨l',b',q,o',iu,fi,hq,cJ⟩
   have:=eH g' _ h1
   omega
 refine⟨_,.wref st.length,st++[b],I',β.set st.length p,he,hK,?_,hadd,kN,⟨hE.os,hE.tape,hE.output,hE.size,fun g hg _=>hold g hg,fun g hg ⟨l,b',q,o,h1,h2,h3,h4,h5⟩=>?_,hE.au,fun g hg h=>.inl (DC g hg h)⟩,by simp,fun l hl _=>?_⟩
 ·simp only[PV.Is]; exact⟨p,an.dy ..,rfl⟩
 ·unfold an.set at h4
  split at h4
  ·cases h4
   have:=eH g o h5
   omega
  ·have:=hH.lt h4
   rw[List.getElem?_append_left this] at h1
   exact⟨l,b',q,o,h1,h2,h3,h4,h5⟩
 ·unfold an.set
  rw[if_neg (by omega)]
end
section
variable {w w':World} {I I':Nat->Prop} {β ay:an} {G:Gx} {s:aD} {a:Act} {st dY:List aj}
theorem Spec.cut {f:FuncId} {args:List PV} {b0:aj} {n:Nat} {es:List PV} (h:Spec G f args [b0] [] fun r S'=>∃ b:aj,S' = [b]/\b.k = .dyn/\b.live=true/\b.m = .w/\b.size=n/\((r = .wref 0/\b.cs=es)\/(r = .ref 0 0 es.length/\b.cs.take es.length=es))) :
  Spec G f args [b0] [] fun r S'=>r = .sl n es/\S' = [⟨.dyn,b0.ty,n,.w,false,[]⟩]:=by
 refine Spec.intro h.run.1 fun I β w vals hH hM hA=>(h.run.2 I β w vals hH hM hA).mono fun e w' ⟨v,r,S',I',ay,he,⟨b,hS,hk,hl,hm,hn,hc⟩,hi,nB,kN,hE,hlen,ny⟩=>?_
 subst hS
 have hb:[b][0]?=some b:=rfl
 obtain⟨p,hp,zB⟩:=nB.dX 0 b hb hl
 obtain⟨Qw,Jh,hle,oF,oE⟩:=dO nB hb hl hk hp
 rw[hn] at Qw oE
 have qf:∀ g,I' g->(I' g\/∃ o,p.a=some (g,o)):=fun g h=>.inl h
 have Ny:∀ {g o:Nat},p.a=some (g,o)->Wr ay [b] g:=fun {g o} ha=>⟨0,b,p,o,hb,hl,hm,hp,ha⟩
 have hI2:∀ g,(I' g\/∃ o,p.a=some (g,o))->g < w'.heap.size:=fun g hg=>by
  rcases hg with hg|⟨o,ha⟩
  ·exact kN.au g hg
  ·rcases oE with ⟨Di,_⟩|⟨g1,arr,fr,ha1,_,gU,_⟩
   ·rw[Di] at ha; cases ha
   ·rw[ha1] at ha; cases ha; exact aV gU
 have HR:es.length<=b.cs.length:=by
  rcases hc with ⟨_,rfl⟩|⟨_,hc⟩
  ·exact Nat.le_refl _
  ·rw[← hc,List.length_take]; omega
 have htk:b.cs.take es.length=es:=by
  rcases hc with ⟨_,rfl⟩|⟨_,hc⟩
  ·rw[List.take_length]
  ·exact hc
 have hIs:(PV.sl n es).Is w' (fun g=>I' g\/∃ o,p.a=some (g,o)) ay v:=by
  simp only[PV.Is]
  rcases oE with ⟨Di,rZ,hw⟩|⟨g,arr,fr,ha,hw,gU,oh,dh,has⟩
  ·have h0:es = []:=List.eq_nil_of_length_eq_zero (by omega)
   subst h0
   rcases hc with ⟨rfl,_⟩|⟨rfl,_⟩
   ·simp only[PV.Is] at hi
    obtain⟨p',dM,rfl⟩:=hi
    rw[hp] at dM; cases dM
    exact⟨none,0,by rw[hw]; rfl,Nat.le_refl _,Nat.zero_le _,(fun _ _ e=>by cases e),fun hn=>absurd rfl hn⟩
   ·simp only[PV.Is] at hi
    obtain⟨p',g',o',Ji,dM,cJ,_⟩:=hi
    rw[hp] at dM; cases dM
    rw[Di] at cJ; cases cJ
  ·obtain⟨xs,qW,Ys⟩:=oh.row
   have Fb:ca w' (fun g=>I' g\/∃ o,p.a=some (g,o)) es n g 0:=by
    have h1:=qW.take (k:=es.length) HR
    rw[htk] at h1
    exact h1.at (fun j u hu=>by
     rw[List.getElem?_take] at hu
     split at hu
     ·have:=Ys j u hu
      rwa [Nat.zero_add] at this
     ·cases hu) qf (fun _ _=>rfl)
   have rP:es.length≠0->∃ g' o',(some (⟨g,0,none⟩:Addr))=some ⟨g',o',none⟩/\(I' g'\/∃ o,p.a=some (g',o))/\0 < n:=fun _=>⟨g,0,rfl,.inr ⟨0,ha⟩,Qw⟩
   rcases hc with ⟨rfl,ZM⟩|⟨rfl,_⟩
   ·simp only[PV.Is] at hi
    obtain⟨p',dM,rfl⟩:=hi
    rw[hp] at dM; cases dM
    have j3:p.len=es.length:=by rw[← Jh,ZM]
    exact⟨some ⟨g,0,none⟩,p.cap,by rw[hw,j3],by omega,by omega,(fun g' o' e=>by cases e; exact Fb),rP⟩
   ·simp only[PV.Is] at hi
    obtain⟨p',g',o',Ji,dM,cJ,rfl,HY⟩:=hi
    rw[hp] at dM; cases dM
    rw[ha] at cJ; cases cJ
    exact⟨some ⟨g,0,none⟩,Ji,rfl,HY,by omega,(fun g' o' e=>by cases e; exact Fb),rP⟩
 refine⟨v,.sl n es,_,_,ay,he,⟨rfl,rfl⟩,hIs,⟨fun l eR=>nB.p8 l eR,fun l b2 dS az=>?_⟩,⟨hI2,fun g cs hg=>⟨.inl (kN.lV g cs hg).1,cL.mono qf (fun _ _=>rfl) _ _ _ rfl (kN.lV g cs hg).2⟩,kN.row⟩,⟨hE.os,hE.tape,hE.output,hE.size,hE.block,fun g _ h=>?_,fun g hg=>.inl (hE.au g hg),fun g hg h=>?_⟩,hlen,ny⟩
 ·match l,dS with
  | 0,dS=>cases dS; cases az
  | l+1,dS=>simp at dS
 ·obtain⟨l,b2,p2,o2,dS,az,_⟩:=h
  match l,dS with
  | 0,dS=>cases dS; cases az
  | l+1,dS=>simp at dS
 ·rcases h with h|⟨o,ha⟩
  ·exact hE.new g hg h
  ·exact .inr (hE.wr g hg (Ny ha))
theorem Spec.cut1 {f:FuncId} {args:List PV} {z b0:aj} (hz:z.k = .loc) (hzm:z.m = .w) (Qy:z.live=true) {n:Nat} {es:List PV} (h:Spec G f args [z,b0] [] fun r S'=>∃ b:aj,S' = [z,b]/\b.k = .dyn/\b.live=true/\b.m = .w/\b.size=n/\((r = .wref 1/\b.cs=es)\/(r = .ref 1 0 es.length/\b.cs.take es.length=es))) :
  Spec G f args [z,b0] [] fun r S'=>r = .sl n es/\S' = [z,⟨.dyn,b0.ty,n,.w,false,[]⟩]:=by
 refine Spec.intro h.run.1 fun I β w vals hH hM hA=>(h.run.2 I β w vals hH hM hA).mono fun e w' ⟨v,r,S',I',ay,he,⟨b,hS,hk,hl,hm,hn,hc⟩,hi,nB,kN,hE,hlen,ny⟩=>?_
 subst hS
 have hb:[z,b][1]?=some b:=rfl
 obtain⟨p,hp,zB⟩:=nB.dX 1 b hb hl
 obtain⟨Qw,Jh,hle,oF,oE⟩:=dO nB hb hl hk hp
 rw[hn] at Qw oE
 have qf:∀ g,I' g->(I' g\/∃ o,p.a=some (g,o)):=fun g h=>.inl h
 have Ny:∀ {g o:Nat},p.a=some (g,o)->Wr ay [z,b] g:=fun {g o} ha=>⟨1,b,p,o,hb,hl,hm,hp,ha⟩
 have hI2:∀ g,(I' g\/∃ o,p.a=some (g,o))->g < w'.heap.size:=fun g hg=>by
  rcases hg with hg|⟨o,ha⟩
  ·exact kN.au g hg
  ·rcases oE with ⟨Di,_⟩|⟨g1,arr,fr,ha1,_,gU,_⟩
   ·rw[Di] at ha; cases ha
   ·rw[ha1] at ha; cases ha; exact aV gU
 have HR:es.length<=b.cs.length:=by
  rcases hc with ⟨_,rfl⟩|⟨_,hc⟩
  ·exact Nat.le_refl _
  ·rw[← hc,List.length_take]; omega
 have htk:b.cs.take es.length=es:=by
  rcases hc with ⟨_,rfl⟩|⟨_,hc⟩
  ·rw[List.take_length]
  ·exact hc
 have hIs:(PV.sl n es).Is w' (fun g=>I' g\/∃ o,p.a=some (g,o)) ay v:=by
  simp only[PV.Is]
  rcases oE with ⟨Di,rZ,hw⟩|⟨g,arr,fr,ha,hw,gU,oh,dh,has⟩
  ·have h0:es = []:=List.eq_nil_of_length_eq_zero (by omega)
   subst h0
   rcases hc with ⟨rfl,_⟩|⟨rfl,_⟩
   ·simp only[PV.Is] at hi
    obtain⟨p',dM,rfl⟩:=hi
    rw[hp] at dM; cases dM
    exact⟨none,0,by rw[hw]; rfl,Nat.le_refl _,Nat.zero_le _,(fun _ _ e=>by cases e),fun hn=>absurd rfl hn⟩
   ·simp only[PV.Is] at hi
    obtain⟨p',g',o',Ji,dM,cJ,_⟩:=hi
    rw[hp] at dM; cases dM
    rw[Di] at cJ; cases cJ
  ·obtain⟨xs,qW,Ys⟩:=oh.row
   have Fb:ca w' (fun g=>I' g\/∃ o,p.a=some (g,o)) es n g 0:=by
    have h1:=qW.take (k:=es.length) HR
    rw[htk] at h1
    exact h1.at (fun j u hu=>by
     rw[List.getElem?_take] at hu
     split at hu
     ·have:=Ys j u hu
      rwa [Nat.zero_add] at this
     ·cases hu) qf (fun _ _=>rfl)
   have rP:es.length≠0->∃ g' o',(some (⟨g,0,none⟩:Addr))=some ⟨g',o',none⟩/\(I' g'\/∃ o,p.a=some (g',o))/\0 < n:=fun _=>⟨g,0,rfl,.inr ⟨0,ha⟩,Qw⟩
   rcases hc with ⟨rfl,ZM⟩|⟨rfl,_⟩
   ·simp only[PV.Is] at hi
    obtain⟨p',dM,rfl⟩:=hi
    rw[hp] at dM; cases dM
    have j3:p.len=es.length:=by rw[← Jh,ZM]
    exact⟨some ⟨g,0,none⟩,p.cap,by rw[hw,j3],by omega,by omega,(fun g' o' e=>by cases e; exact Fb),rP⟩
   ·simp only[PV.Is] at hi
    obtain⟨p',g',o',Ji,dM,cJ,rfl,HY⟩:=hi
    rw[hp] at dM; cases dM
    rw[ha] at cJ; cases cJ
    exact⟨some ⟨g,0,none⟩,Ji,rfl,HY,by omega,(fun g' o' e=>by cases e; exact Fb),rP⟩
 refine⟨v,.sl n es,_,_,ay,he,⟨rfl,rfl⟩,hIs,⟨fun l eR=>nB.p8 l eR,fun l b2 dS az=>?_⟩,⟨hI2,fun g cs hg=>⟨.inl (kN.lV g cs hg).1,cL.mono qf (fun _ _=>rfl) _ _ _ rfl (kN.lV g cs hg).2⟩,kN.row⟩,⟨hE.os,hE.tape,hE.output,hE.size,hE.block,fun g _ h=>?_,fun g hg=>.inl (hE.au g hg),fun g hg h=>?_⟩,hlen,ny⟩
 ·match l,dS with
  | 0,dS =>
   cases dS
   obtain⟨p0,hp0,Dl⟩:=nB.dX 0 z rfl az
   rw[hz] at Dl
   obtain⟨g0,o0,arr,ty,fr,q1,q2,q3,q4⟩:=Dl
   obtain⟨r1,r2,r3⟩:=q4.1 (by rw[hzm]; decide)
   refine⟨p0,hp0,?_⟩
   rw[hz]
   refine⟨g0,o0,arr,ty,fr,q1,q2,bj.mono qf (fun _ _=>rfl) (fun _ _ h=>h) q3,⟨fun _=>⟨r1,fun hI=>?_,fun l' b' cN iu fi=>?_⟩,fun qb=>by rw[hzm] at qb; cases qb⟩⟩
   ·rcases hI with hI|⟨o,ha⟩
    ·exact r2 hI
    ·exact r3 1 b (by decide) rfl hl p g0 o hp ha rfl
   ·match l',iu with
    | 0,_=>exact absurd rfl cN
    | 1,iu=>cases iu; cases fi
    | l'+2,iu=>simp at iu
  | 1,dS=>cases dS; cases az
  | l+2,dS=>simp at dS
 ·obtain⟨l,b2,p2,o2,dS,az,De,iX,gX⟩:=h
  match l,dS with
  | 0,dS=>cases dS; exact hE.wr _ (by assumption) ⟨0,z,p2,o2,rfl,Qy,De,iX,gX⟩
  | 1,dS=>cases dS; cases az
  | l+2,dS=>simp at dS
 ·rcases h with h|⟨o,ha⟩
  ·exact hE.new g hg h
  ·exact .inr (hE.wr g hg (Ny ha))
end
def SB (S:List aj) (l:Nat):Bool:=match S[l]? with
 | some b=>b.can
 | none=>false
theorem Nz {S:List aj} {l:Nat} (h:SB S l=true):l < S.length/\∀ b,S[l]?=some b->b.m = .w:=by
 unfold SB at h
 split at h
 ·rename_i b hb
  refine⟨(List.getElem?_eq_some_iff.1 hb).1,fun b' cO=>?_⟩
  rw[hb] at cO; cases cO
  unfold aj.can at h
  simp only[Bool.and_eq_true] at h
  cases hm:b.m with
  | w=>rfl
  | p=>rw[hm] at h; cases h.2
  | r=>rw[hm] at h; cases h.2
 ·cases h
def QR (rl:List Nat) (b:aj):Bool:=match b.k with
 | .dyn=>true
 | .mp=>true
 | _=>b.cs.all fun c=>c.df.all fun l=>!(fk l rl)
def Jj (rl:List Nat) (T:List aj):Bool:=T.all (QR rl)
theorem Fi {rl:List Nat} {T:List aj} (h:Jj rl T=true) {b:aj} (hb:b∈T) (hk:b.k.vp=true):∀ c∈b.cs,∀ m∈c.df,m ∉ rl:=fun c hc m hm hr=>by
 have h1:=List.all_eq_true.1 h b hb
 unfold QR at h1
 have h2:b.cs.all (fun c=>c.df.all fun l=>!(fk l rl))=true:=by
  cases cm:b.k with
  | dyn=>rw[cm] at hk; cases hk
  | mp=>rw[cm] at hk; cases hk
  | mx=>rw[cm] at h1; exact h1
  | loc=>rw[cm] at h1; exact h1
  | arr=>rw[cm] at h1; exact h1
 have h3:=List.all_eq_true.1 (List.all_eq_true.1 h2 c hc) m hm
 rw[cR.2 hr] at h3
 cases h3
section
variable {w w':World} {I I':Nat->Prop} {β ay:an} {G:Gx} {s:aD} {a:Act} {st dY:List aj}
theorem bj.zS {cs:List PV} {arr:Array Value} {o:Nat} (hI:∀ g,I g->I' g) (hw:∀ g,I g->w'.heap[g]?=w.heap[g]?) (hb:∀ c∈cs,∀ l∈c.df,∀ p,β l=some p->ay l=some p) (h:bj w I β cs arr o):bj w' I' ay cs arr o :=
 fun i c hc=>let ⟨v,h1,h2,h3⟩:=h i c hc; ⟨v,h1,PV.Is.mono hI hw c β ay v (fun l p hl=>hb c (List.mem_of_getElem? hc) l hl p) h2,h3⟩
theorem fF.zS {l:Nat} {b:aj} (hI:∀ g,I g->I' g) (hw:∀ g,I g->w'.heap[g]?=w.heap[g]?) (ny:∀ p,β l=some p->ay l=some p) (hu:b.k.vp=true->∀ c∈b.cs,∀ l∈c.df,∀ p,β l=some p->ay l=some p)
  (hg:∀ p g o,β l=some p->p.a=some (g,o)->w'.heap[g]?=w.heap[g]?/\(b.m≠.r->¬ I' g/\∀ l' b',l'≠l->dY[l']?=some b'->b'.live=true->∀ p g' o',ay l'=some p->p.a=some (g',o')->g'≠g)) (hb:fF I β st w l b):fF I' ay dY w' l b:=by
 obtain⟨p,hp,hk⟩:=hb
 refine⟨p,ny p hp,?_⟩
 have own:∀ {g o:Nat} {fr:Nat × Nat},p.a=some (g,o)->Own I β st l g fr b->Own I' ay dY l g fr b:=fun ha ho=>⟨fun hr=>⟨(ho.1 hr).1,(hg p _ _ hp ha).2 hr⟩,fun hr=>hI _ (ho.2 hr)⟩
 split at hk
 ·rename_i cm
  obtain⟨g,o,arr,ty,fr,ha,hh,hc,ho⟩:=hk
  exact⟨g,o,arr,ty,fr,ha,(hg p g o hp ha).1.trans hh,hc.zS hI hw (hu (by rw[cm]; rfl)),own ha ho⟩
 ·rename_i cm
  obtain⟨g,arr,fr,ha,hh,hc,ho,h1⟩:=hk
  exact⟨g,arr,fr,ha,(hg p g 0 hp ha).1.trans hh,hc.zS hI hw (hu (by rw[cm]; rfl)),own ha ho,h1⟩
 ·obtain⟨h1,hk⟩:=hk
  refine⟨h1,?_⟩
  rcases hk with h|⟨g,arr,fr,ha,hh,hc,ho,h2⟩
  ·exact .inl h
  ·exact .inr ⟨g,arr,fr,ha,(hg p g 0 hp ha).1.trans hh,ca.mono hI hw _ _ _ _ (hg p g 0 hp ha).1 hc,own ha ho,h2⟩
 ·obtain⟨g,ha,hm,ho⟩:=hk
  exact⟨g,ha,hm.oH (hg p g 0 hp ha).1,own ha ho⟩
 ·rename_i cm
  obtain⟨g,es,ck,ha,hh,hc,ho,h1⟩:=hk
  exact⟨g,es,ck,ha,(hg p g 0 hp ha).1.trans hh,hc.zS hI hw (hu (by rw[cm]; rfl)),own ha ho,h1⟩
theorem Spec.useR {f:FuncId} {args args':List PV} {r0:PV} {S0 S1:List aj} {rl:List Nat} {K:PV->List aj->Prop} (h:Spec G f args' S0 rl fun r S'=>r=r0/\S'=S1) (hm:lE S0 S1=true) (dU:S0.all (zF S0.length)=true) (hu:(dp args').all (fun l=>Nat.blt l S0.length)=true)
  (Nr:r0.df.all (fun l=>Nat.blt l S0.length)=true) (Qz:rl.all (fun l=>SB S0 l)=true) (hle:oX ma args args') (hK:Nx st S0 fun T=>(bif Jj rl T then True else False)/\zD S1 fun S1=>Fg S1 T (K r0)):Spec G f args st rl K:=by
 obtain⟨p_,T,rfl,ze,hk,Jd⟩:=xX hK
 obtain⟨hT,hk⟩:=hk
 replace hT:=(ba hT).1
 replace hk:=xW (pg hk)
 obtain⟨MJ,E0⟩:=pk hm
 refine Spec.intro h.run.1 fun I β w vals hH hM hA=>?_
 let eU:an:=fun l=>if l < S0.length then β l else none
 have ku:∀ l,l < S0.length->eU l=β l:=fun l hl=>if_pos hl
 have BZ:∀ {l p},eU l=some p->l < S0.length/\β l=some p:=fun {l p} h=>by
  by_cases hl:l < S0.length
  ·exact⟨hl,by rw[← ku l hl]; exact h⟩
  ·have:eU l=none:=if_neg hl
   rw[this] at h; cases h
 have Bg:∀ {l:Nat} {b':aj},S0[l]?=some b'->l < S0.length/\∃ b,(p_++T)[l]?=some b/\gN b b':=fun {l b'} cO=>by
  have bZ:l < S0.length:=(List.getElem?_eq_some_iff.1 cO).1
  have B0:l < p_.length:=by omega
  refine⟨bZ,p_[l],by rw[List.getElem?_append_left B0]; simp[B0],Jd l _ b' (by simp[B0]) cO⟩
 have low:∀ {l:Nat} {b':aj},S0[l]?=some b'->b'.k.vp=true->∀ c∈b'.cs,∀ m∈c.df,m < S0.length:=fun {l b'} cO hk c hc m qb=>by
  rw[List.all_eq_true] at dU
  have:=dU b' (List.mem_of_getElem? cO)
  unfold zF at this
  have eC:b'.cs.all (fun c=>c.df.all fun l=>Nat.blt l S0.length)=true:=by
   cases cm:b'.k with
   | dyn=>rw[cm] at hk; cases hk
   | mp=>rw[cm] at hk; cases hk
   | mx=>rw[cm] at this; exact this
   | loc=>rw[cm] at this; exact this
   | arr=>rw[cm] at this; exact this
  rw[List.all_eq_true] at eC
  have:=eC c hc
  rw[List.all_eq_true] at this
  exact Nat.le_of_ble_eq_true (this m qb)
 have MK:aC I eU S0 w:=by
  refine⟨fun l hl=>if_neg (by omega),fun l b' cO az=>?_⟩
  obtain⟨bZ,b,hb,zP⟩:=Bg cO
  obtain⟨e1,e2,e3,e4,e5,e6,e7⟩:=dj zP
  obtain⟨p,hp,hB⟩:=hH.dX l b hb e4
  have own:∀ {g:Nat} {fr:Nat × Nat},Own I β (p_++T) l g fr b->Own I eU S0 l g fr b':=fun {g fr} ho=>by
   refine⟨fun hr=>?_,fun hr=>ho.2 (by rw[e3]; exact hr)⟩
   obtain⟨h1,h2,h3⟩:=ho.1 (by rw[e3]; exact hr)
   refine⟨h1,h2,fun l2 b2 cN eR bC p2 g2 o2 iX gX=>?_⟩
   obtain⟨_,b3,j6,ml⟩:=Bg eR
   exact h3 l2 b3 cN j6 (dj ml).2.2.2.1 p2 g2 o2 (BZ iX).2 gX
  have cells:b'.k.vp=true->∀ {arr:Array Value} {o:Nat},bj w I β b.cs arr o->bj w I eU b'.cs arr o:=fun hk {arr o} hc i c hi=>by
   have iW:bj w I β b'.cs arr o:=by
    rcases e7 with ⟨hd,_⟩|⟨_,h7⟩
    ·(rw[e6,hk] at hd; cases hd)
    ·exact jj h7 hc
   obtain⟨u,Bv,QN,h1⟩:=iW i c hi
   exact⟨u,Bv,PV.Is.mono (fun _ h=>h) (fun _ _=>rfl) c β eU u (fun m p qb dM=>by rw[ku m (low cO hk c (List.mem_of_getElem? hi) m qb)]; exact dM) QN,h1⟩
  refine⟨p,by rw[ku l bZ]; exact hp,?_⟩
  split at hB
  ·rename_i cm
   have ji:b'.k = .loc:=by rw[← e6]; exact cm
   obtain⟨g,o,arr,ty,fr,h1,h2,h3,ho⟩:=hB
   rw[ji]
   exact⟨g,o,arr,ty,fr,h1,h2,cells (by rw[ji]; rfl) h3,own ho⟩
  ·rename_i cm
   have ji:b'.k = .arr:=by rw[← e6]; exact cm
   obtain⟨g,arr,fr,h1,h2,h3,ho,h4,h5,h6,h7,h8⟩:=hB
   have hlen:b'.cs.length=b.cs.length:=by
    rcases e7 with ⟨hd,_⟩|⟨_,h9⟩
    ·rw[cm] at hd; cases hd
    ·exact (mN h9).symm
   rw[ji]
   exact⟨g,arr,fr,h1,by rw[← e1]; exact h2,cells (by rw[ji]; rfl) h3,own ho,by rw[hlen,← e2]; exact h4,h5,h6,by rw[← e2]; exact h7,by rw[← e2]; exact h8⟩
  ·rename_i cm
   have ji:b'.k = .dyn:=by rw[← e6]; exact cm
   have fj:b.cs=b'.cs:=by
    rcases e7 with ⟨_,h9⟩|⟨hd,_⟩
    ·exact h9
    ·(rw[cm] at hd; cases hd)
   obtain⟨⟨h1,h2,h3,h4⟩,hB⟩:=hB
   rw[ji]
   refine⟨⟨by rw[← e2]; exact h1,by rw[← fj]; exact h2,h3,h4⟩,?_⟩
   rcases hB with h|⟨g,arr,fr,h5,h6,h7,ho,h8⟩
   ·exact .inl h
   ·exact .inr ⟨g,arr,fr,h5,by rw[← e1]; exact h6,by rw[← fj,← e2]; exact h7,own ho,by rw[← e2]; exact h8⟩
  ·rename_i cm
   have ji:b'.k = .mp:=by rw[← e6]; exact cm
   have fj:b.cs=b'.cs:=by
    rcases e7 with ⟨_,h9⟩|⟨hd,_⟩
    ·exact h9
    ·(rw[cm] at hd; cases hd)
   obtain⟨g,h1,h2,ho⟩:=hB
   rw[ji]
   exact⟨g,h1,by rw[← fj]; exact h2,own ho⟩
  ·rename_i cm
   exact absurd cm (tG zP)
 have Sz:bg w I args' eU vals:=by
  have:=jv (fun _ _=>fp) hle hA
  refine bg.mono (fun _ h=>h) (fun _ _=>rfl) args' β eU vals (fun m p qb dM=>?_) this
  rw[List.all_eq_true] at hu
  rw[ku m (Nat.le_of_ble_eq_true (hu m qb))]; exact dM
 refine (h.run.2 I eU w vals MK hM Sz).mono fun e w' ⟨v,r,S',I',ay,he,⟨e1,e2⟩,hi,nB,kN,hE,hlen,ny⟩=>?_
 subst e1; subst e2
 have zQ:∀ l,l < S0.length->l ∉ rl->ay l=β l:=fun l hl hr=>(ny l hl hr).trans (ku l hl)
 let ee:an:=fun l=>if l < S0.length then ay l else β l
 have Fj:∀ l,l < S0.length->ee l=ay l:=fun l hl=>if_pos hl
 have B1:∀ l,¬ l < S0.length->ee l=β l:=fun l hl=>if_neg hl
 have Fh:∀ l p,ay l=some p->ee l=some p:=fun l p hp=>by
  have:l < S0.length:=by have:=nB.lt hp; omega
  rw[Fj l this]; exact hp
 have rG:∀ l,l∈rl->l < S0.length/\∀ b,S0[l]?=some b->b.m = .w:=fun l hl=>Nz (List.all_eq_true.1 Qz l hl)
 have Je:∀ {g},Wr eU S0 g->Wr β (p_++T) g:=fun {g} ⟨l,b,p,o,h1,h2,h3,h4,h5⟩=>by
  obtain⟨bZ,b2,dS,IY⟩:=Bg h1
  obtain⟨_,_,q3,q4,_⟩:=dj IY
  exact⟨l,b2,p,o,dS,q4,by rw[q3]; exact h3,(BZ h4).2,h5⟩
 have YF:∀ {g},Wr ee (S'++T) g->(Wr ay S' g)\/∃ l b p o,S0.length<=l/\(p_++T)[l]?=some b/\b.live=true/\b.m = .w/\β l=some p/\p.a=some (g,o):=fun {g} ⟨l,b,p,o,h1,h2,h3,h4,h5⟩=>by
  by_cases hl:l < S'.length
  ·rw[List.getElem?_append_left hl] at h1
   exact .inl ⟨l,b,p,o,h1,h2,h3,by rw[← Fj l (by omega)]; exact h4,h5⟩
  ·rw[List.getElem?_append_right (by omega)] at h1
   refine .inr ⟨l,b,p,o,by omega,?_,h2,h3,by rw[← B1 l (by omega)]; exact h4,h5⟩
   rw[List.getElem?_append_right (by omega),ze,MJ]; exact h1
 
 have apart:∀ {l:Nat} {b:aj} {p:na} {g o:Nat},S0.length<=l->(p_++T)[l]?=some b->b.live=true->β l=some p->p.a=some (g,o)->¬ Wr eU S0 g:=fun {l b p g o} hl hb az hp ha ⟨l2,b2,p2,o2,h1,h2,h3,h4,h5⟩=>by
  obtain⟨bZ,b3,j6,ml⟩:=Bg h1
  obtain⟨_,_,q3,q4,_⟩:=dj ml
  obtain⟨arr,ty,fr,_,ho⟩:=(hH.dX l2 b3 j6 q4).place (BZ h4).2 h5
  exact (ho.1 (by rw[q3,h3]; nofun)).2.2 l b (by omega) hb az p g o hp ha rfl
 refine⟨v,r,S'++T,I',ee,he,hk,PV.Is.mono (fun _ h=>h) (fun _ _=>rfl) r ay ee v (fun m p _ hp=>Fh m p hp) hi,⟨fun l hl=>by rw[B1 l (by simp only[List.length_append] at hl; omega)]; exact hH.p8 l (by simp only[List.length_append] at hl ⊢; omega),fun l b hb az=>?_⟩,kN,⟨hE.os,hE.tape,hE.output,hE.size,fun g hg hn=>hE.block g hg fun h=>hn (Je h),fun g hg h=>?_,hE.au,fun g hg h=>(hE.new g hg h).imp id Je⟩,by simp only[List.length_append]; omega,fun l _ hr=>by
   by_cases hl:l < S0.length
   ·rw[Fj l hl]; exact zQ l hl hr
   ·exact B1 l hl⟩
 ·by_cases hl:l < S'.length
  ·rw[List.getElem?_append_left hl] at hb
   have hB:=nB.dX l b hb az
   refine hB.mono (fun _ h=>h) (fun _ _=>rfl) Fh fun p g o hp ha=>⟨rfl,fun hr=>?_⟩
   obtain⟨arr,ty,fr,hh,ho⟩:=hB.place hp ha
   obtain⟨h1,h2,h3⟩:=ho.1 hr
   refine⟨h2,fun l2 b2 cN dS bC p2 g2 o2 iX gX=>?_⟩
   by_cases eR:l2 < S'.length
   ·rw[List.getElem?_append_left eR] at dS
    exact h3 l2 b2 cN dS bC p2 g2 o2 (by rw[← Fj l2 (by omega)]; exact iX) gX
   ·rw[List.getElem?_append_right (by omega)] at dS
    have Jf:(p_++T)[l2]?=some b2:=by rw[List.getElem?_append_right (by omega),ze,MJ]; exact dS
    have Fk:β l2=some p2:=by rw[← B1 l2 (by omega)]; exact iX
    have jq:=hH.cH ⟨l2,b2,p2,o2,Jf,bC,Fk,gX⟩
    obtain⟨b0,gE⟩:∃ b0,S0[l]?=some b0:=⟨S0[l]'(by omega),by simp[show l < S0.length by omega]⟩
    obtain⟨_,q5⟩:=E0 l b0 b gE hb
    by_cases ZN:l∈rl
    ·intro e
     subst e
     have hw:b.m = .w:=by rw[← q5]; exact (rG l ZN).2 b0 gE
     exact apart (by omega) Jf bC Fk gX (hE.wr _ jq ⟨l,b,p,o,hb,az,hw,hp,ha⟩)
    ·obtain⟨_,b3,j6,ml⟩:=Bg gE
     obtain⟨_,_,q3,q4,_⟩:=dj ml
     have rb:β l=some p:=by rw[← zQ l (by omega) ZN]; exact hp
     obtain⟨_,_,_,_,ZK⟩:=(hH.dX l b3 j6 q4).place rb ha
     exact (ZK.1 (by rw[q3,q5]; exact hr)).2.2 l2 b2 cN Jf bC p2 g2 o2 Fk gX
  ·rw[List.getElem?_append_right (by omega)] at hb
   have cO:(p_++T)[l]?=some b:=by rw[List.getElem?_append_right (by omega),ze,MJ]; exact hb
   have hB:=hH.dX l b cO az
   have same:∀ {p g o},β l=some p->p.a=some (g,o)->g < w.heap.size/\w'.heap[g]?=w.heap[g]?:=fun {p g o} hp ha=>by
    have bZ:=hH.cH ⟨l,b,p,o,cO,az,hp,ha⟩
    exact⟨bZ,hE.block g bZ (apart (by omega) cO az hp ha)⟩
   have hTb:=Fi hT (List.mem_of_getElem? hb)
   refine hB.zS hE.au (fun g hg=>hE.block g (hM.au g hg) fun hw=>?_) (fun p hp=>by rw[B1 l (by omega)]; exact hp) (fun hk c hc m hm p hp=>?_) fun p g o hp ha=>⟨(same hp ha).2,fun hr=>?_⟩
   ·exact MK.lY hw hg
   ·by_cases hml:m < S0.length
    ·rw[Fj m hml,zQ m hml (hTb hk c hc m hm)]; exact hp
    ·rw[B1 m hml]; exact hp
   ·obtain⟨arr,ty,fr,hh,ho⟩:=hB.place hp ha
    obtain⟨h1,h2,h3⟩:=ho.1 hr
    refine⟨fun hI=>(hE.new g (same hp ha).1 hI).elim h2 (apart (by omega) cO az hp ha),fun l2 b2 cN dS bC p2 g2 o2 iX gX=>?_⟩
    have uU:=(same hp ha).1
    by_cases eR:l2 < S'.length
    ·rw[List.getElem?_append_left eR] at dS
     have Fk:ay l2=some p2:=by rw[← Fj l2 (by omega)]; exact iX
     obtain⟨b0,gE⟩:∃ b0,S0[l2]?=some b0:=⟨S0[l2]'(by omega),by simp[show l2 < S0.length by omega]⟩
     by_cases ZN:l2∈rl
     ·intro e
      subst e
      obtain⟨_,q5⟩:=E0 l2 b0 b2 gE dS
      have hw:b2.m = .w:=by rw[← q5]; exact (rG l2 ZN).2 b0 gE
      exact apart (by omega) cO az hp ha (hE.wr _ uU ⟨l2,b2,p2,o2,dS,bC,hw,Fk,gX⟩)
     ·obtain⟨_,b3,j6,ml⟩:=Bg gE
      exact h3 l2 b3 cN j6 (dj ml).2.2.2.1 p2 g2 o2 (by rw[← zQ l2 (by omega) ZN]; exact Fk) gX
    ·rw[List.getElem?_append_right (by omega)] at dS
     exact h3 l2 b2 cN (by rw[List.getElem?_append_right (by omega),ze,MJ]; exact dS) bC p2 g2 o2 (by rw[← B1 l2 (by omega)]; exact iX) gX
 ·rcases YF h with h|⟨l,b,p,o,_,h2,h3,h4,h5,h6⟩
  ·exact Je (hE.wr g hg h)
  ·exact⟨l,b,p,o,h2,h3,h4,h5,h6⟩
def NA (st:List aj) (fz:List Nat) (x:PV):PV:=match x with
 | .wref l=>bif fk l fz then (match st[l]? with
  | some ⟨.dyn,_,n,_,_,cs⟩=>.sl n cs
  | _=>.wref l) else .wref l
 | x=>x
def TM.B2 (f:PV->PV):TM->TM
 | .nil=>.nil
 | .node v l r=>.node (match v with
  | some x=>some (f x)
  | none=>none) (l.B2 f) (r.B2 f)
def aD.Hb (s:aD) (fz:List Nat):aD:=match s with
 | ⟨n,t,st,b,rl⟩=>⟨n,t.B2 (NA st fz),lh fz st,b,rl⟩
theorem TM.tH (f:PV->PV):∀ (t:TM) (n:Nat),(t.B2 f).get n=(t.get n).map f
 | .nil,_=>rfl
 | .node v l r,n=>by
  show TM.get (.node (match v with
   | some x=>some (f x)
   | none=>none) (l.B2 f) (r.B2 f)) n=_
  rw[TM.get,TM.get]
  cases Nat.beq n 0<;>cases Nat.beq (n % 2) 1<;>simp only[cond_true,cond_false]
  ·exact TM.tH f r _
  ·exact TM.tH f l _
  ·cases v<;>rfl
  ·cases v<;>rfl
theorem pn {S:List aj} {fz:List Nat} {l:Nat} {b:aj} (hb:(lh fz S)[l]?=some b):∃ b0,S[l]?=some b0/\b = { b0 with m:=mj (fk l fz) b0.m }:=by
 unfold lh at hb
 rw[eN,Option.map_eq_some_iff] at hb
 obtain⟨b0,h1,h2⟩:=hb
 rw[Nat.zero_add] at h2
 exact⟨b0,h1,h2.symm⟩
theorem aC.Hb {S:List aj} (hH:aC I β S w) (hM:cE G I w) {fz:List Nat} (hz:YD S fz=true):aC (gn I β S fz) β (lh fz S) w:=by
 refine⟨fun l hl=>hH.p8 l (by unfold lh at hl; rw[gJ] at hl; exact hl),fun l b hb az=>?_⟩
 obtain⟨b0,gE,rfl⟩:=pn hb
 obtain⟨p,hp,hk⟩:=hH.dX l b0 gE az
 have qf:∀ g,I g->gn I β S fz g:=fun g h=>.inl h
 have own:∀ {g o:Nat} {fr:Nat × Nat},p.a=some (g,o)->Own I β S l g fr b0->Own (gn I β S fz) β (lh fz S) l g fr { b0 with m:=mj (fk l fz) b0.m }:=fun {g o fr} ha ho=>by
  refine⟨fun hm=>?_,fun hm=>?_⟩
  ·have l5:fk l fz=false/\b0.m≠.r:=by
    cases hc:fk l fz with
    | true=>simp only[hc,mj,cond_true,ne_eq,not_true_eq_false] at hm
    | false=>exact⟨rfl,by simpa only [hc,mj,cond_false] using hm⟩
   obtain⟨h1,h2,h3⟩:=ho.1 l5.2
   refine⟨h1,fun hI=>?_,fun l2 b2 cN eR bC p2 g2 o2 iX gX=>?_⟩
   ·rcases hI with hI|⟨l2,b2,p2,o2,eR,dS,bC,_,iX,gX⟩
    ·exact h2 hI
    ·refine h3 l2 b2 (fun e=>?_) dS bC p2 g o2 iX gX rfl
     subst e
     rw[cR.2 eR] at l5
     cases l5.1
   ·obtain⟨b3,j6,rfl⟩:=pn eR
    exact h3 l2 b3 cN j6 bC p2 g2 o2 iX gX
  ·cases hc:fk l fz with
   | true =>
    obtain⟨b1,u3,k1,k2⟩:=BY hz (cR.1 hc)
    rw[gE] at u3; cases u3
    exact .inr ⟨l,b0,p,o,cR.1 hc,gE,k1,k2,hp,ha⟩
   | false=>exact qf g (ho.2 (by simpa only [hc,mj,cond_false] using hm))
 have DJ:∀ g,I g->w.heap[g]?=w.heap[g]?:=fun _ _=>rfl
 refine⟨p,hp,?_⟩
 split at hk
 ·rename_i cm
  obtain⟨g,o,arr,ty,fr,h1,h2,h3,ho⟩:=hk
  simp only[cm]
  exact⟨g,o,arr,ty,fr,h1,h2,bj.mono qf DJ (fun _ _ h=>h) h3,own h1 ho⟩
 ·rename_i cm
  obtain⟨g,arr,fr,h1,h2,h3,ho,h4⟩:=hk
  simp only[cm]
  exact⟨g,arr,fr,h1,h2,bj.mono qf DJ (fun _ _ h=>h) h3,own h1 ho,h4⟩
 ·rename_i cm
  obtain⟨h1,hk⟩:=hk
  simp only[cm]
  refine⟨h1,?_⟩
  rcases hk with h|⟨g,arr,fr,h2,h3,h4,ho,h5⟩
  ·exact .inl h
  ·exact .inr ⟨g,arr,fr,h2,h3,ca.mono qf DJ _ _ _ _ rfl h4,own h2 ho,h5⟩
 ·rename_i cm
  obtain⟨g,h1,h2,ho⟩:=hk
  simp only[cm]
  exact⟨g,h1,h2,own h1 ho⟩
 ·rename_i cm
  obtain⟨g,es,ck,h1,h2,h3,ho,h4⟩:=hk
  simp only[cm]
  exact⟨g,es,ck,h1,h2,bj.mono qf DJ (fun _ _ h=>h) h3,own h1 ho,h4⟩
theorem NB {S:List aj} (hH:aC I β S w) {fz:List Nat} (hz:YD S fz=true) {x:PV} {v:Value} (hx:x.Is w I β v):(NA S fz x).Is w (gn I β S fz) β v:=by
 have oH:∀ y:PV,y.Is w I β v->y.Is w (gn I β S fz) β v:=fun y hy=>PV.Is.mono (fun _ h=>.inl h) (fun _ _=>rfl) y β β v (fun _ _ _ h=>h) hy
 unfold NA
 split
 ·rename_i l
  cases hc:fk l fz with
  | false=>exact oH _ hx
  | true =>
   obtain⟨b,hb,az,hm⟩:=BY hz (cR.1 hc)
   simp only[cond_true]
   split
   ·rename_i _ ty n m live cs hs
    rw[hb] at hs
    cases hs
    have h1:=xU hH (cR.1 hc) hb (n:=n) (es:=cs) (by
     simp only at az hm
     show (bif live && E_ m && Nat.beq n n then cs=cs else False)
     rw[az,hm,Nat.beq_refl]; exact rfl) hx
    exact PV.Is.mono (fun _ h=>h) (fun _ _=>rfl) _ no β v (fun l p hl=>by simp[PV.df] at hl) h1
   ·exact oH _ hx
 ·exact oH _ hx
theorem Sub.freeze (fz:List Nat) (hz:YD s.st fz=true):Sub G s (s.Hb fz):=fun I β a w hR=>by
 obtain⟨n,t,st,b,rl⟩:=s
 refine⟨gn I β st fz,β,⟨hR.small,hR.defers,hR.size,by show b<=(lh fz st).length; unfold lh; rw[gJ]; exact hR.base,fun i x hx=>?_,hR.heap.Hb hR.au hz,pj hR.heap hR.au⟩,⟨⟨rfl,rfl,rfl,Nat.le_refl _,fun _ _ _=>rfl,fun g _ h=>?_,fun _ h=>.inl h,fun g _ h=>?_⟩,rfl,rfl,rfl,fun _ _ _=>rfl⟩⟩
 ·have xl:(t.B2 (NA st fz)).get i=some x:=hx
  rw[TM.tH,Option.map_eq_some_iff] at xl
  obtain⟨y,hy,rfl⟩:=xl
  obtain⟨v,hv,hi⟩:=hR.get i y hy
  exact⟨v,hv,NB hR.heap hz hi⟩
 ·obtain⟨l,b1,p,o,h1,h2,h3,h4,h5⟩:=h
  obtain⟨b0,gE,rfl⟩:=pn h1
  refine⟨l,b0,p,o,gE,h2,?_,h4,h5⟩
  cases hc:fk l fz with
  | true=>simp only[hc,mj,cond_true] at h3; cases h3
  | false=>simpa only [hc,mj,cond_false] using h3
 ·rcases h with h|⟨l,b1,p,o,hl,hb,az,hm,hp,ha⟩
  ·exact .inl h
  ·cases tE:b1.m with
   | w=>exact .inr ⟨l,b1,p,o,hb,az,tE,hp,ha⟩
   | p=>rw[tE] at hm; cases hm
   | r =>
    obtain⟨arr,ty,fr,_,ho⟩:=(hR.heap.dX l b1 hb az).place hp ha
    exact .inl (ho.2 tE)
theorem SW.sub {c:Code} {Q:X->aD->Prop} {s s':aD} (h:Sub G s s') (h':SW G c Q s'):SW G c Q s:=SW.intro fun I β a w hR=>by
 obtain⟨I',ay,br,hg⟩:=h I β a w hR
 exact h'.from br hg
def aD.bare (s:aD) (vs:List (Nat × PV)) (st:List aj):aD:=match s with
 | ⟨n,_,_,b,rl⟩=>⟨n,lf vs .nil,st,b,rl⟩
theorem SW.Jk (hG:fD G) (R:List (Nat × af)) {α:Type} {c:Code} {Q:X->aD->Prop} (hc:bR R c=true) (vs:α->List (Nat × PV)) (st:α->List aj) (μ:α->Nat) (x0:α) (N:Nat) (MG:ia) (h0:fK G.cx MG s (s.bare (vs x0) (st x0)))
  (h:∀ x,Sn (s.bare (vs x) (st x)) (pw G R N c (oW (fun s'=>∃ y π,μ y < μ x/\fK G.cx π s' (s.bare (vs y) (st y))) Q))):SW G (.loop c) Q s :=
 SW.inv hG (fun x=>s.bare (vs x) (st x)) μ (N:=N) hc x0 (dD hG.ok h0) (fun x s'=>∃ y π,μ y < μ x/\fK G.cx π s' (s.bare (vs y) (st y))) (fun x s' ⟨y,π,hy,hs⟩=>⟨y,hy,dD hG.ok hs⟩) fun x=>qv (h x)
theorem Spec.MF (hG:fD G) {f:FuncId} {args:List PV} {S S':List aj} {rl:List Nat} {K:PV->List aj->Prop} (h:Spec G f args S' rl K) (π:ia) (hs:fK G.cx π ⟨0,.nil,S,S.length,[]⟩ ⟨0,.nil,S',S.length,[]⟩) (hu:(dp args).all (fun l=>Nat.blt l S.length)=true) (Qz:∀ l∈rl,S.length<=l):Spec G f args S [] K:=by
 refine Spec.intro h.run.1 fun I β w vals hH hM hA=>?_
 have hR:Rel G I β ⟨0,.nil,S,S.length,[]⟩ { tmps:=#[],defers:=G.Bn } w:=⟨Nat.zero_le _,rfl,rfl,Nat.le_refl _,fun n x hx=>(by cases hx),hH,hM⟩
 obtain⟨I',ay,br,hg⟩:=dD hG.ok hs I β _ w hR
 have Sz:bg w I' args ay vals:=bg.mono hg.ext.au (fun g rP=>hg.ext.block g (hM.au g rP) (fun hw=>hH.lY hw rP)) args β ay vals (fun m p hm hp=>by
  rw[List.all_eq_true] at hu
  rw[hg.low m (Nat.le_of_ble_eq_true (hu m hm)) (by simp)]; exact hp) hA
 have hlen:S.length<=S'.length:=br.base
 refine (h.run.2 I' ay w vals br.heap br.au Sz).mono fun e w' ⟨v,r,S2,I2,ee,he,hK,hr,ZO,hM2,hE,hl,ny⟩=>?_
 refine⟨v,r,S2,I2,ee,he,hK,hr,ZO,hM2,hg.ext.trans hE,by omega,fun l iu _=>?_⟩
 rw[ny l (by omega) (fun hm=>by have:=Qz l hm; omega)]
 exact hg.low l iu (by simp)
end
end Go.Proofs.YtbnoodjnpooocaaGreatDoor.Pw

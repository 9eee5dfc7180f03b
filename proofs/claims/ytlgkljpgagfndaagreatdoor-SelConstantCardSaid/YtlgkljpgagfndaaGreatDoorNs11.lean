/- What this claim is proved with: no condition. -/
import Derived.Test.YtlgkljpgagfndaaGreatDoorNs10
import Derived.Maps.Views
import Derived.Carry
set_option linter.unusedVariables false
set_option linter.unusedSimpArgs false
namespace Go.Proofs.YtlgkljpgagfndaaGreatDoor.Pw
open Go Go.RowKit
def pZ (π:fH) (b:ak) (q:ak->Prop):Prop:=match b with
 | ⟨.dyn,ty,n,m,live,cs⟩=>q ⟨.dyn,ty,n,m,live,cs⟩
 | ⟨.mp,ty,n,m,live,cs⟩=>q ⟨.mp,ty,n,m,live,cs⟩
 | ⟨k,ty,n,m,live,cs⟩=>bq (fp π cs) fun cs=>q ⟨k,ty,n,m,live,cs⟩
def VG (π:fH) (st:List ak):List Nat->List ak->Prop->Prop
 | [],[],k=>k
 | l::σ,b'::S,k=>(bq st[l]? fun b=>pZ π b' fun kJ=>fA b kJ)/\VG π st σ S k
 | _,_,_=>False
def QQ (π:fH):List Nat->List ak->List ak->(List ak->Prop)->Prop
 | [],[],st,k=>k st
 | l::σ,b'::S,st,k=>pZ π b' fun kJ=>RG kJ fun kJ=>s5 st l kJ fun st=>QQ π σ S st k
 | _,_,_,_=>False
def Dk (π:fH):List PV->List PV->Prop
 | [],[]=>True
 | x::xs,y::ys=>(bq (y.Fg π) fun z=>jj x z)/\Dk π xs ys
 | _,_=>False
def jH:List Nat->Bool
 | []=>true
 | l::σ=>!σ.any (Nat.beq l) && jH σ
section
variable {w w':World} {I I':Nat->Prop} {β aV:aB} {G:Gx} {s:ba} {a:Act} {st dM:List ak}
theorem sr {π:fH} {b:ak} {q:ak->Prop} (h:pZ π b q):∃ b2,q b2/\b2.k=b.k/\b2.ty=b.ty/\b2.size=b.size/\b2.m=b.m/\b2.live=b.live/\((b.k.pJ=false/\b2.cs=b.cs)\/(b.k.pJ=true/\fp π b.cs=some b2.cs)):=by
 obtain⟨k,ty,n,m,live,cs⟩:=b
 cases k
 ·obtain⟨ds,h1,h2⟩:=ay h
  exact⟨_,h2,rfl,rfl,rfl,rfl,rfl,.inr ⟨rfl,h1⟩⟩
 ·obtain⟨ds,h1,h2⟩:=ay h
  exact⟨_,h2,rfl,rfl,rfl,rfl,rfl,.inr ⟨rfl,h1⟩⟩
 ·exact⟨_,h,rfl,rfl,rfl,rfl,rfl,.inl ⟨rfl,rfl⟩⟩
 ·exact⟨_,h,rfl,rfl,rfl,rfl,rfl,.inl ⟨rfl,rfl⟩⟩
theorem Dl {π:fH} {st:List ak}:∀ {σ:List Nat} {S:List ak} {k:Prop},VG π st σ S k->k/\σ.length=S.length/\∀ (i l:Nat) (b':ak),σ[i]?=some l->S[i]?=some b'->∃ b,st[l]?=some b/\pZ π b' fun kJ=>fA b kJ
 | [],[],k,h=>⟨h,rfl,fun i l b' hl=>by simp at hl⟩
 | l::σ,b'::S,k,h=>by
  obtain⟨h1,h2⟩:=h
  obtain⟨hk,hl,hh⟩:=Dl h2
  obtain⟨b,hb,h1⟩:=ay h1
  refine⟨hk,by simp[hl],fun i m c hm hc=>?_⟩
  cases i with
  | zero=>simp at hm hc; subst hm; subst hc; exact⟨b,hb,h1⟩
  | succ i=>exact hh i m c (by simpa using hm) (by simpa using hc)
 | [],_::_,_,h=>h.elim
 | _::_,[],_,h=>h.elim
theorem qA:∀ {σ:List Nat},jH σ=true->∀ (i j l:Nat),σ[i]?=some l->σ[j]?=some l->i=j
 | [],_,i,j,l,h,_=>by simp at h
 | m::σ,h,i,j,l,hi,hj=>by
  simp only[jH,Bool.and_eq_true,Bool.not_eq_true',List.any_eq_false] at h
  have hn:∀ k,σ[k]?=some m->False:=fun k hk=>h.1 m (List.mem_of_getElem? hk) (Nat.beq_refl m)
  cases i with
  | zero=>cases j with
   | zero=>rfl
   | succ j=>simp at hi hj; subst hi; exact (hn j hj).elim
  | succ i=>cases j with
   | zero=>simp at hi hj; subst hj; exact (hn i hi).elim
   | succ j=>simp at hi hj; rw[qA h.2 i j l hi hj]
theorem Dm {π:fH}:∀ {σ:List Nat} {S:List ak} {st:List ak} {k:List ak->Prop},jH σ=true->QQ π σ S st k->∃ dM,k dM/\dM.length=st.length/\(∀ l,l ∉ σ->dM[l]?=st[l]?)/\∀ (i l:Nat) (b':ak),σ[i]?=some l->S[i]?=some b'->pZ π b' fun kJ=>dM[l]?=some kJ
 | [],[],st,k,_,h=>⟨st,h,rfl,fun _ _=>rfl,fun i l b' hl=>by simp at hl⟩
 | l::σ,b'::S,st,k,hd,h=>by
  have Q4:=hd
  simp only[jH,Bool.and_eq_true,Bool.not_eq_true',List.any_eq_false] at hd
  have cW:l ∉ σ:=fun hm=>hd.1 l hm (Nat.beq_refl l)
  
  have key:∀ {c:ak} {q:ak->Prop},(pZ π b' fun kJ=>q kJ)->∃ b2,q b2/\∀ q2:ak->Prop,q2 b2->pZ π b' q2:=fun {c q} hq=>by
   obtain⟨k0,ty,n,m,live,cs⟩:=b'
   cases k0
   ·obtain⟨ds,h1,h2⟩:=ay hq
    exact⟨_,h2,fun q2 Hf=>by show bq (fp π cs) _; rw[h1]; exact Hf⟩
   ·obtain⟨ds,h1,h2⟩:=ay hq
    exact⟨_,h2,fun q2 Hf=>by show bq (fp π cs) _; rw[h1]; exact Hf⟩
   ·exact⟨_,hq,fun q2 Hf=>Hf⟩
   ·exact⟨_,hq,fun q2 Hf=>Hf⟩
  obtain⟨b2,h2,Hf⟩:=key (c:=b') (q:=fun kJ=>RG kJ fun kJ=>s5 st l kJ fun st=>QQ π σ S st k) h
  obtain⟨cz,h3⟩:=jX (vR h2)
  obtain⟨dM,hk,hlen,oz,xu⟩:=Dm hd.2 h3
  refine⟨dM,hk,by rw[hlen,List.length_set],fun m hm=>?_,fun i m c hm hc=>?_⟩
  ·rw[oz m (fun hx=>hm (List.mem_cons_of_mem _ hx)),List.getElem?_set_ne (fun e=>hm (by rw[e]; exact List.mem_cons_self))]
  ·cases i with
   | zero =>
    simp at hm hc; subst hm; subst hc
    refine Hf _ ?_
    rw[oz l cW,List.getElem?_set_self cz]
   | succ i=>exact xu i m c (by simpa using hm) (by simpa using hc)
 | [],_::_,_,_,_,h=>h.elim
 | _::_,[],_,_,_,h=>h.elim
theorem x_ {π:fH}:∀ {xs ys:List PV} {vs:List Value},Dk π xs ys->bB w I xs β vs->bB w I ys (gz β π) vs
 | [],[],vs,_,h=>by cases vs with
  | nil=>simp only[bB]
  | cons v vs=>simp only[bB] at h
 | x::xs,y::ys,vs,h,hx=>by
  cases vs with
  | nil=>simp only[bB] at hx
  | cons v vs =>
   simp only[bB] at hx ⊢
   obtain⟨z,hz,hle⟩:=ay h.1
   exact⟨B5 hz (eH hle _ _ _ _ hx.1),x_ h.2 hx.2⟩
 | [],_::_,_,h,_=>h.elim
 | _::_,[],_,h,_=>h.elim
theorem mc {π:fH} {x y:PV} {v:Value} (h:x.tC π=some y) (hx:x.Is w I (gz β π) v):y.Is w I β v:=by
 unfold PV.tC at h
 split at h
 ·split at h
  ·rename_i m hm
   cases h
   simp only[PV.Is] at hx ⊢
   rw[cm hm] at hx; exact hx
  ·rename_i hm
   cases h
   simp only[PV.Is] at hx ⊢
   obtain⟨p,hp,hv⟩:=hx
   rw[iv hm] at hp; cases hp; exact hv
  ·cases h
 ·split at h
  ·rename_i m hm
   cases h
   simp only[PV.Is] at hx ⊢
   rw[cm hm] at hx; exact hx
  ·cases h
 ·split at h
  ·rename_i m hm
   cases h
   simp only[PV.Is] at hx ⊢
   rw[cm hm] at hx; exact hx
  ·cases h
 ·split at h
  ·rename_i m hm
   cases h
   simp only[PV.Is] at hx ⊢
   rw[cm hm] at hx; exact hx
  ·cases h
 ·split at h
  ·rename_i m hm
   cases h
   simp only[PV.Is] at hx ⊢
   rw[cm hm] at hx; exact hx
  ·cases h
 ·split at h
  ·rename_i m hm
   cases h
   simp only[PV.Is] at hx ⊢
   rw[cm hm] at hx; exact hx
  ·cases h
 ·cases h
 ·cases h
 ·cases h
 ·cases h
  refine PV.Is.mono (fun _ h=>h) (fun _ _=>rfl) x _ β v (fun l p hl=>?_) hx
  cases x<;>first|(simp_all [PV.cR]; done)|(rename_i a1 a2 a3 a4 a5 a6 a7 a8 a9; first|exact (a4 _ _ _ _ rfl).elim|exact (a5 _ _ _ _ rfl).elim|exact (a6 _ _ _ _ rfl).elim)
theorem gF {π:fH}:∀ {xs ys:List PV} {i:Nat},fp π xs=some ys->(∀ y,ys[i]?=some y->∃ x,xs[i]?=some x/\x.tC π=some y)/\(∀ x,xs[i]?=some x->∃ y,ys[i]?=some y/\x.tC π=some y)/\ys.length=xs.length
 | [],ys,i,h=>by
  simp only[fp,Option.some.injEq] at h
  subst h
  exact⟨fun y hy=>by simp at hy,fun x hx=>by simp at hx,rfl⟩
 | x::xs,ys,i,h=>by
  simp only[fp] at h
  split at h
  ·rename_i y l h1 h2
   cases h
   obtain⟨a1,a2,a3⟩:=gF (i:=i - 1) h2
   cases i with
   | zero=>exact⟨fun z hz=>by simp at hz; subst hz; exact⟨x,rfl,h1⟩,fun z hz=>by simp at hz; subst hz; exact⟨y,rfl,h1⟩,by simp[a3]⟩
   | succ i=>exact⟨fun z hz=>by simpa using a1 z (by simpa using hz),fun z hz=>by simpa using a2 z (by simpa using hz),by simp[a3]⟩
  ·cases h
theorem fN.tr {l l':Nat} {b b':ak} (hb:fN I β st w l b) (kO:∀ p,β l=some p->aV l'=some p) (hI:∀ g,I g->I' g) (hw:∀ g,I g->w'.heap[g]?=w.heap[g]?)
  (hg:∀ p g o,β l=some p->p.a=some (g,o)->w'.heap[g]?=w.heap[g]?) (eK:∀ p g o fr,β l=some p->p.a=some (g,o)->Own I β st l g fr b->Own I' aV dM l' g fr b')
  (hk:b'.k=b.k) (BU:b'.ty=b.ty) (fe:b'.size=b.size) (gb:b.k.pJ=false->b'.cs=b.cs) (hlen:b'.cs.length=b.cs.length)
  (kP:b.k.pJ=true->∀ (arr:Array Value) (o:Nat),bp w I β b.cs arr o->bp w' I' aV b'.cs arr o):fN I' aV dM w' l' b':=by
 obtain⟨p,hp,cI⟩:=hb
 refine⟨p,kO p hp,?_⟩
 rw[hk]
 split at cI
 ·rename_i he
  obtain⟨g,o,arr,ty,fr,ha,hh,hc,ho⟩:=cI
  exact⟨g,o,arr,ty,fr,ha,(hg p g o hp ha).trans hh,kP (by rw[he]; rfl) arr o hc,eK p g o fr hp ha ho⟩
 ·rename_i he
  obtain⟨g,arr,fr,ha,hh,hc,ho,h1,h2,h3,h4,h5⟩:=cI
  exact⟨g,arr,fr,ha,by rw[BU]; exact (hg p g 0 hp ha).trans hh,kP (by rw[he]; rfl) arr 0 hc,eK p g 0 fr hp ha ho,by rw[hlen,fe]; exact h1,h2,h3,by rw[fe]; exact h4,by rw[fe]; exact h5⟩
 ·rename_i he
  obtain⟨⟨h1,h2,h3,h4⟩,cI⟩:=cI
  have iI:=gb (by rw[he]; rfl)
  refine⟨⟨by rw[fe]; exact h1,by rw[iI]; exact h2,h3,h4⟩,?_⟩
  rcases cI with h|⟨g,arr,fr,ha,hh,hc,ho,h5⟩
  ·exact .inl h
  ·exact .inr ⟨g,arr,fr,ha,by rw[BU]; exact (hg p g 0 hp ha).trans hh,by rw[iI,fe]; exact cl.mono hI hw _ _ _ _ (hg p g 0 hp ha) hc,eK p g 0 fr hp ha ho,by rw[fe]; exact h5⟩
 ·rename_i he
  obtain⟨g,ha,hm,ho⟩:=cI
  have iI:=gb (by rw[he]; rfl)
  exact⟨g,ha,by rw[iI]; exact hm.rB (hg p g 0 hp ha),eK p g 0 _ hp ha ho⟩
theorem Spec.TZ {f:FuncId} {args bx:List PV} {r0:PV} {S0 S1:List ak} {K:PV->List ak->Prop} (σ:List Nat) (h:Spec G f bx S0 [] fun r S'=>r=r0/\S'=S1) (hm:jb S0 S1=true) (Ca:r0.cR = []) (ZW:jH σ=true)
  (hle:Dk (σ.map some) args bx) (hK:VG (σ.map some) st σ S0 (QQ (σ.map some) σ S1 st (K r0))):Spec G f args st [] K:=by
 obtain⟨hk,A7,Vs⟩:=Dl hK
 obtain⟨dM,vh,ZX,oz,xu⟩:=Dm ZW hk
 obtain⟨Fi,FT⟩:=lU hm
 have X2:=qA ZW
 have Fh:∀ {i l:Nat},σ[i]?=some l->(σ.map some)[i]?=some (some l):=fun {i l} h=>by rw[List.getElem?_map,h]; rfl
 refine Spec.intro h.run.1 fun I β w bw hH hM hA=>?_
 obtain⟨gy,Dn⟩:∃ gy:aB,gy=gz β (σ.map some):=⟨_,rfl⟩
 have iw:∀ {i l:Nat},σ[i]?=some l->gy i=β l:=fun {i l} h=>by rw[Dn]; exact cm (Fh h)
 have T0:∀ {i:Nat},S0.length<=i->gy i=none:=fun {i} h=>by
  rw[Dn]; unfold gz; rw[List.getElem?_eq_none (by rw[List.length_map]; omega)]
 have idx:∀ {i:Nat},i < S0.length->∃ l,σ[i]?=some l:=fun {i} h=>⟨σ[i]'(by omega),List.getElem?_eq_getElem (by omega)⟩
 have vj:∀ {i:Nat} {b':ak},S0[i]?=some b'->∃ l b b2,σ[i]?=some l/\st[l]?=some b/\fA b b2/\b2.k=b'.k/\b2.ty=b'.ty/\b2.size=b'.size/\b2.m=b'.m/\b2.live=b'.live/\((b'.k.pJ=false/\b2.cs=b'.cs)\/(b'.k.pJ=true/\fp (σ.map some) b'.cs=some b2.cs)):=fun {i b'} db=>by
  obtain⟨l,hl⟩:=idx (List.getElem?_eq_some_iff.1 db).1
  obtain⟨b,hb,hr⟩:=Vs i l b' hl db
  obtain⟨b2,h1,h2⟩:=sr hr
  exact⟨l,b,b2,hl,hb,h1,h2⟩
 
 have Dp:∀ {i:Nat} {b':ak},S0[i]?=some b'->∃ l b,σ[i]?=some l/\st[l]?=some b/\b.live=true/\b.m=b'.m:=fun {i b'} db=>by
  obtain⟨l,b,b2,hl,hb,h1,h2,h3,h4,h5,h6,h7⟩:=vj db
  obtain⟨e1,e2,e3,e4,e5,e6,e7⟩:=cJ h1
  exact⟨l,b,hl,hb,e4,e3.trans h5⟩
 have Fj:aN I gy S0 w:=by
  refine⟨fun i hi=>T0 hi,fun i b' db aL=>?_⟩
  obtain⟨l,b,b2,hl,hb,h1,h2,h3,h4,h5,h6,h7⟩:=vj db
  obtain⟨e1,e2,e3,e4,e5,e6,e7⟩:=cJ h1
  have hB:=hH.fR l b hb e4
  refine hB.tr (fun p hp=>(iw hl).trans hp) (fun _ h=>h) (fun _ _=>rfl) (fun _ _ _ _ _=>rfl) (fun p g o fr hp ha ho=>⟨fun hr=>?_,fun hr=>ho.2 (by rw[e3,h5]; exact hr)⟩) (h2.symm.trans e6.symm) (h3.symm.trans e1.symm) (h4.symm.trans e2.symm) (fun hc=>?_) ?_ (fun hc arr o nT=>?_)
  ·obtain⟨q1,q2,q3⟩:=ho.1 (by rw[e3,h5]; exact hr)
   refine⟨q1,q2,fun i2 b2' cZ dD bN p2 g2 o2 f_ fY=>?_⟩
   obtain⟨l2,b3,fv,jk,Dq,_⟩:=Dp dD
   exact q3 l2 b3 (fun e=>cZ (X2 i2 i l (by rw[← e]; exact fv) hl)) jk Dq p2 g2 o2 ((iw fv).symm.trans f_) fY
  ·rcases h7 with ⟨_,h7⟩|⟨h7,_⟩
   ·rcases e7 with ⟨_,e7⟩|⟨e7,_⟩
    ·rw[← h7,e7]
    ·rw[hc] at e7; cases e7
   ·rw[← h2,← e6,hc] at h7; cases h7
  ·have:b2.cs.length=b.cs.length:=by
    rcases e7 with ⟨_,e7⟩|⟨_,e7⟩
    ·rw[e7]
    ·exact (j7 e7).symm
   rcases h7 with ⟨_,h7⟩|⟨_,h7⟩
   ·rw[← h7,this]
   ·rw[← (gF (i:=0) h7).2.2,this]
  ·have X3:bp w I β b2.cs arr o:=by
    rcases e7 with ⟨hd,_⟩|⟨_,h8⟩
    ·rw[hc] at hd; cases hd
    ·exact gn h8 nT
   rcases h7 with ⟨hd,_⟩|⟨_,h7⟩
   ·rw[← h2,← e6,hc] at hd; cases hd
   ·intro j c hj
    obtain⟨y,hy,zR⟩:=(gF (i:=j) h7).2.1 c hj
    obtain⟨v,hv,hi,h1⟩:=X3 j y hy
    exact⟨v,hv,by rw[Dn]; exact nV zR hi,h1⟩
 have KO:bB w I bx gy bw:=by rw[Dn]; exact x_ hle hA
 refine (h.run.2 I gy w bw Fj hM KO).mono fun e w' ⟨v,r,S',I',aV,he,⟨e1,e2⟩,hi,lV,j9,hE,hlen,kO⟩=>?_
 subst e1; subst e2
 obtain rfl:aV=gy:=funext fun i=>by
  by_cases hi:i < S0.length
  ·exact kO i hi (by simp)
  ·rw[T0 (by omega),lV.pM i (by omega)]
 have mem:∀ {l:Nat},l∈σ->∃ i,σ[i]?=some l/\i < S0.length:=fun {l} hl=>by
  obtain⟨i,hi,e⟩:=List.getElem_of_mem hl
  exact⟨i,by rw[List.getElem?_eq_getElem hi,e],by omega⟩
 have Cn:∀ {g},Wr aV S0 g->Wr β st g:=fun {g} ⟨i,b,p,o,h1,h2,h3,h4,h5⟩=>by
  obtain⟨l,b2,hl,dD,Jy,vV⟩:=Dp h1
  exact⟨l,b2,p,o,dD,Jy,by rw[vV]; exact h3,(iw hl).symm.trans h4,h5⟩
 
 have apart:∀ {l:Nat} {b:ak} {p:na} {g o:Nat},l ∉ σ->st[l]?=some b->b.live=true->β l=some p->p.a=some (g,o)->¬ Wr aV S0 g:=fun {l b p g o} hl hb aL hp ha ⟨i,b2,p2,o2,h1,h2,h3,h4,h5⟩=>by
  obtain⟨l2,b3,fv,jk,Jy,vV⟩:=Dp h1
  obtain⟨arr,ty,fr,ho⟩:=(hH.fR l2 b3 jk Jy).place ((iw fv).symm.trans h4) h5
  exact (ho.2.1 (by rw[vV,h3]; nofun)).2.2 l b (fun e=>hl (e ▸ List.mem_of_getElem? fv)) hb aL p g o hp ha rfl
 
 have new:∀ {i l:Nat} {b':ak},σ[i]?=some l->S'[i]?=some b'->∃ b2,dM[l]?=some b2/\b2.k=b'.k/\b2.ty=b'.ty/\b2.size=b'.size/\b2.m=b'.m/\b2.live=b'.live/\((b'.k.pJ=false/\b2.cs=b'.cs)\/(b'.k.pJ=true/\fp (σ.map some) b'.cs=some b2.cs)):=fun {i l b'} hl db=>sr (xu i l b' hl db)
 have X4:∀ {i:Nat},i < S0.length->∃ b',S'[i]?=some b':=fun {i} h=>⟨S'[i]'(by omega),List.getElem?_eq_getElem (by omega)⟩
 have yY:∀ {g},Wr β dM g->(Wr aV S' g)\/∃ l b p o,l ∉ σ/\st[l]?=some b/\b.live=true/\b.m = .w/\β l=some p/\p.a=some (g,o):=fun {g} ⟨l,b,p,o,h1,h2,h3,h4,h5⟩=>by
  by_cases hl:l∈σ
  ·obtain⟨i,hi,cz⟩:=mem hl
   obtain⟨b',db⟩:=X4 cz
   obtain⟨b2,dD,q1,q2,q3,q4,q5,_⟩:=new hi db
   rw[dD] at h1
   cases h1
   exact .inl ⟨i,b',p,o,db,by rw[← q5]; exact h2,by rw[← q4]; exact h3,(iw hi).trans h4,h5⟩
  ·exact .inr ⟨l,b,p,o,hl,(oz l hl).symm.trans h1,h2,h3,h4,h5⟩
 refine⟨v,r,dM,I',β,he,vh,j8 Ca hi,⟨fun l hl=>hH.pM l (by omega),fun l b hb aL=>?_⟩,j9,⟨hE.os,hE.tape,hE.output,hE.size,fun g hg hn=>hE.block g hg fun h=>hn (Cn h),fun g hg h=>?_,hE.az,fun g hg h=>(hE.new g hg h).imp id Cn⟩,by omega,fun _ _ _=>rfl⟩
 ·by_cases hl:l∈σ
  ·obtain⟨i,hi,cz⟩:=mem hl
   obtain⟨b',db⟩:=X4 cz
   obtain⟨b2,dD,q1,q2,q3,q4,q5,q6⟩:=new hi db
   rw[dD] at hb
   cases hb
   have hB:=lV.fR i b' db (by rw[← q5]; exact aL)
   refine hB.tr (fun p hp=>(iw hi).symm.trans hp) (fun _ h=>h) (fun _ _=>rfl) (fun _ _ _ _ _=>rfl) (fun p g o fr hp ha ho=>⟨fun hr=>?_,fun hr=>ho.2 (by rw[← q4]; exact hr)⟩) q1 q2 q3 (fun hc=>?_) ?_ (fun hc arr o nT=>?_)
   ·obtain⟨x1,x2,x3⟩:=ho.1 (by rw[← q4]; exact hr)
    refine⟨x1,x2,fun l2 c2 cZ iI bN p2 g2 o2 f_ fY=>?_⟩
    by_cases fv:l2∈σ
    ·obtain⟨i2,tk,vB⟩:=mem fv
     obtain⟨b3',T1⟩:=X4 vB
     obtain⟨b3,jk,_,_,_,_,y5,_⟩:=new tk T1
     rw[jk] at iI
     cases iI
     exact x3 i2 b3' (fun e=>cZ (Option.some.inj (by rw[← hi,← tk,e]))) T1 (by rw[← y5]; exact bN) p2 g2 o2 ((iw tk).trans f_) fY
    ·have X5:st[l2]?=some c2:=(oz l2 fv).symm.trans iI
     obtain⟨b0,fw⟩:∃ b0,S0[i]?=some b0:=⟨S0[i]'cz,List.getElem?_eq_getElem cz⟩
     obtain⟨l3,b3,QC,jk,Dq,X6⟩:=Dp fw
     obtain rfl:l3=l:=Option.some.inj (QC.symm.trans hi)
     obtain⟨_,q7⟩:=FT i b0 b' fw db
     obtain⟨_,_,fr3,_,RM⟩:=(hH.fR l3 b3 jk Dq).place ((iw hi).symm.trans hp) ha
     exact (RM.1 (by rw[X6,q7,← q4]; exact hr)).2.2 l2 c2 cZ X5 bN p2 g2 o2 f_ fY
   ·rcases q6 with ⟨_,q6⟩|⟨q6,_⟩
    ·exact q6
    ·rw[hc] at q6; cases q6
   ·rcases q6 with ⟨_,q6⟩|⟨_,q6⟩
    ·rw[q6]
    ·exact (gF (i:=0) q6).2.2
   ·rcases q6 with ⟨hd,_⟩|⟨_,q6⟩
    ·rw[hc] at hd; cases hd
    ·intro j c hj
     obtain⟨y,hy,zR⟩:=(gF (i:=j) q6).1 c hj
     obtain⟨u,hu,X7,h1⟩:=nT j y hy
     exact⟨u,hu,mc zR (by rw[← Dn]; exact X7),h1⟩
  ·have db:st[l]?=some b:=(oz l hl).symm.trans hb
   have hB:=hH.fR l b db aL
   have same:∀ {p g o},β l=some p->p.a=some (g,o)->g < w.heap.size/\w'.heap[g]?=w.heap[g]?:=fun {p g o} hp ha=>by
    have cz:=hH.dk ⟨l,b,p,o,db,aL,hp,ha⟩
    exact⟨cz,hE.block g cz (apart hl db aL hp ha)⟩
   refine hB.mono hE.az (fun g hg=>hE.block g (hM.az g hg) fun hw=>?_) (fun _ _ h=>h) fun p g o hp ha=>⟨(same hp ha).2,fun hr=>?_⟩
   ·exact Fj.kK hw hg
   ·obtain⟨arr,ty,fr,hh,ho⟩:=hB.place hp ha
    obtain⟨h1,h2,h3⟩:=ho.1 hr
    refine⟨fun hI=>(hE.new g (same hp ha).1 hI).elim h2 (apart hl db aL hp ha),fun l2 b2 cZ dD bN p2 g2 o2 f_ fY=>?_⟩
    by_cases fv:l2∈σ
    ·obtain⟨i2,tk,vB⟩:=mem fv
     obtain⟨b0,fw⟩:∃ b0,S0[i2]?=some b0:=⟨S0[i2]'vB,List.getElem?_eq_getElem vB⟩
     obtain⟨l3,b3,QC,jk,Dq,_⟩:=Dp fw
     obtain rfl:l3=l2:=Option.some.inj (QC.symm.trans tk)
     exact h3 l3 b3 cZ jk Dq p2 g2 o2 f_ fY
    ·exact h3 l2 b2 cZ ((oz l2 fv).symm.trans dD) bN p2 g2 o2 f_ fY
 ·rcases yY h with h|⟨l,b,p,o,_,h2,h3,h4,h5,h6⟩
  ·exact Cn (hE.wr g hg h)
  ·exact⟨l,b,p,o,h2,h3,h4,h5,h6⟩
end
def JS:Nat->Nat->fH
 | _,0=>[]
 | n,k+1=>some n::JS (n+1) k
def uB (π:fH):List PV->Option (List PV)
 | []=>some []
 | c::cs=>(match c.Fg π,uB π cs with
  | some x,some l=>some (x::l)
  | _,_=>none)
def PV.Pz (π:fH) (x:PV):Option PV:=match x with
 | .tup cs=>(uB π cs).map .tup
 | x=>x.Fg π
def PA (π:fH):List ak->List ak->(List ak->Prop)->Prop
 | [],st,k=>k st
 | b::S,st,k=>pZ π b fun b=>RG b fun b=>vu st b fun st=>PA π S st k
section
variable {w w':World} {I I':Nat->Prop} {β aV:aB} {G:Gx} {s:ba} {a:Act} {st dM:List ak}
theorem ss:∀ {k n i:Nat},(JS n k)[i]?=if i < k then some (some (n+i)) else none
 | 0,n,i=>by simp[JS]
 | k+1,n,0=>by simp[JS]
 | k+1,n,i+1=>by
  rw[JS,List.getElem?_cons_succ,ss]
  simp only[Nat.add_lt_add_iff_right,show n+1+i=n+(i+1) by omega]
theorem pa {π:fH}:∀ {xs ys:List PV} {vs:List Value},fp π xs=some ys->bB w I xs (gz β π) vs->bB w I ys β vs
 | [],ys,vs,h,hx=>by
  simp only[fp,Option.some.injEq] at h
  subst h
  cases vs with
  | nil=>simp only[bB]
  | cons v vs=>simp only[bB] at hx
 | x::xs,ys,vs,h,hx=>by
  simp only[fp] at h
  split at h
  ·rename_i y l h1 h2
   cases h
   cases vs with
   | nil=>simp only[bB] at hx
   | cons v vs =>
    simp only[bB] at hx ⊢
    exact⟨mc h1 hx.1,pa h2 hx.2⟩
  ·cases h
theorem ya {π:fH} {x y:PV} {v:Value} (h:x.Fg π=some y) (hx:x.Is w I (gz β π) v):y.Is w I β v:=by
 unfold PV.Fg at h
 split at h
 ·rw[Option.map_eq_some_iff] at h
  obtain⟨l,hl,rfl⟩:=h
  simp only[PV.Is] at hx ⊢
  obtain⟨vs,rfl,hx⟩:=hx
  exact⟨vs,rfl,pa hl hx⟩
 ·rw[Option.map_eq_some_iff] at h
  obtain⟨l,hl,rfl⟩:=h
  simp only[PV.Is] at hx ⊢
  obtain⟨vs,rfl,hx⟩:=hx
  exact⟨vs,rfl,pa hl hx⟩
 ·cases h
 ·exact mc h hx
theorem qB {π:fH}:∀ {xs ys:List PV} {vs:List Value},uB π xs=some ys->bB w I xs (gz β π) vs->bB w I ys β vs
 | [],ys,vs,h,hx=>by
  simp only[uB,Option.some.injEq] at h
  subst h
  cases vs with
  | nil=>simp only[bB]
  | cons v vs=>simp only[bB] at hx
 | x::xs,ys,vs,h,hx=>by
  simp only[uB] at h
  split at h
  ·rename_i y l h1 h2
   cases h
   cases vs with
   | nil=>simp only[bB] at hx
   | cons v vs =>
    simp only[bB] at hx ⊢
    exact⟨ya h1 hx.1,qB h2 hx.2⟩
  ·cases h
theorem Dr {π:fH} {x y:PV} {v:Value} (h:x.Pz π=some y) (hx:x.Is w I (gz β π) v):y.Is w I β v:=by
 unfold PV.Pz at h
 split at h
 ·rw[Option.map_eq_some_iff] at h
  obtain⟨l,hl,rfl⟩:=h
  simp only[PV.Is] at hx ⊢
  obtain⟨vs,rfl,hx⟩:=hx
  exact⟨vs,rfl,qB hl hx⟩
 ·exact ya h hx
theorem yb:∀ {l:List ak} {b:ak} {q:List ak->Prop},vu l b q->q (l++[b])
 | [],_,_,h=>h
 | c::l,b,q,h=>yb (l:=l) (q:=fun x=>q (c::x)) h
theorem yc {π:fH}:∀ {S st:List ak} {k:List ak->Prop},PA π S st k->∃ S2,k (st++S2)/\S2.length=S.length/\∀ (i:Nat) (b:ak),S[i]?=some b->∃ b2,S2[i]?=some b2/\b2.k=b.k/\b2.ty=b.ty/\b2.size=b.size/\b2.m=b.m/\b2.live=b.live/\((b.k.pJ=false/\b2.cs=b.cs)\/(b.k.pJ=true/\fp π b.cs=some b2.cs))
 | [],st,k,h=>⟨[],by rw[List.append_nil]; exact h,rfl,fun i b hb=>by simp at hb⟩
 | c::S,st,k,h=>by
  obtain⟨b2,h1,h2⟩:=sr h
  obtain⟨S2,hk,hl,hh⟩:=yc (yb (vR h1))
  refine⟨b2::S2,by rw[List.append_assoc] at hk; exact hk,by simp[hl],fun i b hb=>?_⟩
  cases i with
  | zero=>simp at hb; subst hb; exact⟨b2,rfl,h2⟩
  | succ i=>simpa using hh i b (by simpa using hb)
theorem Spec.Hg {f:FuncId} {args bx:List PV} {r0:PV} {S1:List ak} {K:PV->List ak->Prop} (h:Spec G f bx [] [] fun r S'=>r=r0/\S'=S1) (dE:S1.all (fun b=>b.live && Md.beq b.m .w)=true) (hle:lN jj args bx) (hu:dB bx = [])
  (hK:kL st 0 fun n=>PA (JS n S1.length) S1 st fun vg=>bq (r0.Pz (JS n S1.length)) fun r=>K r vg):Spec G f args st [] K:=by
 replace hK:=ga hK
 rw[Nat.zero_add] at hK
 obtain⟨S2,hk,hlen,X8⟩:=yc hK
 obtain⟨r2,hr2,vh⟩:=ay hk
 refine Spec.intro h.run.1 fun I β w bw hH hM hA=>?_
 have h0:aN I (fun _=>none) ([]:List ak) w:=⟨fun _ _=>rfl,fun l b hl=>by simp at hl⟩
 refine (h.run.2 I (fun _=>none) w bw h0 hM (iO hu (hJ (fun _ _=>eH) hle hA))).mono fun e w' ⟨v,r,S',I',VH,he,⟨e1,e2⟩,hi,lV,j9,hE,_,_⟩=>?_
 subst e1; subst e2
 have A9:∀ g,¬ Wr (fun _=>none) ([]:List ak) g:=fun g ⟨l,b,p,o,h1,_⟩=>by simp at h1
 have hold:∀ g,g < w.heap.size->w'.heap[g]?=w.heap[g]?:=fun g hg=>hE.block g hg (A9 g)
 have Cc:∀ g,g < w.heap.size->I' g->I g:=fun g hg h=>(hE.new g hg h).elim id fun h=>absurd h (A9 g)
 have VI:∀ {i:Nat} {b:ak},S'[i]?=some b->b.live=true/\b.m = .w:=fun {i b} hb=>by
  rw[List.all_eq_true] at dE
  have:=dE b (List.mem_of_getElem? hb)
  simp only[Bool.and_eq_true] at this
  exact⟨this.1,Md.kQ this.2⟩
 have eW:∀ {i:Nat} {p:na} {g o:Nat},VH i=some p->p.a=some (g,o)->w.heap.size<=g:=fun {i p g o} hp ha=>by
  have cz:=lV.lt hp
  obtain⟨b,hb⟩:∃ b,S'[i]?=some b:=⟨S'[i],List.getElem?_eq_getElem cz⟩
  rcases Nat.lt_or_ge g w.heap.size with hg|hg
  ·exact absurd (hE.wr g hg ⟨i,b,p,o,hb,(VI hb).1,(VI hb).2,hp,ha⟩) (A9 g)
  ·exact hg
 obtain⟨iu,ZY⟩:∃ iu:aB,iu=fun l=>if l < st.length then β l else VH (l - st.length):=⟨_,rfl⟩
 have Hh:∀ {l},l < st.length->iu l=β l:=fun {l} h=>by rw[ZY]; exact if_pos h
 have JT:∀ {i},iu (st.length+i)=VH i:=fun {i}=>by rw[ZY]; show (if st.length+i < st.length then _ else _)=_; rw[if_neg (by omega),Nat.add_sub_cancel_left]
 have zR:gz iu (JS st.length S'.length)=VH:=funext fun i=>by
  by_cases h:i < S'.length
  ·rw[cm (m:=st.length+i) (by rw[ss,if_pos h]),JT]
  ·unfold gz
   rw[ss,if_neg h]
   exact (lV.pM i (by omega)).symm
 have T2:∀ l p,β l=some p->iu l=some p:=fun l p hp=>by rw[Hh (hH.lt hp)]; exact hp
 have gd:∀ g,ik β st g->g < w.heap.size:=fun g hg=>hH.dk hg
 refine⟨v,r2,st++S2,I',iu,he,vh,Dr hr2 (by rw[zR]; exact hi),⟨fun l hl=>?_,fun l b hb aL=>?_⟩,j9,⟨hE.os,hE.tape,hE.output,hE.size,fun g hg _=>hold g hg,fun g hg ⟨l,b,p,o,h1,h2,h3,h4,h5⟩=>?_,hE.az,fun g hg h=>.inl (Cc g hg h)⟩,by simp,fun l hl _=>Hh hl⟩
 ·rw[List.length_append] at hl
  have:=JT (i:=l - st.length)
  rw[show st.length+(l - st.length)=l by omega] at this
  rw[this]; exact lV.pM _ (by omega)
 ·by_cases hl:l < st.length
  ·rw[List.getElem?_append_left hl] at hb
   have hB:=hH.fR l b hb aL
   refine hB.mono hE.az (fun g hg=>hold g (hM.az g hg)) T2 fun p g o hp ha=>?_
   obtain⟨arr,ty,fr,hh,ho⟩:=hB.place hp ha
   have cz:=cY hh
   refine⟨hold g cz,fun hr=>⟨fun hI=>(ho.1 hr).2.1 (Cc g cz hI),fun l' b' cZ db eV p' g' o' eE dH=>?_⟩⟩
   by_cases ig:l' < st.length
   ·rw[List.getElem?_append_left ig] at db
    exact (ho.1 hr).2.2 l' b' cZ db eV p' g' o' (by rw[← Hh ig]; exact eE) dH
   ·have e:=JT (i:=l' - st.length)
    rw[show st.length+(l' - st.length)=l' by omega] at e
    have:=eW (by rw[← e]; exact eE) dH
    omega
  ·obtain⟨i,rfl⟩:∃ i,l=st.length+i:=⟨l - st.length,by omega⟩
   rw[List.getElem?_append_right (by omega),Nat.add_sub_cancel_left] at hb
   have cz:i < S'.length:=by rw[← hlen]; exact (List.getElem?_eq_some_iff.1 hb).1
   obtain⟨b',db⟩:∃ b,S'[i]?=some b:=⟨S'[i],List.getElem?_eq_getElem cz⟩
   obtain⟨b2,dD,q1,q2,q3,q4,q5,q6⟩:=X8 i b' db
   obtain rfl:b2=b:=Option.some.inj (dD.symm.trans hb)
   have hB:=lV.fR i b' db (VI db).1
   refine hB.tr (fun p hp=>by rw[JT]; exact hp) (fun _ h=>h) (fun _ _=>rfl) (fun _ _ _ _ _=>rfl) (fun p g o fr hp ha ho=>⟨fun hr=>?_,fun hr=>ho.2 (by rw[← q4]; exact hr)⟩) q1 q2 q3 (fun hc=>?_) ?_ (fun hc arr o nT=>?_)
   ·obtain⟨x1,x2,x3⟩:=ho.1 (by rw[← q4]; exact hr)
    refine⟨x1,x2,fun l2 c2 cZ iI bN p2 g2 o2 f_ fY=>?_⟩
    by_cases fv:l2 < st.length
    ·rw[List.getElem?_append_left fv] at iI
     have h1:=gd g2 ⟨l2,c2,p2,o2,iI,bN,by rw[← Hh fv]; exact f_,fY⟩
     have h2:=eW hp ha
     omega
    ·obtain⟨i2,rfl⟩:∃ i2,l2=st.length+i2:=⟨l2 - st.length,by omega⟩
     rw[JT] at f_
     have vB:=lV.lt f_
     obtain⟨b3,jk⟩:∃ b,S'[i2]?=some b:=⟨S'[i2],List.getElem?_eq_getElem vB⟩
     exact x3 i2 b3 (fun e=>cZ (by rw[e])) jk (VI jk).1 p2 g2 o2 f_ fY
   ·rcases q6 with ⟨_,q6⟩|⟨q6,_⟩
    ·exact q6
    ·rw[hc] at q6; cases q6
   ·rcases q6 with ⟨_,q6⟩|⟨_,q6⟩
    ·rw[q6]
    ·exact (gF (i:=0) q6).2.2
   ·rcases q6 with ⟨hd,_⟩|⟨_,q6⟩
    ·rw[hc] at hd; cases hd
    ·intro j c hj
     obtain⟨y,hy,hr⟩:=(gF (i:=j) q6).1 c hj
     obtain⟨u,hu,X7,h1⟩:=nT j y hy
     exact⟨u,hu,mc hr (by rw[zR]; exact X7),h1⟩
 ·by_cases hl:l < st.length
  ·rw[List.getElem?_append_left hl] at h1
   exact⟨l,b,p,o,h1,h2,h3,by rw[← Hh hl]; exact h4,h5⟩
  ·have e:=JT (i:=l - st.length)
   rw[show st.length+(l - st.length)=l by omega] at e
   have:=eW (by rw[← e]; exact h4) h5
   omega
theorem Spec.lend {f:FuncId} {args bx:List PV} {rl:List Nat} {K:PV->List ak->Prop} (fz:List Nat) (hz:QJ st fz=true) (hle:lN (RL st fz) args bx) (hu:dB bx = []) (h:Spec G f bx (iQ fz st) rl K):Spec G f args st rl K:=by
 refine Spec.intro h.run.1 fun I β w bw hH hM hA=>?_
 have XK:=hH.A' hM hz
 have XL:dj G (e9 I β st fz) w:=lT hH hM
 have hA2:bB w (e9 I β st fz) bx β bw:=iO hu (j' hH hle hu hA)
 have KQ:∀ {g},Wr β (iQ fz st) g->Wr β st g:=fun {g} ⟨l,b1,p,o,h1,h2,h3,h4,h5⟩=>by
  obtain⟨b0,fw,rfl⟩:=lW h1
  refine⟨l,b0,p,o,fw,h2,?_,h4,h5⟩
  cases hc:iL l fz with
  | true=>simp only[hc,jz,cond_true] at h3; cases h3
  | false=>simpa only [hc,jz,cond_false] using h3
 have hlen:(iQ fz st).length=st.length:=by unfold iQ; rw[fm]
 refine (h.run.2 (e9 I β st fz) β w bw XK XL hA2).mono fun e w' ⟨v,r,S',I',aV,he,hK,hi,lV,j9,hE,hl,kO⟩=>?_
 refine⟨v,r,S',I',aV,he,hK,hi,lV,j9,⟨hE.os,hE.tape,hE.output,hE.size,fun g hg hn=>hE.block g hg fun h=>hn (KQ h),fun g hg h=>KQ (hE.wr g hg h),fun g hg=>hE.az g (.inl hg),fun g hg h=>?_⟩,by rw[← hlen]; exact hl,fun l hl hr=>kO l (by rw[hlen]; exact hl) hr⟩
 rcases hE.new g hg h with (h|⟨l,b,p,o,hl,hb,aL,hm,hp,ha⟩)|h
 ·exact .inl h
 ·cases vV:b.m with
  | w=>exact .inr ⟨l,b,p,o,hb,aL,vV,hp,ha⟩
  | p=>rw[vV] at hm; cases hm
  | r =>
   obtain⟨arr,ty,fr,_,ho⟩:=(hH.fR l b hb aL).place hp ha
   exact .inl (ho.2 vV)
 ·exact .inr (KQ h)
end
section
variable {w w':World} {I I':Nat->Prop} {β aV:aB} {G:Gx} {s:ba} {a:Act} {st dM:List ak}
theorem Ds {x:PV} {v:Value} {n:Bool × IntKind × Int} (h:x.num=some n) (hx:x.Is w I β v):v = .int n.2.1 n.2.2:=by
 cases x<;>simp only[PV.num] at h<;>first|cases h; simp only[PV.Is] at hx; exact hx|cases h
end
def Dt (G:Gx) (s:ba) (o:Oper) (q:PV->ba->Prop):Prop:=match o.op with
 | .makeSlice t l c=>bq (G.cx.kF t) fun d=>match d with
  | .slice elem=>bq (Ev.dz G.cx elem) fun n=>bq (Ev.A3 elem G.bt) fun bC=>mA G.cx elem fun z=>s.ev l fun l=>s.ev c fun c=>bq l.num fun n1=>bq c.num fun n2=>(match z with
   | [x]=>bif Nat.beq n 1 && x.nf then ∃ N:Nat,n1.2.2=N/\n2.2.2=N/\n1.2.1 = .i64/\n2.2.1 = .i64/\bC*N<=281474976710656/\N<=maxLen/\lB s ⟨.dyn,elem,1,.w,true,List.replicate N x.norm⟩ q else False
   | _=>False)
  | _=>False
 | _=>False
section
variable {w w':World} {I I':Nat->Prop} {β aV:aB} {G:Gx} {s:ba} {a:Act} {st dM:List ak}
theorem qC (hG:nS G) {o:Oper} {q:PV->ba->Prop} (h:Dt G s o q):om G s o q:=om.intro fun I β a w hR=>by
 unfold Dt at h
 split at h
 ·rename_i t l c rG
  replace h:=ay h
  obtain⟨d,hu,h⟩:=h
  split at h
  ·rename_i elem
   replace h:=ay h
   obtain⟨n,hn,h⟩:=h
   replace h:=ay h
   obtain⟨bC,Jn,h⟩:=h
   replace h:=ij (w:=w) (I:=I) (β:=β) hG.ok h
   obtain⟨z,i,v,h,hi,E_,rz⟩:=h
   replace h:=ba.cq hR h
   obtain⟨x,h,hx⟩:=h
   replace h:=ba.cq hR h
   obtain⟨y,h,hy⟩:=h
   replace h:=ay h
   obtain⟨n1,lv,h⟩:=h
   replace h:=ay h
   obtain⟨n2,hn2,h⟩:=h
   have hx:=Ds lv hx
   have hy:=Ds hn2 hy
   split at h
   ·rename_i x
    replace h:=bf h
    obtain⟨hc,N,e1,e2,k1,k2,h4,h5,h⟩:=h
    simp only[Bool.and_eq_true] at hc
    obtain⟨h3,h6⟩:=hc
    obtain rfl:=Nat.eq_of_beq_eq_true h3
    rw[e1,k1] at hx
    rw[e2,k2] at hy
    obtain⟨i2,tk,hib⟩:=hG.bC _ (Ev.gN Jn)
    rw[hi] at tk; cases tk
    obtain⟨i3,QE,his⟩:=Ev.ib hG.ok hn
    rw[hi] at QE; cases QE
    match Vk:v.cells.toList,rz with
    | [u],rz =>
     have X9:v.cells = #[u]:=by rw[← Array.toArray_toList (xs:=v.cells),Vk]
     simp only[bB,and_true] at rz
     have hu1:u.oneCell'=true:=by
      refine lx (rz.flat (show x.jn=true from ?_))
      cases x<;>first|rfl|cases h6
     have hv1:v.cells = #[u]:=X9
     have cf:(execOp a.eval o).run G.cx.P w = .ok (.value (.slice (some ⟨w.heap.size,0,none⟩) N N)) (w.alloc (.cells (madeCells #[u] N) elem)):=by
      have h7:((bC*N:Nat):Int)<=281474976710656:=Int.ofNat_le.2 h4
      have h8:(i.bytes:Int)*(N:Int)<=281474976710656:=by rw[hib,← Int.natCast_mul]; exact h7
      have:=run_make (P:=G.cx.P) w t elem i v (hG.ok.un hu) hi E_ .i64 .i64 N N (by omega) (Int.le_refl _) h8 (by unfold maxLen at h5; omega)
      rw[show i.size=1 from his,hv1] at this
      simp only[Int.toNat_natCast,Nat.mul_one] at this
      unfold execOp
      rw[rG]
      simp only[hx,hy,Sem.run_bind,this,Result.andThen_ok,Sem.run_pure]
     rw[cf]
     replace h:=jY (ga h)
     rw[Nat.zero_add] at h
     have nC:=aB.il hR.heap ⟨some (w.heap.size,0),N,N⟩
     have fe:(madeCells #[u] N).size=N:=size_madeCells _ _
     have ZZ:x.norm.cells = [x.norm]:=by cases x<;>first|rfl|cases h6
     have B':cl (w.alloc (.cells (madeCells #[u] N) elem)) I (List.replicate N x.norm) 1 w.heap.size 0:=cl.of fun j e he=>by
      rw[List.getElem?_replicate] at he
      split at he
      ·rename_i hj
       cases he
       refine⟨by rw[ZZ]; rfl,cX.of fun j2 c hc=>?_⟩
       rw[ZZ] at hc
       match j2,hc with
       | 0,hc =>
        simp at hc; subst hc
        refine⟨u,?_,xw ?_,hu1⟩
        ·rw[Ev.fi (Ev.jm w _)]
         simp[madeCells,hj,Nat.mod_one]
        ·refine PV.Is.mono (fun _ h=>h) (fun g hg=>gQ hR.heap hR.az.az _ g (.inr hg)) x β _ u (fun l p hl=>?_) rz
         exfalso
         cases x<;>first|(simp[PV.cR] at hl; done)|(simp[PV.nf] at h6; done)
      ·cases he
     obtain⟨hH,hE⟩:=jZ (vs:=madeCells #[u] N) (t:=elem) hR.heap hR.az.az (b:=⟨.dyn,elem,1,.w,true,List.replicate N x.norm⟩) (p:=⟨some (w.heap.size,0),N,N⟩) rfl (fun ho =>
      ⟨_,aB.c8 ..,⟨Nat.zero_lt_one,List.length_replicate,Nat.le_refl _,h5⟩,.inr ⟨w.heap.size,madeCells #[u] N,(0,0),rfl,Ev.jm w _,B',ho,by rw[fe,Nat.mul_one]⟩⟩) rfl
     refine cN.mk' hR h hH hE nC (by simp) (fun l hl=>if_neg (by omega)) ?_
     simp only[PV.Is]; exact⟨_,aB.c8 ..,rfl⟩
    | [],rz=>simp only[bB] at rz
    | _::_::_,rz=>simp only[bB,and_false] at rz
   ·exact h.elim
  ·exact h.elim
 ·exact h.elim
end
end Go.Proofs.YtlgkljpgagfndaaGreatDoor.Pw

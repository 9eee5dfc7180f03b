/- What this claim is proved with: no condition. -/
import Derived.Test.YtnbhdacpogplgaaGreatDoorPn10
import Derived.Test.YtnbhdacpogplgaaGreatDoorPn9
set_option linter.unusedVariables false
set_option linter.unusedSimpArgs false
namespace Go.Proofs.YtnbhdacpogplgaaGreatDoor.Pw
open Go Go.RowKit
def KQ (S:List aj) (l:Nat):Bool:=match S[l]? with
 | some b=>b.can
 | none=>false
theorem Dy {S:List aj} {l:Nat} (h:KQ S l=true):l < S.length/\∀ b,S[l]?=some b->b.m = .w:=by
 unfold KQ at h
 split at h
 ·rename_i b hb
  refine⟨(List.getElem?_eq_some_iff.1 hb).1,fun b' bV=>?_⟩
  rw[hb] at bV; cases bV
  unfold aj.can at h
  simp only[Bool.and_eq_true] at h
  cases hm:b.m with
  | w=>rfl
  | p=>rw[hm] at h; cases h.2
  | r=>rw[hm] at h; cases h.2
 ·cases h
def E0 (rl:List Nat) (b:aj):Bool:=match b.k with
 | .dyn=>true
 | .mp=>true
 | _=>b.cs.all fun c=>c.bW.all fun l=>!(gg l rl)
def Az (rl:List Nat) (T:List aj):Bool:=T.all (E0 rl)
theorem xx {rl:List Nat} {T:List aj} (h:Az rl T=true) {b:aj} (hb:b∈T) (hk:b.k.nM=true):∀ c∈b.cs,∀ m∈c.bW,m ∉ rl:=fun c hc m hm hr=>by
 have h1:=List.all_eq_true.1 h b hb
 unfold E0 at h1
 have h2:b.cs.all (fun c=>c.bW.all fun l=>!(gg l rl))=true:=by
  cases bH:b.k with
  | dyn=>rw[bH] at hk; cases hk
  | mp=>rw[bH] at hk; cases hk
  | loc=>rw[bH] at h1; exact h1
  | arr=>rw[bH] at h1; exact h1
 have h3:=List.all_eq_true.1 (List.all_eq_true.1 h2 c hc) m hm
 rw[ck.2 hr] at h3
 cases h3
section
variable {w w':World} {I I':Nat->Prop} {β aG:au} {G:Gx} {s:aL} {a:Act} {st cA:List aj}
theorem aO.vC {cs:List PV} {arr:Array Value} {o:Nat} (hI:∀ g,I g->I' g) (hw:∀ g,I g->w'.heap[g]?=w.heap[g]?) (hb:∀ c∈cs,∀ l∈c.bW,∀ p,β l=some p->aG l=some p) (h:aO w I β cs arr o):aO w' I' aG cs arr o :=
 fun i c hc=>let ⟨v,h1,h2,h3⟩:=h i c hc; ⟨v,h1,PV.Is.mono hI hw c β aG v (fun l p hl=>hb c (List.mem_of_getElem? hc) l hl p) h2,h3⟩
theorem dR.vC {l:Nat} {b:aj} (hI:∀ g,I g->I' g) (hw:∀ g,I g->w'.heap[g]?=w.heap[g]?) (jn:∀ p,β l=some p->aG l=some p) (hu:b.k.nM=true->∀ c∈b.cs,∀ l∈c.bW,∀ p,β l=some p->aG l=some p)
  (hg:∀ p g o,β l=some p->p.a=some (g,o)->w'.heap[g]?=w.heap[g]?/\(b.m≠.r->¬ I' g/\∀ l' b',l'≠l->cA[l']?=some b'->b'.live=true->∀ p g' o',aG l'=some p->p.a=some (g',o')->g'≠g)) (hb:dR I β st w l b):dR I' aG cA w' l b:=by
 obtain⟨p,hp,hk⟩:=hb
 refine⟨p,jn p hp,?_⟩
 have own:∀ {g o:Nat} {fr:Nat × Nat},p.a=some (g,o)->Own I β st l g fr b->Own I' aG cA l g fr b:=fun ha ho=>⟨fun hr=>⟨(ho.1 hr).1,(hg p _ _ hp ha).2 hr⟩,fun hr=>hI _ (ho.2 hr)⟩
 split at hk
 ·rename_i bH
  obtain⟨g,o,arr,ty,fr,ha,hh,hc,ho⟩:=hk
  exact⟨g,o,arr,ty,fr,ha,(hg p g o hp ha).1.trans hh,hc.vC hI hw (hu (by rw[bH]; rfl)),own ha ho⟩
 ·rename_i bH
  obtain⟨g,arr,fr,ha,hh,hc,ho,h1⟩:=hk
  exact⟨g,arr,fr,ha,(hg p g 0 hp ha).1.trans hh,hc.vC hI hw (hu (by rw[bH]; rfl)),own ha ho,h1⟩
 ·obtain⟨h1,hk⟩:=hk
  refine⟨h1,?_⟩
  rcases hk with h|⟨g,arr,fr,ha,hh,hc,ho,h2⟩
  ·exact .inl h
  ·exact .inr ⟨g,arr,fr,ha,(hg p g 0 hp ha).1.trans hh,bp.mono hI hw _ _ _ _ (hg p g 0 hp ha).1 hc,own ha ho,h2⟩
 ·obtain⟨g,ha,hm,ho⟩:=hk
  exact⟨g,ha,hm.kz (hg p g 0 hp ha).1,own ha ho⟩
theorem Spec.V2 {f:FuncId} {args aR:List PV} {r0:PV} {S0 S1:List aj} {rl:List Nat} {K:PV->List aj->Prop} (h:Spec G f aR S0 rl fun r S'=>r=r0/\S'=S1) (hm:gD S0 S1=true) (eu:S0.all (rE S0.length)=true) (hu:(ct aR).all (fun l=>Nat.blt l S0.length)=true)
  (tT:r0.bW.all (fun l=>Nat.blt l S0.length)=true) (Ey:rl.all (fun l=>KQ S0 l)=true) (hle:iC kq args aR) (hK:CF st S0 fun T=>(bif Az rl T then True else False)/\rC S1 fun S1=>wH S1 T (K r0)):Spec G f args st rl K:=by
 obtain⟨lM,T,rfl,x_,hk,zx⟩:=pY hK
 obtain⟨hT,hk⟩:=hk
 replace hT:=(aK hT).1
 replace hk:=pX (j6 hk)
 obtain⟨BO,Cl⟩:=j' hm
 refine Spec.intro h.run.1 fun I β w aS hH hM hA=>?_
 let eQ:au:=fun l=>if l < S0.length then β l else none
 have fT:∀ l,l < S0.length->eQ l=β l:=fun l hl=>if_pos hl
 have tY:∀ {l p},eQ l=some p->l < S0.length/\β l=some p:=fun {l p} h=>by
  by_cases hl:l < S0.length
  ·exact⟨hl,by rw[← fT l hl]; exact h⟩
  ·have:eQ l=none:=if_neg hl
   rw[this] at h; cases h
 have s9:∀ {l:Nat} {b':aj},S0[l]?=some b'->l < S0.length/\∃ b,(lM++T)[l]?=some b/\dG b b':=fun {l b'} bV=>by
  have bA:l < S0.length:=(List.getElem?_eq_some_iff.1 bV).1
  have tZ:l < lM.length:=by omega
  refine⟨bA,lM[l],by rw[List.getElem?_append_left tZ]; simp[tZ],zx l _ b' (by simp[tZ]) bV⟩
 have low:∀ {l:Nat} {b':aj},S0[l]?=some b'->b'.k.nM=true->∀ c∈b'.cs,∀ m∈c.bW,m < S0.length:=fun {l b'} bV hk c hc m jg=>by
  rw[List.all_eq_true] at eu
  have:=eu b' (List.mem_of_getElem? bV)
  unfold rE at this
  have cr:b'.cs.all (fun c=>c.bW.all fun l=>Nat.blt l S0.length)=true:=by
   cases bH:b'.k with
   | dyn=>rw[bH] at hk; cases hk
   | mp=>rw[bH] at hk; cases hk
   | loc=>rw[bH] at this; exact this
   | arr=>rw[bH] at this; exact this
  rw[List.all_eq_true] at cr
  have:=cr c hc
  rw[List.all_eq_true] at this
  exact Nat.le_of_ble_eq_true (this m jg)
 have ES:aB I eQ S0 w:=by
  refine⟨fun l hl=>if_neg (by omega),fun l b' bV ax=>?_⟩
  obtain⟨bA,b,hb,zy⟩:=s9 bV
  obtain⟨e1,e2,e3,e4,e5,e6,e7⟩:=bF zy
  obtain⟨p,hp,hB⟩:=hH.dX l b hb e4
  have own:∀ {g:Nat} {fr:Nat × Nat},Own I β (lM++T) l g fr b->Own I eQ S0 l g fr b':=fun {g fr} ho=>by
   refine⟨fun hr=>?_,fun hr=>ho.2 (by rw[e3]; exact hr)⟩
   obtain⟨h1,h2,h3⟩:=ho.1 (by rw[e3]; exact hr)
   refine⟨h1,h2,fun l2 b2 bR du aY p2 g2 o2 eg ef=>?_⟩
   obtain⟨_,b3,gL,hJ⟩:=s9 du
   exact h3 l2 b3 bR gL (bF hJ).2.2.2.1 p2 g2 o2 (tY eg).2 ef
  have cells:b'.k.nM=true->∀ {arr:Array Value} {o:Nat},aO w I β b.cs arr o->aO w I eQ b'.cs arr o:=fun hk {arr o} hc i c hi=>by
   have iN:aO w I β b'.cs arr o:=by
    rcases e7 with ⟨hd,_⟩|⟨_,h7⟩
    ·(rw[e6,hk] at hd; cases hd)
    ·exact eG h7 hc
   obtain⟨u,tu,FY,h1⟩:=iN i c hi
   exact⟨u,tu,PV.Is.mono (fun _ h=>h) (fun _ _=>rfl) c β eQ u (fun m p jg cE=>by rw[fT m (low bV hk c (List.mem_of_getElem? hi) m jg)]; exact cE) FY,h1⟩
  refine⟨p,by rw[fT l bA]; exact hp,?_⟩
  split at hB
  ·rename_i bH
   have fl:b'.k = .loc:=by rw[← e6]; exact bH
   obtain⟨g,o,arr,ty,fr,h1,h2,h3,ho⟩:=hB
   rw[fl]
   exact⟨g,o,arr,ty,fr,h1,h2,cells (by rw[fl]; rfl) h3,own ho⟩
  ·rename_i bH
   have fl:b'.k = .arr:=by rw[← e6]; exact bH
   obtain⟨g,arr,fr,h1,h2,h3,ho,h4,h5,h6,h7,h8⟩:=hB
   have hlen:b'.cs.length=b.cs.length:=by
    rcases e7 with ⟨hd,_⟩|⟨_,h9⟩
    ·rw[bH] at hd; cases hd
    ·exact (iD h9).symm
   rw[fl]
   exact⟨g,arr,fr,h1,by rw[← e1]; exact h2,cells (by rw[fl]; rfl) h3,own ho,by rw[hlen,← e2]; exact h4,h5,h6,by rw[← e2]; exact h7,by rw[← e2]; exact h8⟩
  ·rename_i bH
   have fl:b'.k = .dyn:=by rw[← e6]; exact bH
   have fi:b.cs=b'.cs:=by
    rcases e7 with ⟨_,h9⟩|⟨hd,_⟩
    ·exact h9
    ·(rw[bH] at hd; cases hd)
   obtain⟨⟨h1,h2,h3,h4⟩,hB⟩:=hB
   rw[fl]
   refine⟨⟨by rw[← e2]; exact h1,by rw[← fi]; exact h2,h3,h4⟩,?_⟩
   rcases hB with h|⟨g,arr,fr,h5,h6,h7,ho,h8⟩
   ·exact .inl h
   ·exact .inr ⟨g,arr,fr,h5,by rw[← e1]; exact h6,by rw[← fi,← e2]; exact h7,own ho,by rw[← e2]; exact h8⟩
  ·rename_i bH
   have fl:b'.k = .mp:=by rw[← e6]; exact bH
   have fi:b.cs=b'.cs:=by
    rcases e7 with ⟨_,h9⟩|⟨hd,_⟩
    ·exact h9
    ·(rw[bH] at hd; cases hd)
   obtain⟨g,h1,h2,ho⟩:=hB
   rw[fl]
   exact⟨g,h1,by rw[← fi]; exact h2,own ho⟩
 have F7:aU w I aR eQ aS:=by
  have:=eR (fun _ _=>cX) hle hA
  refine aU.mono (fun _ h=>h) (fun _ _=>rfl) aR β eQ aS (fun m p jg cE=>?_) this
  rw[List.all_eq_true] at hu
  rw[fT m (Nat.le_of_ble_eq_true (hu m jg))]; exact cE
 refine (h.run.2 I eQ w aS ES hM F7).mono fun e w' ⟨v,r,S',I',aG,he,⟨e1,e2⟩,hi,j_,iF,hE,hlen,jn⟩=>?_
 subst e1; subst e2
 have rO:∀ l,l < S0.length->l ∉ rl->aG l=β l:=fun l hl hr=>(jn l hl hr).trans (fT l hl)
 let fQ:au:=fun l=>if l < S0.length then aG l else β l
 have xy:∀ l,l < S0.length->fQ l=aG l:=fun l hl=>if_pos hl
 have uC:∀ l,¬ l < S0.length->fQ l=β l:=fun l hl=>if_neg hl
 have wI:∀ l p,aG l=some p->fQ l=some p:=fun l p hp=>by
  have:l < S0.length:=by have:=j_.lt hp; omega
  rw[xy l this]; exact hp
 have nS:∀ l,l∈rl->l < S0.length/\∀ b,S0[l]?=some b->b.m = .w:=fun l hl=>Dy (List.all_eq_true.1 Ey l hl)
 have zz:∀ {g},Wr eQ S0 g->Wr β (lM++T) g:=fun {g} ⟨l,b,p,o,h1,h2,h3,h4,h5⟩=>by
  obtain⟨bA,b2,cv,mV⟩:=s9 h1
  obtain⟨_,_,q3,q4,_⟩:=bF mV
  exact⟨l,b2,p,o,cv,q4,by rw[q3]; exact h3,(tY h4).2,h5⟩
 have Ls:∀ {g},Wr fQ (S'++T) g->(Wr aG S' g)\/∃ l b p o,S0.length<=l/\(lM++T)[l]?=some b/\b.live=true/\b.m = .w/\β l=some p/\p.a=some (g,o):=fun {g} ⟨l,b,p,o,h1,h2,h3,h4,h5⟩=>by
  by_cases hl:l < S'.length
  ·rw[List.getElem?_append_left hl] at h1
   exact .inl ⟨l,b,p,o,h1,h2,h3,by rw[← xy l (by omega)]; exact h4,h5⟩
  ·rw[List.getElem?_append_right (by omega)] at h1
   refine .inr ⟨l,b,p,o,by omega,?_,h2,h3,by rw[← uC l (by omega)]; exact h4,h5⟩
   rw[List.getElem?_append_right (by omega),x_,BO]; exact h1
 
 have apart:∀ {l:Nat} {b:aj} {p:k_} {g o:Nat},S0.length<=l->(lM++T)[l]?=some b->b.live=true->β l=some p->p.a=some (g,o)->¬ Wr eQ S0 g:=fun {l b p g o} hl hb ax hp ha ⟨l2,b2,p2,o2,h1,h2,h3,h4,h5⟩=>by
  obtain⟨bA,b3,gL,hJ⟩:=s9 h1
  obtain⟨_,_,q3,q4,_⟩:=bF hJ
  obtain⟨arr,ty,fr,_,ho⟩:=(hH.dX l2 b3 gL q4).place (tY h4).2 h5
  exact (ho.1 (by rw[q3,h3]; nofun)).2.2 l b (by omega) hb ax p g o hp ha rfl
 refine⟨v,r,S'++T,I',fQ,he,hk,PV.Is.mono (fun _ h=>h) (fun _ _=>rfl) r aG fQ v (fun m p _ hp=>wI m p hp) hi,⟨fun l hl=>by rw[uC l (by simp only[List.length_append] at hl; omega)]; exact hH.jE l (by simp only[List.length_append] at hl ⊢; omega),fun l b hb ax=>?_⟩,iF,⟨hE.os,hE.tape,hE.output,hE.size,fun g hg hn=>hE.block g hg fun h=>hn (zz h),fun g hg h=>?_,hE.av,fun g hg h=>(hE.new g hg h).imp id zz⟩,by simp only[List.length_append]; omega,fun l _ hr=>by
   by_cases hl:l < S0.length
   ·rw[xy l hl]; exact rO l hl hr
   ·exact uC l hl⟩
 ·by_cases hl:l < S'.length
  ·rw[List.getElem?_append_left hl] at hb
   have hB:=j_.dX l b hb ax
   refine hB.mono (fun _ h=>h) (fun _ _=>rfl) wI fun p g o hp ha=>⟨rfl,fun hr=>?_⟩
   obtain⟨arr,ty,fr,hh,ho⟩:=hB.place hp ha
   obtain⟨h1,h2,h3⟩:=ho.1 hr
   refine⟨h2,fun l2 b2 bR cv aY p2 g2 o2 eg ef=>?_⟩
   by_cases du:l2 < S'.length
   ·rw[List.getElem?_append_left du] at cv
    exact h3 l2 b2 bR cv aY p2 g2 o2 (by rw[← xy l2 (by omega)]; exact eg) ef
   ·rw[List.getElem?_append_right (by omega)] at cv
    have zA:(lM++T)[l2]?=some b2:=by rw[List.getElem?_append_right (by omega),x_,BO]; exact cv
    have xz:β l2=some p2:=by rw[← uC l2 (by omega)]; exact eg
    have Cm:=hH.ch ⟨l2,b2,p2,o2,zA,aY,xz,ef⟩
    obtain⟨b0,ee⟩:∃ b0,S0[l]?=some b0:=⟨S0[l]'(by omega),by simp[show l < S0.length by omega]⟩
    obtain⟨_,q5⟩:=Cl l b0 b ee hb
    by_cases OK:l∈rl
    ·intro e
     subst e
     have hw:b.m = .w:=by rw[← q5]; exact (nS l OK).2 b0 ee
     exact apart (by omega) zA aY xz ef (hE.wr _ Cm ⟨l,b,p,o,hb,ax,hw,hp,ha⟩)
    ·obtain⟨_,b3,gL,hJ⟩:=s9 ee
     obtain⟨_,_,q3,q4,_⟩:=bF hJ
     have BL:β l=some p:=by rw[← rO l (by omega) OK]; exact hp
     obtain⟨_,_,_,_,MA⟩:=(hH.dX l b3 gL q4).place BL ha
     exact (MA.1 (by rw[q3,q5]; exact hr)).2.2 l2 b2 bR zA aY p2 g2 o2 xz ef
  ·rw[List.getElem?_append_right (by omega)] at hb
   have bV:(lM++T)[l]?=some b:=by rw[List.getElem?_append_right (by omega),x_,BO]; exact hb
   have hB:=hH.dX l b bV ax
   have same:∀ {p g o},β l=some p->p.a=some (g,o)->g < w.heap.size/\w'.heap[g]?=w.heap[g]?:=fun {p g o} hp ha=>by
    have bA:=hH.ch ⟨l,b,p,o,bV,ax,hp,ha⟩
    exact⟨bA,hE.block g bA (apart (by omega) bV ax hp ha)⟩
   have V3:=xx hT (List.mem_of_getElem? hb)
   refine hB.vC hE.av (fun g hg=>hE.block g (hM.av g hg) fun hw=>?_) (fun p hp=>by rw[uC l (by omega)]; exact hp) (fun hk c hc m hm p hp=>?_) fun p g o hp ha=>⟨(same hp ha).2,fun hr=>?_⟩
   ·exact ES.jj hw hg
   ·by_cases RS:m < S0.length
    ·rw[xy m RS,rO m RS (V3 hk c hc m hm)]; exact hp
    ·rw[uC m RS]; exact hp
   ·obtain⟨arr,ty,fr,hh,ho⟩:=hB.place hp ha
    obtain⟨h1,h2,h3⟩:=ho.1 hr
    refine⟨fun hI=>(hE.new g (same hp ha).1 hI).elim h2 (apart (by omega) bV ax hp ha),fun l2 b2 bR cv aY p2 g2 o2 eg ef=>?_⟩
    have y4:=(same hp ha).1
    by_cases du:l2 < S'.length
    ·rw[List.getElem?_append_left du] at cv
     have xz:aG l2=some p2:=by rw[← xy l2 (by omega)]; exact eg
     obtain⟨b0,ee⟩:∃ b0,S0[l2]?=some b0:=⟨S0[l2]'(by omega),by simp[show l2 < S0.length by omega]⟩
     by_cases OK:l2∈rl
     ·intro e
      subst e
      obtain⟨_,q5⟩:=Cl l2 b0 b2 ee cv
      have hw:b2.m = .w:=by rw[← q5]; exact (nS l2 OK).2 b0 ee
      exact apart (by omega) bV ax hp ha (hE.wr _ y4 ⟨l2,b2,p2,o2,cv,aY,hw,xz,ef⟩)
     ·obtain⟨_,b3,gL,hJ⟩:=s9 ee
      exact h3 l2 b3 bR gL (bF hJ).2.2.2.1 p2 g2 o2 (by rw[← rO l2 (by omega) OK]; exact xz) ef
    ·rw[List.getElem?_append_right (by omega)] at cv
     exact h3 l2 b2 bR (by rw[List.getElem?_append_right (by omega),x_,BO]; exact cv) aY p2 g2 o2 (by rw[← uC l2 (by omega)]; exact eg) ef
 ·rcases Ls h with h|⟨l,b,p,o,_,h2,h3,h4,h5,h6⟩
  ·exact zz (hE.wr g hg h)
  ·exact⟨l,b,p,o,h2,h3,h4,h5,h6⟩
def Dz (st:List aj) (fz:List Nat) (x:PV):PV:=match x with
 | .wref l=>bif gg l fz then (match st[l]? with
  | some ⟨.dyn,_,n,_,_,cs⟩=>.sl n cs
  | _=>.wref l) else .wref l
 | x=>x
def TM.uD (f:PV->PV):TM->TM
 | .nil=>.nil
 | .node v l r=>.node (match v with
  | some x=>some (f x)
  | none=>none) (l.uD f) (r.uD f)
def aL.ye (s:aL) (fz:List Nat):aL:=match s with
 | ⟨n,t,st,b,rl⟩=>⟨n,t.uD (Dz st fz),gq fz st,b,rl⟩
theorem TM.m8 (f:PV->PV):∀ (t:TM) (n:Nat),(t.uD f).get n=(t.get n).map f
 | .nil,_=>rfl
 | .node v l r,n=>by
  show TM.get (.node (match v with
   | some x=>some (f x)
   | none=>none) (l.uD f) (r.uD f)) n=_
  rw[TM.get,TM.get]
  cases Nat.beq n 0<;>cases Nat.beq (n % 2) 1<;>simp only[cond_true,cond_false]
  ·exact TM.m8 f r _
  ·exact TM.m8 f l _
  ·cases v<;>rfl
  ·cases v<;>rfl
theorem kf {S:List aj} {fz:List Nat} {l:Nat} {b:aj} (hb:(gq fz S)[l]?=some b):∃ b0,S[l]?=some b0/\b = { b0 with m:=hC (gg l fz) b0.m }:=by
 unfold gq at hb
 rw[c9,Option.map_eq_some_iff] at hb
 obtain⟨b0,h1,h2⟩:=hb
 rw[Nat.zero_add] at h2
 exact⟨b0,h1,h2.symm⟩
theorem aB.ye {S:List aj} (hH:aB I β S w) (hM:cg G I w) {fz:List Nat} (hz:Lr S fz=true):aB (dm I β S fz) β (gq fz S) w:=by
 refine⟨fun l hl=>hH.jE l (by unfold gq at hl; rw[dC] at hl; exact hl),fun l b hb ax=>?_⟩
 obtain⟨b0,ee,rfl⟩:=kf hb
 obtain⟨p,hp,hk⟩:=hH.dX l b0 ee ax
 have oE:∀ g,I g->dm I β S fz g:=fun g h=>.inl h
 have own:∀ {g o:Nat} {fr:Nat × Nat},p.a=some (g,o)->Own I β S l g fr b0->Own (dm I β S fz) β (gq fz S) l g fr { b0 with m:=hC (gg l fz) b0.m }:=fun {g o fr} ha ho=>by
  refine⟨fun hm=>?_,fun hm=>?_⟩
  ·have lH:gg l fz=false/\b0.m≠.r:=by
    cases hc:gg l fz with
    | true=>simp only[hc,hC,cond_true,ne_eq,not_true_eq_false] at hm
    | false=>exact⟨rfl,by simpa only [hc,hC,cond_false] using hm⟩
   obtain⟨h1,h2,h3⟩:=ho.1 lH.2
   refine⟨h1,fun hI=>?_,fun l2 b2 bR du aY p2 g2 o2 eg ef=>?_⟩
   ·rcases hI with hI|⟨l2,b2,p2,o2,du,cv,aY,_,eg,ef⟩
    ·exact h2 hI
    ·refine h3 l2 b2 (fun e=>?_) cv aY p2 g o2 eg ef rfl
     subst e
     rw[ck.2 du] at lH
     cases lH.1
   ·obtain⟨b3,gL,rfl⟩:=kf du
    exact h3 l2 b3 bR gL aY p2 g2 o2 eg ef
  ·cases hc:gg l fz with
   | true =>
    obtain⟨b1,My,k1,k2⟩:=tW hz (ck.1 hc)
    rw[ee] at My; cases My
    exact .inr ⟨l,b0,p,o,ck.1 hc,ee,k1,k2,hp,ha⟩
   | false=>exact oE g (ho.2 (by simpa only [hc,hC,cond_false] using hm))
 have yf:∀ g,I g->w.heap[g]?=w.heap[g]?:=fun _ _=>rfl
 refine⟨p,hp,?_⟩
 split at hk
 ·rename_i bH
  obtain⟨g,o,arr,ty,fr,h1,h2,h3,ho⟩:=hk
  simp only[bH]
  exact⟨g,o,arr,ty,fr,h1,h2,aO.mono oE yf (fun _ _ h=>h) h3,own h1 ho⟩
 ·rename_i bH
  obtain⟨g,arr,fr,h1,h2,h3,ho,h4⟩:=hk
  simp only[bH]
  exact⟨g,arr,fr,h1,h2,aO.mono oE yf (fun _ _ h=>h) h3,own h1 ho,h4⟩
 ·rename_i bH
  obtain⟨h1,hk⟩:=hk
  simp only[bH]
  refine⟨h1,?_⟩
  rcases hk with h|⟨g,arr,fr,h2,h3,h4,ho,h5⟩
  ·exact .inl h
  ·exact .inr ⟨g,arr,fr,h2,h3,bp.mono oE yf _ _ _ _ rfl h4,own h2 ho,h5⟩
 ·rename_i bH
  obtain⟨g,h1,h2,ho⟩:=hk
  simp only[bH]
  exact⟨g,h1,h2,own h1 ho⟩
theorem DA {S:List aj} (hH:aB I β S w) {fz:List Nat} (hz:Lr S fz=true) {x:PV} {v:Value} (hx:x.Is w I β v):(Dz S fz x).Is w (dm I β S fz) β v:=by
 have kz:∀ y:PV,y.Is w I β v->y.Is w (dm I β S fz) β v:=fun y hy=>PV.Is.mono (fun _ h=>.inl h) (fun _ _=>rfl) y β β v (fun _ _ _ h=>h) hy
 unfold Dz
 split
 ·rename_i l
  cases hc:gg l fz with
  | false=>exact kz _ hx
  | true =>
   obtain⟨b,hb,ax,hm⟩:=tW hz (ck.1 hc)
   simp only[cond_true]
   split
   ·rename_i _ ty n m live cs hs
    rw[hb] at hs
    cases hs
    have h1:=pW hH (ck.1 hc) hb (n:=n) (es:=cs) (by
     simp only at ax hm
     show (bif live && wD m && Nat.beq n n then cs=cs else False)
     rw[ax,hm,Nat.beq_refl]; exact rfl) hx
    exact PV.Is.mono (fun _ h=>h) (fun _ _=>rfl) _ no β v (fun l p hl=>by simp[PV.bW] at hl) h1
   ·exact kz _ hx
 ·exact kz _ hx
theorem Sub.freeze (fz:List Nat) (hz:Lr s.st fz=true):Sub G s (s.ye fz):=fun I β a w hR=>by
 obtain⟨n,t,st,b,rl⟩:=s
 refine⟨dm I β st fz,β,⟨hR.small,hR.defers,hR.size,by show b<=(gq fz st).length; unfold gq; rw[dC]; exact hR.base,fun i x hx=>?_,hR.heap.ye hR.av hz,j9 hR.heap hR.av⟩,⟨⟨rfl,rfl,rfl,Nat.le_refl _,fun _ _ _=>rfl,fun g _ h=>?_,fun _ h=>.inl h,fun g _ h=>?_⟩,rfl,rfl,rfl,fun _ _ _=>rfl⟩⟩
 ·have fh:(t.uD (Dz st fz)).get i=some x:=hx
  rw[TM.m8,Option.map_eq_some_iff] at fh
  obtain⟨y,hy,rfl⟩:=fh
  obtain⟨v,hv,hi⟩:=hR.get i y hy
  exact⟨v,hv,DA hR.heap hz hi⟩
 ·obtain⟨l,b1,p,o,h1,h2,h3,h4,h5⟩:=h
  obtain⟨b0,ee,rfl⟩:=kf h1
  refine⟨l,b0,p,o,ee,h2,?_,h4,h5⟩
  cases hc:gg l fz with
  | true=>simp only[hc,hC,cond_true] at h3; cases h3
  | false=>simpa only [hc,hC,cond_false] using h3
 ·rcases h with h|⟨l,b1,p,o,hl,hb,ax,hm,hp,ha⟩
  ·exact .inl h
  ·cases qA:b1.m with
   | w=>exact .inr ⟨l,b1,p,o,hb,ax,qA,hp,ha⟩
   | p=>rw[qA] at hm; cases hm
   | r =>
    obtain⟨arr,ty,fr,_,ho⟩:=(hR.heap.dX l b1 hb ax).place hp ha
    exact .inl (ho.2 qA)
theorem SW.sub {c:Code} {Q:X->aL->Prop} {s s':aL} (h:Sub G s s') (h':SW G c Q s'):SW G c Q s:=SW.intro fun I β a w hR=>by
 obtain⟨I',aG,cS,hg⟩:=h I β a w hR
 exact h'.from cS hg
def aL.bare (s:aL) (vs:List (Nat × PV)) (st:List aj):aL:=match s with
 | ⟨n,_,_,b,rl⟩=>⟨n,rD vs .nil,st,b,rl⟩
theorem SW.E1 (hG:lX G) (R:List (Nat × aI)) {α:Type} {c:Code} {Q:X->aL->Prop} (hc:bL R c=true) (vs:α->List (Nat × PV)) (st:α->List aj) (μ:α->Nat) (x0:α) (N:Nat) (EH:dN) (h0:gG G.cx EH s (s.bare (vs x0) (st x0)))
  (h:∀ x,Lp (s.bare (vs x) (st x)) (pw G R N c (mJ (fun s'=>∃ y π,μ y < μ x/\gG G.cx π s' (s.bare (vs y) (st y))) Q))):SW G (.loop c) Q s :=
 SW.inv hG (fun x=>s.bare (vs x) (st x)) μ (N:=N) hc x0 (dd hG.ok h0) (fun x s'=>∃ y π,μ y < μ x/\gG G.cx π s' (s.bare (vs y) (st y))) (fun x s' ⟨y,π,hy,hs⟩=>⟨y,hy,dd hG.ok hs⟩) fun x=>mN (h x)
theorem Spec.BM (hG:lX G) {f:FuncId} {args:List PV} {S S':List aj} {rl:List Nat} {K:PV->List aj->Prop} (h:Spec G f args S' rl K) (π:dN) (hs:gG G.cx π ⟨0,.nil,S,S.length,[]⟩ ⟨0,.nil,S',S.length,[]⟩) (hu:(ct args).all (fun l=>Nat.blt l S.length)=true) (Ey:∀ l∈rl,S.length<=l):Spec G f args S [] K:=by
 refine Spec.intro h.run.1 fun I β w aS hH hM hA=>?_
 have hR:Rel G I β ⟨0,.nil,S,S.length,[]⟩ { tmps:=#[],defers:=G.Pd } w:=⟨Nat.zero_le _,rfl,rfl,Nat.le_refl _,fun n x hx=>(by cases hx),hH,hM⟩
 obtain⟨I',aG,cS,hg⟩:=dd hG.ok hs I β _ w hR
 have F7:aU w I' args aG aS:=aU.mono hg.ext.av (fun g qz=>hg.ext.block g (hM.av g qz) (fun hw=>hH.jj hw qz)) args β aG aS (fun m p hm hp=>by
  rw[List.all_eq_true] at hu
  rw[hg.low m (Nat.le_of_ble_eq_true (hu m hm)) (by simp)]; exact hp) hA
 have hlen:S.length<=S'.length:=cS.base
 refine (h.run.2 I' aG w aS cS.heap cS.av F7).mono fun e w' ⟨v,r,S2,I2,fQ,he,hK,hr,RT,RV,hE,hl,jn⟩=>?_
 refine⟨v,r,S2,I2,fQ,he,hK,hr,RT,RV,hg.ext.trans hE,by omega,fun l eF _=>?_⟩
 rw[jn l (by omega) (fun hm=>by have:=Ey l hm; omega)]
 exact hg.low l eF (by simp)
end
def n9 (π:dN) (b:aj) (q:aj->Prop):Prop:=match b with
 | ⟨.dyn,ty,n,m,live,cs⟩=>q ⟨.dyn,ty,n,m,live,cs⟩
 | ⟨.mp,ty,n,m,live,cs⟩=>q ⟨.mp,ty,n,m,live,cs⟩
 | ⟨k,ty,n,m,live,cs⟩=>aP (dE π cs) fun cs=>q ⟨k,ty,n,m,live,cs⟩
def Pz (π:dN) (st:List aj):List Nat->List aj->Prop->Prop
 | [],[],k=>k
 | l::σ,b'::S,k=>(aP st[l]? fun b=>n9 π b' fun ji=>dG b ji)/\Pz π st σ S k
 | _,_,_=>False
def Lz (π:dN):List Nat->List aj->List aj->(List aj->Prop)->Prop
 | [],[],st,k=>k st
 | l::σ,b'::S,st,k=>n9 π b' fun ji=>Mp ji fun ji=>pD st l ji fun st=>Lz π σ S st k
 | _,_,_,_=>False
def AA (π:dN):List PV->List PV->Prop
 | [],[]=>True
 | x::xs,y::ys=>(aP (y.BM π) fun z=>kq x z)/\AA π xs ys
 | _,_=>False
def ig:List Nat->Bool
 | []=>true
 | l::σ=>!σ.any (Nat.beq l) && ig σ
section
variable {w w':World} {I I':Nat->Prop} {β aG:au} {G:Gx} {s:aL} {a:Act} {st cA:List aj}
theorem qg {π:dN} {b:aj} {q:aj->Prop} (h:n9 π b q):∃ b2,q b2/\b2.k=b.k/\b2.ty=b.ty/\b2.size=b.size/\b2.m=b.m/\b2.live=b.live/\((b.k.nM=false/\b2.cs=b.cs)\/(b.k.nM=true/\dE π b.cs=some b2.cs)):=by
 obtain⟨k,ty,n,m,live,cs⟩:=b
 cases k
 ·obtain⟨ds,h1,h2⟩:=an h
  exact⟨_,h2,rfl,rfl,rfl,rfl,rfl,.inr ⟨rfl,h1⟩⟩
 ·obtain⟨ds,h1,h2⟩:=an h
  exact⟨_,h2,rfl,rfl,rfl,rfl,rfl,.inr ⟨rfl,h1⟩⟩
 ·exact⟨_,h,rfl,rfl,rfl,rfl,rfl,.inl ⟨rfl,rfl⟩⟩
 ·exact⟨_,h,rfl,rfl,rfl,rfl,rfl,.inl ⟨rfl,rfl⟩⟩
theorem AB {π:dN} {st:List aj}:∀ {σ:List Nat} {S:List aj} {k:Prop},Pz π st σ S k->k/\σ.length=S.length/\∀ (i l:Nat) (b':aj),σ[i]?=some l->S[i]?=some b'->∃ b,st[l]?=some b/\n9 π b' fun ji=>dG b ji
 | [],[],k,h=>⟨h,rfl,fun i l b' hl=>by simp at hl⟩
 | l::σ,b'::S,k,h=>by
  obtain⟨h1,h2⟩:=h
  obtain⟨hk,hl,hh⟩:=AB h2
  obtain⟨b,hb,h1⟩:=an h1
  refine⟨hk,by simp[hl],fun i m c hm hc=>?_⟩
  cases i with
  | zero=>simp at hm hc; subst hm; subst hc; exact⟨b,hb,h1⟩
  | succ i=>exact hh i m c (by simpa using hm) (by simpa using hc)
 | [],_::_,_,h=>h.elim
 | _::_,[],_,h=>h.elim
theorem oR:∀ {σ:List Nat},ig σ=true->∀ (i j l:Nat),σ[i]?=some l->σ[j]?=some l->i=j
 | [],_,i,j,l,h,_=>by simp at h
 | m::σ,h,i,j,l,hi,hj=>by
  simp only[ig,Bool.and_eq_true,Bool.not_eq_true',List.any_eq_false] at h
  have hn:∀ k,σ[k]?=some m->False:=fun k hk=>h.1 m (List.mem_of_getElem? hk) (Nat.beq_refl m)
  cases i with
  | zero=>cases j with
   | zero=>rfl
   | succ j=>simp at hi hj; subst hi; exact (hn j hj).elim
  | succ i=>cases j with
   | zero=>simp at hi hj; subst hj; exact (hn i hi).elim
   | succ j=>simp at hi hj; rw[oR h.2 i j l hi hj]
theorem AD {π:dN}:∀ {σ:List Nat} {S:List aj} {st:List aj} {k:List aj->Prop},ig σ=true->Lz π σ S st k->∃ cA,k cA/\cA.length=st.length/\(∀ l,l ∉ σ->cA[l]?=st[l]?)/\∀ (i l:Nat) (b':aj),σ[i]?=some l->S[i]?=some b'->n9 π b' fun ji=>cA[l]?=some ji
 | [],[],st,k,_,h=>⟨st,h,rfl,fun _ _=>rfl,fun i l b' hl=>by simp at hl⟩
 | l::σ,b'::S,st,k,hd,h=>by
  have yw:=hd
  simp only[ig,Bool.and_eq_true,Bool.not_eq_true',List.any_eq_false] at hd
  have Qb:l ∉ σ:=fun hm=>hd.1 l hm (Nat.beq_refl l)
  
  have key:∀ {c:aj} {q:aj->Prop},(n9 π b' fun ji=>q ji)->∃ b2,q b2/\∀ q2:aj->Prop,q2 b2->n9 π b' q2:=fun {c q} hq=>by
   obtain⟨k0,ty,n,m,live,cs⟩:=b'
   cases k0
   ·obtain⟨ds,h1,h2⟩:=an hq
    exact⟨_,h2,fun q2 DB=>by show aP (dE π cs) _; rw[h1]; exact DB⟩
   ·obtain⟨ds,h1,h2⟩:=an hq
    exact⟨_,h2,fun q2 DB=>by show aP (dE π cs) _; rw[h1]; exact DB⟩
   ·exact⟨_,hq,fun q2 DB=>DB⟩
   ·exact⟨_,hq,fun q2 DB=>DB⟩
  obtain⟨b2,h2,DB⟩:=key (c:=b') (q:=fun ji=>Mp ji fun ji=>pD st l ji fun st=>Lz π σ S st k) h
  obtain⟨bA,h3⟩:=gi (tS h2)
  obtain⟨cA,hk,hlen,fM,yZ⟩:=AD hd.2 h3
  refine⟨cA,hk,by rw[hlen,List.length_set],fun m hm=>?_,fun i m c hm hc=>?_⟩
  ·rw[fM m (fun hx=>hm (List.mem_cons_of_mem _ hx)),List.getElem?_set_ne (fun e=>hm (by rw[e]; exact List.mem_cons_self))]
  ·cases i with
   | zero =>
    simp at hm hc; subst hm; subst hc
    refine DB _ ?_
    rw[fM l Qb,List.getElem?_set_self bA]
   | succ i=>exact yZ i m c (by simpa using hm) (by simpa using hc)
 | [],_::_,_,_,_,h=>h.elim
 | _::_,[],_,_,_,h=>h.elim
theorem vD {π:dN}:∀ {xs ys:List PV} {vs:List Value},AA π xs ys->aU w I xs β vs->aU w I ys (eS β π) vs
 | [],[],vs,_,h=>by cases vs with
  | nil=>simp only[aU]
  | cons v vs=>simp only[aU] at h
 | x::xs,y::ys,vs,h,hx=>by
  cases vs with
  | nil=>simp only[aU] at hx
  | cons v vs =>
   simp only[aU] at hx ⊢
   obtain⟨z,hz,hle⟩:=an h.1
   exact⟨zh hz (cX hle _ _ _ _ hx.1),vD h.2 hx.2⟩
 | [],_::_,_,h,_=>h.elim
 | _::_,[],_,h,_=>h.elim
theorem kg {π:dN} {x y:PV} {v:Value} (h:x.rz π=some y) (hx:x.Is w I (eS β π) v):y.Is w I β v:=by
 unfold PV.rz at h
 split at h
 ·split at h
  ·rename_i m hm
   cases h
   simp only[PV.Is] at hx ⊢
   rw[bs hm] at hx; exact hx
  ·rename_i hm
   cases h
   simp only[PV.Is] at hx ⊢
   obtain⟨p,hp,hv⟩:=hx
   rw[fS hm] at hp; cases hp; exact hv
  ·cases h
 ·split at h
  ·rename_i m hm
   cases h
   simp only[PV.Is] at hx ⊢
   rw[bs hm] at hx; exact hx
  ·cases h
 ·split at h
  ·rename_i m hm
   cases h
   simp only[PV.Is] at hx ⊢
   rw[bs hm] at hx; exact hx
  ·cases h
 ·split at h
  ·rename_i m hm
   cases h
   simp only[PV.Is] at hx ⊢
   rw[bs hm] at hx; exact hx
  ·cases h
 ·split at h
  ·rename_i m hm
   cases h
   simp only[PV.Is] at hx ⊢
   rw[bs hm] at hx; exact hx
  ·cases h
 ·split at h
  ·rename_i m hm
   cases h
   simp only[PV.Is] at hx ⊢
   rw[bs hm] at hx; exact hx
  ·cases h
 ·cases h
 ·cases h
 ·cases h
 ·cases h
  refine PV.Is.mono (fun _ h=>h) (fun _ _=>rfl) x _ β v (fun l p hl=>?_) hx
  cases x<;>first|(simp_all [PV.bW]; done)|(rename_i a1 a2 a3 a4 a5 a6 a7 a8 a9; first|exact (a4 _ _ _ _ rfl).elim|exact (a5 _ _ _ _ rfl).elim|exact (a6 _ _ _ _ rfl).elim)
theorem eX {π:dN}:∀ {xs ys:List PV} {i:Nat},dE π xs=some ys->(∀ y,ys[i]?=some y->∃ x,xs[i]?=some x/\x.rz π=some y)/\(∀ x,xs[i]?=some x->∃ y,ys[i]?=some y/\x.rz π=some y)/\ys.length=xs.length
 | [],ys,i,h=>by
  simp only[dE,Option.some.injEq] at h
  subst h
  exact⟨fun y hy=>by simp at hy,fun x hx=>by simp at hx,rfl⟩
 | x::xs,ys,i,h=>by
  simp only[dE] at h
  split at h
  ·rename_i y l h1 h2
   cases h
   obtain⟨a1,a2,a3⟩:=eX (i:=i - 1) h2
   cases i with
   | zero=>exact⟨fun z hz=>by simp at hz; subst hz; exact⟨x,rfl,h1⟩,fun z hz=>by simp at hz; subst hz; exact⟨y,rfl,h1⟩,by simp[a3]⟩
   | succ i=>exact⟨fun z hz=>by simpa using a1 z (by simpa using hz),fun z hz=>by simpa using a2 z (by simpa using hz),by simp[a3]⟩
  ·cases h
theorem dR.tr {l l':Nat} {b b':aj} (hb:dR I β st w l b) (jn:∀ p,β l=some p->aG l'=some p) (hI:∀ g,I g->I' g) (hw:∀ g,I g->w'.heap[g]?=w.heap[g]?)
  (hg:∀ p g o,β l=some p->p.a=some (g,o)->w'.heap[g]?=w.heap[g]?) (cB:∀ p g o fr,β l=some p->p.a=some (g,o)->Own I β st l g fr b->Own I' aG cA l' g fr b')
  (hk:b'.k=b.k) (y3:b'.ty=b.ty) (dK:b'.size=b.size) (fi:b.k.nM=false->b'.cs=b.cs) (hlen:b'.cs.length=b.cs.length)
  (jo:b.k.nM=true->∀ (arr:Array Value) (o:Nat),aO w I β b.cs arr o->aO w' I' aG b'.cs arr o):dR I' aG cA w' l' b':=by
 obtain⟨p,hp,bH⟩:=hb
 refine⟨p,jn p hp,?_⟩
 rw[hk]
 split at bH
 ·rename_i he
  obtain⟨g,o,arr,ty,fr,ha,hh,hc,ho⟩:=bH
  exact⟨g,o,arr,ty,fr,ha,(hg p g o hp ha).trans hh,jo (by rw[he]; rfl) arr o hc,cB p g o fr hp ha ho⟩
 ·rename_i he
  obtain⟨g,arr,fr,ha,hh,hc,ho,h1,h2,h3,h4,h5⟩:=bH
  exact⟨g,arr,fr,ha,by rw[y3]; exact (hg p g 0 hp ha).trans hh,jo (by rw[he]; rfl) arr 0 hc,cB p g 0 fr hp ha ho,by rw[hlen,dK]; exact h1,h2,h3,by rw[dK]; exact h4,by rw[dK]; exact h5⟩
 ·rename_i he
  obtain⟨⟨h1,h2,h3,h4⟩,bH⟩:=bH
  have iN:=fi (by rw[he]; rfl)
  refine⟨⟨by rw[dK]; exact h1,by rw[iN]; exact h2,h3,h4⟩,?_⟩
  rcases bH with h|⟨g,arr,fr,ha,hh,hc,ho,h5⟩
  ·exact .inl h
  ·exact .inr ⟨g,arr,fr,ha,by rw[y3]; exact (hg p g 0 hp ha).trans hh,by rw[iN,dK]; exact bp.mono hI hw _ _ _ _ (hg p g 0 hp ha) hc,cB p g 0 fr hp ha ho,by rw[dK]; exact h5⟩
 ·rename_i he
  obtain⟨g,ha,hm,ho⟩:=bH
  have iN:=fi (by rw[he]; rfl)
  exact⟨g,ha,by rw[iN]; exact hm.kz (hg p g 0 hp ha),cB p g 0 _ hp ha ho⟩
theorem Spec.xA {f:FuncId} {args aR:List PV} {r0:PV} {S0 S1:List aj} {K:PV->List aj->Prop} (σ:List Nat) (h:Spec G f aR S0 [] fun r S'=>r=r0/\S'=S1) (hm:gD S0 S1=true) (tT:r0.bW = []) (TL:ig σ=true)
  (hle:AA (σ.map some) args aR) (hK:Pz (σ.map some) st σ S0 (Lz (σ.map some) σ S1 st (K r0))):Spec G f args st [] K:=by
 obtain⟨hk,x_,lL⟩:=AB hK
 obtain⟨cA,l4,TN,fM,yZ⟩:=AD TL hk
 obtain⟨BO,Cl⟩:=j' hm
 have RW:=oR TL
 have BN:∀ {i l:Nat},σ[i]?=some l->(σ.map some)[i]?=some (some l):=fun {i l} h=>by rw[List.getElem?_map,h]; rfl
 refine Spec.intro h.run.1 fun I β w aS hH hM hA=>?_
 obtain⟨eQ,AE⟩:∃ eQ:au,eQ=eS β (σ.map some):=⟨_,rfl⟩
 have fT:∀ {i l:Nat},σ[i]?=some l->eQ i=β l:=fun {i l} h=>by rw[AE]; exact bs (BN h)
 have OL:∀ {i:Nat},S0.length<=i->eQ i=none:=fun {i} h=>by
  rw[AE]; unfold eS; rw[List.getElem?_eq_none (by rw[List.length_map]; omega)]
 have idx:∀ {i:Nat},i < S0.length->∃ l,σ[i]?=some l:=fun {i} h=>⟨σ[i]'(by omega),List.getElem?_eq_getElem (by omega)⟩
 have s9:∀ {i:Nat} {b':aj},S0[i]?=some b'->∃ l b b2,σ[i]?=some l/\st[l]?=some b/\dG b b2/\b2.k=b'.k/\b2.ty=b'.ty/\b2.size=b'.size/\b2.m=b'.m/\b2.live=b'.live/\((b'.k.nM=false/\b2.cs=b'.cs)\/(b'.k.nM=true/\dE (σ.map some) b'.cs=some b2.cs)):=fun {i b'} bV=>by
  obtain⟨l,hl⟩:=idx (List.getElem?_eq_some_iff.1 bV).1
  obtain⟨b,hb,hr⟩:=lL i l b' hl bV
  obtain⟨b2,h1,h2⟩:=qg hr
  exact⟨l,b,b2,hl,hb,h1,h2⟩
 
 have AF:∀ {i:Nat} {b':aj},S0[i]?=some b'->∃ l b,σ[i]?=some l/\st[l]?=some b/\b.live=true/\b.m=b'.m:=fun {i b'} bV=>by
  obtain⟨l,b,b2,hl,hb,h1,h2,h3,h4,h5,h6,h7⟩:=s9 bV
  obtain⟨e1,e2,e3,e4,e5,e6,e7⟩:=bF h1
  exact⟨l,b,hl,hb,e4,e3.trans h5⟩
 have ES:aB I eQ S0 w:=by
  refine⟨fun i hi=>OL hi,fun i b' bV ax=>?_⟩
  obtain⟨l,b,b2,hl,hb,h1,h2,h3,h4,h5,h6,h7⟩:=s9 bV
  obtain⟨e1,e2,e3,e4,e5,e6,e7⟩:=bF h1
  have hB:=hH.dX l b hb e4
  refine hB.tr (fun p hp=>(fT hl).trans hp) (fun _ h=>h) (fun _ _=>rfl) (fun _ _ _ _ _=>rfl) (fun p g o fr hp ha ho=>⟨fun hr=>?_,fun hr=>ho.2 (by rw[e3,h5]; exact hr)⟩) (h2.symm.trans e6.symm) (h3.symm.trans e1.symm) (h4.symm.trans e2.symm) (fun hc=>?_) ?_ (fun hc arr o lY=>?_)
  ·obtain⟨q1,q2,q3⟩:=ho.1 (by rw[e3,h5]; exact hr)
   refine⟨q1,q2,fun i2 WV bR cv aY p2 g2 o2 eg ef=>?_⟩
   obtain⟨l2,b3,du,gL,AG,_⟩:=AF cv
   exact q3 l2 b3 (fun e=>bR (RW i2 i l (by rw[← e]; exact du) hl)) gL AG p2 g2 o2 ((fT du).symm.trans eg) ef
  ·rcases h7 with ⟨_,h7⟩|⟨h7,_⟩
   ·rcases e7 with ⟨_,e7⟩|⟨e7,_⟩
    ·rw[← h7,e7]
    ·rw[hc] at e7; cases e7
   ·rw[← h2,← e6,hc] at h7; cases h7
  ·have:b2.cs.length=b.cs.length:=by
    rcases e7 with ⟨_,e7⟩|⟨_,e7⟩
    ·rw[e7]
    ·exact (iD e7).symm
   rcases h7 with ⟨_,h7⟩|⟨_,h7⟩
   ·rw[← h7,this]
   ·rw[← (eX (i:=0) h7).2.2,this]
  ·have RX:aO w I β b2.cs arr o:=by
    rcases e7 with ⟨hd,_⟩|⟨_,h8⟩
    ·rw[hc] at hd; cases hd
    ·exact eG h8 lY
   rcases h7 with ⟨hd,_⟩|⟨_,h7⟩
   ·rw[← h2,← e6,hc] at hd; cases hd
   ·intro j c hj
    obtain⟨y,hy,xB⟩:=(eX (i:=j) h7).2.1 c hj
    obtain⟨v,hv,hi,h1⟩:=RX j y hy
    exact⟨v,hv,by rw[AE]; exact l5 xB hi,h1⟩
 have F7:aU w I aR eQ aS:=by rw[AE]; exact vD hle hA
 refine (h.run.2 I eQ w aS ES hM F7).mono fun e w' ⟨v,r,S',I',aG,he,⟨e1,e2⟩,hi,j_,iF,hE,hlen,jn⟩=>?_
 subst e1; subst e2
 obtain rfl:aG=eQ:=funext fun i=>by
  by_cases hi:i < S0.length
  ·exact jn i hi (by simp)
  ·rw[OL (by omega),j_.jE i (by omega)]
 have mem:∀ {l:Nat},l∈σ->∃ i,σ[i]?=some l/\i < S0.length:=fun {l} hl=>by
  obtain⟨i,hi,e⟩:=List.getElem_of_mem hl
  exact⟨i,by rw[List.getElem?_eq_getElem hi,e],by omega⟩
 have zz:∀ {g},Wr aG S0 g->Wr β st g:=fun {g} ⟨i,b,p,o,h1,h2,h3,h4,h5⟩=>by
  obtain⟨l,b2,hl,cv,EE,qA⟩:=AF h1
  exact⟨l,b2,p,o,cv,EE,by rw[qA]; exact h3,(fT hl).symm.trans h4,h5⟩
 
 have apart:∀ {l:Nat} {b:aj} {p:k_} {g o:Nat},l ∉ σ->st[l]?=some b->b.live=true->β l=some p->p.a=some (g,o)->¬ Wr aG S0 g:=fun {l b p g o} hl hb ax hp ha ⟨i,b2,p2,o2,h1,h2,h3,h4,h5⟩=>by
  obtain⟨l2,b3,du,gL,EE,qA⟩:=AF h1
  obtain⟨arr,ty,fr,ho⟩:=(hH.dX l2 b3 gL EE).place ((fT du).symm.trans h4) h5
  exact (ho.2.1 (by rw[qA,h3]; nofun)).2.2 l b (fun e=>hl (e ▸ List.mem_of_getElem? du)) hb ax p g o hp ha rfl
 
 have new:∀ {i l:Nat} {b':aj},σ[i]?=some l->S'[i]?=some b'->∃ b2,cA[l]?=some b2/\b2.k=b'.k/\b2.ty=b'.ty/\b2.size=b'.size/\b2.m=b'.m/\b2.live=b'.live/\((b'.k.nM=false/\b2.cs=b'.cs)\/(b'.k.nM=true/\dE (σ.map some) b'.cs=some b2.cs)):=fun {i l b'} hl bV=>qg (yZ i l b' hl bV)
 have RY:∀ {i:Nat},i < S0.length->∃ b',S'[i]?=some b':=fun {i} h=>⟨S'[i]'(by omega),List.getElem?_eq_getElem (by omega)⟩
 have Ls:∀ {g},Wr β cA g->(Wr aG S' g)\/∃ l b p o,l ∉ σ/\st[l]?=some b/\b.live=true/\b.m = .w/\β l=some p/\p.a=some (g,o):=fun {g} ⟨l,b,p,o,h1,h2,h3,h4,h5⟩=>by
  by_cases hl:l∈σ
  ·obtain⟨i,hi,bA⟩:=mem hl
   obtain⟨b',bV⟩:=RY bA
   obtain⟨b2,cv,q1,q2,q3,q4,q5,_⟩:=new hi bV
   rw[cv] at h1
   cases h1
   exact .inl ⟨i,b',p,o,bV,by rw[← q5]; exact h2,by rw[← q4]; exact h3,(fT hi).trans h4,h5⟩
  ·exact .inr ⟨l,b,p,o,hl,(fM l hl).symm.trans h1,h2,h3,h4,h5⟩
 refine⟨v,r,cA,I',β,he,l4,iE tT hi,⟨fun l hl=>hH.jE l (by omega),fun l b hb ax=>?_⟩,iF,⟨hE.os,hE.tape,hE.output,hE.size,fun g hg hn=>hE.block g hg fun h=>hn (zz h),fun g hg h=>?_,hE.av,fun g hg h=>(hE.new g hg h).imp id zz⟩,by omega,fun _ _ _=>rfl⟩
 ·by_cases hl:l∈σ
  ·obtain⟨i,hi,bA⟩:=mem hl
   obtain⟨b',bV⟩:=RY bA
   obtain⟨b2,cv,q1,q2,q3,q4,q5,q6⟩:=new hi bV
   rw[cv] at hb
   cases hb
   have hB:=j_.dX i b' bV (by rw[← q5]; exact ax)
   refine hB.tr (fun p hp=>(fT hi).symm.trans hp) (fun _ h=>h) (fun _ _=>rfl) (fun _ _ _ _ _=>rfl) (fun p g o fr hp ha ho=>⟨fun hr=>?_,fun hr=>ho.2 (by rw[← q4]; exact hr)⟩) q1 q2 q3 (fun hc=>?_) ?_ (fun hc arr o lY=>?_)
   ·obtain⟨x1,x2,x3⟩:=ho.1 (by rw[← q4]; exact hr)
    refine⟨x1,x2,fun l2 c2 bR iN aY p2 g2 o2 eg ef=>?_⟩
    by_cases du:l2∈σ
    ·obtain⟨i2,FG,pL⟩:=mem du
     obtain⟨V4,OM⟩:=RY pL
     obtain⟨b3,gL,_,_,_,_,y5,_⟩:=new FG OM
     rw[gL] at iN
     cases iN
     exact x3 i2 V4 (fun e=>bR (Option.some.inj (by rw[← hi,← FG,e]))) OM (by rw[← y5]; exact aY) p2 g2 o2 ((fT FG).trans eg) ef
    ·have RZ:st[l2]?=some c2:=(fM l2 du).symm.trans iN
     obtain⟨b0,ee⟩:∃ b0,S0[i]?=some b0:=⟨S0[i]'bA,List.getElem?_eq_getElem bA⟩
     obtain⟨l3,b3,Lg,gL,AG,R0⟩:=AF ee
     obtain rfl:l3=l:=Option.some.inj (Lg.symm.trans hi)
     obtain⟨_,q7⟩:=Cl i b0 b' ee bV
     obtain⟨_,_,WW,_,MA⟩:=(hH.dX l3 b3 gL AG).place ((fT hi).symm.trans hp) ha
     exact (MA.1 (by rw[R0,q7,← q4]; exact hr)).2.2 l2 c2 bR RZ aY p2 g2 o2 eg ef
   ·rcases q6 with ⟨_,q6⟩|⟨q6,_⟩
    ·exact q6
    ·rw[hc] at q6; cases q6
   ·rcases q6 with ⟨_,q6⟩|⟨_,q6⟩
    ·rw[q6]
    ·exact (eX (i:=0) q6).2.2
   ·rcases q6 with ⟨hd,_⟩|⟨_,q6⟩
    ·rw[hc] at hd; cases hd
    ·intro j c hj
     obtain⟨y,hy,xB⟩:=(eX (i:=j) q6).1 c hj
     obtain⟨u,hu,R1,h1⟩:=lY j y hy
     exact⟨u,hu,kg xB (by rw[← AE]; exact R1),h1⟩
  ·have bV:st[l]?=some b:=(fM l hl).symm.trans hb
   have hB:=hH.dX l b bV ax
   have same:∀ {p g o},β l=some p->p.a=some (g,o)->g < w.heap.size/\w'.heap[g]?=w.heap[g]?:=fun {p g o} hp ha=>by
    have bA:=hH.ch ⟨l,b,p,o,bV,ax,hp,ha⟩
    exact⟨bA,hE.block g bA (apart hl bV ax hp ha)⟩
   refine hB.mono hE.av (fun g hg=>hE.block g (hM.av g hg) fun hw=>?_) (fun _ _ h=>h) fun p g o hp ha=>⟨(same hp ha).2,fun hr=>?_⟩
   ·exact ES.jj hw hg
   ·obtain⟨arr,ty,fr,hh,ho⟩:=hB.place hp ha
    obtain⟨h1,h2,h3⟩:=ho.1 hr
    refine⟨fun hI=>(hE.new g (same hp ha).1 hI).elim h2 (apart hl bV ax hp ha),fun l2 b2 bR cv aY p2 g2 o2 eg ef=>?_⟩
    by_cases du:l2∈σ
    ·obtain⟨i2,FG,pL⟩:=mem du
     obtain⟨b0,ee⟩:∃ b0,S0[i2]?=some b0:=⟨S0[i2]'pL,List.getElem?_eq_getElem pL⟩
     obtain⟨l3,b3,Lg,gL,AG,_⟩:=AF ee
     obtain rfl:l3=l2:=Option.some.inj (Lg.symm.trans FG)
     exact h3 l3 b3 bR gL AG p2 g2 o2 eg ef
    ·exact h3 l2 b2 bR ((fM l2 du).symm.trans cv) aY p2 g2 o2 eg ef
 ·rcases Ls h with h|⟨l,b,p,o,_,h2,h3,h4,h5,h6⟩
  ·exact zz (hE.wr g hg h)
  ·exact⟨l,b,p,o,h2,h3,h4,h5,h6⟩
end
def E2:Nat->Nat->dN
 | _,0=>[]
 | n,k+1=>some n::E2 (n+1) k
def sB (π:dN):List PV->Option (List PV)
 | []=>some []
 | c::cs=>(match c.BM π,sB π cs with
  | some x,some l=>some (x::l)
  | _,_=>none)
def PV.KR (π:dN) (x:PV):Option PV:=match x with
 | .tup cs=>(sB π cs).map .tup
 | x=>x.BM π
def KS (π:dN):List aj->List aj->(List aj->Prop)->Prop
 | [],st,k=>k st
 | b::S,st,k=>n9 π b fun b=>Mp b fun b=>tm st b fun st=>KS π S st k
section
variable {w w':World} {I I':Nat->Prop} {β aG:au} {G:Gx} {s:aL} {a:Act} {st cA:List aj}
theorem qh:∀ {k n i:Nat},(E2 n k)[i]?=if i < k then some (some (n+i)) else none
 | 0,n,i=>by simp[E2]
 | k+1,n,0=>by simp[E2]
 | k+1,n,i+1=>by
  rw[E2,List.getElem?_cons_succ,qh]
  simp only[Nat.add_lt_add_iff_right,show n+1+i=n+(i+1) by omega]
theorem m9 {π:dN}:∀ {xs ys:List PV} {vs:List Value},dE π xs=some ys->aU w I xs (eS β π) vs->aU w I ys β vs
 | [],ys,vs,h,hx=>by
  simp only[dE,Option.some.injEq] at h
  subst h
  cases vs with
  | nil=>simp only[aU]
  | cons v vs=>simp only[aU] at hx
 | x::xs,ys,vs,h,hx=>by
  simp only[dE] at h
  split at h
  ·rename_i y l h1 h2
   cases h
   cases vs with
   | nil=>simp only[aU] at hx
   | cons v vs =>
    simp only[aU] at hx ⊢
    exact⟨kg h1 hx.1,m9 h2 hx.2⟩
  ·cases h
theorem vE {π:dN} {x y:PV} {v:Value} (h:x.BM π=some y) (hx:x.Is w I (eS β π) v):y.Is w I β v:=by
 unfold PV.BM at h
 split at h
 ·rw[Option.map_eq_some_iff] at h
  obtain⟨l,hl,rfl⟩:=h
  simp only[PV.Is] at hx ⊢
  obtain⟨vs,rfl,hx⟩:=hx
  exact⟨vs,rfl,m9 hl hx⟩
 ·rw[Option.map_eq_some_iff] at h
  obtain⟨l,hl,rfl⟩:=h
  simp only[PV.Is] at hx ⊢
  obtain⟨vs,rfl,hx⟩:=hx
  exact⟨vs,rfl,m9 hl hx⟩
 ·cases h
 ·exact kg h hx
theorem oS {π:dN}:∀ {xs ys:List PV} {vs:List Value},sB π xs=some ys->aU w I xs (eS β π) vs->aU w I ys β vs
 | [],ys,vs,h,hx=>by
  simp only[sB,Option.some.injEq] at h
  subst h
  cases vs with
  | nil=>simp only[aU]
  | cons v vs=>simp only[aU] at hx
 | x::xs,ys,vs,h,hx=>by
  simp only[sB] at h
  split at h
  ·rename_i y l h1 h2
   cases h
   cases vs with
   | nil=>simp only[aU] at hx
   | cons v vs =>
    simp only[aU] at hx ⊢
    exact⟨vE h1 hx.1,oS h2 hx.2⟩
  ·cases h
theorem AH {π:dN} {x y:PV} {v:Value} (h:x.KR π=some y) (hx:x.Is w I (eS β π) v):y.Is w I β v:=by
 unfold PV.KR at h
 split at h
 ·rw[Option.map_eq_some_iff] at h
  obtain⟨l,hl,rfl⟩:=h
  simp only[PV.Is] at hx ⊢
  obtain⟨vs,rfl,hx⟩:=hx
  exact⟨vs,rfl,oS hl hx⟩
 ·exact vE h hx
theorem vG:∀ {l:List aj} {b:aj} {q:List aj->Prop},tm l b q->q (l++[b])
 | [],_,_,h=>h
 | c::l,b,q,h=>vG (l:=l) (q:=fun x=>q (c::x)) h
theorem vH {π:dN}:∀ {S st:List aj} {k:List aj->Prop},KS π S st k->∃ S2,k (st++S2)/\S2.length=S.length/\∀ (i:Nat) (b:aj),S[i]?=some b->∃ b2,S2[i]?=some b2/\b2.k=b.k/\b2.ty=b.ty/\b2.size=b.size/\b2.m=b.m/\b2.live=b.live/\((b.k.nM=false/\b2.cs=b.cs)\/(b.k.nM=true/\dE π b.cs=some b2.cs))
 | [],st,k,h=>⟨[],by rw[List.append_nil]; exact h,rfl,fun i b hb=>by simp at hb⟩
 | c::S,st,k,h=>by
  obtain⟨b2,h1,h2⟩:=qg h
  obtain⟨S2,hk,hl,hh⟩:=vH (vG (tS h1))
  refine⟨b2::S2,by rw[List.append_assoc] at hk; exact hk,by simp[hl],fun i b hb=>?_⟩
  cases i with
  | zero=>simp at hb; subst hb; exact⟨b2,rfl,h2⟩
  | succ i=>simpa using hh i b (by simpa using hb)
theorem Spec.PA {f:FuncId} {args aR:List PV} {r0:PV} {S1:List aj} {K:PV->List aj->Prop} (h:Spec G f aR [] [] fun r S'=>r=r0/\S'=S1) (cr:S1.all (fun b=>b.live && Md.beq b.m .w)=true) (hle:iC kq args aR) (hu:ct aR = [])
  (hK:jk st 0 fun n=>KS (E2 n S1.length) S1 st fun Qy=>aP (r0.KR (E2 n S1.length)) fun r=>K r Qy):Spec G f args st [] K:=by
 replace hK:=fk hK
 rw[Nat.zero_add] at hK
 obtain⟨S2,hk,hlen,R2⟩:=vH hK
 obtain⟨r2,ON,l4⟩:=an hk
 refine Spec.intro h.run.1 fun I β w aS hH hM hA=>?_
 have h0:aB I (fun _=>none) ([]:List aj) w:=⟨fun _ _=>rfl,fun l b hl=>by simp at hl⟩
 refine (h.run.2 I (fun _=>none) w aS h0 hM (gn hu (eR (fun _ _=>cX) hle hA))).mono fun e w' ⟨v,r,S',I',PB,he,⟨e1,e2⟩,hi,j_,iF,hE,_,_⟩=>?_
 subst e1; subst e2
 have yc:∀ g,¬ Wr (fun _=>none) ([]:List aj) g:=fun g ⟨l,b,p,o,h1,_⟩=>by simp at h1
 have hold:∀ g,g < w.heap.size->w'.heap[g]?=w.heap[g]?:=fun g hg=>hE.block g hg (yc g)
 have zo:∀ g,g < w.heap.size->I' g->I g:=fun g hg h=>(hE.new g hg h).elim id fun h=>absurd h (yc g)
 have PD:∀ {i:Nat} {b:aj},S'[i]?=some b->b.live=true/\b.m = .w:=fun {i b} hb=>by
  rw[List.all_eq_true] at cr
  have:=cr b (List.mem_of_getElem? hb)
  simp only[Bool.and_eq_true] at this
  exact⟨this.1,Md.jr this.2⟩
 have di:∀ {i:Nat} {p:k_} {g o:Nat},PB i=some p->p.a=some (g,o)->w.heap.size<=g:=fun {i p g o} hp ha=>by
  have bA:=j_.lt hp
  obtain⟨b,hb⟩:∃ b,S'[i]?=some b:=⟨S'[i],List.getElem?_eq_getElem bA⟩
  rcases Nat.lt_or_ge g w.heap.size with hg|hg
  ·exact absurd (hE.wr g hg ⟨i,b,p,o,hb,(PD hb).1,(PD hb).2,hp,ha⟩) (yc g)
  ·exact hg
 obtain⟨fQ,TO⟩:∃ fQ:au,fQ=fun l=>if l < st.length then β l else PB (l - st.length):=⟨_,rfl⟩
 have OO:∀ {l},l < st.length->fQ l=β l:=fun {l} h=>by rw[TO]; exact if_pos h
 have LA:∀ {i},fQ (st.length+i)=PB i:=fun {i}=>by rw[TO]; show (if st.length+i < st.length then _ else _)=_; rw[if_neg (by omega),Nat.add_sub_cancel_left]
 have xB:eS fQ (E2 st.length S'.length)=PB:=funext fun i=>by
  by_cases h:i < S'.length
  ·rw[bs (m:=st.length+i) (by rw[qh,if_pos h]),LA]
  ·unfold eS
   rw[qh,if_neg h]
   exact (j_.jE i (by omega)).symm
 have OP:∀ l p,β l=some p->fQ l=some p:=fun l p hp=>by rw[OO (hH.lt hp)]; exact hp
 have eu:∀ g,fL β st g->g < w.heap.size:=fun g hg=>hH.ch hg
 refine⟨v,r2,st++S2,I',fQ,he,l4,AH ON (by rw[xB]; exact hi),⟨fun l hl=>?_,fun l b hb ax=>?_⟩,iF,⟨hE.os,hE.tape,hE.output,hE.size,fun g hg _=>hold g hg,fun g hg ⟨l,b,p,o,h1,h2,h3,h4,h5⟩=>?_,hE.av,fun g hg h=>.inl (zo g hg h)⟩,by simp,fun l hl _=>OO hl⟩
 ·rw[List.length_append] at hl
  have:=LA (i:=l - st.length)
  rw[show st.length+(l - st.length)=l by omega] at this
  rw[this]; exact j_.jE _ (by omega)
 ·by_cases hl:l < st.length
  ·rw[List.getElem?_append_left hl] at hb
   have hB:=hH.dX l b hb ax
   refine hB.mono hE.av (fun g hg=>hold g (hM.av g hg)) OP fun p g o hp ha=>?_
   obtain⟨arr,ty,fr,hh,ho⟩:=hB.place hp ha
   have bA:=bX hh
   refine⟨hold g bA,fun hr=>⟨fun hI=>(ho.1 hr).2.1 (zo g bA hI),fun l' b' bR bV dh p' g' o' cE cW=>?_⟩⟩
   by_cases eF:l' < st.length
   ·rw[List.getElem?_append_left eF] at bV
    exact (ho.1 hr).2.2 l' b' bR bV dh p' g' o' (by rw[← OO eF]; exact cE) cW
   ·have e:=LA (i:=l' - st.length)
    rw[show st.length+(l' - st.length)=l' by omega] at e
    have:=di (by rw[← e]; exact cE) cW
    omega
  ·obtain⟨i,rfl⟩:∃ i,l=st.length+i:=⟨l - st.length,by omega⟩
   rw[List.getElem?_append_right (by omega),Nat.add_sub_cancel_left] at hb
   have bA:i < S'.length:=by rw[← hlen]; exact (List.getElem?_eq_some_iff.1 hb).1
   obtain⟨b',bV⟩:∃ b,S'[i]?=some b:=⟨S'[i],List.getElem?_eq_getElem bA⟩
   obtain⟨b2,cv,q1,q2,q3,q4,q5,q6⟩:=R2 i b' bV
   obtain rfl:b2=b:=Option.some.inj (cv.symm.trans hb)
   have hB:=j_.dX i b' bV (PD bV).1
   refine hB.tr (fun p hp=>by rw[LA]; exact hp) (fun _ h=>h) (fun _ _=>rfl) (fun _ _ _ _ _=>rfl) (fun p g o fr hp ha ho=>⟨fun hr=>?_,fun hr=>ho.2 (by rw[← q4]; exact hr)⟩) q1 q2 q3 (fun hc=>?_) ?_ (fun hc arr o lY=>?_)
   ·obtain⟨x1,x2,x3⟩:=ho.1 (by rw[← q4]; exact hr)
    refine⟨x1,x2,fun l2 c2 bR iN aY p2 g2 o2 eg ef=>?_⟩
    by_cases du:l2 < st.length
    ·rw[List.getElem?_append_left du] at iN
     have h1:=eu g2 ⟨l2,c2,p2,o2,iN,aY,by rw[← OO du]; exact eg,ef⟩
     have h2:=di hp ha
     omega
    ·obtain⟨i2,rfl⟩:∃ i2,l2=st.length+i2:=⟨l2 - st.length,by omega⟩
     rw[LA] at eg
     have pL:=j_.lt eg
     obtain⟨b3,gL⟩:∃ b,S'[i2]?=some b:=⟨S'[i2],List.getElem?_eq_getElem pL⟩
     exact x3 i2 b3 (fun e=>bR (by rw[e])) gL (PD gL).1 p2 g2 o2 eg ef
   ·rcases q6 with ⟨_,q6⟩|⟨q6,_⟩
    ·exact q6
    ·rw[hc] at q6; cases q6
   ·rcases q6 with ⟨_,q6⟩|⟨_,q6⟩
    ·rw[q6]
    ·exact (eX (i:=0) q6).2.2
   ·rcases q6 with ⟨hd,_⟩|⟨_,q6⟩
    ·rw[hc] at hd; cases hd
    ·intro j c hj
     obtain⟨y,hy,hr⟩:=(eX (i:=j) q6).1 c hj
     obtain⟨u,hu,R1,h1⟩:=lY j y hy
     exact⟨u,hu,kg hr (by rw[xB]; exact R1),h1⟩
 ·by_cases hl:l < st.length
  ·rw[List.getElem?_append_left hl] at h1
   exact⟨l,b,p,o,h1,h2,h3,by rw[← OO hl]; exact h4,h5⟩
  ·have e:=LA (i:=l - st.length)
   rw[show st.length+(l - st.length)=l by omega] at e
   have:=di (by rw[← e]; exact h4) h5
   omega
theorem Spec.V5 {f:FuncId} {args aR:List PV} {rl:List Nat} {K:PV->List aj->Prop} (fz:List Nat) (hz:Lr st fz=true) (hle:iC (Mx st fz) args aR) (hu:ct aR = []) (h:Spec G f aR (gq fz st) rl K):Spec G f args st rl K:=by
 refine Spec.intro h.run.1 fun I β w aS hH hM hA=>?_
 have RT:=hH.ye hM hz
 have RV:cg G (dm I β st fz) w:=j9 hH hM
 have V6:aU w (dm I β st fz) aR β aS:=gn hu (iG hH hle hu hA)
 have F_:∀ {g},Wr β (gq fz st) g->Wr β st g:=fun {g} ⟨l,b1,p,o,h1,h2,h3,h4,h5⟩=>by
  obtain⟨b0,ee,rfl⟩:=kf h1
  refine⟨l,b0,p,o,ee,h2,?_,h4,h5⟩
  cases hc:gg l fz with
  | true=>simp only[hc,hC,cond_true] at h3; cases h3
  | false=>simpa only [hc,hC,cond_false] using h3
 have hlen:(gq fz st).length=st.length:=by unfold gq; rw[dC]
 refine (h.run.2 (dm I β st fz) β w aS RT RV V6).mono fun e w' ⟨v,r,S',I',aG,he,hK,hi,j_,iF,hE,hl,jn⟩=>?_
 refine⟨v,r,S',I',aG,he,hK,hi,j_,iF,⟨hE.os,hE.tape,hE.output,hE.size,fun g hg hn=>hE.block g hg fun h=>hn (F_ h),fun g hg h=>F_ (hE.wr g hg h),fun g hg=>hE.av g (.inl hg),fun g hg h=>?_⟩,by rw[← hlen]; exact hl,fun l hl hr=>jn l (by rw[hlen]; exact hl) hr⟩
 rcases hE.new g hg h with (h|⟨l,b,p,o,hl,hb,ax,hm,hp,ha⟩)|h
 ·exact .inl h
 ·cases qA:b.m with
  | w=>exact .inr ⟨l,b,p,o,hb,ax,qA,hp,ha⟩
  | p=>rw[qA] at hm; cases hm
  | r =>
   obtain⟨arr,ty,fr,_,ho⟩:=(hH.dX l b hb ax).place hp ha
   exact .inl (ho.2 qA)
 ·exact .inr (F_ h)
end
def xC:List PV->List PV->Prop
 | [],[]=>True
 | .agg cs::es,.agg ds::tE=>iC pQ cs ds/\xC es tE
 | _,_=>False
theorem sC {r:PV->PV->Prop}:∀ {cs ds:List PV},iC r cs ds->cs.length=ds.length
 | [],[],_=>rfl
 | x::xs,y::ys,h=>by rw[List.length_cons,List.length_cons,sC h.2]
 | [],_::_,h=>h.elim
 | _::_,[],h=>h.elim
theorem vI {w:World} {I:Nat->Prop}:∀ {cs ds:List PV} {g o:Nat},iC pQ cs ds->bQ w I cs g o->bQ w I ds g o
 | [],[],_,_,_,h=>h
 | c::cs,d::ds,g,o,h,ha=>by
  simp only[bQ] at ha ⊢
  obtain⟨⟨v,h1,h2,h3⟩,h4⟩:=ha
  exact⟨⟨v,h1,kK h.1 w I _ v h2,h3⟩,vI h.2 h4⟩
 | [],_::_,_,_,h,_=>h.elim
 | _::_,[],_,_,h,_=>h.elim
theorem vJ {w:World} {I:Nat->Prop} {n:Nat}:∀ {es tE:List PV} {g o:Nat},xC es tE->bp w I es n g o->bp w I tE n g o
 | [],[],_,_,_,h=>h
 | .agg cs::es,.agg ds::tE,g,o,h,ha=>by
  simp only[xC] at h
  simp only[bp] at ha ⊢
  exact⟨⟨by rw[← sC h.1]; exact ha.1.1,vI h.1 ha.1.2⟩,vJ h.2 ha.2⟩
 | [],y::tE,_,_,h,_=>by cases y<;>exact h.elim
 | x::es,[],_,_,h,_=>by cases x<;>exact h.elim
theorem sD:∀ {es tE:List PV},xC es tE->es.length=tE.length
 | [],[],_=>rfl
 | .agg cs::es,.agg ds::tE,h=>by rw[List.length_cons,List.length_cons,sD h.2]
 | [],y::tE,h=>by cases y<;>exact h.elim
 | x::es,[],h=>by cases x<;>exact h.elim
theorem E3 {n:Nat} {es tE:List PV} (h:xC es tE):oH (.sl n es) (.sl n tE):=fun w I β v hv=>by
 simp only[PV.Is] at hv ⊢
 obtain⟨a,cap,h1,h2,h3,h4,h5⟩:=hv
 rw[sD h] at h1 h2 h3 h5
 exact⟨a,cap,h1,h2,h3,fun g o e=>vJ h (h4 g o e),h5⟩
theorem Spec.E4 {G:Gx} {f:FuncId} {args aR:List PV} {S:List aj} {rl:List Nat} {K:PV->List aj->Prop} (h:Spec G f aR S rl K) (hle:iC oH args aR):Spec G f args S rl K :=
 Spec.intro h.run.1 fun I β w aS hH hM hA=>h.run.2 I β w aS hH hM (eR (fun _ _ h=>h) hle hA)
end Go.Proofs.YtnbhdacpogplgaaGreatDoor.Pw

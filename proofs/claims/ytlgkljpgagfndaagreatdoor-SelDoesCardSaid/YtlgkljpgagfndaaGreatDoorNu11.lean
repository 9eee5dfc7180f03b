/- What this claim is proved with: no condition. -/
import Derived.Test.YtlgkljpgagfndaaGreatDoorNu10
import Derived.Maps.Views
import Derived.Carry
set_option linter.unusedVariables false
set_option linter.unusedSimpArgs false
namespace Go.Proofs.YtlgkljpgagfndaaGreatDoor.Pw
open Go Go.RowKit
def Vb (S:List an) (l:Nat):Bool:=match S[l]? with
 | some b=>b.can
 | none=>false
theorem Mw {S:List an} {l:Nat} (h:Vb S l=true):l < S.length/\∀ b,S[l]?=some b->b.m = .w:=by
 unfold Vb at h
 split at h
 ·rename_i b hb
  refine⟨(List.getElem?_eq_some_iff.1 hb).1,fun b' dw=>?_⟩
  rw[hb] at dw; cases dw
  unfold an.can at h
  simp only[Bool.and_eq_true] at h
  cases hm:b.m with
  | w=>rfl
  | p=>rw[hm] at h; cases h.2
  | r=>rw[hm] at h; cases h.2
 ·cases h
def Pe (rl:List Nat) (b:an):Bool:=match b.k with
 | .dyn=>true
 | .mp=>true
 | _=>b.cs.all fun c=>c.dv.all fun l=>!(ko l rl)
def HW (rl:List Nat) (T:List an):Bool:=T.all (Pe rl)
theorem DX {rl:List Nat} {T:List an} (h:HW rl T=true) {b:an} (hb:b∈T) (hk:b.k.tD=true):∀ c∈b.cs,∀ m∈c.dv,m ∉ rl:=fun c hc m hm hr=>by
 have h1:=List.all_eq_true.1 h b hb
 unfold Pe at h1
 have h2:b.cs.all (fun c=>c.dv.all fun l=>!(ko l rl))=true:=by
  cases cX:b.k with
  | dyn=>rw[cX] at hk; cases hk
  | mp=>rw[cX] at hk; cases hk
  | loc=>rw[cX] at h1; exact h1
  | arr=>rw[cX] at h1; exact h1
 have h3:=List.all_eq_true.1 (List.all_eq_true.1 h2 c hc) m hm
 rw[dY.2 hr] at h3
 cases h3
section
variable {w w':World} {I I':Nat->Prop} {β aU:aB} {G:Gx} {s:ba} {a:Act} {st eU:List an}
theorem bA.B6 {cs:List PV} {arr:Array Value} {o:Nat} (hI:∀ g,I g->I' g) (hw:∀ g,I g->w'.heap[g]?=w.heap[g]?) (hb:∀ c∈cs,∀ l∈c.dv,∀ p,β l=some p->aU l=some p) (h:bA w I β cs arr o):bA w' I' aU cs arr o :=
 fun i c hc=>let ⟨v,h1,h2,h3⟩:=h i c hc; ⟨v,h1,PV.Is.mono hI hw c β aU v (fun l p hl=>hb c (List.mem_of_getElem? hc) l hl p) h2,h3⟩
theorem gz.B6 {l:Nat} {b:an} (hI:∀ g,I g->I' g) (hw:∀ g,I g->w'.heap[g]?=w.heap[g]?) (m4:∀ p,β l=some p->aU l=some p) (hu:b.k.tD=true->∀ c∈b.cs,∀ l∈c.dv,∀ p,β l=some p->aU l=some p)
  (hg:∀ p g o,β l=some p->p.a=some (g,o)->w'.heap[g]?=w.heap[g]?/\(b.m≠.r->¬ I' g/\∀ l' b',l'≠l->eU[l']?=some b'->b'.live=true->∀ p g' o',aU l'=some p->p.a=some (g',o')->g'≠g)) (hb:gz I β st w l b):gz I' aU eU w' l b:=by
 obtain⟨p,hp,hk⟩:=hb
 refine⟨p,m4 p hp,?_⟩
 have own:∀ {g o:Nat} {fr:Nat × Nat},p.a=some (g,o)->Own I β st l g fr b->Own I' aU eU l g fr b:=fun ha ho=>⟨fun hr=>⟨(ho.1 hr).1,(hg p _ _ hp ha).2 hr⟩,fun hr=>hI _ (ho.2 hr)⟩
 split at hk
 ·rename_i cX
  obtain⟨g,o,arr,ty,fr,ha,hh,hc,ho⟩:=hk
  exact⟨g,o,arr,ty,fr,ha,(hg p g o hp ha).1.trans hh,hc.B6 hI hw (hu (by rw[cX]; rfl)),own ha ho⟩
 ·rename_i cX
  obtain⟨g,arr,fr,ha,hh,hc,ho,h1⟩:=hk
  exact⟨g,arr,fr,ha,(hg p g 0 hp ha).1.trans hh,hc.B6 hI hw (hu (by rw[cX]; rfl)),own ha ho,h1⟩
 ·obtain⟨h1,hk⟩:=hk
  refine⟨h1,?_⟩
  rcases hk with h|⟨g,arr,fr,ha,hh,hc,ho,h2⟩
  ·exact .inl h
  ·exact .inr ⟨g,arr,fr,ha,(hg p g 0 hp ha).1.trans hh,cD.mono hI hw _ _ _ _ (hg p g 0 hp ha).1 hc,own ha ho,h2⟩
 ·obtain⟨g,ha,hm,ho⟩:=hk
  exact⟨g,ha,hm.nP (hg p g 0 hp ha).1,own ha ho⟩
theorem Spec.useR {f:FuncId} {args bE:List PV} {r0:PV} {S0 S1:List an} {rl:List Nat} {K:PV->List an->Prop} (h:Spec G f bE S0 rl fun r S'=>r=r0/\S'=S1) (hm:kQ S0 S1=true) (gJ:S0.all (xQ S0.length)=true) (hu:(eO bE).all (fun l=>Nat.blt l S0.length)=true)
  (GH:r0.dv.all (fun l=>Nat.blt l S0.length)=true) (ON:rl.all (fun l=>Vb S0 l)=true) (hle:oa kZ args bE) (hK:GR st S0 fun T=>(bif HW rl T then True else False)/\vN S1 fun S1=>z5 S1 T (K r0)):Spec G f args st rl K:=by
 obtain⟨o6,T,rfl,Ft,hk,GS⟩:=vT hK
 obtain⟨hT,hk⟩:=hk
 replace hT:=(bs hT).1
 replace hk:=vS (oe hk)
 obtain⟨Kx,K7⟩:=ot hm
 refine Spec.intro h.run.1 fun I β w vals hH hM hA=>?_
 let gd:aB:=fun l=>if l < S0.length then β l else none
 have j4:∀ l,l < S0.length->gd l=β l:=fun l hl=>if_pos hl
 have z6:∀ {l p},gd l=some p->l < S0.length/\β l=some p:=fun {l p} h=>by
  by_cases hl:l < S0.length
  ·exact⟨hl,by rw[← j4 l hl]; exact h⟩
  ·have:gd l=none:=if_neg hl
   rw[this] at h; cases h
 have zy:∀ {l:Nat} {b':an},S0[l]?=some b'->l < S0.length/\∃ b,(o6++T)[l]?=some b/\gN b b':=fun {l b'} dw=>by
  have cE:l < S0.length:=(List.getElem?_eq_some_iff.1 dw).1
  have z7:l < o6.length:=by omega
  refine⟨cE,o6[l],by rw[List.getElem?_append_left z7]; simp[z7],GS l _ b' (by simp[z7]) dw⟩
 have low:∀ {l:Nat} {b':an},S0[l]?=some b'->b'.k.tD=true->∀ c∈b'.cs,∀ m∈c.dv,m < S0.length:=fun {l b'} dw hk c hc m mw=>by
  rw[List.all_eq_true] at gJ
  have:=gJ b' (List.mem_of_getElem? dw)
  unfold xQ at this
  have eQ:b'.cs.all (fun c=>c.dv.all fun l=>Nat.blt l S0.length)=true:=by
   cases cX:b'.k with
   | dyn=>rw[cX] at hk; cases hk
   | mp=>rw[cX] at hk; cases hk
   | loc=>rw[cX] at this; exact this
   | arr=>rw[cX] at this; exact this
  rw[List.all_eq_true] at eQ
  have:=eQ c hc
  rw[List.all_eq_true] at this
  exact Nat.le_of_ble_eq_true (this m mw)
 have Ky:aN I gd S0 w:=by
  refine⟨fun l hl=>if_neg (by omega),fun l b' dw aP=>?_⟩
  obtain⟨cE,b,hb,GU⟩:=zy dw
  obtain⟨e1,e2,e3,e4,e5,e6,e7⟩:=df GU
  obtain⟨p,hp,hB⟩:=hH.gM l b hb e4
  have own:∀ {g:Nat} {fr:Nat × Nat},Own I β (o6++T) l g fr b->Own I gd S0 l g fr b':=fun {g fr} ho=>by
   refine⟨fun hr=>?_,fun hr=>ho.2 (by rw[e3]; exact hr)⟩
   obtain⟨h1,h2,h3⟩:=ho.1 (by rw[e3]; exact hr)
   refine⟨h1,h2,fun l2 b2 dk gn bU p2 g2 o2 iB iA=>?_⟩
   obtain⟨_,b3,kv,lL⟩:=zy gn
   exact h3 l2 b3 dk kv (df lL).2.2.2.1 p2 g2 o2 (z6 iB).2 iA
  have cells:b'.k.tD=true->∀ {arr:Array Value} {o:Nat},bA w I β b.cs arr o->bA w I gd b'.cs arr o:=fun hk {arr o} hc i c hi=>by
   have iP:bA w I β b'.cs arr o:=by
    rcases e7 with ⟨hd,_⟩|⟨_,h7⟩
    ·(rw[e6,hk] at hd; cases hd)
    ·exact iR h7 hc
   obtain⟨u,Fp,O0,h1⟩:=iP i c hi
   exact⟨u,Fp,PV.Is.mono (fun _ h=>h) (fun _ _=>rfl) c β gd u (fun m p mw e_=>by rw[j4 m (low dw hk c (List.mem_of_getElem? hi) m mw)]; exact e_) O0,h1⟩
  refine⟨p,by rw[j4 l cE]; exact hp,?_⟩
  split at hB
  ·rename_i cX
   have jq:b'.k = .loc:=by rw[← e6]; exact cX
   obtain⟨g,o,arr,ty,fr,h1,h2,h3,ho⟩:=hB
   rw[jq]
   exact⟨g,o,arr,ty,fr,h1,h2,cells (by rw[jq]; rfl) h3,own ho⟩
  ·rename_i cX
   have jq:b'.k = .arr:=by rw[← e6]; exact cX
   obtain⟨g,arr,fr,h1,h2,h3,ho,h4,h5,h6,h7,h8⟩:=hB
   have hlen:b'.cs.length=b.cs.length:=by
    rcases e7 with ⟨hd,_⟩|⟨_,h9⟩
    ·rw[cX] at hd; cases hd
    ·exact (mg h9).symm
   rw[jq]
   exact⟨g,arr,fr,h1,by rw[← e1]; exact h2,cells (by rw[jq]; rfl) h3,own ho,by rw[hlen,← e2]; exact h4,h5,h6,by rw[← e2]; exact h7,by rw[← e2]; exact h8⟩
  ·rename_i cX
   have jq:b'.k = .dyn:=by rw[← e6]; exact cX
   have iD:b.cs=b'.cs:=by
    rcases e7 with ⟨_,h9⟩|⟨hd,_⟩
    ·exact h9
    ·(rw[cX] at hd; cases hd)
   obtain⟨⟨h1,h2,h3,h4⟩,hB⟩:=hB
   rw[jq]
   refine⟨⟨by rw[← e2]; exact h1,by rw[← iD]; exact h2,h3,h4⟩,?_⟩
   rcases hB with h|⟨g,arr,fr,h5,h6,h7,ho,h8⟩
   ·exact .inl h
   ·exact .inr ⟨g,arr,fr,h5,by rw[← e1]; exact h6,by rw[← iD,← e2]; exact h7,own ho,by rw[← e2]; exact h8⟩
  ·rename_i cX
   have jq:b'.k = .mp:=by rw[← e6]; exact cX
   have iD:b.cs=b'.cs:=by
    rcases e7 with ⟨_,h9⟩|⟨hd,_⟩
    ·exact h9
    ·(rw[cX] at hd; cases hd)
   obtain⟨g,h1,h2,ho⟩:=hB
   rw[jq]
   exact⟨g,h1,by rw[← iD]; exact h2,own ho⟩
 have Qq:bG w I bE gd vals:=by
  have:=jG (fun _ _=>fO) hle hA
  refine bG.mono (fun _ h=>h) (fun _ _=>rfl) bE β gd vals (fun m p mw e_=>?_) this
  rw[List.all_eq_true] at hu
  rw[j4 m (Nat.le_of_ble_eq_true (hu m mw))]; exact e_
 refine (h.run.2 I gd w vals Ky hM Qq).mono fun e w' ⟨v,r,S',I',aU,he,⟨e1,e2⟩,hi,ou,kP,hE,hlen,m4⟩=>?_
 subst e1; subst e2
 have x8:∀ l,l < S0.length->l ∉ rl->aU l=β l:=fun l hl hr=>(m4 l hl hr).trans (j4 l hl)
 let gl:aB:=fun l=>if l < S0.length then aU l else β l
 have DY:∀ l,l < S0.length->gl l=aU l:=fun l hl=>if_pos hl
 have AH:∀ l,¬ l < S0.length->gl l=β l:=fun l hl=>if_neg hl
 have C5:∀ l p,aU l=some p->gl l=some p:=fun l p hp=>by
  have:l < S0.length:=by have:=ou.lt hp; omega
  rw[DY l this]; exact hp
 have xq:∀ l,l∈rl->l < S0.length/\∀ b,S0[l]?=some b->b.m = .w:=fun l hl=>Mw (List.all_eq_true.1 ON l hl)
 have GV:∀ {g},Wr gd S0 g->Wr β (o6++T) g:=fun {g} ⟨l,b,p,o,h1,h2,h3,h4,h5⟩=>by
  obtain⟨cE,b2,eu,GL⟩:=zy h1
  obtain⟨_,_,q3,q4,_⟩:=df GL
  exact⟨l,b2,p,o,eu,q4,by rw[q3]; exact h3,(z6 h4).2,h5⟩
 have C6:∀ {g},Wr gl (S'++T) g->(Wr aU S' g)\/∃ l b p o,S0.length<=l/\(o6++T)[l]?=some b/\b.live=true/\b.m = .w/\β l=some p/\p.a=some (g,o):=fun {g} ⟨l,b,p,o,h1,h2,h3,h4,h5⟩=>by
  by_cases hl:l < S'.length
  ·rw[List.getElem?_append_left hl] at h1
   exact .inl ⟨l,b,p,o,h1,h2,h3,by rw[← DY l (by omega)]; exact h4,h5⟩
  ·rw[List.getElem?_append_right (by omega)] at h1
   refine .inr ⟨l,b,p,o,by omega,?_,h2,h3,by rw[← AH l (by omega)]; exact h4,h5⟩
   rw[List.getElem?_append_right (by omega),Ft,Kx]; exact h1
 
 have apart:∀ {l:Nat} {b:an} {p:o8} {g o:Nat},S0.length<=l->(o6++T)[l]?=some b->b.live=true->β l=some p->p.a=some (g,o)->¬ Wr gd S0 g:=fun {l b p g o} hl hb aP hp ha ⟨l2,b2,p2,o2,h1,h2,h3,h4,h5⟩=>by
  obtain⟨cE,b3,kv,lL⟩:=zy h1
  obtain⟨_,_,q3,q4,_⟩:=df lL
  obtain⟨arr,ty,fr,_,ho⟩:=(hH.gM l2 b3 kv q4).place (z6 h4).2 h5
  exact (ho.1 (by rw[q3,h3]; nofun)).2.2 l b (by omega) hb aP p g o hp ha rfl
 refine⟨v,r,S'++T,I',gl,he,hk,PV.Is.mono (fun _ h=>h) (fun _ _=>rfl) r aU gl v (fun m p _ hp=>C5 m p hp) hi,⟨fun l hl=>by rw[AH l (by simp only[List.length_append] at hl; omega)]; exact hH.qG l (by simp only[List.length_append] at hl ⊢; omega),fun l b hb aP=>?_⟩,kP,⟨hE.os,hE.tape,hE.output,hE.size,fun g hg hn=>hE.block g hg fun h=>hn (GV h),fun g hg h=>?_,hE.ay,fun g hg h=>(hE.new g hg h).imp id GV⟩,by simp only[List.length_append]; omega,fun l _ hr=>by
   by_cases hl:l < S0.length
   ·rw[DY l hl]; exact x8 l hl hr
   ·exact AH l hl⟩
 ·by_cases hl:l < S'.length
  ·rw[List.getElem?_append_left hl] at hb
   have hB:=ou.gM l b hb aP
   refine hB.mono (fun _ h=>h) (fun _ _=>rfl) C5 fun p g o hp ha=>⟨rfl,fun hr=>?_⟩
   obtain⟨arr,ty,fr,hh,ho⟩:=hB.place hp ha
   obtain⟨h1,h2,h3⟩:=ho.1 hr
   refine⟨h2,fun l2 b2 dk eu bU p2 g2 o2 iB iA=>?_⟩
   by_cases gn:l2 < S'.length
   ·rw[List.getElem?_append_left gn] at eu
    exact h3 l2 b2 dk eu bU p2 g2 o2 (by rw[← DY l2 (by omega)]; exact iB) iA
   ·rw[List.getElem?_append_right (by omega)] at eu
    have GW:(o6++T)[l2]?=some b2:=by rw[List.getElem?_append_right (by omega),Ft,Kx]; exact eu
    have DZ:β l2=some p2:=by rw[← AH l2 (by omega)]; exact iB
    have xa:=hH.dW ⟨l2,b2,p2,o2,GW,bU,DZ,iA⟩
    obtain⟨b0,gq⟩:∃ b0,S0[l]?=some b0:=⟨S0[l]'(by omega),by simp[show l < S0.length by omega]⟩
    obtain⟨_,q5⟩:=K7 l b0 b gq hb
    by_cases hlr:l∈rl
    ·intro e
     subst e
     have hw:b.m = .w:=by rw[← q5]; exact (xq l hlr).2 b0 gq
     exact apart (by omega) GW bU DZ iA (hE.wr _ xa ⟨l,b,p,o,hb,aP,hw,hp,ha⟩)
    ·obtain⟨_,b3,kv,lL⟩:=zy gq
     obtain⟨_,_,q3,q4,_⟩:=df lL
     have Ku:β l=some p:=by rw[← x8 l (by omega) hlr]; exact hp
     obtain⟨_,_,_,_,Yb⟩:=(hH.gM l b3 kv q4).place Ku ha
     exact (Yb.1 (by rw[q3,q5]; exact hr)).2.2 l2 b2 dk GW bU p2 g2 o2 DZ iA
  ·rw[List.getElem?_append_right (by omega)] at hb
   have dw:(o6++T)[l]?=some b:=by rw[List.getElem?_append_right (by omega),Ft,Kx]; exact hb
   have hB:=hH.gM l b dw aP
   have same:∀ {p g o},β l=some p->p.a=some (g,o)->g < w.heap.size/\w'.heap[g]?=w.heap[g]?:=fun {p g o} hp ha=>by
    have cE:=hH.dW ⟨l,b,p,o,dw,aP,hp,ha⟩
    exact⟨cE,hE.block g cE (apart (by omega) dw aP hp ha)⟩
   have hTb:=DX hT (List.mem_of_getElem? hb)
   refine hB.B6 hE.ay (fun g hg=>hE.block g (hM.ay g hg) fun hw=>?_) (fun p hp=>by rw[AH l (by omega)]; exact hp) (fun hk c hc m hm p hp=>?_) fun p g o hp ha=>⟨(same hp ha).2,fun hr=>?_⟩
   ·exact Ky.ly hw hg
   ·by_cases hml:m < S0.length
    ·rw[DY m hml,x8 m hml (hTb hk c hc m hm)]; exact hp
    ·rw[AH m hml]; exact hp
   ·obtain⟨arr,ty,fr,hh,ho⟩:=hB.place hp ha
    obtain⟨h1,h2,h3⟩:=ho.1 hr
    refine⟨fun hI=>(hE.new g (same hp ha).1 hI).elim h2 (apart (by omega) dw aP hp ha),fun l2 b2 dk eu bU p2 g2 o2 iB iA=>?_⟩
    have Gm:=(same hp ha).1
    by_cases gn:l2 < S'.length
    ·rw[List.getElem?_append_left gn] at eu
     have DZ:aU l2=some p2:=by rw[← DY l2 (by omega)]; exact iB
     obtain⟨b0,gq⟩:∃ b0,S0[l2]?=some b0:=⟨S0[l2]'(by omega),by simp[show l2 < S0.length by omega]⟩
     by_cases hlr:l2∈rl
     ·intro e
      subst e
      obtain⟨_,q5⟩:=K7 l2 b0 b2 gq eu
      have hw:b2.m = .w:=by rw[← q5]; exact (xq l2 hlr).2 b0 gq
      exact apart (by omega) dw aP hp ha (hE.wr _ Gm ⟨l2,b2,p2,o2,eu,bU,hw,DZ,iA⟩)
     ·obtain⟨_,b3,kv,lL⟩:=zy gq
      exact h3 l2 b3 dk kv (df lL).2.2.2.1 p2 g2 o2 (by rw[← x8 l2 (by omega) hlr]; exact DZ) iA
    ·rw[List.getElem?_append_right (by omega)] at eu
     exact h3 l2 b2 dk (by rw[List.getElem?_append_right (by omega),Ft,Kx]; exact eu) bU p2 g2 o2 (by rw[← AH l2 (by omega)]; exact iB) iA
 ·rcases C6 h with h|⟨l,b,p,o,_,h2,h3,h4,h5,h6⟩
  ·exact GV (hE.wr g hg h)
  ·exact⟨l,b,p,o,h2,h3,h4,h5,h6⟩
def Mx (st:List an) (fz:List Nat) (x:PV):PV:=match x with
 | .wref l=>bif ko l fz then (match st[l]? with
  | some ⟨.dyn,_,n,_,_,cs⟩=>.sl n cs
  | _=>.wref l) else .wref l
 | x=>x
def TM.AI (f:PV->PV):TM->TM
 | .nil=>.nil
 | .node v l r=>.node (match v with
  | some x=>some (f x)
  | none=>none) (l.AI f) (r.AI f)
def ba.Fy (s:ba) (fz:List Nat):ba:=match s with
 | ⟨n,t,st,b,rl⟩=>⟨n,t.AI (Mx st fz),kA fz st,b,rl⟩
theorem TM.sw (f:PV->PV):∀ (t:TM) (n:Nat),(t.AI f).get n=(t.get n).map f
 | .nil,_=>rfl
 | .node v l r,n=>by
  show TM.get (.node (match v with
   | some x=>some (f x)
   | none=>none) (l.AI f) (r.AI f)) n=_
  rw[TM.get,TM.get]
  cases Nat.beq n 0<;>cases Nat.beq (n % 2) 1<;>simp only[cond_true,cond_false]
  ·exact TM.sw f r _
  ·exact TM.sw f l _
  ·cases v<;>rfl
  ·cases v<;>rfl
theorem oK {S:List an} {fz:List Nat} {l:Nat} {b:an} (hb:(kA fz S)[l]?=some b):∃ b0,S[l]?=some b0/\b = { b0 with m:=lK (ko l fz) b0.m }:=by
 unfold kA at hb
 rw[fS,Option.map_eq_some_iff] at hb
 obtain⟨b0,h1,h2⟩:=hb
 rw[Nat.zero_add] at h2
 exact⟨b0,h1,h2.symm⟩
theorem aN.Fy {S:List an} (hH:aN I β S w) (hM:de G I w) {fz:List Nat} (hz:WQ S fz=true):aN (gm I β S fz) β (kA fz S) w:=by
 refine⟨fun l hl=>hH.qG l (by unfold kA at hl; rw[gC] at hl; exact hl),fun l b hb aP=>?_⟩
 obtain⟨b0,gq,rfl⟩:=oK hb
 obtain⟨p,hp,hk⟩:=hH.gM l b0 gq aP
 have uw:∀ g,I g->gm I β S fz g:=fun g h=>.inl h
 have own:∀ {g o:Nat} {fr:Nat × Nat},p.a=some (g,o)->Own I β S l g fr b0->Own (gm I β S fz) β (kA fz S) l g fr { b0 with m:=lK (ko l fz) b0.m }:=fun {g o fr} ha ho=>by
  refine⟨fun hm=>?_,fun hm=>?_⟩
  ·have m0:ko l fz=false/\b0.m≠.r:=by
    cases hc:ko l fz with
    | true=>simp only[hc,lK,cond_true,ne_eq,not_true_eq_false] at hm
    | false=>exact⟨rfl,by simpa only [hc,lK,cond_false] using hm⟩
   obtain⟨h1,h2,h3⟩:=ho.1 m0.2
   refine⟨h1,fun hI=>?_,fun l2 b2 dk gn bU p2 g2 o2 iB iA=>?_⟩
   ·rcases hI with hI|⟨l2,b2,p2,o2,gn,eu,bU,_,iB,iA⟩
    ·exact h2 hI
    ·refine h3 l2 b2 (fun e=>?_) eu bU p2 g o2 iB iA rfl
     subst e
     rw[dY.2 gn] at m0
     cases m0.1
   ·obtain⟨b3,kv,rfl⟩:=oK gn
    exact h3 l2 b3 dk kv bU p2 g2 o2 iB iA
  ·cases hc:ko l fz with
   | true =>
    obtain⟨b1,O5,k1,k2⟩:=z4 hz (dY.1 hc)
    rw[gq] at O5; cases O5
    exact .inr ⟨l,b0,p,o,dY.1 hc,gq,k1,k2,hp,ha⟩
   | false=>exact uw g (ho.2 (by simpa only [hc,lK,cond_false] using hm))
 have Fz:∀ g,I g->w.heap[g]?=w.heap[g]?:=fun _ _=>rfl
 refine⟨p,hp,?_⟩
 split at hk
 ·rename_i cX
  obtain⟨g,o,arr,ty,fr,h1,h2,h3,ho⟩:=hk
  simp only[cX]
  exact⟨g,o,arr,ty,fr,h1,h2,bA.mono uw Fz (fun _ _ h=>h) h3,own h1 ho⟩
 ·rename_i cX
  obtain⟨g,arr,fr,h1,h2,h3,ho,h4⟩:=hk
  simp only[cX]
  exact⟨g,arr,fr,h1,h2,bA.mono uw Fz (fun _ _ h=>h) h3,own h1 ho,h4⟩
 ·rename_i cX
  obtain⟨h1,hk⟩:=hk
  simp only[cX]
  refine⟨h1,?_⟩
  rcases hk with h|⟨g,arr,fr,h2,h3,h4,ho,h5⟩
  ·exact .inl h
  ·exact .inr ⟨g,arr,fr,h2,h3,cD.mono uw Fz _ _ _ _ rfl h4,own h2 ho,h5⟩
 ·rename_i cX
  obtain⟨g,h1,h2,ho⟩:=hk
  simp only[cX]
  exact⟨g,h1,h2,own h1 ho⟩
theorem My {S:List an} (hH:aN I β S w) {fz:List Nat} (hz:WQ S fz=true) {x:PV} {v:Value} (hx:x.Is w I β v):(Mx S fz x).Is w (gm I β S fz) β v:=by
 have nP:∀ y:PV,y.Is w I β v->y.Is w (gm I β S fz) β v:=fun y hy=>PV.Is.mono (fun _ h=>.inl h) (fun _ _=>rfl) y β β v (fun _ _ _ h=>h) hy
 unfold Mx
 split
 ·rename_i l
  cases hc:ko l fz with
  | false=>exact nP _ hx
  | true =>
   obtain⟨b,hb,aP,hm⟩:=z4 hz (dY.1 hc)
   simp only[cond_true]
   split
   ·rename_i _ ty n m live cs hs
    rw[hb] at hs
    cases hs
    have h1:=vR hH (dY.1 hc) hb (n:=n) (es:=cs) (by
     simp only at aP hm
     show (bif live && C1 m && Nat.beq n n then cs=cs else False)
     rw[aP,hm,Nat.beq_refl]; exact rfl) hx
    exact PV.Is.mono (fun _ h=>h) (fun _ _=>rfl) _ no β v (fun l p hl=>by simp[PV.dv] at hl) h1
   ·exact nP _ hx
 ·exact nP _ hx
theorem Sub.freeze (fz:List Nat) (hz:WQ s.st fz=true):Sub G s (s.Fy fz):=fun I β a w hR=>by
 obtain⟨n,t,st,b,rl⟩:=s
 refine⟨gm I β st fz,β,⟨hR.small,hR.defers,hR.size,by show b<=(kA fz st).length; unfold kA; rw[gC]; exact hR.base,fun i x hx=>?_,hR.heap.Fy hR.ay hz,oq hR.heap hR.ay⟩,⟨⟨rfl,rfl,rfl,Nat.le_refl _,fun _ _ _=>rfl,fun g _ h=>?_,fun _ h=>.inl h,fun g _ h=>?_⟩,rfl,rfl,rfl,fun _ _ _=>rfl⟩⟩
 ·have uv:(t.AI (Mx st fz)).get i=some x:=hx
  rw[TM.sw,Option.map_eq_some_iff] at uv
  obtain⟨y,hy,rfl⟩:=uv
  obtain⟨v,hv,hi⟩:=hR.get i y hy
  exact⟨v,hv,My hR.heap hz hi⟩
 ·obtain⟨l,b1,p,o,h1,h2,h3,h4,h5⟩:=h
  obtain⟨b0,gq,rfl⟩:=oK h1
  refine⟨l,b0,p,o,gq,h2,?_,h4,h5⟩
  cases hc:ko l fz with
  | true=>simp only[hc,lK,cond_true] at h3; cases h3
  | false=>simpa only [hc,lK,cond_false] using h3
 ·rcases h with h|⟨l,b1,p,o,hl,hb,aP,hm,hp,ha⟩
  ·exact .inl h
  ·cases rZ:b1.m with
   | w=>exact .inr ⟨l,b1,p,o,hb,aP,rZ,hp,ha⟩
   | p=>rw[rZ] at hm; cases hm
   | r =>
    obtain⟨arr,ty,fr,_,ho⟩:=(hR.heap.gM l b1 hb aP).place hp ha
    exact .inl (ho.2 rZ)
theorem SW.sub {c:Code} {Q:X->ba->Prop} {s s':ba} (h:Sub G s s') (h':SW G c Q s'):SW G c Q s:=SW.intro fun I β a w hR=>by
 obtain⟨I',aU,dm,hg⟩:=h I β a w hR
 exact h'.from dm hg
def ba.bare (s:ba) (vs:List (Nat × PV)) (st:List an):ba:=match s with
 | ⟨n,_,_,b,rl⟩=>⟨n,ig vs .nil,st,b,rl⟩
theorem SW.p_ (hG:m5 G) (R:List (Nat × aS)) {α:Type} {c:Code} {Q:X->ba->Prop} (hc:cr R c=true) (vs:α->List (Nat × PV)) (st:α->List an) (μ:α->Nat) (x0:α) (N:Nat) (OW:gZ) (h0:fD G.cx OW s (s.bare (vs x0) (st x0)))
  (h:∀ x,WM (s.bare (vs x) (st x)) (pw G R N c (rM (fun s'=>∃ y π,μ y < μ x/\fD G.cx π s' (s.bare (vs y) (st y))) Q))):SW G (.loop c) Q s :=
 SW.inv hG (fun x=>s.bare (vs x) (st x)) μ (N:=N) hc x0 (cL hG.ok h0) (fun x s'=>∃ y π,μ y < μ x/\fD G.cx π s' (s.bare (vs y) (st y))) (fun x s' ⟨y,π,hy,hs⟩=>⟨y,hy,cL hG.ok hs⟩) fun x=>rR (h x)
theorem Spec.Kv (hG:m5 G) {f:FuncId} {args:List PV} {S S':List an} {rl:List Nat} {K:PV->List an->Prop} (h:Spec G f args S' rl K) (π:gZ) (hs:fD G.cx π ⟨0,.nil,S,S.length,[]⟩ ⟨0,.nil,S',S.length,[]⟩) (hu:(eO args).all (fun l=>Nat.blt l S.length)=true) (ON:∀ l∈rl,S.length<=l):Spec G f args S [] K:=by
 refine Spec.intro h.run.1 fun I β w vals hH hM hA=>?_
 have hR:Rel G I β ⟨0,.nil,S,S.length,[]⟩ { tmps:=#[],defers:=G.FT } w:=⟨Nat.zero_le _,rfl,rfl,Nat.le_refl _,fun n x hx=>(by cases hx),hH,hM⟩
 obtain⟨I',aU,dm,hg⟩:=cL hG.ok hs I β _ w hR
 have Qq:bG w I' args aU vals:=bG.mono hg.ext.ay (fun g tO=>hg.ext.block g (hM.ay g tO) (fun hw=>hH.ly hw tO)) args β aU vals (fun m p hm hp=>by
  rw[List.all_eq_true] at hu
  rw[hg.low m (Nat.le_of_ble_eq_true (hu m hm)) (by simp)]; exact hp) hA
 have hlen:S.length<=S'.length:=dm.base
 refine (h.run.2 I' aU w vals dm.heap dm.ay Qq).mono fun e w' ⟨v,r,S2,I2,gl,he,hK,hr,hH2,hM2,hE,hl,m4⟩=>?_
 refine⟨v,r,S2,I2,gl,he,hK,hr,hH2,hM2,hg.ext.trans hE,by omega,fun l jT _=>?_⟩
 rw[m4 l (by omega) (fun hm=>by have:=ON l hm; omega)]
 exact hg.low l jT (by simp)
end
def tU (π:gZ) (b:an) (q:an->Prop):Prop:=match b with
 | ⟨.dyn,ty,n,m,live,cs⟩=>q ⟨.dyn,ty,n,m,live,cs⟩
 | ⟨.mp,ty,n,m,live,cs⟩=>q ⟨.mp,ty,n,m,live,cs⟩
 | ⟨k,ty,n,m,live,cs⟩=>bB (gF π cs) fun cs=>q ⟨k,ty,n,m,live,cs⟩
def atK (π:gZ) (st:List an):List Nat->List an->Prop->Prop
 | [],[],k=>k
 | l::σ,b'::S,k=>(bB st[l]? fun b=>tU π b' fun mW=>gN b mW)/\atK π st σ S k
 | _,_,_=>False
def WW (π:gZ):List Nat->List an->List an->(List an->Prop)->Prop
 | [],[],st,k=>k st
 | l::σ,b'::S,st,k=>tU π b' fun mW=>X5 mW fun mW=>xj st l mW fun st=>WW π σ S st k
 | _,_,_,_=>False
def HX (π:gZ):List PV->List PV->Prop
 | [],[]=>True
 | x::xs,y::ys=>(bB (y.Kv π) fun z=>kZ x z)/\HX π xs ys
 | _,_=>False
def lQ:List Nat->Bool
 | []=>true
 | l::σ=>!σ.any (Nat.beq l) && lQ σ
section
variable {w w':World} {I I':Nat->Prop} {β aU:aB} {G:Gx} {s:ba} {a:Act} {st eU:List an}
theorem wv {π:gZ} {b:an} {q:an->Prop} (h:tU π b q):∃ b2,q b2/\b2.k=b.k/\b2.ty=b.ty/\b2.size=b.size/\b2.m=b.m/\b2.live=b.live/\((b.k.tD=false/\b2.cs=b.cs)\/(b.k.tD=true/\gF π b.cs=some b2.cs)):=by
 obtain⟨k,ty,n,m,live,cs⟩:=b
 cases k
 ·obtain⟨ds,h1,h2⟩:=aD h
  exact⟨_,h2,rfl,rfl,rfl,rfl,rfl,.inr ⟨rfl,h1⟩⟩
 ·obtain⟨ds,h1,h2⟩:=aD h
  exact⟨_,h2,rfl,rfl,rfl,rfl,rfl,.inr ⟨rfl,h1⟩⟩
 ·exact⟨_,h,rfl,rfl,rfl,rfl,rfl,.inl ⟨rfl,rfl⟩⟩
 ·exact⟨_,h,rfl,rfl,rfl,rfl,rfl,.inl ⟨rfl,rfl⟩⟩
theorem H' {π:gZ} {st:List an}:∀ {σ:List Nat} {S:List an} {k:Prop},atK π st σ S k->k/\σ.length=S.length/\∀ (i l:Nat) (b':an),σ[i]?=some l->S[i]?=some b'->∃ b,st[l]?=some b/\tU π b' fun mW=>gN b mW
 | [],[],k,h=>⟨h,rfl,fun i l b' hl=>by simp at hl⟩
 | l::σ,b'::S,k,h=>by
  obtain⟨h1,h2⟩:=h
  obtain⟨hk,hl,hh⟩:=H' h2
  obtain⟨b,hb,h1⟩:=aD h1
  refine⟨hk,by simp[hl],fun i m c hm hc=>?_⟩
  cases i with
  | zero=>simp at hm hc; subst hm; subst hc; exact⟨b,hb,h1⟩
  | succ i=>exact hh i m c (by simpa using hm) (by simpa using hc)
 | [],_::_,_,h=>h.elim
 | _::_,[],_,h=>h.elim
theorem uI:∀ {σ:List Nat},lQ σ=true->∀ (i j l:Nat),σ[i]?=some l->σ[j]?=some l->i=j
 | [],_,i,j,l,h,_=>by simp at h
 | m::σ,h,i,j,l,hi,hj=>by
  simp only[lQ,Bool.and_eq_true,Bool.not_eq_true',List.any_eq_false] at h
  have hn:∀ k,σ[k]?=some m->False:=fun k hk=>h.1 m (List.mem_of_getElem? hk) (Nat.beq_refl m)
  cases i with
  | zero=>cases j with
   | zero=>rfl
   | succ j=>simp at hi hj; subst hi; exact (hn j hj).elim
  | succ i=>cases j with
   | zero=>simp at hi hj; subst hj; exact (hn i hi).elim
   | succ j=>simp at hi hj; rw[uI h.2 i j l hi hj]
theorem H_ {π:gZ}:∀ {σ:List Nat} {S:List an} {st:List an} {k:List an->Prop},lQ σ=true->WW π σ S st k->∃ eU,k eU/\eU.length=st.length/\(∀ l,l ∉ σ->eU[l]?=st[l]?)/\∀ (i l:Nat) (b':an),σ[i]?=some l->S[i]?=some b'->tU π b' fun mW=>eU[l]?=some mW
 | [],[],st,k,_,h=>⟨st,h,rfl,fun _ _=>rfl,fun i l b' hl=>by simp at hl⟩
 | l::σ,b'::S,st,k,hd,h=>by
  have Xm:=hd
  simp only[lQ,Bool.and_eq_true,Bool.not_eq_true',List.any_eq_false] at hd
  have a_:l ∉ σ:=fun hm=>hd.1 l hm (Nat.beq_refl l)
  
  have key:∀ {c:an} {q:an->Prop},(tU π b' fun mW=>q mW)->∃ b2,q b2/\∀ q2:an->Prop,q2 b2->tU π b' q2:=fun {c q} hq=>by
   obtain⟨k0,ty,n,m,live,cs⟩:=b'
   cases k0
   ·obtain⟨ds,h1,h2⟩:=aD hq
    exact⟨_,h2,fun q2 Mz=>by show bB (gF π cs) _; rw[h1]; exact Mz⟩
   ·obtain⟨ds,h1,h2⟩:=aD hq
    exact⟨_,h2,fun q2 Mz=>by show bB (gF π cs) _; rw[h1]; exact Mz⟩
   ·exact⟨_,hq,fun q2 Mz=>Mz⟩
   ·exact⟨_,hq,fun q2 Mz=>Mz⟩
  obtain⟨b2,h2,Mz⟩:=key (c:=b') (q:=fun mW=>X5 mW fun mW=>xj st l mW fun st=>WW π σ S st k) h
  obtain⟨cE,h3⟩:=l_ (zY h2)
  obtain⟨eU,hk,hlen,rh,xu⟩:=H_ hd.2 h3
  refine⟨eU,hk,by rw[hlen,List.length_set],fun m hm=>?_,fun i m c hm hc=>?_⟩
  ·rw[rh m (fun hx=>hm (List.mem_cons_of_mem _ hx)),List.getElem?_set_ne (fun e=>hm (by rw[e]; exact List.mem_cons_self))]
  ·cases i with
   | zero =>
    simp at hm hc; subst hm; subst hc
    refine Mz _ ?_
    rw[rh l a_,List.getElem?_set_self cE]
   | succ i=>exact xu i m c (by simpa using hm) (by simpa using hc)
 | [],_::_,_,_,_,h=>h.elim
 | _::_,[],_,_,_,h=>h.elim
theorem B7 {π:gZ}:∀ {xs ys:List PV} {vs:List Value},HX π xs ys->bG w I xs β vs->bG w I ys (iW β π) vs
 | [],[],vs,_,h=>by cases vs with
  | nil=>simp only[bG]
  | cons v vs=>simp only[bG] at h
 | x::xs,y::ys,vs,h,hx=>by
  cases vs with
  | nil=>simp only[bG] at hx
  | cons v vs =>
   simp only[bG] at hx ⊢
   obtain⟨z,hz,hle⟩:=aD h.1
   exact⟨Gz hz (fO hle _ _ _ _ hx.1),B7 h.2 hx.2⟩
 | [],_::_,_,h,_=>h.elim
 | _::_,[],_,h,_=>h.elim
theorem oL {π:gZ} {x y:PV} {v:Value} (h:x.xO π=some y) (hx:x.Is w I (iW β π) v):y.Is w I β v:=by
 unfold PV.xO at h
 split at h
 ·split at h
  ·rename_i m hm
   cases h
   simp only[PV.Is] at hx ⊢
   rw[cH hm] at hx; exact hx
  ·rename_i hm
   cases h
   simp only[PV.Is] at hx ⊢
   obtain⟨p,hp,hv⟩:=hx
   rw[j3 hm] at hp; cases hp; exact hv
  ·cases h
 ·split at h
  ·rename_i m hm
   cases h
   simp only[PV.Is] at hx ⊢
   rw[cH hm] at hx; exact hx
  ·cases h
 ·split at h
  ·rename_i m hm
   cases h
   simp only[PV.Is] at hx ⊢
   rw[cH hm] at hx; exact hx
  ·cases h
 ·split at h
  ·rename_i m hm
   cases h
   simp only[PV.Is] at hx ⊢
   rw[cH hm] at hx; exact hx
  ·cases h
 ·split at h
  ·rename_i m hm
   cases h
   simp only[PV.Is] at hx ⊢
   rw[cH hm] at hx; exact hx
  ·cases h
 ·split at h
  ·rename_i m hm
   cases h
   simp only[PV.Is] at hx ⊢
   rw[cH hm] at hx; exact hx
  ·cases h
 ·cases h
 ·cases h
 ·cases h
 ·cases h
  refine PV.Is.mono (fun _ h=>h) (fun _ _=>rfl) x _ β v (fun l p hl=>?_) hx
  cases x<;>first|(simp_all [PV.dv]; done)|(rename_i a1 a2 a3 a4 a5 a6 a7 a8 a9; first|exact (a4 _ _ _ _ rfl).elim|exact (a5 _ _ _ _ rfl).elim|exact (a6 _ _ _ _ rfl).elim)
theorem ja {π:gZ}:∀ {xs ys:List PV} {i:Nat},gF π xs=some ys->(∀ y,ys[i]?=some y->∃ x,xs[i]?=some x/\x.xO π=some y)/\(∀ x,xs[i]?=some x->∃ y,ys[i]?=some y/\x.xO π=some y)/\ys.length=xs.length
 | [],ys,i,h=>by
  simp only[gF,Option.some.injEq] at h
  subst h
  exact⟨fun y hy=>by simp at hy,fun x hx=>by simp at hx,rfl⟩
 | x::xs,ys,i,h=>by
  simp only[gF] at h
  split at h
  ·rename_i y l h1 h2
   cases h
   obtain⟨a1,a2,a3⟩:=ja (i:=i - 1) h2
   cases i with
   | zero=>exact⟨fun z hz=>by simp at hz; subst hz; exact⟨x,rfl,h1⟩,fun z hz=>by simp at hz; subst hz; exact⟨y,rfl,h1⟩,by simp[a3]⟩
   | succ i=>exact⟨fun z hz=>by simpa using a1 z (by simpa using hz),fun z hz=>by simpa using a2 z (by simpa using hz),by simp[a3]⟩
  ·cases h
theorem gz.tr {l l':Nat} {b b':an} (hb:gz I β st w l b) (m4:∀ p,β l=some p->aU l'=some p) (hI:∀ g,I g->I' g) (hw:∀ g,I g->w'.heap[g]?=w.heap[g]?)
  (hg:∀ p g o,β l=some p->p.a=some (g,o)->w'.heap[g]?=w.heap[g]?) (fR:∀ p g o fr,β l=some p->p.a=some (g,o)->Own I β st l g fr b->Own I' aU eU l' g fr b')
  (hk:b'.k=b.k) (Gl:b'.ty=b.ty) (ga:b'.size=b.size) (iD:b.k.tD=false->b'.cs=b.cs) (hlen:b'.cs.length=b.cs.length)
  (m6:b.k.tD=true->∀ (arr:Array Value) (o:Nat),bA w I β b.cs arr o->bA w' I' aU b'.cs arr o):gz I' aU eU w' l' b':=by
 obtain⟨p,hp,cX⟩:=hb
 refine⟨p,m4 p hp,?_⟩
 rw[hk]
 split at cX
 ·rename_i he
  obtain⟨g,o,arr,ty,fr,ha,hh,hc,ho⟩:=cX
  exact⟨g,o,arr,ty,fr,ha,(hg p g o hp ha).trans hh,m6 (by rw[he]; rfl) arr o hc,fR p g o fr hp ha ho⟩
 ·rename_i he
  obtain⟨g,arr,fr,ha,hh,hc,ho,h1,h2,h3,h4,h5⟩:=cX
  exact⟨g,arr,fr,ha,by rw[Gl]; exact (hg p g 0 hp ha).trans hh,m6 (by rw[he]; rfl) arr 0 hc,fR p g 0 fr hp ha ho,by rw[hlen,ga]; exact h1,h2,h3,by rw[ga]; exact h4,by rw[ga]; exact h5⟩
 ·rename_i he
  obtain⟨⟨h1,h2,h3,h4⟩,cX⟩:=cX
  have iP:=iD (by rw[he]; rfl)
  refine⟨⟨by rw[ga]; exact h1,by rw[iP]; exact h2,h3,h4⟩,?_⟩
  rcases cX with h|⟨g,arr,fr,ha,hh,hc,ho,h5⟩
  ·exact .inl h
  ·exact .inr ⟨g,arr,fr,ha,by rw[Gl]; exact (hg p g 0 hp ha).trans hh,by rw[iP,ga]; exact cD.mono hI hw _ _ _ _ (hg p g 0 hp ha) hc,fR p g 0 fr hp ha ho,by rw[ga]; exact h5⟩
 ·rename_i he
  obtain⟨g,ha,hm,ho⟩:=cX
  have iP:=iD (by rw[he]; rfl)
  exact⟨g,ha,by rw[iP]; exact hm.nP (hg p g 0 hp ha),fR p g 0 _ hp ha ho⟩
theorem Spec.useP {f:FuncId} {args bE:List PV} {r0:PV} {S0 S1:List an} {K:PV->List an->Prop} (σ:List Nat) (h:Spec G f bE S0 [] fun r S'=>r=r0/\S'=S1) (hm:kQ S0 S1=true) (GH:r0.dv = []) (hσ:lQ σ=true)
  (hle:HX (σ.map some) args bE) (hK:atK (σ.map some) st σ S0 (WW (σ.map some) σ S1 st (K r0))):Spec G f args st [] K:=by
 obtain⟨hk,Ft,hat⟩:=H' hK
 obtain⟨eU,tN,hlen',rh,xu⟩:=H_ hσ hk
 obtain⟨Kx,K7⟩:=ot hm
 have hdup:=uI hσ
 have Kw:∀ {i l:Nat},σ[i]?=some l->(σ.map some)[i]?=some (some l):=fun {i l} h=>by rw[List.getElem?_map,h]; rfl
 refine Spec.intro h.run.1 fun I β w vals hH hM hA=>?_
 obtain⟨gd,Ia⟩:∃ gd:aB,gd=iW β (σ.map some):=⟨_,rfl⟩
 have j4:∀ {i l:Nat},σ[i]?=some l->gd i=β l:=fun {i l} h=>by rw[Ia]; exact cH (Kw h)
 have hβo:∀ {i:Nat},S0.length<=i->gd i=none:=fun {i} h=>by
  rw[Ia]; unfold iW; rw[List.getElem?_eq_none (by rw[List.length_map]; omega)]
 have idx:∀ {i:Nat},i < S0.length->∃ l,σ[i]?=some l:=fun {i} h=>⟨σ[i]'(by omega),List.getElem?_eq_getElem (by omega)⟩
 have zy:∀ {i:Nat} {b':an},S0[i]?=some b'->∃ l b b2,σ[i]?=some l/\st[l]?=some b/\gN b b2/\b2.k=b'.k/\b2.ty=b'.ty/\b2.size=b'.size/\b2.m=b'.m/\b2.live=b'.live/\((b'.k.tD=false/\b2.cs=b'.cs)\/(b'.k.tD=true/\gF (σ.map some) b'.cs=some b2.cs)):=fun {i b'} dw=>by
  obtain⟨l,hl⟩:=idx (List.getElem?_eq_some_iff.1 dw).1
  obtain⟨b,hb,hr⟩:=hat i l b' hl dw
  obtain⟨b2,h1,h2⟩:=wv hr
  exact⟨l,b,b2,hl,hb,h1,h2⟩
 
 have Ib:∀ {i:Nat} {b':an},S0[i]?=some b'->∃ l b,σ[i]?=some l/\st[l]?=some b/\b.live=true/\b.m=b'.m:=fun {i b'} dw=>by
  obtain⟨l,b,b2,hl,hb,h1,h2,h3,h4,h5,h6,h7⟩:=zy dw
  obtain⟨e1,e2,e3,e4,e5,e6,e7⟩:=df h1
  exact⟨l,b,hl,hb,e4,e3.trans h5⟩
 have Ky:aN I gd S0 w:=by
  refine⟨fun i hi=>hβo hi,fun i b' dw aP=>?_⟩
  obtain⟨l,b,b2,hl,hb,h1,h2,h3,h4,h5,h6,h7⟩:=zy dw
  obtain⟨e1,e2,e3,e4,e5,e6,e7⟩:=df h1
  have hB:=hH.gM l b hb e4
  refine hB.tr (fun p hp=>(j4 hl).trans hp) (fun _ h=>h) (fun _ _=>rfl) (fun _ _ _ _ _=>rfl) (fun p g o fr hp ha ho=>⟨fun hr=>?_,fun hr=>ho.2 (by rw[e3,h5]; exact hr)⟩) (h2.symm.trans e6.symm) (h3.symm.trans e1.symm) (h4.symm.trans e2.symm) (fun hc=>?_) ?_ (fun hc arr o qK=>?_)
  ·obtain⟨q1,q2,q3⟩:=ho.1 (by rw[e3,h5]; exact hr)
   refine⟨q1,q2,fun i2 b2' dk eu bU p2 g2 o2 iB iA=>?_⟩
   obtain⟨l2,b3,gn,kv,Ic,_⟩:=Ib eu
   exact q3 l2 b3 (fun e=>dk (hdup i2 i l (by rw[← e]; exact gn) hl)) kv Ic p2 g2 o2 ((j4 gn).symm.trans iB) iA
  ·rcases h7 with ⟨_,h7⟩|⟨h7,_⟩
   ·rcases e7 with ⟨_,e7⟩|⟨e7,_⟩
    ·rw[← h7,e7]
    ·rw[hc] at e7; cases e7
   ·rw[← h2,← e6,hc] at h7; cases h7
  ·have:b2.cs.length=b.cs.length:=by
    rcases e7 with ⟨_,e7⟩|⟨_,e7⟩
    ·rw[e7]
    ·exact (mg e7).symm
   rcases h7 with ⟨_,h7⟩|⟨_,h7⟩
   ·rw[← h7,this]
   ·rw[← (ja (i:=0) h7).2.2,this]
  ·have hca2:bA w I β b2.cs arr o:=by
    rcases e7 with ⟨hd,_⟩|⟨_,h8⟩
    ·rw[hc] at hd; cases hd
    ·exact iR h8 qK
   rcases h7 with ⟨hd,_⟩|⟨_,h7⟩
   ·rw[← h2,← e6,hc] at hd; cases hd
   ·intro j c hj
    obtain⟨y,hy,D0⟩:=(ja (i:=j) h7).2.1 c hj
    obtain⟨v,hv,hi,h1⟩:=hca2 j y hy
    exact⟨v,hv,by rw[Ia]; exact qM D0 hi,h1⟩
 have Qq:bG w I bE gd vals:=by rw[Ia]; exact B7 hle hA
 refine (h.run.2 I gd w vals Ky hM Qq).mono fun e w' ⟨v,r,S',I',aU,he,⟨e1,e2⟩,hi,ou,kP,hE,hlen,m4⟩=>?_
 subst e1; subst e2
 obtain rfl:aU=gd:=funext fun i=>by
  by_cases hi:i < S0.length
  ·exact m4 i hi (by simp)
  ·rw[hβo (by omega),ou.qG i (by omega)]
 have mem:∀ {l:Nat},l∈σ->∃ i,σ[i]?=some l/\i < S0.length:=fun {l} hl=>by
  obtain⟨i,hi,e⟩:=List.getElem_of_mem hl
  exact⟨i,by rw[List.getElem?_eq_getElem hi,e],by omega⟩
 have GV:∀ {g},Wr aU S0 g->Wr β st g:=fun {g} ⟨i,b,p,o,h1,h2,h3,h4,h5⟩=>by
  obtain⟨l,b2,hl,eu,OT,rZ⟩:=Ib h1
  exact⟨l,b2,p,o,eu,OT,by rw[rZ]; exact h3,(j4 hl).symm.trans h4,h5⟩
 
 have apart:∀ {l:Nat} {b:an} {p:o8} {g o:Nat},l ∉ σ->st[l]?=some b->b.live=true->β l=some p->p.a=some (g,o)->¬ Wr aU S0 g:=fun {l b p g o} hl hb aP hp ha ⟨i,b2,p2,o2,h1,h2,h3,h4,h5⟩=>by
  obtain⟨l2,b3,gn,kv,OT,rZ⟩:=Ib h1
  obtain⟨arr,ty,fr,ho⟩:=(hH.gM l2 b3 kv OT).place ((j4 gn).symm.trans h4) h5
  exact (ho.2.1 (by rw[rZ,h3]; nofun)).2.2 l b (fun e=>hl (e ▸ List.mem_of_getElem? gn)) hb aP p g o hp ha rfl
 
 have new:∀ {i l:Nat} {b':an},σ[i]?=some l->S'[i]?=some b'->∃ b2,eU[l]?=some b2/\b2.k=b'.k/\b2.ty=b'.ty/\b2.size=b'.size/\b2.m=b'.m/\b2.live=b'.live/\((b'.k.tD=false/\b2.cs=b'.cs)\/(b'.k.tD=true/\gF (σ.map some) b'.cs=some b2.cs)):=fun {i l b'} hl dw=>wv (xu i l b' hl dw)
 have inS:∀ {i:Nat},i < S0.length->∃ b',S'[i]?=some b':=fun {i} h=>⟨S'[i]'(by omega),List.getElem?_eq_getElem (by omega)⟩
 have C6:∀ {g},Wr β eU g->(Wr aU S' g)\/∃ l b p o,l ∉ σ/\st[l]?=some b/\b.live=true/\b.m = .w/\β l=some p/\p.a=some (g,o):=fun {g} ⟨l,b,p,o,h1,h2,h3,h4,h5⟩=>by
  by_cases hl:l∈σ
  ·obtain⟨i,hi,cE⟩:=mem hl
   obtain⟨b',dw⟩:=inS cE
   obtain⟨b2,eu,q1,q2,q3,q4,q5,_⟩:=new hi dw
   rw[eu] at h1
   cases h1
   exact .inl ⟨i,b',p,o,dw,by rw[← q5]; exact h2,by rw[← q4]; exact h3,(j4 hi).trans h4,h5⟩
  ·exact .inr ⟨l,b,p,o,hl,(rh l hl).symm.trans h1,h2,h3,h4,h5⟩
 refine⟨v,r,eU,I',β,he,tN,mh GH hi,⟨fun l hl=>hH.qG l (by omega),fun l b hb aP=>?_⟩,kP,⟨hE.os,hE.tape,hE.output,hE.size,fun g hg hn=>hE.block g hg fun h=>hn (GV h),fun g hg h=>?_,hE.ay,fun g hg h=>(hE.new g hg h).imp id GV⟩,by omega,fun _ _ _=>rfl⟩
 ·by_cases hl:l∈σ
  ·obtain⟨i,hi,cE⟩:=mem hl
   obtain⟨b',dw⟩:=inS cE
   obtain⟨b2,eu,q1,q2,q3,q4,q5,q6⟩:=new hi dw
   rw[eu] at hb
   cases hb
   have hB:=ou.gM i b' dw (by rw[← q5]; exact aP)
   refine hB.tr (fun p hp=>(j4 hi).symm.trans hp) (fun _ h=>h) (fun _ _=>rfl) (fun _ _ _ _ _=>rfl) (fun p g o fr hp ha ho=>⟨fun hr=>?_,fun hr=>ho.2 (by rw[← q4]; exact hr)⟩) q1 q2 q3 (fun hc=>?_) ?_ (fun hc arr o qK=>?_)
   ·obtain⟨x1,x2,x3⟩:=ho.1 (by rw[← q4]; exact hr)
    refine⟨x1,x2,fun l2 c2 dk iP bU p2 g2 o2 iB iA=>?_⟩
    by_cases gn:l2∈σ
    ·obtain⟨i2,vB,zN⟩:=mem gn
     obtain⟨b3',hb3'⟩:=inS zN
     obtain⟨b3,kv,_,_,_,_,y5,_⟩:=new vB hb3'
     rw[kv] at iP
     cases iP
     exact x3 i2 b3' (fun e=>dk (Option.some.inj (by rw[← hi,← vB,e]))) hb3' (by rw[← y5]; exact bU) p2 g2 o2 ((j4 vB).trans iB) iA
    ·have hc2':st[l2]?=some c2:=(rh l2 gn).symm.trans iP
     obtain⟨b0,gq⟩:∃ b0,S0[i]?=some b0:=⟨S0[i]'cE,List.getElem?_eq_getElem cE⟩
     obtain⟨l3,b3,Kp,kv,Ic,hmm3⟩:=Ib gq
     obtain rfl:l3=l:=Option.some.inj (Kp.symm.trans hi)
     obtain⟨_,q7⟩:=K7 i b0 b' gq dw
     obtain⟨_,_,fr3,_,Yb⟩:=(hH.gM l3 b3 kv Ic).place ((j4 hi).symm.trans hp) ha
     exact (Yb.1 (by rw[hmm3,q7,← q4]; exact hr)).2.2 l2 c2 dk hc2' bU p2 g2 o2 iB iA
   ·rcases q6 with ⟨_,q6⟩|⟨q6,_⟩
    ·exact q6
    ·rw[hc] at q6; cases q6
   ·rcases q6 with ⟨_,q6⟩|⟨_,q6⟩
    ·rw[q6]
    ·exact (ja (i:=0) q6).2.2
   ·rcases q6 with ⟨hd,_⟩|⟨_,q6⟩
    ·rw[hc] at hd; cases hd
    ·intro j c hj
     obtain⟨y,hy,D0⟩:=(ja (i:=j) q6).1 c hj
     obtain⟨u,hu,hiu,h1⟩:=qK j y hy
     exact⟨u,hu,oL D0 (by rw[← Ia]; exact hiu),h1⟩
  ·have dw:st[l]?=some b:=(rh l hl).symm.trans hb
   have hB:=hH.gM l b dw aP
   have same:∀ {p g o},β l=some p->p.a=some (g,o)->g < w.heap.size/\w'.heap[g]?=w.heap[g]?:=fun {p g o} hp ha=>by
    have cE:=hH.dW ⟨l,b,p,o,dw,aP,hp,ha⟩
    exact⟨cE,hE.block g cE (apart hl dw aP hp ha)⟩
   refine hB.mono hE.ay (fun g hg=>hE.block g (hM.ay g hg) fun hw=>?_) (fun _ _ h=>h) fun p g o hp ha=>⟨(same hp ha).2,fun hr=>?_⟩
   ·exact Ky.ly hw hg
   ·obtain⟨arr,ty,fr,hh,ho⟩:=hB.place hp ha
    obtain⟨h1,h2,h3⟩:=ho.1 hr
    refine⟨fun hI=>(hE.new g (same hp ha).1 hI).elim h2 (apart hl dw aP hp ha),fun l2 b2 dk eu bU p2 g2 o2 iB iA=>?_⟩
    by_cases gn:l2∈σ
    ·obtain⟨i2,vB,zN⟩:=mem gn
     obtain⟨b0,gq⟩:∃ b0,S0[i2]?=some b0:=⟨S0[i2]'zN,List.getElem?_eq_getElem zN⟩
     obtain⟨l3,b3,Kp,kv,Ic,_⟩:=Ib gq
     obtain rfl:l3=l2:=Option.some.inj (Kp.symm.trans vB)
     exact h3 l3 b3 dk kv Ic p2 g2 o2 iB iA
    ·exact h3 l2 b2 dk ((rh l2 gn).symm.trans eu) bU p2 g2 o2 iB iA
 ·rcases C6 h with h|⟨l,b,p,o,_,h2,h3,h4,h5,h6⟩
  ·exact GV (hE.wr g hg h)
  ·exact⟨l,b,p,o,h2,h3,h4,h5,h6⟩
end
def Pf:Nat->Nat->gZ
 | _,0=>[]
 | n,k+1=>some n::Pf (n+1) k
def yF (π:gZ):List PV->Option (List PV)
 | []=>some []
 | c::cs=>(match c.Kv π,yF π cs with
  | some x,some l=>some (x::l)
  | _,_=>none)
def PV.Vc (π:gZ) (x:PV):Option PV:=match x with
 | .tup cs=>(yF π cs).map .tup
 | x=>x.Kv π
def Vd (π:gZ):List an->List an->(List an->Prop)->Prop
 | [],st,k=>k st
 | b::S,st,k=>tU π b fun b=>X5 b fun b=>zG st b fun st=>Vd π S st k
section
variable {w w':World} {I I':Nat->Prop} {β aU:aB} {G:Gx} {s:ba} {a:Act} {st eU:List an}
theorem wx:∀ {k n i:Nat},(Pf n k)[i]?=if i < k then some (some (n+i)) else none
 | 0,n,i=>by simp[Pf]
 | k+1,n,0=>by simp[Pf]
 | k+1,n,i+1=>by
  rw[Pf,List.getElem?_cons_succ,wx]
  simp only[Nat.add_lt_add_iff_right,show n+1+i=n+(i+1) by omega]
theorem sA {π:gZ}:∀ {xs ys:List PV} {vs:List Value},gF π xs=some ys->bG w I xs (iW β π) vs->bG w I ys β vs
 | [],ys,vs,h,hx=>by
  simp only[gF,Option.some.injEq] at h
  subst h
  cases vs with
  | nil=>simp only[bG]
  | cons v vs=>simp only[bG] at hx
 | x::xs,ys,vs,h,hx=>by
  simp only[gF] at h
  split at h
  ·rename_i y l h1 h2
   cases h
   cases vs with
   | nil=>simp only[bG] at hx
   | cons v vs =>
    simp only[bG] at hx ⊢
    exact⟨oL h1 hx.1,sA h2 hx.2⟩
  ·cases h
theorem B8 {π:gZ} {x y:PV} {v:Value} (h:x.Kv π=some y) (hx:x.Is w I (iW β π) v):y.Is w I β v:=by
 unfold PV.Kv at h
 split at h
 ·rw[Option.map_eq_some_iff] at h
  obtain⟨l,hl,rfl⟩:=h
  simp only[PV.Is] at hx ⊢
  obtain⟨vs,rfl,hx⟩:=hx
  exact⟨vs,rfl,sA hl hx⟩
 ·rw[Option.map_eq_some_iff] at h
  obtain⟨l,hl,rfl⟩:=h
  simp only[PV.Is] at hx ⊢
  obtain⟨vs,rfl,hx⟩:=hx
  exact⟨vs,rfl,sA hl hx⟩
 ·cases h
 ·exact oL h hx
theorem uJ {π:gZ}:∀ {xs ys:List PV} {vs:List Value},yF π xs=some ys->bG w I xs (iW β π) vs->bG w I ys β vs
 | [],ys,vs,h,hx=>by
  simp only[yF,Option.some.injEq] at h
  subst h
  cases vs with
  | nil=>simp only[bG]
  | cons v vs=>simp only[bG] at hx
 | x::xs,ys,vs,h,hx=>by
  simp only[yF] at h
  split at h
  ·rename_i y l h1 h2
   cases h
   cases vs with
   | nil=>simp only[bG] at hx
   | cons v vs =>
    simp only[bG] at hx ⊢
    exact⟨B8 h1 hx.1,uJ h2 hx.2⟩
  ·cases h
theorem Ie {π:gZ} {x y:PV} {v:Value} (h:x.Vc π=some y) (hx:x.Is w I (iW β π) v):y.Is w I β v:=by
 unfold PV.Vc at h
 split at h
 ·rw[Option.map_eq_some_iff] at h
  obtain⟨l,hl,rfl⟩:=h
  simp only[PV.Is] at hx ⊢
  obtain⟨vs,rfl,hx⟩:=hx
  exact⟨vs,rfl,uJ hl hx⟩
 ·exact B8 h hx
theorem B9:∀ {l:List an} {b:an} {q:List an->Prop},zG l b q->q (l++[b])
 | [],_,_,h=>h
 | c::l,b,q,h=>B9 (l:=l) (q:=fun x=>q (c::x)) h
theorem B' {π:gZ}:∀ {S st:List an} {k:List an->Prop},Vd π S st k->∃ S2,k (st++S2)/\S2.length=S.length/\∀ (i:Nat) (b:an),S[i]?=some b->∃ b2,S2[i]?=some b2/\b2.k=b.k/\b2.ty=b.ty/\b2.size=b.size/\b2.m=b.m/\b2.live=b.live/\((b.k.tD=false/\b2.cs=b.cs)\/(b.k.tD=true/\gF π b.cs=some b2.cs))
 | [],st,k,h=>⟨[],by rw[List.append_nil]; exact h,rfl,fun i b hb=>by simp at hb⟩
 | c::S,st,k,h=>by
  obtain⟨b2,h1,h2⟩:=wv h
  obtain⟨S2,hk,hl,hh⟩:=B' (B9 (zY h1))
  refine⟨b2::S2,by rw[List.append_assoc] at hk; exact hk,by simp[hl],fun i b hb=>?_⟩
  cases i with
  | zero=>simp at hb; subst hb; exact⟨b2,rfl,h2⟩
  | succ i=>simpa using hh i b (by simpa using hb)
theorem Spec.MA {f:FuncId} {args bE:List PV} {r0:PV} {S1:List an} {K:PV->List an->Prop} (h:Spec G f bE [] [] fun r S'=>r=r0/\S'=S1) (eQ:S1.all (fun b=>b.live && Md.beq b.m .w)=true) (hle:oa kZ args bE) (hu:eO bE = [])
  (hK:lz st 0 fun n=>Vd (Pf n S1.length) S1 st fun qp=>bB (r0.Vc (Pf n S1.length)) fun r=>K r qp):Spec G f args st [] K:=by
 replace hK:=gY hK
 rw[Nat.zero_add] at hK
 obtain⟨S2,hk,hlen,hnew⟩:=B' hK
 obtain⟨r2,hr2,tN⟩:=aD hk
 refine Spec.intro h.run.1 fun I β w vals hH hM hA=>?_
 have h0:aN I (fun _=>none) ([]:List an) w:=⟨fun _ _=>rfl,fun l b hl=>by simp at hl⟩
 refine (h.run.2 I (fun _=>none) w vals h0 hM (kx hu (jG (fun _ _=>fO) hle hA))).mono fun e w' ⟨v,r,S',I',ll,he,⟨e1,e2⟩,hi,ou,kP,hE,_,_⟩=>?_
 subst e1; subst e2
 have Fv:∀ g,¬ Wr (fun _=>none) ([]:List an) g:=fun g ⟨l,b,p,o,h1,_⟩=>by simp at h1
 have hold:∀ g,g < w.heap.size->w'.heap[g]?=w.heap[g]?:=fun g hg=>hE.block g hg (Fv g)
 have GI:∀ g,g < w.heap.size->I' g->I g:=fun g hg h=>(hE.new g hg h).elim id fun h=>absurd h (Fv g)
 have hlw:∀ {i:Nat} {b:an},S'[i]?=some b->b.live=true/\b.m = .w:=fun {i b} hb=>by
  rw[List.all_eq_true] at eQ
  have:=eQ b (List.mem_of_getElem? hb)
  simp only[Bool.and_eq_true] at this
  exact⟨this.1,Md.m_ this.2⟩
 have gb:∀ {i:Nat} {p:o8} {g o:Nat},ll i=some p->p.a=some (g,o)->w.heap.size<=g:=fun {i p g o} hp ha=>by
  have cE:=ou.lt hp
  obtain⟨b,hb⟩:∃ b,S'[i]?=some b:=⟨S'[i],List.getElem?_eq_getElem cE⟩
  rcases Nat.lt_or_ge g w.heap.size with hg|hg
  ·exact absurd (hE.wr g hg ⟨i,b,p,o,hb,(hlw hb).1,(hlw hb).2,hp,ha⟩) (Fv g)
  ·exact hg
 obtain⟨gl,eβ⟩:∃ gl:aB,gl=fun l=>if l < st.length then β l else ll (l - st.length):=⟨_,rfl⟩
 have MB:∀ {l},l < st.length->gl l=β l:=fun {l} h=>by rw[eβ]; exact if_pos h
 have Pg:∀ {i},gl (st.length+i)=ll i:=fun {i}=>by rw[eβ]; show (if st.length+i < st.length then _ else _)=_; rw[if_neg (by omega),Nat.add_sub_cancel_left]
 have D0:iW gl (Pf st.length S'.length)=ll:=funext fun i=>by
  by_cases h:i < S'.length
  ·rw[cH (m:=st.length+i) (by rw[wx,if_pos h]),Pg]
  ·unfold iW
   rw[wx,if_neg h]
   exact (ou.qG i (by omega)).symm
 have hmono:∀ l p,β l=some p->gl l=some p:=fun l p hp=>by rw[MB (hH.lt hp)]; exact hp
 have gJ:∀ g,jV β st g->g < w.heap.size:=fun g hg=>hH.dW hg
 refine⟨v,r2,st++S2,I',gl,he,tN,Ie hr2 (by rw[D0]; exact hi),⟨fun l hl=>?_,fun l b hb aP=>?_⟩,kP,⟨hE.os,hE.tape,hE.output,hE.size,fun g hg _=>hold g hg,fun g hg ⟨l,b,p,o,h1,h2,h3,h4,h5⟩=>?_,hE.ay,fun g hg h=>.inl (GI g hg h)⟩,by simp,fun l hl _=>MB hl⟩
 ·rw[List.length_append] at hl
  have:=Pg (i:=l - st.length)
  rw[show st.length+(l - st.length)=l by omega] at this
  rw[this]; exact ou.qG _ (by omega)
 ·by_cases hl:l < st.length
  ·rw[List.getElem?_append_left hl] at hb
   have hB:=hH.gM l b hb aP
   refine hB.mono hE.ay (fun g hg=>hold g (hM.ay g hg)) hmono fun p g o hp ha=>?_
   obtain⟨arr,ty,fr,hh,ho⟩:=hB.place hp ha
   have cE:=bT hh
   refine⟨hold g cE,fun hr=>⟨fun hI=>(ho.1 hr).2.1 (GI g cE hI),fun l' b' dk dw fA p' g' o' e_ dH=>?_⟩⟩
   by_cases jT:l' < st.length
   ·rw[List.getElem?_append_left jT] at dw
    exact (ho.1 hr).2.2 l' b' dk dw fA p' g' o' (by rw[← MB jT]; exact e_) dH
   ·have e:=Pg (i:=l' - st.length)
    rw[show st.length+(l' - st.length)=l' by omega] at e
    have:=gb (by rw[← e]; exact e_) dH
    omega
  ·obtain⟨i,rfl⟩:∃ i,l=st.length+i:=⟨l - st.length,by omega⟩
   rw[List.getElem?_append_right (by omega),Nat.add_sub_cancel_left] at hb
   have cE:i < S'.length:=by rw[← hlen]; exact (List.getElem?_eq_some_iff.1 hb).1
   obtain⟨b',dw⟩:∃ b,S'[i]?=some b:=⟨S'[i],List.getElem?_eq_getElem cE⟩
   obtain⟨b2,eu,q1,q2,q3,q4,q5,q6⟩:=hnew i b' dw
   obtain rfl:b2=b:=Option.some.inj (eu.symm.trans hb)
   have hB:=ou.gM i b' dw (hlw dw).1
   refine hB.tr (fun p hp=>by rw[Pg]; exact hp) (fun _ h=>h) (fun _ _=>rfl) (fun _ _ _ _ _=>rfl) (fun p g o fr hp ha ho=>⟨fun hr=>?_,fun hr=>ho.2 (by rw[← q4]; exact hr)⟩) q1 q2 q3 (fun hc=>?_) ?_ (fun hc arr o qK=>?_)
   ·obtain⟨x1,x2,x3⟩:=ho.1 (by rw[← q4]; exact hr)
    refine⟨x1,x2,fun l2 c2 dk iP bU p2 g2 o2 iB iA=>?_⟩
    by_cases gn:l2 < st.length
    ·rw[List.getElem?_append_left gn] at iP
     have h1:=gJ g2 ⟨l2,c2,p2,o2,iP,bU,by rw[← MB gn]; exact iB,iA⟩
     have h2:=gb hp ha
     omega
    ·obtain⟨i2,rfl⟩:∃ i2,l2=st.length+i2:=⟨l2 - st.length,by omega⟩
     rw[Pg] at iB
     have zN:=ou.lt iB
     obtain⟨b3,kv⟩:∃ b,S'[i2]?=some b:=⟨S'[i2],List.getElem?_eq_getElem zN⟩
     exact x3 i2 b3 (fun e=>dk (by rw[e])) kv (hlw kv).1 p2 g2 o2 iB iA
   ·rcases q6 with ⟨_,q6⟩|⟨q6,_⟩
    ·exact q6
    ·rw[hc] at q6; cases q6
   ·rcases q6 with ⟨_,q6⟩|⟨_,q6⟩
    ·rw[q6]
    ·exact (ja (i:=0) q6).2.2
   ·rcases q6 with ⟨hd,_⟩|⟨_,q6⟩
    ·rw[hc] at hd; cases hd
    ·intro j c hj
     obtain⟨y,hy,hr⟩:=(ja (i:=j) q6).1 c hj
     obtain⟨u,hu,hiu,h1⟩:=qK j y hy
     exact⟨u,hu,oL hr (by rw[D0]; exact hiu),h1⟩
 ·by_cases hl:l < st.length
  ·rw[List.getElem?_append_left hl] at h1
   exact⟨l,b,p,o,h1,h2,h3,by rw[← MB hl]; exact h4,h5⟩
  ·have e:=Pg (i:=l - st.length)
   rw[show st.length+(l - st.length)=l by omega] at e
   have:=gb (by rw[← e]; exact h4) h5
   omega
theorem Spec.lend {f:FuncId} {args bE:List PV} {rl:List Nat} {K:PV->List an->Prop} (fz:List Nat) (hz:WQ st fz=true) (hle:oa (Ya st fz) args bE) (hu:eO bE = []) (h:Spec G f bE (kA fz st) rl K):Spec G f args st rl K:=by
 refine Spec.intro h.run.1 fun I β w vals hH hM hA=>?_
 have hH2:=hH.Fy hM hz
 have hM2:de G (gm I β st fz) w:=oq hH hM
 have hA2:bG w (gm I β st fz) bE β vals:=kx hu (mi hH hle hu hA)
 have Qs:∀ {g},Wr β (kA fz st) g->Wr β st g:=fun {g} ⟨l,b1,p,o,h1,h2,h3,h4,h5⟩=>by
  obtain⟨b0,gq,rfl⟩:=oK h1
  refine⟨l,b0,p,o,gq,h2,?_,h4,h5⟩
  cases hc:ko l fz with
  | true=>simp only[hc,lK,cond_true] at h3; cases h3
  | false=>simpa only [hc,lK,cond_false] using h3
 have hlen:(kA fz st).length=st.length:=by unfold kA; rw[gC]
 refine (h.run.2 (gm I β st fz) β w vals hH2 hM2 hA2).mono fun e w' ⟨v,r,S',I',aU,he,hK,hi,ou,kP,hE,hl,m4⟩=>?_
 refine⟨v,r,S',I',aU,he,hK,hi,ou,kP,⟨hE.os,hE.tape,hE.output,hE.size,fun g hg hn=>hE.block g hg fun h=>hn (Qs h),fun g hg h=>Qs (hE.wr g hg h),fun g hg=>hE.ay g (.inl hg),fun g hg h=>?_⟩,by rw[← hlen]; exact hl,fun l hl hr=>m4 l (by rw[hlen]; exact hl) hr⟩
 rcases hE.new g hg h with (h|⟨l,b,p,o,hl,hb,aP,hm,hp,ha⟩)|h
 ·exact .inl h
 ·cases rZ:b.m with
  | w=>exact .inr ⟨l,b,p,o,hb,aP,rZ,hp,ha⟩
  | p=>rw[rZ] at hm; cases hm
  | r =>
   obtain⟨arr,ty,fr,_,ho⟩:=(hH.gM l b hb aP).place hp ha
   exact .inl (ho.2 rZ)
 ·exact .inr (Qs h)
end
section
variable {w w':World} {I I':Nat->Prop} {β aU:aB} {G:Gx} {s:ba} {a:Act} {st eU:List an}
theorem Ig {x:PV} {v:Value} {n:Bool × IntKind × Int} (h:x.num=some n) (hx:x.Is w I β v):v = .int n.2.1 n.2.2:=by
 cases x<;>simp only[PV.num] at h<;>first|cases h; simp only[PV.Is] at hx; exact hx|cases h
end
def Ih (G:Gx) (s:ba) (o:Oper) (q:PV->ba->Prop):Prop:=match o.op with
 | .makeSlice t l c=>bB (G.cx.mS t) fun d=>match d with
  | .slice elem=>bB (Ev.eI G.cx elem) fun n=>bB (Ev.Fo elem G.bt) fun bF=>o9 G.cx elem fun z=>s.ev l fun l=>s.ev c fun c=>bB l.num fun n1=>bB c.num fun n2=>(match z with
   | [x]=>bif Nat.beq n 1 && x.pT then ∃ N:Nat,n1.2.2=N/\n2.2.2=N/\n1.2.1 = .i64/\n2.2.1 = .i64/\bF*N<=281474976710656/\N<=maxLen/\nL s ⟨.dyn,elem,1,.w,true,List.replicate N x.norm⟩ q else False
   | _=>False)
  | _=>False
 | _=>False
section
variable {w w':World} {I I':Nat->Prop} {β aU:aB} {G:Gx} {s:ba} {a:Act} {st eU:List an}
theorem uK (hG:m5 G) {o:Oper} {q:PV->ba->Prop} (h:Ih G s o q):qZ G s o q:=qZ.intro fun I β a w hR=>by
 unfold Ih at h
 split at h
 ·rename_i t l c vE
  replace h:=aD h
  obtain⟨d,hu,h⟩:=h
  split at h
  ·rename_i elem
   replace h:=aD h
   obtain⟨n,hn,h⟩:=h
   replace h:=aD h
   obtain⟨bF,OJ,h⟩:=h
   replace h:=jU (w:=w) (I:=I) (β:=β) hG.ok h
   obtain⟨z,i,v,h,hi,Ko,vu⟩:=h
   replace h:=ba.cN hR h
   obtain⟨x,h,hx⟩:=h
   replace h:=ba.cN hR h
   obtain⟨y,h,hy⟩:=h
   replace h:=aD h
   obtain⟨n1,l6,h⟩:=h
   replace h:=aD h
   obtain⟨n2,hn2,h⟩:=h
   have hx:=Ig l6 hx
   have hy:=Ig hn2 hy
   split at h
   ·rename_i x
    replace h:=bs h
    obtain⟨hc,N,e1,e2,k1,k2,h4,h5,h⟩:=h
    simp only[Bool.and_eq_true] at hc
    obtain⟨h3,h6⟩:=hc
    obtain rfl:=Nat.eq_of_beq_eq_true h3
    rw[e1,k1] at hx
    rw[e2,k2] at hy
    obtain⟨i2,vB,hib⟩:=hG.bF _ (Ev.jn OJ)
    rw[hi] at vB; cases vB
    obtain⟨i3,OM,his⟩:=Ev.jR hG.ok hn
    rw[hi] at OM; cases OM
    match hvc:v.cells.toList,vu with
    | [u],vu =>
     have hvc':v.cells = #[u]:=by rw[← Array.toArray_toList (xs:=v.cells),hvc]
     simp only[bG,and_true] at vu
     have hu1:u.oneCell'=true:=by
      refine nH (vu.flat (show x.lv=true from ?_))
      cases x<;>first|rfl|cases h6
     have hv1:v.cells = #[u]:=hvc'
     have cj:(execOp a.eval o).run G.cx.P w = .ok (.value (.slice (some ⟨w.heap.size,0,none⟩) N N)) (w.alloc (.cells (madeCells #[u] N) elem)):=by
      have h7:((bF*N:Nat):Int)<=281474976710656:=Int.ofNat_le.2 h4
      have h8:(i.bytes:Int)*(N:Int)<=281474976710656:=by rw[hib,← Int.natCast_mul]; exact h7
      have:=run_make (P:=G.cx.P) w t elem i v (hG.ok.un hu) hi Ko .i64 .i64 N N (by omega) (Int.le_refl _) h8 (by unfold maxLen at h5; omega)
      rw[show i.size=1 from his,hv1] at this
      simp only[Int.toNat_natCast,Nat.mul_one] at this
      unfold execOp
      rw[vE]
      simp only[hx,hy,Sem.run_bind,this,Result.andThen_ok,Sem.run_pure]
     rw[cj]
     replace h:=ma (gY h)
     rw[Nat.zero_add] at h
     have qn:=aB.jW hR.heap ⟨some (w.heap.size,0),N,N⟩
     have ga:(madeCells #[u] N).size=N:=size_madeCells _ _
     have hec:x.norm.cells = [x.norm]:=by cases x<;>first|rfl|cases h6
     have GG:cD (w.alloc (.cells (madeCells #[u] N) elem)) I (List.replicate N x.norm) 1 w.heap.size 0:=cD.of fun j e he=>by
      rw[List.getElem?_replicate] at he
      split at he
      ·rename_i hj
       cases he
       refine⟨by rw[hec]; rfl,du.of fun j2 c hc=>?_⟩
       rw[hec] at hc
       match j2,hc with
       | 0,hc =>
        simp at hc; subst hc
        refine⟨u,?_,By ?_,hu1⟩
        ·rw[Ev.gy (Ev.lr w _)]
         simp[madeCells,hj,Nat.mod_one]
        ·refine PV.Is.mono (fun _ h=>h) (fun g hg=>jr hR.heap hR.ay.ay _ g (.inr hg)) x β _ u (fun l p hl=>?_) vu
         exfalso
         cases x<;>first|(simp[PV.dv] at hl; done)|(simp[PV.pT] at h6; done)
      ·cases he
     obtain⟨hH,hE⟩:=mb (vs:=madeCells #[u] N) (t:=elem) hR.heap hR.ay.ay (b:=⟨.dyn,elem,1,.w,true,List.replicate N x.norm⟩) (p:=⟨some (w.heap.size,0),N,N⟩) rfl (fun ho =>
      ⟨_,aB.dB ..,⟨Nat.zero_lt_one,List.length_replicate,Nat.le_refl _,h5⟩,.inr ⟨w.heap.size,madeCells #[u] N,(0,0),rfl,Ev.lr w _,GG,ho,by rw[ga,Nat.mul_one]⟩⟩) rfl
     refine dj.mk' hR h hH hE qn (by simp) (fun l hl=>if_neg (by omega)) ?_
     simp only[PV.Is]; exact⟨_,aB.dB ..,rfl⟩
    | [],vu=>simp only[bG] at vu
    | _::_::_,vu=>simp only[bG,and_false] at vu
   ·exact h.elim
  ·exact h.elim
 ·exact h.elim
end
end Go.Proofs.YtlgkljpgagfndaaGreatDoor.Pw

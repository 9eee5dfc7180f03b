/- What this claim is proved with: no condition. -/
import Derived.Test.YtnbngokbamifbaaGreatDoorNr10
set_option linter.unusedVariables false
set_option linter.unusedSimpArgs false
namespace Go.Proofs.YtnbngokbamifbaaGreatDoor.Pw
open Go Go.RowKit
def U1 (S:List au) (l:Nat):Bool:=match S[l]? with
 | some b=>b.can
 | none=>false
theorem MG {S:List au} {l:Nat} (h:U1 S l=true):l < S.length/\∀ b,S[l]?=some b->b.m = .w:=by
 unfold U1 at h
 split at h
 ·rename_i b hb
  refine⟨(List.getElem?_eq_some_iff.1 hb).1,fun b' di=>?_⟩
  rw[hb] at di; cases di
  unfold au.can at h
  simp only[Bool.and_eq_true] at h
  cases hm:b.m with
  | w=>rfl
  | p=>rw[hm] at h; cases h.2
  | r=>rw[hm] at h; cases h.2
 ·cases h
def Pm (rl:List Nat) (b:au):Bool:=match b.k with
 | .dyn=>true
 | .mp=>true
 | _=>b.cs.all fun c=>c.dx.all fun l=>!(kt l rl)
def HV (rl:List Nat) (T:List au):Bool:=T.all (Pm rl)
theorem EW {rl:List Nat} {T:List au} (h:HV rl T=true) {b:au} (hb:b∈T) (hk:b.k.tN=true):∀ c∈b.cs,∀ m∈c.dx,m ∉ rl:=fun c hc m hm hr=>by
 have h1:=List.all_eq_true.1 h b hb
 unfold Pm at h1
 have h2:b.cs.all (fun c=>c.dx.all fun l=>!(kt l rl))=true:=by
  cases cP:b.k with
  | dyn=>rw[cP] at hk; cases hk
  | mp=>rw[cP] at hk; cases hk
  | loc=>rw[cP] at h1; exact h1
  | arr=>rw[cP] at h1; exact h1
 have h3:=List.all_eq_true.1 (List.all_eq_true.1 h2 c hc) m hm
 rw[dJ.2 hr] at h3
 cases h3
section
variable {w w':World} {I I':Nat->Prop} {β aN:ay} {G:Gx} {s:aV} {a:Act} {st dY:List au}
theorem bB.CR {cs:List PV} {arr:Array Value} {o:Nat} (hI:∀ g,I g->I' g) (hw:∀ g,I g->w'.heap[g]?=w.heap[g]?) (hb:∀ c∈cs,∀ l∈c.dx,∀ p,β l=some p->aN l=some p) (h:bB w I β cs arr o):bB w' I' aN cs arr o :=
 fun i c hc=>let ⟨v,h1,h2,h3⟩:=h i c hc; ⟨v,h1,PV.Is.mono hI hw c β aN v (fun l p hl=>hb c (List.mem_of_getElem? hc) l hl p) h2,h3⟩
theorem gb.CR {l:Nat} {b:au} (hI:∀ g,I g->I' g) (hw:∀ g,I g->w'.heap[g]?=w.heap[g]?) (nz:∀ p,β l=some p->aN l=some p) (hu:b.k.tN=true->∀ c∈b.cs,∀ l∈c.dx,∀ p,β l=some p->aN l=some p)
  (hg:∀ p g o,β l=some p->p.a=some (g,o)->w'.heap[g]?=w.heap[g]?/\(b.m≠.r->¬ I' g/\∀ l' b',l'≠l->dY[l']?=some b'->b'.live=true->∀ p g' o',aN l'=some p->p.a=some (g',o')->g'≠g)) (hb:gb I β st w l b):gb I' aN dY w' l b:=by
 obtain⟨p,hp,hk⟩:=hb
 refine⟨p,nz p hp,?_⟩
 have own:∀ {g o:Nat} {fr:Nat × Nat},p.a=some (g,o)->Own I β st l g fr b->Own I' aN dY l g fr b:=fun ha ho=>⟨fun hr=>⟨(ho.1 hr).1,(hg p _ _ hp ha).2 hr⟩,fun hr=>hI _ (ho.2 hr)⟩
 split at hk
 ·rename_i cP
  obtain⟨g,o,arr,ty,fr,ha,hh,hc,ho⟩:=hk
  exact⟨g,o,arr,ty,fr,ha,(hg p g o hp ha).1.trans hh,hc.CR hI hw (hu (by rw[cP]; rfl)),own ha ho⟩
 ·rename_i cP
  obtain⟨g,arr,fr,ha,hh,hc,ho,h1⟩:=hk
  exact⟨g,arr,fr,ha,(hg p g 0 hp ha).1.trans hh,hc.CR hI hw (hu (by rw[cP]; rfl)),own ha ho,h1⟩
 ·obtain⟨h1,hk⟩:=hk
  refine⟨h1,?_⟩
  rcases hk with h|⟨g,arr,fr,ha,hh,hc,ho,h2⟩
  ·exact .inl h
  ·exact .inr ⟨g,arr,fr,ha,(hg p g 0 hp ha).1.trans hh,cr.mono hI hw _ _ _ _ (hg p g 0 hp ha).1 hc,own ha ho,h2⟩
 ·obtain⟨g,ha,hm,ho⟩:=hk
  exact⟨g,ha,hm.og (hg p g 0 hp ha).1,own ha ho⟩
theorem Spec.useR {f:FuncId} {args args':List PV} {r0:PV} {S0 S1:List au} {rl:List Nat} {K:PV->List au->Prop} (h:Spec G f args' S0 rl fun r S'=>r=r0/\S'=S1) (hm:kQ S0 S1=true) (gx:S0.all (ye S0.length)=true) (hu:(dZ args').all (fun l=>Nat.blt l S0.length)=true)
  (sw:r0.dx.all (fun l=>Nat.blt l S0.length)=true) (Oq:rl.all (fun l=>U1 S0 l)=true) (hle:pa ki args args') (hK:KY st S0 fun T=>(bif HV rl T then True else False)/\yd S1 fun S1=>D2 S1 T (K r0)):Spec G f args st rl K:=by
 obtain⟨pd,T,rfl,FP,hk,Hb⟩:=v_ hK
 obtain⟨hT,hk⟩:=hk
 replace hT:=(bp hT).1
 replace hk:=v9 (oB hk)
 obtain⟨Kb,KL⟩:=oF hm
 refine Spec.intro h.run.1 fun I β w vals hH hM hA=>?_
 let fO:ay:=fun l=>if l < S0.length then β l else none
 have jS:∀ l,l < S0.length->fO l=β l:=fun l hl=>if_pos hl
 have AP:∀ {l p},fO l=some p->l < S0.length/\β l=some p:=fun {l p} h=>by
  by_cases hl:l < S0.length
  ·exact⟨hl,by rw[← jS l hl]; exact h⟩
  ·have:fO l=none:=if_neg hl
   rw[this] at h; cases h
 have z_:∀ {l:Nat} {b':au},S0[l]?=some b'->l < S0.length/\∃ b,(pd++T)[l]?=some b/\gB b b':=fun {l b'} di=>by
  have cI:l < S0.length:=(List.getElem?_eq_some_iff.1 di).1
  have AQ:l < pd.length:=by omega
  refine⟨cI,pd[l],by rw[List.getElem?_append_left AQ]; simp[AQ],Hb l _ b' (by simp[AQ]) di⟩
 have low:∀ {l:Nat} {b':au},S0[l]?=some b'->b'.k.tN=true->∀ c∈b'.cs,∀ m∈c.dx,m < S0.length:=fun {l b'} di hk c hc m mY=>by
  rw[List.all_eq_true] at gx
  have:=gx b' (List.mem_of_getElem? di)
  unfold ye at this
  have du:b'.cs.all (fun c=>c.dx.all fun l=>Nat.blt l S0.length)=true:=by
   cases cP:b'.k with
   | dyn=>rw[cP] at hk; cases hk
   | mp=>rw[cP] at hk; cases hk
   | loc=>rw[cP] at this; exact this
   | arr=>rw[cP] at this; exact this
  rw[List.all_eq_true] at du
  have:=du c hc
  rw[List.all_eq_true] at this
  exact Nat.le_of_ble_eq_true (this m mY)
 have OK:aE I fO S0 w:=by
  refine⟨fun l hl=>if_neg (by omega),fun l b' di aH=>?_⟩
  obtain⟨cI,b,hb,Hc⟩:=z_ di
  obtain⟨e1,e2,e3,e4,e5,e6,e7⟩:=de Hc
  obtain⟨p,hp,hB⟩:=hH.gA l b hb e4
  have own:∀ {g:Nat} {fr:Nat × Nat},Own I β (pd++T) l g fr b->Own I fO S0 l g fr b':=fun {g fr} ho=>by
   refine⟨fun hr=>?_,fun hr=>ho.2 (by rw[e3]; exact hr)⟩
   obtain⟨h1,h2,h3⟩:=ho.1 (by rw[e3]; exact hr)
   refine⟨h1,h2,fun l2 b2 dt fM bS p2 g2 o2 iv ir=>?_⟩
   obtain⟨_,b3,kv,lO⟩:=z_ fM
   exact h3 l2 b3 dt kv (de lO).2.2.2.1 p2 g2 o2 (AP iv).2 ir
  have cells:b'.k.tN=true->∀ {arr:Array Value} {o:Nat},bB w I β b.cs arr o->bB w I fO b'.cs arr o:=fun hk {arr o} hc i c hi=>by
   have jv:bB w I β b'.cs arr o:=by
    rcases e7 with ⟨hd,_⟩|⟨_,h7⟩
    ·(rw[e6,hk] at hd; cases hd)
    ·exact iL h7 hc
   obtain⟨u,FN,OF,h1⟩:=jv i c hi
   exact⟨u,FN,PV.Is.mono (fun _ h=>h) (fun _ _=>rfl) c β fO u (fun m p mY dA=>by rw[jS m (low di hk c (List.mem_of_getElem? hi) m mY)]; exact dA) OF,h1⟩
  refine⟨p,by rw[jS l cI]; exact hp,?_⟩
  split at hB
  ·rename_i cP
   have jf:b'.k = .loc:=by rw[← e6]; exact cP
   obtain⟨g,o,arr,ty,fr,h1,h2,h3,ho⟩:=hB
   rw[jf]
   exact⟨g,o,arr,ty,fr,h1,h2,cells (by rw[jf]; rfl) h3,own ho⟩
  ·rename_i cP
   have jf:b'.k = .arr:=by rw[← e6]; exact cP
   obtain⟨g,arr,fr,h1,h2,h3,ho,h4,h5,h6,h7,h8⟩:=hB
   have hlen:b'.cs.length=b.cs.length:=by
    rcases e7 with ⟨hd,_⟩|⟨_,h9⟩
    ·rw[cP] at hd; cases hd
    ·exact (mu h9).symm
   rw[jf]
   exact⟨g,arr,fr,h1,by rw[← e1]; exact h2,cells (by rw[jf]; rfl) h3,own ho,by rw[hlen,← e2]; exact h4,h5,h6,by rw[← e2]; exact h7,by rw[← e2]; exact h8⟩
  ·rename_i cP
   have jf:b'.k = .dyn:=by rw[← e6]; exact cP
   have ja:b.cs=b'.cs:=by
    rcases e7 with ⟨_,h9⟩|⟨hd,_⟩
    ·exact h9
    ·(rw[cP] at hd; cases hd)
   obtain⟨⟨h1,h2,h3,h4⟩,hB⟩:=hB
   rw[jf]
   refine⟨⟨by rw[← e2]; exact h1,by rw[← ja]; exact h2,h3,h4⟩,?_⟩
   rcases hB with h|⟨g,arr,fr,h5,h6,h7,ho,h8⟩
   ·exact .inl h
   ·exact .inr ⟨g,arr,fr,h5,by rw[← e1]; exact h6,by rw[← ja,← e2]; exact h7,own ho,by rw[← e2]; exact h8⟩
  ·rename_i cP
   have jf:b'.k = .mp:=by rw[← e6]; exact cP
   have ja:b.cs=b'.cs:=by
    rcases e7 with ⟨_,h9⟩|⟨hd,_⟩
    ·exact h9
    ·(rw[cP] at hd; cases hd)
   obtain⟨g,h1,h2,ho⟩:=hB
   rw[jf]
   exact⟨g,h1,by rw[← ja]; exact h2,own ho⟩
 have Qp:bJ w I args' fO vals:=by
  have:=jx (fun _ _=>e9) hle hA
  refine bJ.mono (fun _ h=>h) (fun _ _=>rfl) args' β fO vals (fun m p mY dA=>?_) this
  rw[List.all_eq_true] at hu
  rw[jS m (Nat.le_of_ble_eq_true (hu m mY))]; exact dA
 refine (h.run.2 I fO w vals OK hM Qp).mono fun e w' ⟨v,r,S',I',aN,he,⟨e1,e2⟩,hi,oG,mw,hE,hlen,nz⟩=>?_
 subst e1; subst e2
 have yq:∀ l,l < S0.length->l ∉ rl->aN l=β l:=fun l hl hr=>(nz l hl hr).trans (jS l hl)
 let fU:ay:=fun l=>if l < S0.length then aN l else β l
 have EX:∀ l,l < S0.length->fU l=aN l:=fun l hl=>if_pos hl
 have Bh:∀ l,¬ l < S0.length->fU l=β l:=fun l hl=>if_neg hl
 have D3:∀ l p,aN l=some p->fU l=some p:=fun l p hp=>by
  have:l < S0.length:=by have:=oG.lt hp; omega
  rw[EX l this]; exact hp
 have xT:∀ l,l∈rl->l < S0.length/\∀ b,S0[l]?=some b->b.m = .w:=fun l hl=>MG (List.all_eq_true.1 Oq l hl)
 have Hd:∀ {g},Wr fO S0 g->Wr β (pd++T) g:=fun {g} ⟨l,b,p,o,h1,h2,h3,h4,h5⟩=>by
  obtain⟨cI,b2,dO,G6⟩:=z_ h1
  obtain⟨_,_,q3,q4,_⟩:=de G6
  exact⟨l,b2,p,o,dO,q4,by rw[q3]; exact h3,(AP h4).2,h5⟩
 have V9:∀ {g},Wr fU (S'++T) g->(Wr aN S' g)\/∃ l b p o,S0.length<=l/\(pd++T)[l]?=some b/\b.live=true/\b.m = .w/\β l=some p/\p.a=some (g,o):=fun {g} ⟨l,b,p,o,h1,h2,h3,h4,h5⟩=>by
  by_cases hl:l < S'.length
  ·rw[List.getElem?_append_left hl] at h1
   exact .inl ⟨l,b,p,o,h1,h2,h3,by rw[← EX l (by omega)]; exact h4,h5⟩
  ·rw[List.getElem?_append_right (by omega)] at h1
   refine .inr ⟨l,b,p,o,by omega,?_,h2,h3,by rw[← Bh l (by omega)]; exact h4,h5⟩
   rw[List.getElem?_append_right (by omega),FP,Kb]; exact h1
 
 have apart:∀ {l:Nat} {b:au} {p:ph} {g o:Nat},S0.length<=l->(pd++T)[l]?=some b->b.live=true->β l=some p->p.a=some (g,o)->¬ Wr fO S0 g:=fun {l b p g o} hl hb aH hp ha ⟨l2,b2,p2,o2,h1,h2,h3,h4,h5⟩=>by
  obtain⟨cI,b3,kv,lO⟩:=z_ h1
  obtain⟨_,_,q3,q4,_⟩:=de lO
  obtain⟨arr,ty,fr,_,ho⟩:=(hH.gA l2 b3 kv q4).place (AP h4).2 h5
  exact (ho.1 (by rw[q3,h3]; nofun)).2.2 l b (by omega) hb aH p g o hp ha rfl
 refine⟨v,r,S'++T,I',fU,he,hk,PV.Is.mono (fun _ h=>h) (fun _ _=>rfl) r aN fU v (fun m p _ hp=>D3 m p hp) hi,⟨fun l hl=>by rw[Bh l (by simp only[List.length_append] at hl; omega)]; exact hH.qS l (by simp only[List.length_append] at hl ⊢; omega),fun l b hb aH=>?_⟩,mw,⟨hE.os,hE.tape,hE.output,hE.size,fun g hg hn=>hE.block g hg fun h=>hn (Hd h),fun g hg h=>?_,hE.av,fun g hg h=>(hE.new g hg h).imp id Hd⟩,by simp only[List.length_append]; omega,fun l _ hr=>by
   by_cases hl:l < S0.length
   ·rw[EX l hl]; exact yq l hl hr
   ·exact Bh l hl⟩
 ·by_cases hl:l < S'.length
  ·rw[List.getElem?_append_left hl] at hb
   have hB:=oG.gA l b hb aH
   refine hB.mono (fun _ h=>h) (fun _ _=>rfl) D3 fun p g o hp ha=>⟨rfl,fun hr=>?_⟩
   obtain⟨arr,ty,fr,hh,ho⟩:=hB.place hp ha
   obtain⟨h1,h2,h3⟩:=ho.1 hr
   refine⟨h2,fun l2 b2 dt dO bS p2 g2 o2 iv ir=>?_⟩
   by_cases fM:l2 < S'.length
   ·rw[List.getElem?_append_left fM] at dO
    exact h3 l2 b2 dt dO bS p2 g2 o2 (by rw[← EX l2 (by omega)]; exact iv) ir
   ·rw[List.getElem?_append_right (by omega)] at dO
    have He:(pd++T)[l2]?=some b2:=by rw[List.getElem?_append_right (by omega),FP,Kb]; exact dO
    have EY:β l2=some p2:=by rw[← Bh l2 (by omega)]; exact iv
    have xB:=hH.dH ⟨l2,b2,p2,o2,He,bS,EY,ir⟩
    obtain⟨b0,gw⟩:∃ b0,S0[l]?=some b0:=⟨S0[l]'(by omega),by simp[show l < S0.length by omega]⟩
    obtain⟨_,q5⟩:=KL l b0 b gw hb
    by_cases ZA:l∈rl
    ·intro e
     subst e
     have hw:b.m = .w:=by rw[← q5]; exact (xT l ZA).2 b0 gw
     exact apart (by omega) He bS EY ir (hE.wr _ xB ⟨l,b,p,o,hb,aH,hw,hp,ha⟩)
    ·obtain⟨_,b3,kv,lO⟩:=z_ gw
     obtain⟨_,_,q3,q4,_⟩:=de lO
     have J9:β l=some p:=by rw[← yq l (by omega) ZA]; exact hp
     obtain⟨_,_,_,_,XB⟩:=(hH.gA l b3 kv q4).place J9 ha
     exact (XB.1 (by rw[q3,q5]; exact hr)).2.2 l2 b2 dt He bS p2 g2 o2 EY ir
  ·rw[List.getElem?_append_right (by omega)] at hb
   have di:(pd++T)[l]?=some b:=by rw[List.getElem?_append_right (by omega),FP,Kb]; exact hb
   have hB:=hH.gA l b di aH
   have same:∀ {p g o},β l=some p->p.a=some (g,o)->g < w.heap.size/\w'.heap[g]?=w.heap[g]?:=fun {p g o} hp ha=>by
    have cI:=hH.dH ⟨l,b,p,o,di,aH,hp,ha⟩
    exact⟨cI,hE.block g cI (apart (by omega) di aH hp ha)⟩
   have hTb:=EW hT (List.mem_of_getElem? hb)
   refine hB.CR hE.av (fun g hg=>hE.block g (hM.av g hg) fun hw=>?_) (fun p hp=>by rw[Bh l (by omega)]; exact hp) (fun hk c hc m hm p hp=>?_) fun p g o hp ha=>⟨(same hp ha).2,fun hr=>?_⟩
   ·exact OK.lC hw hg
   ·by_cases HW:m < S0.length
    ·rw[EX m HW,yq m HW (hTb hk c hc m hm)]; exact hp
    ·rw[Bh m HW]; exact hp
   ·obtain⟨arr,ty,fr,hh,ho⟩:=hB.place hp ha
    obtain⟨h1,h2,h3⟩:=ho.1 hr
    refine⟨fun hI=>(hE.new g (same hp ha).1 hI).elim h2 (apart (by omega) di aH hp ha),fun l2 b2 dt dO bS p2 g2 o2 iv ir=>?_⟩
    have GP:=(same hp ha).1
    by_cases fM:l2 < S'.length
    ·rw[List.getElem?_append_left fM] at dO
     have EY:aN l2=some p2:=by rw[← EX l2 (by omega)]; exact iv
     obtain⟨b0,gw⟩:∃ b0,S0[l2]?=some b0:=⟨S0[l2]'(by omega),by simp[show l2 < S0.length by omega]⟩
     by_cases ZA:l2∈rl
     ·intro e
      subst e
      obtain⟨_,q5⟩:=KL l2 b0 b2 gw dO
      have hw:b2.m = .w:=by rw[← q5]; exact (xT l2 ZA).2 b0 gw
      exact apart (by omega) di aH hp ha (hE.wr _ GP ⟨l2,b2,p2,o2,dO,bS,hw,EY,ir⟩)
     ·obtain⟨_,b3,kv,lO⟩:=z_ gw
      exact h3 l2 b3 dt kv (de lO).2.2.2.1 p2 g2 o2 (by rw[← yq l2 (by omega) ZA]; exact EY) ir
    ·rw[List.getElem?_append_right (by omega)] at dO
     exact h3 l2 b2 dt (by rw[List.getElem?_append_right (by omega),FP,Kb]; exact dO) bS p2 g2 o2 (by rw[← Bh l2 (by omega)]; exact iv) ir
 ·rcases V9 h with h|⟨l,b,p,o,_,h2,h3,h4,h5,h6⟩
  ·exact Hd (hE.wr g hg h)
  ·exact⟨l,b,p,o,h2,h3,h4,h5,h6⟩
def MH (st:List au) (fz:List Nat) (x:PV):PV:=match x with
 | .wref l=>bif kt l fz then (match st[l]? with
  | some ⟨.dyn,_,n,_,_,cs⟩=>.sl n cs
  | _=>.wref l) else .wref l
 | x=>x
def TM.Bi (f:PV->PV):TM->TM
 | .nil=>.nil
 | .node v l r=>.node (match v with
  | some x=>some (f x)
  | none=>none) (l.Bi f) (r.Bi f)
def aV.FW (s:aV) (fz:List Nat):aV:=match s with
 | ⟨n,t,st,b,rl⟩=>⟨n,t.Bi (MH st fz),kA fz st,b,rl⟩
theorem TM.sX (f:PV->PV):∀ (t:TM) (n:Nat),(t.Bi f).get n=(t.get n).map f
 | .nil,_=>rfl
 | .node v l r,n=>by
  show TM.get (.node (match v with
   | some x=>some (f x)
   | none=>none) (l.Bi f) (r.Bi f)) n=_
  rw[TM.get,TM.get]
  cases Nat.beq n 0<;>cases Nat.beq (n % 2) 1<;>simp only[cond_true,cond_false]
  ·exact TM.sX f r _
  ·exact TM.sX f l _
  ·cases v<;>rfl
  ·cases v<;>rfl
theorem oS {S:List au} {fz:List Nat} {l:Nat} {b:au} (hb:(kA fz S)[l]?=some b):∃ b0,S[l]?=some b0/\b = { b0 with m:=lN (kt l fz) b0.m }:=by
 unfold kA at hb
 rw[fD,Option.map_eq_some_iff] at hb
 obtain⟨b0,h1,h2⟩:=hb
 rw[Nat.zero_add] at h2
 exact⟨b0,h1,h2.symm⟩
theorem aE.FW {S:List au} (hH:aE I β S w) (hM:dd G I w) {fz:List Nat} (hz:V8 S fz=true):aE (fV I β S fz) β (kA fz S) w:=by
 refine⟨fun l hl=>hH.qS l (by unfold kA at hl; rw[gi] at hl; exact hl),fun l b hb aH=>?_⟩
 obtain⟨b0,gw,rfl⟩:=oS hb
 obtain⟨p,hp,hk⟩:=hH.gA l b0 gw aH
 have uB:∀ g,I g->fV I β S fz g:=fun g h=>.inl h
 have own:∀ {g o:Nat} {fr:Nat × Nat},p.a=some (g,o)->Own I β S l g fr b0->Own (fV I β S fz) β (kA fz S) l g fr { b0 with m:=lN (kt l fz) b0.m }:=fun {g o fr} ha ho=>by
  refine⟨fun hm=>?_,fun hm=>?_⟩
  ·have lG:kt l fz=false/\b0.m≠.r:=by
    cases hc:kt l fz with
    | true=>simp only[hc,lN,cond_true,ne_eq,not_true_eq_false] at hm
    | false=>exact⟨rfl,by simpa only [hc,lN,cond_false] using hm⟩
   obtain⟨h1,h2,h3⟩:=ho.1 lG.2
   refine⟨h1,fun hI=>?_,fun l2 b2 dt fM bS p2 g2 o2 iv ir=>?_⟩
   ·rcases hI with hI|⟨l2,b2,p2,o2,fM,dO,bS,_,iv,ir⟩
    ·exact h2 hI
    ·refine h3 l2 b2 (fun e=>?_) dO bS p2 g o2 iv ir rfl
     subst e
     rw[dJ.2 fM] at lG
     cases lG.1
   ·obtain⟨b3,kv,rfl⟩:=oS fM
    exact h3 l2 b3 dt kv bS p2 g2 o2 iv ir
  ·cases hc:kt l fz with
   | true =>
    obtain⟨b1,Qo,k1,k2⟩:=AO hz (dJ.1 hc)
    rw[gw] at Qo; cases Qo
    exact .inr ⟨l,b0,p,o,dJ.1 hc,gw,k1,k2,hp,ha⟩
   | false=>exact uB g (ho.2 (by simpa only [hc,lN,cond_false] using hm))
 have FY:∀ g,I g->w.heap[g]?=w.heap[g]?:=fun _ _=>rfl
 refine⟨p,hp,?_⟩
 split at hk
 ·rename_i cP
  obtain⟨g,o,arr,ty,fr,h1,h2,h3,ho⟩:=hk
  simp only[cP]
  exact⟨g,o,arr,ty,fr,h1,h2,bB.mono uB FY (fun _ _ h=>h) h3,own h1 ho⟩
 ·rename_i cP
  obtain⟨g,arr,fr,h1,h2,h3,ho,h4⟩:=hk
  simp only[cP]
  exact⟨g,arr,fr,h1,h2,bB.mono uB FY (fun _ _ h=>h) h3,own h1 ho,h4⟩
 ·rename_i cP
  obtain⟨h1,hk⟩:=hk
  simp only[cP]
  refine⟨h1,?_⟩
  rcases hk with h|⟨g,arr,fr,h2,h3,h4,ho,h5⟩
  ·exact .inl h
  ·exact .inr ⟨g,arr,fr,h2,h3,cr.mono uB FY _ _ _ _ rfl h4,own h2 ho,h5⟩
 ·rename_i cP
  obtain⟨g,h1,h2,ho⟩:=hk
  simp only[cP]
  exact⟨g,h1,h2,own h1 ho⟩
theorem MI {S:List au} (hH:aE I β S w) {fz:List Nat} (hz:V8 S fz=true) {x:PV} {v:Value} (hx:x.Is w I β v):(MH S fz x).Is w (fV I β S fz) β v:=by
 have og:∀ y:PV,y.Is w I β v->y.Is w (fV I β S fz) β v:=fun y hy=>PV.Is.mono (fun _ h=>.inl h) (fun _ _=>rfl) y β β v (fun _ _ _ h=>h) hy
 unfold MH
 split
 ·rename_i l
  cases hc:kt l fz with
  | false=>exact og _ hx
  | true =>
   obtain⟨b,hb,aH,hm⟩:=AO hz (dJ.1 hc)
   simp only[cond_true]
   split
   ·rename_i _ ty n m live cs hs
    rw[hb] at hs
    cases hs
    have h1:=v8 hH (dJ.1 hc) hb (n:=n) (es:=cs) (by
     simp only at aH hm
     show (bif live && DW m && Nat.beq n n then cs=cs else False)
     rw[aH,hm,Nat.beq_refl]; exact rfl) hx
    exact PV.Is.mono (fun _ h=>h) (fun _ _=>rfl) _ no β v (fun l p hl=>by simp[PV.dx] at hl) h1
   ·exact og _ hx
 ·exact og _ hx
theorem Sub.freeze (fz:List Nat) (hz:V8 s.st fz=true):Sub G s (s.FW fz):=fun I β a w hR=>by
 obtain⟨n,t,st,b,rl⟩:=s
 refine⟨fV I β st fz,β,⟨hR.small,hR.defers,hR.size,by show b<=(kA fz st).length; unfold kA; rw[gi]; exact hR.base,fun i x hx=>?_,hR.heap.FW hR.av hz,oE hR.heap hR.av⟩,⟨⟨rfl,rfl,rfl,Nat.le_refl _,fun _ _ _=>rfl,fun g _ h=>?_,fun _ h=>.inl h,fun g _ h=>?_⟩,rfl,rfl,rfl,fun _ _ _=>rfl⟩⟩
 ·have k9:(t.Bi (MH st fz)).get i=some x:=hx
  rw[TM.sX,Option.map_eq_some_iff] at k9
  obtain⟨y,hy,rfl⟩:=k9
  obtain⟨v,hv,hi⟩:=hR.get i y hy
  exact⟨v,hv,MI hR.heap hz hi⟩
 ·obtain⟨l,b1,p,o,h1,h2,h3,h4,h5⟩:=h
  obtain⟨b0,gw,rfl⟩:=oS h1
  refine⟨l,b0,p,o,gw,h2,?_,h4,h5⟩
  cases hc:kt l fz with
  | true=>simp only[hc,lN,cond_true] at h3; cases h3
  | false=>simpa only [hc,lN,cond_false] using h3
 ·rcases h with h|⟨l,b1,p,o,hl,hb,aH,hm,hp,ha⟩
  ·exact .inl h
  ·cases xE:b1.m with
   | w=>exact .inr ⟨l,b1,p,o,hb,aH,xE,hp,ha⟩
   | p=>rw[xE] at hm; cases hm
   | r =>
    obtain⟨arr,ty,fr,_,ho⟩:=(hR.heap.gA l b1 hb aH).place hp ha
    exact .inl (ho.2 xE)
theorem SW.sub {c:Code} {Q:X->aV->Prop} {s s':aV} (h:Sub G s s') (h':SW G c Q s'):SW G c Q s:=SW.intro fun I β a w hR=>by
 obtain⟨I',aN,dp,hg⟩:=h I β a w hR
 exact h'.from dp hg
def aV.bare (s:aV) (vs:List (Nat × PV)) (st:List au):aV:=match s with
 | ⟨n,_,_,b,rl⟩=>⟨n,ig vs .nil,st,b,rl⟩
theorem SW.nj (hG:nA G) (R:List (Nat × aG)) {α:Type} {c:Code} {Q:X->aV->Prop} (hc:cp R c=true) (vs:α->List (Nat × PV)) (st:α->List au) (μ:α->Nat) (x0:α) (N:Nat) (OB:gS) (h0:ee G.cx OB s (s.bare (vs x0) (st x0)))
  (h:∀ x,V6 (s.bare (vs x) (st x)) (pw G R N c (sd (fun s'=>∃ y π,μ y < μ x/\ee G.cx π s' (s.bare (vs y) (st y))) Q))):SW G (.loop c) Q s :=
 SW.inv hG (fun x=>s.bare (vs x) (st x)) μ (N:=N) hc x0 (da hG.ok h0) (fun x s'=>∃ y π,μ y < μ x/\ee G.cx π s' (s.bare (vs y) (st y))) (fun x s' ⟨y,π,hy,hs⟩=>⟨y,hy,da hG.ok hs⟩) fun x=>sk (h x)
theorem Spec.J' (hG:nA G) {f:FuncId} {args:List PV} {S S':List au} {rl:List Nat} {K:PV->List au->Prop} (h:Spec G f args S' rl K) (π:gS) (hs:ee G.cx π ⟨0,.nil,S,S.length,[]⟩ ⟨0,.nil,S',S.length,[]⟩) (hu:(dZ args).all (fun l=>Nat.blt l S.length)=true) (Oq:∀ l∈rl,S.length<=l):Spec G f args S [] K:=by
 refine Spec.intro h.run.1 fun I β w vals hH hM hA=>?_
 have hR:Rel G I β ⟨0,.nil,S,S.length,[]⟩ { tmps:=#[],defers:=G.Gg } w:=⟨Nat.zero_le _,rfl,rfl,Nat.le_refl _,fun n x hx=>(by cases hx),hH,hM⟩
 obtain⟨I',aN,dp,hg⟩:=da hG.ok hs I β _ w hR
 have Qp:bJ w I' args aN vals:=bJ.mono hg.ext.av (fun g tY=>hg.ext.block g (hM.av g tY) (fun hw=>hH.lC hw tY)) args β aN vals (fun m p hm hp=>by
  rw[List.all_eq_true] at hu
  rw[hg.low m (Nat.le_of_ble_eq_true (hu m hm)) (by simp)]; exact hp) hA
 have hlen:S.length<=S'.length:=dp.base
 refine (h.run.2 I' aN w vals dp.heap dp.av Qp).mono fun e w' ⟨v,r,S2,I2,fU,he,hK,hr,hH2,hM2,hE,hl,nz⟩=>?_
 refine⟨v,r,S2,I2,fU,he,hK,hr,hH2,hM2,hg.ext.trans hE,by omega,fun l jL _=>?_⟩
 rw[nz l (by omega) (fun hm=>by have:=Oq l hm; omega)]
 exact hg.low l jL (by simp)
end
def ue (π:gS) (b:au) (q:au->Prop):Prop:=match b with
 | ⟨.dyn,ty,n,m,live,cs⟩=>q ⟨.dyn,ty,n,m,live,cs⟩
 | ⟨.mp,ty,n,m,live,cs⟩=>q ⟨.mp,ty,n,m,live,cs⟩
 | ⟨k,ty,n,m,live,cs⟩=>bD (gl π cs) fun cs=>q ⟨k,ty,n,m,live,cs⟩
def atK (π:gS) (st:List au):List Nat->List au->Prop->Prop
 | [],[],k=>k
 | l::σ,b'::S,k=>(bD st[l]? fun b=>ue π b' fun nu=>gB b nu)/\atK π st σ S k
 | _,_,_=>False
def Wd (π:gS):List Nat->List au->List au->(List au->Prop)->Prop
 | [],[],st,k=>k st
 | l::σ,b'::S,st,k=>ue π b' fun nu=>Xo nu fun nu=>xM st l nu fun st=>Wd π σ S st k
 | _,_,_,_=>False
def HX (π:gS):List PV->List PV->Prop
 | [],[]=>True
 | x::xs,y::ys=>(bD (y.J' π) fun z=>ki x z)/\HX π xs ys
 | _,_=>False
def lY:List Nat->Bool
 | []=>true
 | l::σ=>!σ.any (Nat.beq l) && lY σ
section
variable {w w':World} {I I':Nat->Prop} {β aN:ay} {G:Gx} {s:aV} {a:Act} {st dY:List au}
theorem w5 {π:gS} {b:au} {q:au->Prop} (h:ue π b q):∃ b2,q b2/\b2.k=b.k/\b2.ty=b.ty/\b2.size=b.size/\b2.m=b.m/\b2.live=b.live/\((b.k.tN=false/\b2.cs=b.cs)\/(b.k.tN=true/\gl π b.cs=some b2.cs)):=by
 obtain⟨k,ty,n,m,live,cs⟩:=b
 cases k
 ·obtain⟨ds,h1,h2⟩:=az h
  exact⟨_,h2,rfl,rfl,rfl,rfl,rfl,.inr ⟨rfl,h1⟩⟩
 ·obtain⟨ds,h1,h2⟩:=az h
  exact⟨_,h2,rfl,rfl,rfl,rfl,rfl,.inr ⟨rfl,h1⟩⟩
 ·exact⟨_,h,rfl,rfl,rfl,rfl,rfl,.inl ⟨rfl,rfl⟩⟩
 ·exact⟨_,h,rfl,rfl,rfl,rfl,rfl,.inl ⟨rfl,rfl⟩⟩
theorem H' {π:gS} {st:List au}:∀ {σ:List Nat} {S:List au} {k:Prop},atK π st σ S k->k/\σ.length=S.length/\∀ (i l:Nat) (b':au),σ[i]?=some l->S[i]?=some b'->∃ b,st[l]?=some b/\ue π b' fun nu=>gB b nu
 | [],[],k,h=>⟨h,rfl,fun i l b' hl=>by simp at hl⟩
 | l::σ,b'::S,k,h=>by
  obtain⟨h1,h2⟩:=h
  obtain⟨hk,hl,hh⟩:=H' h2
  obtain⟨b,hb,h1⟩:=az h1
  refine⟨hk,by simp[hl],fun i m c hm hc=>?_⟩
  cases i with
  | zero=>simp at hm hc; subst hm; subst hc; exact⟨b,hb,h1⟩
  | succ i=>exact hh i m c (by simpa using hm) (by simpa using hc)
 | [],_::_,_,h=>h.elim
 | _::_,[],_,h=>h.elim
theorem uV:∀ {σ:List Nat},lY σ=true->∀ (i j l:Nat),σ[i]?=some l->σ[j]?=some l->i=j
 | [],_,i,j,l,h,_=>by simp at h
 | m::σ,h,i,j,l,hi,hj=>by
  simp only[lY,Bool.and_eq_true,Bool.not_eq_true',List.any_eq_false] at h
  have hn:∀ k,σ[k]?=some m->False:=fun k hk=>h.1 m (List.mem_of_getElem? hk) (Nat.beq_refl m)
  cases i with
  | zero=>cases j with
   | zero=>rfl
   | succ j=>simp at hi hj; subst hi; exact (hn j hj).elim
  | succ i=>cases j with
   | zero=>simp at hi hj; subst hj; exact (hn i hi).elim
   | succ j=>simp at hi hj; rw[uV h.2 i j l hi hj]
theorem H_ {π:gS}:∀ {σ:List Nat} {S:List au} {st:List au} {k:List au->Prop},lY σ=true->Wd π σ S st k->∃ dY,k dY/\dY.length=st.length/\(∀ l,l ∉ σ->dY[l]?=st[l]?)/\∀ (i l:Nat) (b':au),σ[i]?=some l->S[i]?=some b'->ue π b' fun nu=>dY[l]?=some nu
 | [],[],st,k,_,h=>⟨st,h,rfl,fun _ _=>rfl,fun i l b' hl=>by simp at hl⟩
 | l::σ,b'::S,st,k,hd,h=>by
  have hd':=hd
  simp only[lY,Bool.and_eq_true,Bool.not_eq_true',List.any_eq_false] at hd
  have hnm:l ∉ σ:=fun hm=>hd.1 l hm (Nat.beq_refl l)
  
  have key:∀ {c:au} {q:au->Prop},(ue π b' fun nu=>q nu)->∃ b2,q b2/\∀ q2:au->Prop,q2 b2->ue π b' q2:=fun {c q} hq=>by
   obtain⟨k0,ty,n,m,live,cs⟩:=b'
   cases k0
   ·obtain⟨ds,h1,h2⟩:=az hq
    exact⟨_,h2,fun q2 MJ=>by show bD (gl π cs) _; rw[h1]; exact MJ⟩
   ·obtain⟨ds,h1,h2⟩:=az hq
    exact⟨_,h2,fun q2 MJ=>by show bD (gl π cs) _; rw[h1]; exact MJ⟩
   ·exact⟨_,hq,fun q2 MJ=>MJ⟩
   ·exact⟨_,hq,fun q2 MJ=>MJ⟩
  obtain⟨b2,h2,MJ⟩:=key (c:=b') (q:=fun nu=>Xo nu fun nu=>xM st l nu fun st=>Wd π σ S st k) h
  obtain⟨cI,h3⟩:=mn (AG h2)
  obtain⟨dY,hk,hlen,rR,qC⟩:=H_ hd.2 h3
  refine⟨dY,hk,by rw[hlen,List.length_set],fun m hm=>?_,fun i m c hm hc=>?_⟩
  ·rw[rR m (fun hx=>hm (List.mem_cons_of_mem _ hx)),List.getElem?_set_ne (fun e=>hm (by rw[e]; exact List.mem_cons_self))]
  ·cases i with
   | zero =>
    simp at hm hc; subst hm; subst hc
    refine MJ _ ?_
    rw[rR l hnm,List.getElem?_set_self cI]
   | succ i=>exact qC i m c (by simpa using hm) (by simpa using hc)
 | [],_::_,_,_,_,h=>h.elim
 | _::_,[],_,_,_,h=>h.elim
theorem CS {π:gS}:∀ {xs ys:List PV} {vs:List Value},HX π xs ys->bJ w I xs β vs->bJ w I ys (iS β π) vs
 | [],[],vs,_,h=>by cases vs with
  | nil=>simp only[bJ]
  | cons v vs=>simp only[bJ] at h
 | x::xs,y::ys,vs,h,hx=>by
  cases vs with
  | nil=>simp only[bJ] at hx
  | cons v vs =>
   simp only[bJ] at hx ⊢
   obtain⟨z,hz,hle⟩:=az h.1
   exact⟨GZ hz (e9 hle _ _ _ _ hx.1),CS h.2 hx.2⟩
 | [],_::_,_,h,_=>h.elim
 | _::_,[],_,h,_=>h.elim
theorem oT {π:gS} {x y:PV} {v:Value} (h:x.yb π=some y) (hx:x.Is w I (iS β π) v):y.Is w I β v:=by
 unfold PV.yb at h
 split at h
 ·split at h
  ·rename_i m hm
   cases h
   simp only[PV.Is] at hx ⊢
   rw[cG hm] at hx; exact hx
  ·rename_i hm
   cases h
   simp only[PV.Is] at hx ⊢
   obtain⟨p,hp,hv⟩:=hx
   rw[jR hm] at hp; cases hp; exact hv
  ·cases h
 ·split at h
  ·rename_i m hm
   cases h
   simp only[PV.Is] at hx ⊢
   rw[cG hm] at hx; exact hx
  ·cases h
 ·split at h
  ·rename_i m hm
   cases h
   simp only[PV.Is] at hx ⊢
   rw[cG hm] at hx; exact hx
  ·cases h
 ·split at h
  ·rename_i m hm
   cases h
   simp only[PV.Is] at hx ⊢
   rw[cG hm] at hx; exact hx
  ·cases h
 ·split at h
  ·rename_i m hm
   cases h
   simp only[PV.Is] at hx ⊢
   rw[cG hm] at hx; exact hx
  ·cases h
 ·split at h
  ·rename_i m hm
   cases h
   simp only[PV.Is] at hx ⊢
   rw[cG hm] at hx; exact hx
  ·cases h
 ·cases h
 ·cases h
 ·cases h
 ·cases h
  refine PV.Is.mono (fun _ h=>h) (fun _ _=>rfl) x _ β v (fun l p hl=>?_) hx
  cases x<;>first|(simp_all [PV.dx]; done)|(rename_i a1 a2 a3 a4 a5 a6 a7 a8 a9; first|exact (a4 _ _ _ _ rfl).elim|exact (a5 _ _ _ _ rfl).elim|exact (a6 _ _ _ _ rfl).elim)
theorem iV {π:gS}:∀ {xs ys:List PV} {i:Nat},gl π xs=some ys->(∀ y,ys[i]?=some y->∃ x,xs[i]?=some x/\x.yb π=some y)/\(∀ x,xs[i]?=some x->∃ y,ys[i]?=some y/\x.yb π=some y)/\ys.length=xs.length
 | [],ys,i,h=>by
  simp only[gl,Option.some.injEq] at h
  subst h
  exact⟨fun y hy=>by simp at hy,fun x hx=>by simp at hx,rfl⟩
 | x::xs,ys,i,h=>by
  simp only[gl] at h
  split at h
  ·rename_i y l h1 h2
   cases h
   obtain⟨a1,a2,a3⟩:=iV (i:=i - 1) h2
   cases i with
   | zero=>exact⟨fun z hz=>by simp at hz; subst hz; exact⟨x,rfl,h1⟩,fun z hz=>by simp at hz; subst hz; exact⟨y,rfl,h1⟩,by simp[a3]⟩
   | succ i=>exact⟨fun z hz=>by simpa using a1 z (by simpa using hz),fun z hz=>by simpa using a2 z (by simpa using hz),by simp[a3]⟩
  ·cases h
theorem gb.tr {l l':Nat} {b b':au} (hb:gb I β st w l b) (nz:∀ p,β l=some p->aN l'=some p) (hI:∀ g,I g->I' g) (hw:∀ g,I g->w'.heap[g]?=w.heap[g]?)
  (hg:∀ p g o,β l=some p->p.a=some (g,o)->w'.heap[g]?=w.heap[g]?) (fC:∀ p g o fr,β l=some p->p.a=some (g,o)->Own I β st l g fr b->Own I' aN dY l' g fr b')
  (hk:b'.k=b.k) (GO:b'.ty=b.ty) (fA:b'.size=b.size) (ja:b.k.tN=false->b'.cs=b.cs) (hlen:b'.cs.length=b.cs.length)
  (nB:b.k.tN=true->∀ (arr:Array Value) (o:Nat),bB w I β b.cs arr o->bB w' I' aN b'.cs arr o):gb I' aN dY w' l' b':=by
 obtain⟨p,hp,cP⟩:=hb
 refine⟨p,nz p hp,?_⟩
 rw[hk]
 split at cP
 ·rename_i he
  obtain⟨g,o,arr,ty,fr,ha,hh,hc,ho⟩:=cP
  exact⟨g,o,arr,ty,fr,ha,(hg p g o hp ha).trans hh,nB (by rw[he]; rfl) arr o hc,fC p g o fr hp ha ho⟩
 ·rename_i he
  obtain⟨g,arr,fr,ha,hh,hc,ho,h1,h2,h3,h4,h5⟩:=cP
  exact⟨g,arr,fr,ha,by rw[GO]; exact (hg p g 0 hp ha).trans hh,nB (by rw[he]; rfl) arr 0 hc,fC p g 0 fr hp ha ho,by rw[hlen,fA]; exact h1,h2,h3,by rw[fA]; exact h4,by rw[fA]; exact h5⟩
 ·rename_i he
  obtain⟨⟨h1,h2,h3,h4⟩,cP⟩:=cP
  have jv:=ja (by rw[he]; rfl)
  refine⟨⟨by rw[fA]; exact h1,by rw[jv]; exact h2,h3,h4⟩,?_⟩
  rcases cP with h|⟨g,arr,fr,ha,hh,hc,ho,h5⟩
  ·exact .inl h
  ·exact .inr ⟨g,arr,fr,ha,by rw[GO]; exact (hg p g 0 hp ha).trans hh,by rw[jv,fA]; exact cr.mono hI hw _ _ _ _ (hg p g 0 hp ha) hc,fC p g 0 fr hp ha ho,by rw[fA]; exact h5⟩
 ·rename_i he
  obtain⟨g,ha,hm,ho⟩:=cP
  have jv:=ja (by rw[he]; rfl)
  exact⟨g,ha,by rw[jv]; exact hm.og (hg p g 0 hp ha),fC p g 0 _ hp ha ho⟩
theorem Spec.ZB {f:FuncId} {args args':List PV} {r0:PV} {S0 S1:List au} {K:PV->List au->Prop} (σ:List Nat) (h:Spec G f args' S0 [] fun r S'=>r=r0/\S'=S1) (hm:kQ S0 S1=true) (sw:r0.dx = []) (hσ:lY σ=true)
  (hle:HX (σ.map some) args args') (hK:atK (σ.map some) st σ S0 (Wd (σ.map some) σ S1 st (K r0))):Spec G f args st [] K:=by
 obtain⟨hk,FP,hat⟩:=H' hK
 obtain⟨dY,vW,hlen',rR,qC⟩:=H_ hσ hk
 obtain⟨Kb,KL⟩:=oF hm
 have hdup:=uV hσ
 have J_:∀ {i l:Nat},σ[i]?=some l->(σ.map some)[i]?=some (some l):=fun {i l} h=>by rw[List.getElem?_map,h]; rfl
 refine Spec.intro h.run.1 fun I β w vals hH hM hA=>?_
 obtain⟨fO,Ia⟩:∃ fO:ay,fO=iS β (σ.map some):=⟨_,rfl⟩
 have jS:∀ {i l:Nat},σ[i]?=some l->fO i=β l:=fun {i l} h=>by rw[Ia]; exact cG (J_ h)
 have ZC:∀ {i:Nat},S0.length<=i->fO i=none:=fun {i} h=>by
  rw[Ia]; unfold iS; rw[List.getElem?_eq_none (by rw[List.length_map]; omega)]
 have idx:∀ {i:Nat},i < S0.length->∃ l,σ[i]?=some l:=fun {i} h=>⟨σ[i]'(by omega),List.getElem?_eq_getElem (by omega)⟩
 have z_:∀ {i:Nat} {b':au},S0[i]?=some b'->∃ l b b2,σ[i]?=some l/\st[l]?=some b/\gB b b2/\b2.k=b'.k/\b2.ty=b'.ty/\b2.size=b'.size/\b2.m=b'.m/\b2.live=b'.live/\((b'.k.tN=false/\b2.cs=b'.cs)\/(b'.k.tN=true/\gl (σ.map some) b'.cs=some b2.cs)):=fun {i b'} di=>by
  obtain⟨l,hl⟩:=idx (List.getElem?_eq_some_iff.1 di).1
  obtain⟨b,hb,hr⟩:=hat i l b' hl di
  obtain⟨b2,h1,h2⟩:=w5 hr
  exact⟨l,b,b2,hl,hb,h1,h2⟩
 
 have Ib:∀ {i:Nat} {b':au},S0[i]?=some b'->∃ l b,σ[i]?=some l/\st[l]?=some b/\b.live=true/\b.m=b'.m:=fun {i b'} di=>by
  obtain⟨l,b,b2,hl,hb,h1,h2,h3,h4,h5,h6,h7⟩:=z_ di
  obtain⟨e1,e2,e3,e4,e5,e6,e7⟩:=de h1
  exact⟨l,b,hl,hb,e4,e3.trans h5⟩
 have OK:aE I fO S0 w:=by
  refine⟨fun i hi=>ZC hi,fun i b' di aH=>?_⟩
  obtain⟨l,b,b2,hl,hb,h1,h2,h3,h4,h5,h6,h7⟩:=z_ di
  obtain⟨e1,e2,e3,e4,e5,e6,e7⟩:=de h1
  have hB:=hH.gA l b hb e4
  refine hB.tr (fun p hp=>(jS hl).trans hp) (fun _ h=>h) (fun _ _=>rfl) (fun _ _ _ _ _=>rfl) (fun p g o fr hp ha ho=>⟨fun hr=>?_,fun hr=>ho.2 (by rw[e3,h5]; exact hr)⟩) (h2.symm.trans e6.symm) (h3.symm.trans e1.symm) (h4.symm.trans e2.symm) (fun hc=>?_) ?_ (fun hc arr o qX=>?_)
  ·obtain⟨q1,q2,q3⟩:=ho.1 (by rw[e3,h5]; exact hr)
   refine⟨q1,q2,fun i2 b2' dt dO bS p2 g2 o2 iv ir=>?_⟩
   obtain⟨l2,b3,fM,kv,Ic,_⟩:=Ib dO
   exact q3 l2 b3 (fun e=>dt (hdup i2 i l (by rw[← e]; exact fM) hl)) kv Ic p2 g2 o2 ((jS fM).symm.trans iv) ir
  ·rcases h7 with ⟨_,h7⟩|⟨h7,_⟩
   ·rcases e7 with ⟨_,e7⟩|⟨e7,_⟩
    ·rw[← h7,e7]
    ·rw[hc] at e7; cases e7
   ·rw[← h2,← e6,hc] at h7; cases h7
  ·have:b2.cs.length=b.cs.length:=by
    rcases e7 with ⟨_,e7⟩|⟨_,e7⟩
    ·rw[e7]
    ·exact (mu e7).symm
   rcases h7 with ⟨_,h7⟩|⟨_,h7⟩
   ·rw[← h7,this]
   ·rw[← (iV (i:=0) h7).2.2,this]
  ·have hca2:bB w I β b2.cs arr o:=by
    rcases e7 with ⟨hd,_⟩|⟨_,h8⟩
    ·rw[hc] at hd; cases hd
    ·exact iL h8 qX
   rcases h7 with ⟨hd,_⟩|⟨_,h7⟩
   ·rw[← h2,← e6,hc] at hd; cases hd
   ·intro j c hj
    obtain⟨y,hy,EZ⟩:=(iV (i:=j) h7).2.1 c hj
    obtain⟨v,hv,hi,h1⟩:=hca2 j y hy
    exact⟨v,hv,by rw[Ia]; exact qZ EZ hi,h1⟩
 have Qp:bJ w I args' fO vals:=by rw[Ia]; exact CS hle hA
 refine (h.run.2 I fO w vals OK hM Qp).mono fun e w' ⟨v,r,S',I',aN,he,⟨e1,e2⟩,hi,oG,mw,hE,hlen,nz⟩=>?_
 subst e1; subst e2
 obtain rfl:aN=fO:=funext fun i=>by
  by_cases hi:i < S0.length
  ·exact nz i hi (by simp)
  ·rw[ZC (by omega),oG.qS i (by omega)]
 have mem:∀ {l:Nat},l∈σ->∃ i,σ[i]?=some l/\i < S0.length:=fun {l} hl=>by
  obtain⟨i,hi,e⟩:=List.getElem_of_mem hl
  exact⟨i,by rw[List.getElem?_eq_getElem hi,e],by omega⟩
 have Hd:∀ {g},Wr aN S0 g->Wr β st g:=fun {g} ⟨i,b,p,o,h1,h2,h3,h4,h5⟩=>by
  obtain⟨l,b2,hl,dO,Oy,xE⟩:=Ib h1
  exact⟨l,b2,p,o,dO,Oy,by rw[xE]; exact h3,(jS hl).symm.trans h4,h5⟩
 
 have apart:∀ {l:Nat} {b:au} {p:ph} {g o:Nat},l ∉ σ->st[l]?=some b->b.live=true->β l=some p->p.a=some (g,o)->¬ Wr aN S0 g:=fun {l b p g o} hl hb aH hp ha ⟨i,b2,p2,o2,h1,h2,h3,h4,h5⟩=>by
  obtain⟨l2,b3,fM,kv,Oy,xE⟩:=Ib h1
  obtain⟨arr,ty,fr,ho⟩:=(hH.gA l2 b3 kv Oy).place ((jS fM).symm.trans h4) h5
  exact (ho.2.1 (by rw[xE,h3]; nofun)).2.2 l b (fun e=>hl (e ▸ List.mem_of_getElem? fM)) hb aH p g o hp ha rfl
 
 have new:∀ {i l:Nat} {b':au},σ[i]?=some l->S'[i]?=some b'->∃ b2,dY[l]?=some b2/\b2.k=b'.k/\b2.ty=b'.ty/\b2.size=b'.size/\b2.m=b'.m/\b2.live=b'.live/\((b'.k.tN=false/\b2.cs=b'.cs)\/(b'.k.tN=true/\gl (σ.map some) b'.cs=some b2.cs)):=fun {i l b'} hl di=>w5 (qC i l b' hl di)
 have inS:∀ {i:Nat},i < S0.length->∃ b',S'[i]?=some b':=fun {i} h=>⟨S'[i]'(by omega),List.getElem?_eq_getElem (by omega)⟩
 have V9:∀ {g},Wr β dY g->(Wr aN S' g)\/∃ l b p o,l ∉ σ/\st[l]?=some b/\b.live=true/\b.m = .w/\β l=some p/\p.a=some (g,o):=fun {g} ⟨l,b,p,o,h1,h2,h3,h4,h5⟩=>by
  by_cases hl:l∈σ
  ·obtain⟨i,hi,cI⟩:=mem hl
   obtain⟨b',di⟩:=inS cI
   obtain⟨b2,dO,q1,q2,q3,q4,q5,_⟩:=new hi di
   rw[dO] at h1
   cases h1
   exact .inl ⟨i,b',p,o,di,by rw[← q5]; exact h2,by rw[← q4]; exact h3,(jS hi).trans h4,h5⟩
  ·exact .inr ⟨l,b,p,o,hl,(rR l hl).symm.trans h1,h2,h3,h4,h5⟩
 refine⟨v,r,dY,I',β,he,vW,mv sw hi,⟨fun l hl=>hH.qS l (by omega),fun l b hb aH=>?_⟩,mw,⟨hE.os,hE.tape,hE.output,hE.size,fun g hg hn=>hE.block g hg fun h=>hn (Hd h),fun g hg h=>?_,hE.av,fun g hg h=>(hE.new g hg h).imp id Hd⟩,by omega,fun _ _ _=>rfl⟩
 ·by_cases hl:l∈σ
  ·obtain⟨i,hi,cI⟩:=mem hl
   obtain⟨b',di⟩:=inS cI
   obtain⟨b2,dO,q1,q2,q3,q4,q5,q6⟩:=new hi di
   rw[dO] at hb
   cases hb
   have hB:=oG.gA i b' di (by rw[← q5]; exact aH)
   refine hB.tr (fun p hp=>(jS hi).symm.trans hp) (fun _ h=>h) (fun _ _=>rfl) (fun _ _ _ _ _=>rfl) (fun p g o fr hp ha ho=>⟨fun hr=>?_,fun hr=>ho.2 (by rw[← q4]; exact hr)⟩) q1 q2 q3 (fun hc=>?_) ?_ (fun hc arr o qX=>?_)
   ·obtain⟨x1,x2,x3⟩:=ho.1 (by rw[← q4]; exact hr)
    refine⟨x1,x2,fun l2 c2 dt jv bS p2 g2 o2 iv ir=>?_⟩
    by_cases fM:l2∈σ
    ·obtain⟨i2,uC,As⟩:=mem fM
     obtain⟨b3',ZD⟩:=inS As
     obtain⟨b3,kv,_,_,_,_,y5,_⟩:=new uC ZD
     rw[kv] at jv
     cases jv
     exact x3 i2 b3' (fun e=>dt (Option.some.inj (by rw[← hi,← uC,e]))) ZD (by rw[← y5]; exact bS) p2 g2 o2 ((jS uC).trans iv) ir
    ·have hc2':st[l2]?=some c2:=(rR l2 fM).symm.trans jv
     obtain⟨b0,gw⟩:∃ b0,S0[i]?=some b0:=⟨S0[i]'cI,List.getElem?_eq_getElem cI⟩
     obtain⟨l3,b3,J5,kv,Ic,hmm3⟩:=Ib gw
     obtain rfl:l3=l:=Option.some.inj (J5.symm.trans hi)
     obtain⟨_,q7⟩:=KL i b0 b' gw di
     obtain⟨_,_,fr3,_,XB⟩:=(hH.gA l3 b3 kv Ic).place ((jS hi).symm.trans hp) ha
     exact (XB.1 (by rw[hmm3,q7,← q4]; exact hr)).2.2 l2 c2 dt hc2' bS p2 g2 o2 iv ir
   ·rcases q6 with ⟨_,q6⟩|⟨q6,_⟩
    ·exact q6
    ·rw[hc] at q6; cases q6
   ·rcases q6 with ⟨_,q6⟩|⟨_,q6⟩
    ·rw[q6]
    ·exact (iV (i:=0) q6).2.2
   ·rcases q6 with ⟨hd,_⟩|⟨_,q6⟩
    ·rw[hc] at hd; cases hd
    ·intro j c hj
     obtain⟨y,hy,EZ⟩:=(iV (i:=j) q6).1 c hj
     obtain⟨u,hu,hiu,h1⟩:=qX j y hy
     exact⟨u,hu,oT EZ (by rw[← Ia]; exact hiu),h1⟩
  ·have di:st[l]?=some b:=(rR l hl).symm.trans hb
   have hB:=hH.gA l b di aH
   have same:∀ {p g o},β l=some p->p.a=some (g,o)->g < w.heap.size/\w'.heap[g]?=w.heap[g]?:=fun {p g o} hp ha=>by
    have cI:=hH.dH ⟨l,b,p,o,di,aH,hp,ha⟩
    exact⟨cI,hE.block g cI (apart hl di aH hp ha)⟩
   refine hB.mono hE.av (fun g hg=>hE.block g (hM.av g hg) fun hw=>?_) (fun _ _ h=>h) fun p g o hp ha=>⟨(same hp ha).2,fun hr=>?_⟩
   ·exact OK.lC hw hg
   ·obtain⟨arr,ty,fr,hh,ho⟩:=hB.place hp ha
    obtain⟨h1,h2,h3⟩:=ho.1 hr
    refine⟨fun hI=>(hE.new g (same hp ha).1 hI).elim h2 (apart hl di aH hp ha),fun l2 b2 dt dO bS p2 g2 o2 iv ir=>?_⟩
    by_cases fM:l2∈σ
    ·obtain⟨i2,uC,As⟩:=mem fM
     obtain⟨b0,gw⟩:∃ b0,S0[i2]?=some b0:=⟨S0[i2]'As,List.getElem?_eq_getElem As⟩
     obtain⟨l3,b3,J5,kv,Ic,_⟩:=Ib gw
     obtain rfl:l3=l2:=Option.some.inj (J5.symm.trans uC)
     exact h3 l3 b3 dt kv Ic p2 g2 o2 iv ir
    ·exact h3 l2 b2 dt ((rR l2 fM).symm.trans dO) bS p2 g2 o2 iv ir
 ·rcases V9 h with h|⟨l,b,p,o,_,h2,h3,h4,h5,h6⟩
  ·exact Hd (hE.wr g hg h)
  ·exact⟨l,b,p,o,h2,h3,h4,h5,h6⟩
end
def Pn:Nat->Nat->gS
 | _,0=>[]
 | n,k+1=>some n::Pn (n+1) k
def zj (π:gS):List PV->Option (List PV)
 | []=>some []
 | c::cs=>(match c.J' π,zj π cs with
  | some x,some l=>some (x::l)
  | _,_=>none)
def PV.U2 (π:gS) (x:PV):Option PV:=match x with
 | .tup cs=>(zj π cs).map .tup
 | x=>x.J' π
def U3 (π:gS):List au->List au->(List au->Prop)->Prop
 | [],st,k=>k st
 | b::S,st,k=>ue π b fun b=>Xo b fun b=>Al st b fun st=>U3 π S st k
section
variable {w w':World} {I I':Nat->Prop} {β aN:ay} {G:Gx} {s:aV} {a:Act} {st dY:List au}
theorem w6:∀ {k n i:Nat},(Pn n k)[i]?=if i < k then some (some (n+i)) else none
 | 0,n,i=>by simp[Pn]
 | k+1,n,0=>by simp[Pn]
 | k+1,n,i+1=>by
  rw[Pn,List.getElem?_cons_succ,w6]
  simp only[Nat.add_lt_add_iff_right,show n+1+i=n+(i+1) by omega]
theorem sY {π:gS}:∀ {xs ys:List PV} {vs:List Value},gl π xs=some ys->bJ w I xs (iS β π) vs->bJ w I ys β vs
 | [],ys,vs,h,hx=>by
  simp only[gl,Option.some.injEq] at h
  subst h
  cases vs with
  | nil=>simp only[bJ]
  | cons v vs=>simp only[bJ] at hx
 | x::xs,ys,vs,h,hx=>by
  simp only[gl] at h
  split at h
  ·rename_i y l h1 h2
   cases h
   cases vs with
   | nil=>simp only[bJ] at hx
   | cons v vs =>
    simp only[bJ] at hx ⊢
    exact⟨oT h1 hx.1,sY h2 hx.2⟩
  ·cases h
theorem CT {π:gS} {x y:PV} {v:Value} (h:x.J' π=some y) (hx:x.Is w I (iS β π) v):y.Is w I β v:=by
 unfold PV.J' at h
 split at h
 ·rw[Option.map_eq_some_iff] at h
  obtain⟨l,hl,rfl⟩:=h
  simp only[PV.Is] at hx ⊢
  obtain⟨vs,rfl,hx⟩:=hx
  exact⟨vs,rfl,sY hl hx⟩
 ·rw[Option.map_eq_some_iff] at h
  obtain⟨l,hl,rfl⟩:=h
  simp only[PV.Is] at hx ⊢
  obtain⟨vs,rfl,hx⟩:=hx
  exact⟨vs,rfl,sY hl hx⟩
 ·cases h
 ·exact oT h hx
theorem uW {π:gS}:∀ {xs ys:List PV} {vs:List Value},zj π xs=some ys->bJ w I xs (iS β π) vs->bJ w I ys β vs
 | [],ys,vs,h,hx=>by
  simp only[zj,Option.some.injEq] at h
  subst h
  cases vs with
  | nil=>simp only[bJ]
  | cons v vs=>simp only[bJ] at hx
 | x::xs,ys,vs,h,hx=>by
  simp only[zj] at h
  split at h
  ·rename_i y l h1 h2
   cases h
   cases vs with
   | nil=>simp only[bJ] at hx
   | cons v vs =>
    simp only[bJ] at hx ⊢
    exact⟨CT h1 hx.1,uW h2 hx.2⟩
  ·cases h
theorem Ie {π:gS} {x y:PV} {v:Value} (h:x.U2 π=some y) (hx:x.Is w I (iS β π) v):y.Is w I β v:=by
 unfold PV.U2 at h
 split at h
 ·rw[Option.map_eq_some_iff] at h
  obtain⟨l,hl,rfl⟩:=h
  simp only[PV.Is] at hx ⊢
  obtain⟨vs,rfl,hx⟩:=hx
  exact⟨vs,rfl,uW hl hx⟩
 ·exact CT h hx
theorem CU:∀ {l:List au} {b:au} {q:List au->Prop},Al l b q->q (l++[b])
 | [],_,_,h=>h
 | c::l,b,q,h=>CU (l:=l) (q:=fun x=>q (c::x)) h
theorem CV {π:gS}:∀ {S st:List au} {k:List au->Prop},U3 π S st k->∃ S2,k (st++S2)/\S2.length=S.length/\∀ (i:Nat) (b:au),S[i]?=some b->∃ b2,S2[i]?=some b2/\b2.k=b.k/\b2.ty=b.ty/\b2.size=b.size/\b2.m=b.m/\b2.live=b.live/\((b.k.tN=false/\b2.cs=b.cs)\/(b.k.tN=true/\gl π b.cs=some b2.cs))
 | [],st,k,h=>⟨[],by rw[List.append_nil]; exact h,rfl,fun i b hb=>by simp at hb⟩
 | c::S,st,k,h=>by
  obtain⟨b2,h1,h2⟩:=w5 h
  obtain⟨S2,hk,hl,hh⟩:=CV (CU (AG h1))
  refine⟨b2::S2,by rw[List.append_assoc] at hk; exact hk,by simp[hl],fun i b hb=>?_⟩
  cases i with
  | zero=>simp at hb; subst hb; exact⟨b2,rfl,h2⟩
  | succ i=>simpa using hh i b (by simpa using hb)
theorem Spec.rh {f:FuncId} {args args':List PV} {r0:PV} {S1:List au} {K:PV->List au->Prop} (h:Spec G f args' [] [] fun r S'=>r=r0/\S'=S1) (du:S1.all (fun b=>b.live && Md.beq b.m .w)=true) (hle:pa ki args args') (hu:dZ args' = [])
  (hK:lD st 0 fun n=>U3 (Pn n S1.length) S1 st fun z8=>bD (r0.U2 (Pn n S1.length)) fun r=>K r z8):Spec G f args st [] K:=by
 replace hK:=gR hK
 rw[Nat.zero_add] at hK
 obtain⟨S2,hk,hlen,hnew⟩:=CV hK
 obtain⟨r2,Qu,vW⟩:=az hk
 refine Spec.intro h.run.1 fun I β w vals hH hM hA=>?_
 have h0:aE I (fun _=>none) ([]:List au) w:=⟨fun _ _=>rfl,fun l b hl=>by simp at hl⟩
 refine (h.run.2 I (fun _=>none) w vals h0 hM (kx hu (jx (fun _ _=>e9) hle hA))).mono fun e w' ⟨v,r,S',I',lz,he,⟨e1,e2⟩,hi,oG,mw,hE,_,_⟩=>?_
 subst e1; subst e2
 have FR:∀ g,¬ Wr (fun _=>none) ([]:List au) g:=fun g ⟨l,b,p,o,h1,_⟩=>by simp at h1
 have hold:∀ g,g < w.heap.size->w'.heap[g]?=w.heap[g]?:=fun g hg=>hE.block g hg (FR g)
 have G4:∀ g,g < w.heap.size->I' g->I g:=fun g hg h=>(hE.new g hg h).elim id fun h=>absurd h (FR g)
 have hlw:∀ {i:Nat} {b:au},S'[i]?=some b->b.live=true/\b.m = .w:=fun {i b} hb=>by
  rw[List.all_eq_true] at du
  have:=du b (List.mem_of_getElem? hb)
  simp only[Bool.and_eq_true] at this
  exact⟨this.1,Md.nF this.2⟩
 have fN:∀ {i:Nat} {p:ph} {g o:Nat},lz i=some p->p.a=some (g,o)->w.heap.size<=g:=fun {i p g o} hp ha=>by
  have cI:=oG.lt hp
  obtain⟨b,hb⟩:∃ b,S'[i]?=some b:=⟨S'[i],List.getElem?_eq_getElem cI⟩
  rcases Nat.lt_or_ge g w.heap.size with hg|hg
  ·exact absurd (hE.wr g hg ⟨i,b,p,o,hb,(hlw hb).1,(hlw hb).2,hp,ha⟩) (FR g)
  ·exact hg
 obtain⟨fU,eβ⟩:∃ fU:ay,fU=fun l=>if l < st.length then β l else lz (l - st.length):=⟨_,rfl⟩
 have MK:∀ {l},l < st.length->fU l=β l:=fun {l} h=>by rw[eβ]; exact if_pos h
 have Po:∀ {i},fU (st.length+i)=lz i:=fun {i}=>by rw[eβ]; show (if st.length+i < st.length then _ else _)=_; rw[if_neg (by omega),Nat.add_sub_cancel_left]
 have EZ:iS fU (Pn st.length S'.length)=lz:=funext fun i=>by
  by_cases h:i < S'.length
  ·rw[cG (m:=st.length+i) (by rw[w6,if_pos h]),Po]
  ·unfold iS
   rw[w6,if_neg h]
   exact (oG.qS i (by omega)).symm
 have ZE:∀ l p,β l=some p->fU l=some p:=fun l p hp=>by rw[MK (hH.lt hp)]; exact hp
 have gx:∀ g,jN β st g->g < w.heap.size:=fun g hg=>hH.dH hg
 refine⟨v,r2,st++S2,I',fU,he,vW,Ie Qu (by rw[EZ]; exact hi),⟨fun l hl=>?_,fun l b hb aH=>?_⟩,mw,⟨hE.os,hE.tape,hE.output,hE.size,fun g hg _=>hold g hg,fun g hg ⟨l,b,p,o,h1,h2,h3,h4,h5⟩=>?_,hE.av,fun g hg h=>.inl (G4 g hg h)⟩,by simp,fun l hl _=>MK hl⟩
 ·rw[List.length_append] at hl
  have:=Po (i:=l - st.length)
  rw[show st.length+(l - st.length)=l by omega] at this
  rw[this]; exact oG.qS _ (by omega)
 ·by_cases hl:l < st.length
  ·rw[List.getElem?_append_left hl] at hb
   have hB:=hH.gA l b hb aH
   refine hB.mono hE.av (fun g hg=>hold g (hM.av g hg)) ZE fun p g o hp ha=>?_
   obtain⟨arr,ty,fr,hh,ho⟩:=hB.place hp ha
   have cI:=bR hh
   refine⟨hold g cI,fun hr=>⟨fun hI=>(ho.1 hr).2.1 (G4 g cI hI),fun l' b' dt di eY p' g' o' dA dv=>?_⟩⟩
   by_cases jL:l' < st.length
   ·rw[List.getElem?_append_left jL] at di
    exact (ho.1 hr).2.2 l' b' dt di eY p' g' o' (by rw[← MK jL]; exact dA) dv
   ·have e:=Po (i:=l' - st.length)
    rw[show st.length+(l' - st.length)=l' by omega] at e
    have:=fN (by rw[← e]; exact dA) dv
    omega
  ·obtain⟨i,rfl⟩:∃ i,l=st.length+i:=⟨l - st.length,by omega⟩
   rw[List.getElem?_append_right (by omega),Nat.add_sub_cancel_left] at hb
   have cI:i < S'.length:=by rw[← hlen]; exact (List.getElem?_eq_some_iff.1 hb).1
   obtain⟨b',di⟩:∃ b,S'[i]?=some b:=⟨S'[i],List.getElem?_eq_getElem cI⟩
   obtain⟨b2,dO,q1,q2,q3,q4,q5,q6⟩:=hnew i b' di
   obtain rfl:b2=b:=Option.some.inj (dO.symm.trans hb)
   have hB:=oG.gA i b' di (hlw di).1
   refine hB.tr (fun p hp=>by rw[Po]; exact hp) (fun _ h=>h) (fun _ _=>rfl) (fun _ _ _ _ _=>rfl) (fun p g o fr hp ha ho=>⟨fun hr=>?_,fun hr=>ho.2 (by rw[← q4]; exact hr)⟩) q1 q2 q3 (fun hc=>?_) ?_ (fun hc arr o qX=>?_)
   ·obtain⟨x1,x2,x3⟩:=ho.1 (by rw[← q4]; exact hr)
    refine⟨x1,x2,fun l2 c2 dt jv bS p2 g2 o2 iv ir=>?_⟩
    by_cases fM:l2 < st.length
    ·rw[List.getElem?_append_left fM] at jv
     have h1:=gx g2 ⟨l2,c2,p2,o2,jv,bS,by rw[← MK fM]; exact iv,ir⟩
     have h2:=fN hp ha
     omega
    ·obtain⟨i2,rfl⟩:∃ i2,l2=st.length+i2:=⟨l2 - st.length,by omega⟩
     rw[Po] at iv
     have As:=oG.lt iv
     obtain⟨b3,kv⟩:∃ b,S'[i2]?=some b:=⟨S'[i2],List.getElem?_eq_getElem As⟩
     exact x3 i2 b3 (fun e=>dt (by rw[e])) kv (hlw kv).1 p2 g2 o2 iv ir
   ·rcases q6 with ⟨_,q6⟩|⟨q6,_⟩
    ·exact q6
    ·rw[hc] at q6; cases q6
   ·rcases q6 with ⟨_,q6⟩|⟨_,q6⟩
    ·rw[q6]
    ·exact (iV (i:=0) q6).2.2
   ·rcases q6 with ⟨hd,_⟩|⟨_,q6⟩
    ·rw[hc] at hd; cases hd
    ·intro j c hj
     obtain⟨y,hy,hr⟩:=(iV (i:=j) q6).1 c hj
     obtain⟨u,hu,hiu,h1⟩:=qX j y hy
     exact⟨u,hu,oT hr (by rw[EZ]; exact hiu),h1⟩
 ·by_cases hl:l < st.length
  ·rw[List.getElem?_append_left hl] at h1
   exact⟨l,b,p,o,h1,h2,h3,by rw[← MK hl]; exact h4,h5⟩
  ·have e:=Po (i:=l - st.length)
   rw[show st.length+(l - st.length)=l by omega] at e
   have:=fN (by rw[← e]; exact h4) h5
   omega
theorem Spec.ZF {f:FuncId} {args args':List PV} {rl:List Nat} {K:PV->List au->Prop} (fz:List Nat) (hz:V8 st fz=true) (hle:pa (XA st fz) args args') (hu:dZ args' = []) (h:Spec G f args' (kA fz st) rl K):Spec G f args st rl K:=by
 refine Spec.intro h.run.1 fun I β w vals hH hM hA=>?_
 have hH2:=hH.FW hM hz
 have hM2:dd G (fV I β st fz) w:=oE hH hM
 have hA2:bJ w (fV I β st fz) args' β vals:=kx hu (mz hH hle hu hA)
 have Qq:∀ {g},Wr β (kA fz st) g->Wr β st g:=fun {g} ⟨l,b1,p,o,h1,h2,h3,h4,h5⟩=>by
  obtain⟨b0,gw,rfl⟩:=oS h1
  refine⟨l,b0,p,o,gw,h2,?_,h4,h5⟩
  cases hc:kt l fz with
  | true=>simp only[hc,lN,cond_true] at h3; cases h3
  | false=>simpa only [hc,lN,cond_false] using h3
 have hlen:(kA fz st).length=st.length:=by unfold kA; rw[gi]
 refine (h.run.2 (fV I β st fz) β w vals hH2 hM2 hA2).mono fun e w' ⟨v,r,S',I',aN,he,hK,hi,oG,mw,hE,hl,nz⟩=>?_
 refine⟨v,r,S',I',aN,he,hK,hi,oG,mw,⟨hE.os,hE.tape,hE.output,hE.size,fun g hg hn=>hE.block g hg fun h=>hn (Qq h),fun g hg h=>Qq (hE.wr g hg h),fun g hg=>hE.av g (.inl hg),fun g hg h=>?_⟩,by rw[← hlen]; exact hl,fun l hl hr=>nz l (by rw[hlen]; exact hl) hr⟩
 rcases hE.new g hg h with (h|⟨l,b,p,o,hl,hb,aH,hm,hp,ha⟩)|h
 ·exact .inl h
 ·cases xE:b.m with
  | w=>exact .inr ⟨l,b,p,o,hb,aH,xE,hp,ha⟩
  | p=>rw[xE] at hm; cases hm
  | r =>
   obtain⟨arr,ty,fr,_,ho⟩:=(hH.gA l b hb aH).place hp ha
   exact .inl (ho.2 xE)
 ·exact .inr (Qq h)
end
end Go.Proofs.YtnbngokbamifbaaGreatDoor.Pw

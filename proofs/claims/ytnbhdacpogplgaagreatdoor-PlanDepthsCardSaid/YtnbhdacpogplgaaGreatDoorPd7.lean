/- What this claim is proved with: no condition. -/
import Derived.Test.YtnbhdacpogplgaaGreatDoorPd6
set_option linter.unusedVariables false
set_option linter.unusedSimpArgs false
namespace Go.Proofs.YtnbhdacpogplgaaGreatDoor.Pw
open Go Go.RowKit
structure qT where
 D:List Nat
 l:Nat
def iI (i:Nat) (l:List Nat):Bool:=l.any (Nat.beq i)
def xH (listed:Array Bool) (i:Nat):List Oper->Nat->List Nat->List Nat
 | [],_,acc=>acc
 | o::r,j,acc=>bif !(listed.getD j true) && o.after.toList.any (fun e=>Region.binds .any e && (Nat.beq e.on i || iI e.on acc)) then xH listed i r (j+1) (j::acc) else xH listed i r (j+1) acc
def QU (ops:List Oper) (listed:Array Bool) (i:Nat) (D:List Nat):Bool :=
 D.all fun j=>!(listed.getD j false) && (match ops[j]? with
  | some o=>o.after.toList.any fun e=>Region.binds .any e && (Nat.beq e.on i || iI e.on D)
  | none=>false)
def pinned (i:Nat):List qT->List Nat
 | []=>[]
 | p::r=>bif iI i p.D then pinned i r else p.l::pinned i r
def cz (i:Nat) (pins:List qT):List qT:=pins.filter fun p=>!iI i p.D
def Md.Zr:Md->Bool
 | .w=>true
 | _=>false
def pA (b:Bool) (m:Md):Md:=match b,m with
 | true,.w=>.p
 | _,m=>m
def fK (b:Bool) (m:Md):Md:=match b,m with
 | true,.p=>.w
 | _,m=>m
def mapM (f:Bool->Md->Md) (us:List Nat):Nat->List ak->List ak
 | _,[]=>[]
 | j,⟨k,ty,n,m,live,cs⟩::st=>⟨k,ty,n,f (iI j us) m,live,cs⟩::mapM f us (j+1) st
def JR:List ak->(List ak->Prop)->Prop
 | [],q=>q []
 | ⟨k,ty,n,m,live,cs⟩::st,q=>match m with
  | .w=>JR st fun st=>q (⟨k,ty,n,.w,live,cs⟩::st)
  | .p=>JR st fun st=>q (⟨k,ty,n,.p,live,cs⟩::st)
  | .r=>JR st fun st=>q (⟨k,ty,n,.r,live,cs⟩::st)
def fU (st:List ak) (ls:List Nat):List Nat:=ls.filter fun j=>match st[j]? with
 | some b=>b.live && b.m.Zr
 | none=>false
def Zs (st:List ak) (ls:List Nat):Bool:=ls.all fun j=>match st[j]? with
 | some b=>b.live
 | none=>false
def eQ (G:Gx) (ops:List Oper) (s:aO) (i:Nat) (o:Oper) (pins:List qT) (K:aO->Prop):Prop :=
 mY ops s o (fun s=>match pinned i pins with
  | []=>pop G s o fun v s2=>s2.put o.dst v K
  | ls=>JR (mapM pA (fU s.st ls) 0 s.st) fun st=>pop G (s.store st) o fun v s2=>bif Zs s2.st ls then JR (mapM fK (fU s.st ls) 0 s2.st) fun WE=>(s2.store WE).put o.dst v K else False)
  (fun s=>s.put o.dst (.tup []) K)
def lZ (ops:Array Oper) (listed:Array Bool) (i:Nat):Bool:=match ops[i]? with
 | some o=>Ev.kZ o.op && Region.free .any ops listed i
 | none=>false
def l4 (ops:Array Oper) (listed:Array Bool) (i:Nat):Bool:=match ops[i]? with
 | some o=>lj o.op && Region.free .any ops listed i
 | none=>false
def tl (D:List Nat) (x:PV) (pins:List qT):List qT:=match x.fp with
 | some l=>⟨D,l⟩::pins
 | none=>pins
section
variable {w w':World} {I I':Nat->Prop} {β aI:ax} {G:Gx} {s:aO} {a:Act} {st dc:List ak} {ops:Array Oper}
theorem tm:∀ {st:List ak} {q:List ak->Prop},JR st q->q st
 | [],_,h=>h
 | ⟨k,ty,n,m,live,cs⟩::st,q,h=>by
  unfold JR at h
  cases m<;>exact tm (st:=st) h
theorem dO (f:Bool->Md->Md) (us:List Nat):∀ (st:List ak) (j l:Nat),(mapM f us j st)[l]?=(st[l]?).map fun b=>{ b with m:=f (iI (j+l) us) b.m }
 | [],j,l=>by simp[mapM]
 | ⟨k,ty,n,m,live,cs⟩::st,j,0=>by simp[mapM]
 | ⟨k,ty,n,m,live,cs⟩::st,j,l+1=>by
  simp only[mapM,List.getElem?_cons_succ]
  rw[dO f us st (j+1) l,show j+1+l=j+(l+1) by omega]
theorem dP (f:Bool->Md->Md) (us:List Nat):∀ (st:List ak) (j:Nat),(mapM f us j st).length=st.length
 | [],_=>rfl
 | ⟨_,_,_,_,_,_⟩::st,j=>by simp[mapM,dP f us st]
theorem K1 {b:Bool} {m:Md}:pA b m = .r↔m = .r:=by cases b<;>cases m<;>simp[pA]
theorem K2 {b:Bool} {m:Md} (h:pA b m = .w):m = .w:=by cases b<;>cases m<;>simp_all [pA]
theorem Dp {b:Bool} {m:Md}:fK b m = .r↔m = .r:=by cases b<;>cases m<;>simp[fK]
theorem aD.JS (h:aD I β st w) {f:Bool->Md->Md} {us:List Nat} (hf:∀ b m,f b m = .r↔m = .r):aD I β (mapM f us 0 st) w:=by
 refine⟨fun l hl=>h.jI l (by rw[dP] at hl; exact hl),fun l b' hl az=>?_⟩
 rw[dO,Option.map_eq_some_iff] at hl
 obtain⟨b,hb,rfl⟩:=hl
 have fO:=h.fp l b hb az
 obtain⟨p,hp,hk⟩:=fO
 have own:∀ {g:Nat} {fr:Nat × Nat},Own I β st l g fr b->Own I β (mapM f us 0 st) l g fr { b with m:=f (iI (0+l) us) b.m }:=fun ho=>by
  refine⟨fun hr=>?_,fun hr=>ho.2 ((hf _ _).1 hr)⟩
  obtain⟨h1,h2,h3⟩:=ho.1 fun e=>hr ((hf _ _).2 e)
  refine⟨h1,h2,fun l' b' bZ iz eg=>?_⟩
  rw[dO,Option.map_eq_some_iff] at iz
  obtain⟨b2,cR,rfl⟩:=iz
  exact h3 l' b2 bZ cR eg
 refine⟨p,hp,?_⟩
 simp only
 split at hk
 ·rename_i bS
  obtain⟨g,o,arr,ty,fr,h1,h2,h3,ho⟩:=hk
  rw[bS]
  exact⟨g,o,arr,ty,fr,h1,h2,h3,own ho⟩
 ·rename_i bS
  obtain⟨g,arr,fr,h1,h2,h3,ho,h4⟩:=hk
  rw[bS]
  exact⟨g,arr,fr,h1,h2,h3,own ho,h4⟩
 ·rename_i bS
  obtain⟨h1,hk⟩:=hk
  rw[bS]
  refine⟨h1,?_⟩
  rcases hk with h|⟨g,arr,fr,h2,h3,h4,ho,h5⟩
  ·exact .inl h
  ·exact .inr ⟨g,arr,fr,h2,h3,h4,own ho,h5⟩
 ·rename_i bS
  obtain⟨g,h1,h2,ho⟩:=hk
  rw[bS]
  exact⟨g,h1,h2,own ho⟩
theorem cP {i:Nat} {l:List Nat}:iI i l=true↔i∈l:=by
 unfold iI
 rw[List.any_eq_true]
 exact⟨fun ⟨x,hx,e⟩=>by rw[Nat.eq_of_beq_eq_true e]; exact hx,fun h=>⟨i,h,Nat.beq_refl i⟩⟩
def nd (pins:List qT) (ys:List kH) (I:Nat->Prop) (β:ax) (st:List ak) (w:World):Prop :=
 ∀ y∈ys,(∀ w2,y.Y w2)\/∃ g,(∀ w2,y.Y w2↔w2.heap[g]?=w.heap[g]?)/\g < w.heap.size/\(I g\/∃ p∈pins,p.D=y.D/\∃ b pl o,st[p.l]?=some b/\b.live=true/\β p.l=some pl/\pl.a=some (g,o))
theorem jf {i:Nat} {p:qT}:∀ {pins:List qT},p∈pins->iI i p.D=false->p.l∈pinned i pins
 | q::pins,h,hd=>by
  unfold pinned
  rcases List.mem_cons.1 h with rfl|h
  ·rw[hd]; exact List.mem_cons_self
  ·cases iI i q.D
   ·exact List.mem_cons_of_mem _ (jf h hd)
   ·exact jf h hd
theorem pB {i:Nat} {p:qT} {pins:List qT} (h:p∈pins) (hd:iI i p.D=false):p∈cz i pins:=by
 unfold cz; rw[List.mem_filter]; exact⟨h,by simp[hd]⟩
theorem kn {i:Nat} {y:kH} {ys:List kH} (h:y∈b_ i ys):y∈ys/\iI i y.D=false:=by
 unfold b_ at h; rw[List.mem_filter] at h; exact⟨h.1,by simpa [iI] using h.2⟩
theorem nd.b_ {i:Nat} {pins:List qT} {ys:List kH} (h:nd pins ys I β st w):nd (cz i pins) (b_ i ys) I β st w:=fun y hy=>by
 obtain⟨hy,hd⟩:=kn hy
 rcases h y hy with h|⟨g,h1,h2,h3⟩
 ·exact .inl h
 ·exact .inr ⟨g,h1,h2,h3.imp id fun ⟨p,hp,he,h4⟩=>⟨p,pB hp (by rw[he]; exact hd),he,h4⟩⟩
theorem l5 (hG:oS G) {i:Nat} {o:Oper} {pins:List qT} {ys:List kH} {K:aO->Prop} (h:eQ G ops.toList s i o pins K) (hR:Rel G I β s a w) (hp:nd pins ys I β s.st w) :
  Ev.ov G.cx.P ops o a w fun v w'=>∃ s' I' aI,K s'/\Rel G I' aI s' (a.put o.dst v) w'/\cu I β s w I' aI s' w'/\(∀ y∈b_ i ys,y.Y w')/\nd (cz i pins) (b_ i ys) I' aI s'.st w':=by
 unfold eQ at h
 rcases kl hR h with ⟨hw,s1,h1,oz,mS⟩|⟨hw,s1,h1,oz,mS⟩
 ·refine .inl ⟨hw,?_⟩
  
  split at h1
  ·rename_i Zt
   refine Ev.kh ?_ (xF hG mS h1)
   rintro v w' ⟨x,s2,I2,gY,h2,jR,hx,hE,e1,e2,e3,fT,_⟩
   obtain⟨s3,h3,nU,uX⟩:=aO.ik (G:=G) h2
   have JT:cu I β s w I2 gY s3 w':=((cu.same oz).trans ⟨hE,e1,e2,e3,fT⟩).trans (cu.same nU)
   have pv:∀ y∈b_ i ys,y.Y w'/\((∀ w2,y.Y w2)\/∃ g,(∀ w2,y.Y w2↔w2.heap[g]?=w'.heap[g]?)/\g < w'.heap.size/\I2 g):=fun y hy=>by
    obtain⟨hy,hd⟩:=kn hy
    rcases hp y hy with h|⟨g,h1,h2,h3⟩
    ·exact⟨h _,.inl h⟩
    ·rcases h3 with h3|⟨p,Ct,he,_⟩
     ·have hs:=JT.ext.keeps hR.heap hR.aw.aw g h3
      exact⟨(h1 w').2 hs,.inr ⟨g,fun w2=>by rw[h1,hs],Nat.lt_of_lt_of_le h2 JT.ext.size,JT.ext.aw g h3⟩⟩
     ·have:=jf (i:=i) Ct (by rw[he]; exact hd)
      rw[Zt] at this
      cases this
   exact⟨s3,I2,gY,h3,uX _ _ _ _ v jR hx,JT,fun y hy=>(pv y hy).1,fun y hy=>(pv y hy).2.imp id fun ⟨g,a1,a2,a3⟩=>⟨g,a1,a2,.inl a3⟩⟩
  ·rename_i ls Zt
   replace h1:=tm h1
   have Hb:=mS.heap.JS (f:=pA) (us:=fU s1.st (pinned i pins)) (fun b m=>K1)
   have Zu:Ext I β s1.st w I β (mapM pA (fU s1.st (pinned i pins)) 0 s1.st) w:=⟨rfl,rfl,rfl,Nat.le_refl _,fun _ _ _=>rfl,fun g hg ⟨l,b',p,o',g1,g2,g3,g4,g5⟩=>by
    rw[dO,Option.map_eq_some_iff] at g1
    obtain⟨b,hb,rfl⟩:=g1
    refine⟨l,b,p,o',hb,g2,?_,g4,g5⟩
    simp only at g3
    exact K2 g3,fun _ h=>h,fun _ _ h=>.inl h⟩
   have hRp:=mS.grow Hb Zu (fun _ _ h=>h) (by rw[dP]; exact Nat.le_refl _) mS.aw.aw
   refine Ev.kh ?_ (xF hG hRp h1)
   rintro v w' ⟨x,s2,I2,gY,h2,jR,hx,hE,e1,e2,e3,fT,Vx⟩
   obtain⟨c1,c2,c3,c4,c5⟩:=aO.iG s1 (mapM pA (fU s1.st (pinned i pins)) 0 s1.st)
   rw[c3] at hE Vx
   rw[c4] at e1 fT
   rw[c5] at e2 fT
   rw[c1] at e3
   replace h2:=aQ h2
   obtain⟨K3,h2⟩:=h2
   replace h2:=tm h2
   have hmu:=jR.heap.JS (f:=fK) (us:=fU s1.st (pinned i pins)) (fun b m=>Dp)
   
   have Ry:∀ l∈fU s1.st (pinned i pins),∃ b,s1.st[l]?=some b/\b.m = .w/\b.live=true:=fun l hl=>by
    unfold fU at hl
    rw[List.mem_filter] at hl
    have:=hl.2
    cases hb:s1.st[l]? with
    | none=>rw[hb] at this; cases this
    | some b =>
     rw[hb] at this
     simp only[Bool.and_eq_true] at this
     refine⟨b,rfl,?_,this.1⟩
     have:=this.2
     cases hm:b.m<;>simp only[hm,Md.Zr] at this<;>first|rfl|cases this
   have WG:∀ l b,s1.st[l]?=some b->b.m = .w->l∈fU s1.st (pinned i pins)->gY l=β l:=fun l b hb hm hl=>by
    refine Vx l { b with m:=.p } ?_ rfl
    rw[dO,hb,Nat.zero_add,cP.2 hl,Option.map_some,hm]; rfl
   have RP:Ext I β s1.st w I2 gY (mapM fK (fU s1.st (pinned i pins)) 0 s2.st) w':=by
    have Cu:=Zu.trans hE
    refine⟨Cu.os,Cu.tape,Cu.output,Cu.size,Cu.block,fun g hg ⟨l,b',p,o',g1,g2,g3,g4,g5⟩=>?_,Cu.aw,Cu.new⟩
    rw[dO,Option.map_eq_some_iff] at g1
    obtain⟨b,hb,rfl⟩:=g1
    simp only[Nat.zero_add] at g3
    cases Df:iI l (fU s1.st (pinned i pins)) with
    | false =>
     rw[Df] at g3
     refine Cu.wr g hg ⟨l,b,p,o',hb,g2,?_,g4,g5⟩
     cases hm:b.m<;>rw[hm] at g3<;>first|rfl|cases g3
    | true =>
     have hl:=cP.1 Df
     obtain⟨b0,fO,oA,K4⟩:=Ry l hl
     exact⟨l,b0,p,o',fO,K4,oA,by rw[← WG l b0 fO oA hl]; exact g4,g5⟩
   have pv:∀ y∈b_ i ys,y.Y w'/\((∀ w2,y.Y w2)\/∃ g,(∀ w2,y.Y w2↔w2.heap[g]?=w'.heap[g]?)/\g < w'.heap.size/\(I2 g\/∃ p∈cz i pins,p.D=y.D/\∃ b pl o,(mapM fK (fU s1.st (pinned i pins)) 0 s2.st)[p.l]?=some b/\b.live=true/\gY p.l=some pl/\pl.a=some (g,o))):=fun y hy=>by
    obtain⟨hy,hd⟩:=kn hy
    rcases hp y hy with h|⟨g,g1,g2,g3⟩
    ·exact⟨h _,.inl h⟩
    ·have Zv:I g->y.Y w'/\((∀ w2,y.Y w2)\/∃ g,(∀ w2,y.Y w2↔w2.heap[g]?=w'.heap[g]?)/\g < w'.heap.size/\(I2 g\/∃ p∈cz i pins,p.D=y.D/\∃ b pl o,(mapM fK (fU s1.st (pinned i pins)) 0 s2.st)[p.l]?=some b/\b.live=true/\gY p.l=some pl/\pl.a=some (g,o))):=fun hI=>by
      have hs:=RP.keeps mS.heap mS.aw.aw g hI
      exact⟨(g1 w').2 hs,.inr ⟨g,fun w2=>by rw[g1,hs],Nat.lt_of_lt_of_le g2 RP.size,.inl (RP.aw g hI)⟩⟩
     rcases g3 with g3|⟨p,Ct,he,b,pl,o',hb,az,ow,K5⟩
     ·exact Zv g3
     ·rw[← oz.st] at hb
      have fO:=mS.heap.fp _ b hb az
      obtain⟨arr,ty,fr,hh,ho⟩:=fO.place ow K5
      by_cases Zw:b.m = .r
      ·exact Zv (ho.2 Zw)
      ·have Zx:=jf (i:=i) Ct (by rw[he]; exact hd)
       
       have WH:∃ b',(mapM pA (fU s1.st (pinned i pins)) 0 s1.st)[p.l]?=some b'/\b'.m = .p/\b'.live=true:=by
        refine⟨{ b with m:=pA (iI (0+p.l) (fU s1.st (pinned i pins))) b.m },by rw[dO,hb]; rfl,?_,az⟩
        simp only[Nat.zero_add]
        cases hm:b.m with
        | r=>exact absurd hm Zw
        | p=>cases iI p.l (fU s1.st (pinned i pins))<;>rfl
        | w =>
         have:p.l∈fU s1.st (pinned i pins):=by unfold fU; rw[List.mem_filter,hb]; exact⟨Zx,by simp only[hm,az]; rfl⟩
         rw[cP.2 this]; rfl
       obtain⟨b',cv,k7,eg⟩:=WH
       have WI:=Hb.fp _ b' cv eg
       obtain⟨_,_,Ze,_,ho'⟩:=WI.place ow K5
       have Cv:¬ Wr β (mapM pA (fU s1.st (pinned i pins)) 0 s1.st) g:=fun ⟨l2,b2,p2,o2,k1,k2,k3,k4,k5⟩=>by
        by_cases bZ:l2=p.l
        ·subst bZ
         rw[cv] at k1; cases k1; rw[k7] at k3; cases k3
        ·exact (ho'.1 (by rw[k7]; decide)).2.2 l2 b2 bZ k1 k2 p2 g o2 k4 k5 rfl
       have hs:w'.heap[g]?=w.heap[g]?:=hE.block g g2 Cv
       have WJ:gY p.l=some pl:=(Vx _ b' cv k7).trans ow
       have JU:∃ b2,s2.st[p.l]?=some b2/\b2.live=true:=by
        unfold Zs at K3
        rw[List.all_eq_true] at K3
        have:=K3 _ Zx
        cases cR:s2.st[p.l]? with
        | none=>rw[cR] at this; cases this
        | some b2=>rw[cR] at this; exact⟨b2,rfl,this⟩
       obtain⟨b2,cR,bn⟩:=JU
       refine⟨(g1 w').2 hs,.inr ⟨g,fun w2=>by rw[g1,hs],Nat.lt_of_lt_of_le g2 RP.size,.inr ⟨p,pB Ct (by rw[he]; exact hd),he,{ b2 with m:=fK (iI (0+p.l) (fU s1.st (pinned i pins))) b2.m },pl,o',by rw[dO,cR]; rfl,bn,WJ,K5⟩⟩⟩
   have hEu:Ext I2 gY s2.st w' I2 gY (mapM fK (fU s1.st (pinned i pins)) 0 s2.st) w'->True:=fun _=>trivial
   clear hEu
   have WL:Rel G I2 gY (s2.store (mapM fK (fU s1.st (pinned i pins)) 0 s2.st)) a w':=by
    obtain⟨d1,d2,d3,d4,d5⟩:=aO.iG s2 (mapM fK (fU s1.st (pinned i pins)) 0 s2.st)
    exact⟨by rw[d1]; exact jR.small,jR.defers,by rw[d1]; exact jR.size,by rw[d4,d3,dP]; exact jR.base,by rw[d2]; exact jR.get,by rw[d3]; exact hmu,jR.aw⟩
   obtain⟨s3,h3,nU,uX⟩:=aO.ik (G:=G) h2
   obtain⟨d1,d2,d3,d4,d5⟩:=aO.iG s2 (mapM fK (fU s1.st (pinned i pins)) 0 s2.st)
   refine⟨s3,I2,gY,h3,uX _ _ _ _ v WL hx,(cu.same oz).trans ⟨by rw[nU.st,d3]; exact RP,by rw[nU.base,d4]; exact e1,by rw[nU.rl,d5]; exact e2,by rw[nU.n,d1]; exact e3,fT⟩,fun y hy=>(pv y hy).1,fun y hy=>?_⟩
   rw[nU.st,d3]
   exact (pv y hy).2
 ·obtain⟨s3,h3,nU,uX⟩:=aO.ik (G:=G) h1
  refine .inr ⟨hw,s3,I,β,h3,uX _ _ _ _ _ mS Is.undef,(cu.same oz).trans (cu.same nU),fun y hy=>?_,?_⟩
  ·obtain⟨hy,_⟩:=kn hy
   rcases hp y hy with h|⟨g,h1,_⟩
   ·exact h w
   ·exact (h1 w).2 rfl
  ·rw[nU.st,oz.st]; exact hp.b_
theorem cO.l6 {P:Program} {Q:Exit->Act->World->Prop} {i:Nat}:∀ (f:Nat) (l:Array Bool) (a:Act) (S:World->Prop) (pins:List kH),cO P ops Q f l a S pins->cO P ops Q f l a S (⟨i,[],fun _=>True⟩::pins)
 | 0,_,_,_,_,h=>h
 | f+1,l,a,S,pins,h=>by
  have QS:∀ j,b_ j (⟨i,[],fun _=>True⟩::pins)=⟨i,[],fun _=>True⟩::b_ j pins:=fun j=>by
   unfold b_; rw[List.filter_cons,if_pos (by simp)]
  refine⟨h.1,fun j hj o ho=>?_⟩
  obtain⟨h0,h1⟩:=h.2 j hj o ho
  rw[QS]
  refine⟨fun hl=>?_,fun hl w hw=>km (fun v w' ⟨S',h2,h3,h4⟩=>⟨S',fun p hp=>?_,h3,cO.l6 f _ _ _ _ h4⟩) (h1 hl w hw)⟩
  ·obtain⟨v,hy,hn⟩:=h0 hl
   exact⟨v,hy,cO.l6 f _ _ _ _ hn⟩
  ·rcases List.mem_cons.1 hp with rfl|hp
   ·exact fun _ _=>trivial
   ·exact h2 p hp
theorem uY {P:Program} {K:Value->World->Prop} {r:Result Next} (h:Ev.ou P K r):∃ v w,K v w:=by
 cases r with
 | ok n w =>
  cases n<;>simp only[Ev.ou] at h
  case value u=>exact⟨_,_,h⟩
  case skip=>exact⟨_,_,h⟩
  case enter f args =>
   obtain⟨e,w',fr,⟨u,_,hu⟩,_⟩:=h []
   exact⟨_,_,hu⟩
 | halt x w=>exact h.elim
theorem jS {P:Program} {o:Oper} {K:Value->World->Prop} (h:Ev.ov P ops o a w K):∃ v w',K v w':=by
 rcases h with ⟨_,h⟩|⟨_,h⟩
 ·exact uY h
 ·exact⟨_,_,h⟩
theorem cO.ends {P:Program} {Q:Exit->Act->World->Prop}:∀ (f:Nat) (l:Array Bool) (a:Act) (S:World->Prop) (pins:List kH) (w:World),cO P ops Q f l a S pins->S w->∃ a' w',Q .normal a' w'
 | 0,l,a,S,_,w,h,hw=>⟨a,w,h.2 w hw⟩
 | f+1,l,a,S,pins,w,h,hw=>by
  cases hr:Region.ready .any ops l with
  | nil=>exact⟨a,w,h.1 hr w hw⟩
  | cons i r =>
   have hi:i∈Region.ready .any ops l:=by rw[hr]; exact List.mem_cons_self
   obtain⟨o,ho⟩:=Ev.uE hi
   obtain⟨h0,h1⟩:=h.2 i hi o ho
   cases he:aR o.op with
   | false =>
    obtain⟨v,_,hn⟩:=h0 he
    exact cO.ends f _ _ S _ w hn hw
   | true =>
    obtain⟨v,w',S',_,Cs,hn⟩:=jS (h1 he w hw)
    exact cO.ends f _ _ S' _ w' hn Cs
theorem K6 {listed:Array Bool} {i:Nat} {D:List Nat} (h:QU ops.toList listed i D=true):∀ j∈D,listed.getD j false=false/\∃ oj,ops[j]?=some oj/\∃ e∈oj.after,Region.binds .any e=true/\(e.on=i\/e.on∈D):=by
 intro j hj
 unfold QU at h
 rw[List.all_eq_true] at h
 have:=h j hj
 simp only[Bool.and_eq_true,Bool.not_eq_true'] at this
 refine⟨this.1,?_⟩
 have h2:=this.2
 cases ho:ops.toList[j]? with
 | none=>rw[ho] at h2; cases h2
 | some oj =>
  rw[ho] at h2
  simp only[List.any_eq_true,Bool.and_eq_true,Bool.or_eq_true] at h2
  obtain⟨e,he,hb,h3⟩:=h2
  exact⟨oj,by simpa using ho,e,by simpa using he,hb,h3.imp Nat.eq_of_beq_eq_true cP.1⟩
end
mutual
inductive aF where
 | done
 | pure (i:Nat) (r:aF)
 | load (i:Nat) (D:List Nat) (r:aF)
 | aR (i:Nat) (r:aF) (more:iJ)
inductive iJ where
 | nil
 | cons (j:Nat) (r:aF) (more:iJ)
 | alt (j:Nat) (r:aF) (more:iJ)
 | sub (j:Nat) (r:aF) (more:iJ)
end
def JV:List Nat->List Nat->Bool
 | [],[]=>true
 | a::l,b::m=>Nat.beq a b && JV l m
 | _,_=>false
def nV (ops:Array Oper) (i:Nat):Bool:=match ops[i]? with
 | some o=>aR o.op
 | none=>false
def jg (qM:Nat->aF->Bool):List Nat->iJ->Bool
 | [],.nil=>true
 | j::l,.cons k r ms=>Nat.beq j k && qM j r && jg qM l ms
 | j::l,.alt k r ms=>Nat.beq j k && qM j r && jg qM l ms
 | j::l,.sub k r ms=>Nat.beq j k && qM j r && jg qM l ms
 | _,_=>false
def zg (ops:Array Oper):Nat->Array Bool->aF->Bool
 | _,listed,.done=>(Region.ready .any ops listed).isEmpty
 | 0,_,_=>false
 | fuel+1,listed,.pure i r=>(match Ev.sX (lZ ops listed) (Region.ready .any ops listed) with
  | some k=>Nat.beq k i && zg ops fuel (listed.setIfInBounds i true) r
  | none=>false)
 | fuel+1,listed,.load i D r=>(match Ev.sX (l4 ops listed) (Region.ready .any ops listed) with
  | some k=>Nat.beq k i && JV D (xH listed i ops.toList 0 []) && QU ops.toList listed i D && zg ops fuel (listed.setIfInBounds i true) r
  | none=>false)
 | fuel+1,listed,.aR i r ms=>(match Region.ready .any ops listed with
  | i0::more=>Nat.beq i0 i && nV ops i && more.all (nV ops) && zg ops fuel (listed.setIfInBounds i true) r && jg (fun j r=>zg ops fuel (listed.setIfInBounds j true) r) more ms
  | []=>false)
def jT (qM:Nat->aF->Prop):List Nat->iJ->Prop
 | [],.nil=>True
 | j::l,.cons k r ms=>j=k/\qM j r/\jT qM l ms
 | j::l,.alt k r ms=>j=k/\qM j r/\jT qM l ms
 | j::l,.sub k r ms=>j=k/\qM j r/\jT qM l ms
 | _,_=>False
def g_ (ops:Array Oper):Nat->Array Bool->aF->Prop
 | _,listed,.done=>Region.ready .any ops listed = []
 | 0,_,_=>False
 | fuel+1,listed,.pure i r=>i∈Region.ready .any ops listed/\lZ ops listed i=true/\g_ ops fuel (listed.setIfInBounds i true) r
 | fuel+1,listed,.load i D r=>i∈Region.ready .any ops listed/\l4 ops listed i=true/\QU ops.toList listed i D=true/\g_ ops fuel (listed.setIfInBounds i true) r
 | fuel+1,listed,.aR i r ms=>(match Region.ready .any ops listed with
  | i0::more=>i0=i/\nV ops i=true/\(∀ j∈more,nV ops j=true)/\g_ ops fuel (listed.setIfInBounds i true) r/\jT (fun j r=>g_ ops fuel (listed.setIfInBounds j true) r) more ms
  | []=>False)
def Sub (G:Gx) (s s':aO):Prop:=∀ I β a w,Rel G I β s a w->∃ I' aI,Rel G I' aI s' a w/\cu I β s w I' aI s' w
mutual
def bA (G:Gx) (ops:List Oper):aF->aO->List qT->(aO->Prop)->Prop
 | .done,s,_,K=>K s
 | .pure i r,s,pins,K=>aV ops[i]? fun o=>mY ops s o (fun s=>nR G.cx s o.op fun v=>s.put o.dst v fun s=>bA G ops r s pins K) (fun s=>s.put o.dst (.tup []) fun s=>bA G ops r s pins K)
 | .load i D r,s,pins,K=>aV ops[i]? fun o=>mY ops s o (fun s=>match o.op with
   | .load t ad=>s.ev ad fun x=>rG G s.st t x fun v=>s.put o.dst v fun s=>bA G ops r s (tl D x pins) K
   | _=>False) (fun s=>s.put o.dst (.tup []) fun s=>bA G ops r s pins K)
 | .aR i r ms,s,pins,K=>aV ops[i]? fun o=>match ms with
  | .nil=>eQ G ops s i o pins fun s1=>bA G ops r s1 (cz i pins) K
  | .cons j r' RQ=>eQ G ops s i o pins fun s1=>bA G ops r s1 (cz i pins) fun sf=>K sf/\(aV ops[j]? fun o=>eQ G ops s j o pins fun s2=>bA G ops r' s2 (cz j pins) fun uZ=>uZ=sf)/\dy G ops RQ s pins sf
  | .sub j r' RQ=>eQ G ops s i o pins fun s1=>bA G ops r s1 (cz i pins) fun sf=>∃ Az,Sub G sf Az/\K Az/\(aV ops[j]? fun o=>eQ G ops s j o pins fun s2=>bA G ops r' s2 (cz j pins) fun uZ=>Sub G uZ Az)/\eR G ops RQ s pins Az
  | .alt j r' RQ=>(eQ G ops s i o pins fun s1=>bA G ops r s1 (cz i pins) K)/\(aV ops[j]? fun o=>eQ G ops s j o pins fun s2=>bA G ops r' s2 (cz j pins) K)/\hC G ops RQ s pins K
def dy (G:Gx) (ops:List Oper):iJ->aO->List qT->aO->Prop
 | .nil,_,_,_=>True
 | .cons j r ms,s,pins,sf=>(aV ops[j]? fun o=>eQ G ops s j o pins fun s2=>bA G ops r s2 (cz j pins) fun uZ=>uZ=sf)/\dy G ops ms s pins sf
 | .alt _ _ _,_,_,_=>False
 | .sub _ _ _,_,_,_=>False
def eR (G:Gx) (ops:List Oper):iJ->aO->List qT->aO->Prop
 | .nil,_,_,_=>True
 | .sub j r ms,s,pins,sf=>(aV ops[j]? fun o=>eQ G ops s j o pins fun s2=>bA G ops r s2 (cz j pins) fun uZ=>Sub G uZ sf)/\eR G ops ms s pins sf
 | .cons _ _ _,_,_,_=>False
 | .alt _ _ _,_,_,_=>False
def hC (G:Gx) (ops:List Oper):iJ->aO->List qT->(aO->Prop)->Prop
 | .nil,_,_,_=>True
 | .alt j r ms,s,pins,K=>(aV ops[j]? fun o=>eQ G ops s j o pins fun s2=>bA G ops r s2 (cz j pins) K)/\hC G ops ms s pins K
 | .cons _ _ _,_,_,_=>False
 | .sub _ _ _,_,_,_=>False
end
section
variable {w w':World} {I I':Nat->Prop} {β aI:ax} {G:Gx} {s:aO} {a:Act} {st dc:List ak} {ops:Array Oper}
theorem pC {qM:Nat->aF->Prop}:∀ {l:List Nat} {ms:iJ},jT qM l ms->∀ {pins:List qT} {sf:aO},dy G ops.toList ms s pins sf->∀ j∈l,∃ r,qM j r/\aV ops.toList[j]? fun o=>eQ G ops.toList s j o pins fun s2=>bA G ops.toList r s2 (cz j pins) fun uZ=>uZ=sf
 | [],_,_,_,_,_,_,hj=>by cases hj
 | i::l,.nil,h,_,_,_,_,_=>False.elim h
 | i::l,.alt k r ms,h,pins,sf,hr,j,hj=>by unfold dy at hr; exact hr.elim
 | i::l,.sub k r ms,h,pins,sf,hr,j,hj=>by unfold dy at hr; exact hr.elim
 | i::l,.cons k r ms,h,pins,sf,hr,j,hj=>by
  obtain⟨rfl,h2,h3⟩:=h
  unfold dy at hr
  rcases List.mem_cons.1 hj with rfl|hj
  ·exact⟨r,h2,hr.1⟩
  ·exact pC h3 hr.2 j hj
theorem nW {qM:Nat->aF->Prop}:∀ {l:List Nat} {ms:iJ},jT qM l ms->∀ {pins:List qT} {K:aO->Prop},hC G ops.toList ms s pins K->∀ j∈l,∃ r,qM j r/\aV ops.toList[j]? fun o=>eQ G ops.toList s j o pins fun s2=>bA G ops.toList r s2 (cz j pins) K
 | [],_,_,_,_,_,_,hj=>by cases hj
 | i::l,.nil,h,_,_,_,_,_=>False.elim h
 | i::l,.cons k r ms,h,pins,K,hr,j,hj=>by unfold hC at hr; exact hr.elim
 | i::l,.sub k r ms,h,pins,K,hr,j,hj=>by unfold hC at hr; exact hr.elim
 | i::l,.alt k r ms,h,pins,K,hr,j,hj=>by
  obtain⟨rfl,h2,h3⟩:=h
  unfold hC at hr
  rcases List.mem_cons.1 hj with rfl|hj
  ·exact⟨r,h2,hr.1⟩
  ·exact nW h3 hr.2 j hj
theorem nX {qM:Nat->aF->Prop}:∀ {l:List Nat} {ms:iJ},jT qM l ms->∀ {pins:List qT} {sf:aO},eR G ops.toList ms s pins sf->∀ j∈l,∃ r,qM j r/\aV ops.toList[j]? fun o=>eQ G ops.toList s j o pins fun s2=>bA G ops.toList r s2 (cz j pins) fun uZ=>Sub G uZ sf
 | [],_,_,_,_,_,_,hj=>by cases hj
 | i::l,.nil,h,_,_,_,_,_=>False.elim h
 | i::l,.cons k r ms,h,pins,sf,hr,j,hj=>by unfold eR at hr; exact hr.elim
 | i::l,.alt k r ms,h,pins,sf,hr,j,hj=>by unfold eR at hr; exact hr.elim
 | i::l,.sub k r ms,h,pins,sf,hr,j,hj=>by
  obtain⟨rfl,h2,h3⟩:=h
  unfold eR at hr
  rcases List.mem_cons.1 hj with rfl|hj
  ·exact⟨r,h2,hr.1⟩
  ·exact nX h3 hr.2 j hj
theorem l7 {i:Nat} {o:Oper} (ho:ops[i]?=some o) (h:nV ops i=true):aR o.op=true:=by unfold nV at h; rw[ho] at h; exact h
theorem xI (hG:oS G) (xG:Region.noSelect ops=true):∀ (fuel:Nat) (p:aF) (Q:Exit->Act->World->Prop) (l:Array Bool) (s:aO) (a:Act) (I:Nat->Prop) (β:ax) (w:World) (pins:List qT) (ys:List kH) (K:aO->Prop),
  g_ ops fuel l p->bA G ops.toList p s pins K->Rel G I β s a w->nd pins ys I β s.st w->(∀ s' I' aI a' w',K s'->Rel G I' aI s' a' w'->cu I β s w I' aI s' w'->Q .normal a' w')->cO G.cx.P ops Q fuel l a (fun w2=>w2=w) ys:=by
 intro fuel
 have fin:∀ (fuel:Nat) (Q:Exit->Act->World->Prop) (l:Array Bool) (s:aO) (a:Act) (I:Nat->Prop) (β:ax) (w:World) (ys:List kH) (K:aO->Prop),Region.ready .any ops l = []->K s->Rel G I β s a w->(∀ s' I' aI a' w',K s'->Rel G I' aI s' a' w'->cu I β s w I' aI s' w'->Q .normal a' w')->cO G.cx.P ops Q fuel l a (fun w2=>w2=w) ys:=by
  intro fuel Q l s a I β w ys K hr h hR hQ
  have uu:Region.ready .any ops l = []:=hr
  cases fuel with
  | zero=>exact⟨uu,fun w2 hw=>by subst hw; exact hQ s I β a w2 h hR (cu.same ⟨rfl,rfl,rfl,rfl⟩)⟩
  | succ fuel=>exact⟨fun _ w2 hw=>by subst hw; exact hQ s I β a w2 h hR (cu.same ⟨rfl,rfl,rfl,rfl⟩),fun i hi=>by rw[uu] at hi; cases hi⟩
 induction fuel with
 | zero =>
  intro p Q l s a I β w pins ys K hp h hR _ hQ
  cases p with
  | done=>exact fin 0 Q l s a I β w ys K (by simpa only [g_] using hp) (by simpa only [bA] using h) hR hQ
  | pure=>exact hp.elim
  | load=>exact hp.elim
  | aR=>exact hp.elim
 | succ fuel ih =>
  intro p Q l s a I β w pins ys K hp h hR Gu hQ
  cases p with
  | done=>exact fin (fuel+1) Q l s a I β w ys K (by simpa only [g_] using hp) (by simpa only [bA] using h) hR hQ
  | pure i r =>
   simp only[g_] at hp
   ·obtain⟨je,gm,hp⟩:=hp
    unfold bA at h
    replace h:=aq h
    obtain⟨o,ho,h⟩:=h
    rw[Array.getElem?_toList] at ho
    unfold lZ at gm
    rw[ho] at gm
    simp only[Bool.and_eq_true] at gm
    have he:aR o.op=false:=by unfold aR; rw[gm.1]; rfl
    rcases kl hR h with ⟨gn,s1,h1,oz,mS⟩|⟨gn,s1,h1,oz,mS⟩
    ·obtain⟨x,v,h1,hx,bx⟩:=uJ hG.ok mS h1
     obtain⟨s3,h3,nU,uX⟩:=aO.ik (G:=G) h1
     refine cO.first (v:=v) (D:=[]) (Y:=fun _=>True) ho he xG fuel l a _ ys (Region.free_spec ho gm.2) (fun j hj=>by cases hj) (.inl ⟨gn,fun w2 _=>bx w2⟩) (fun _ _=>trivial) je (cO.l6 _ _ _ _ _ ?_)
     exact ih r Q _ s3 _ I β w pins ys K hp h3 (uX _ _ _ _ _ mS hx) (by rw[nU.st,oz.st]; exact Gu) (fun s' I' aI a' w' hk di hg=>hQ s' I' aI a' w' hk di (((cu.same oz).trans (cu.same nU)).trans hg))
    ·obtain⟨s3,h3,nU,uX⟩:=aO.ik (G:=G) h1
     refine cO.first (v:=undef) (D:=[]) (Y:=fun _=>True) ho he xG fuel l a _ ys (Region.free_spec ho gm.2) (fun j hj=>by cases hj) (.inr ⟨gn,rfl⟩) (fun _ _=>trivial) je (cO.l6 _ _ _ _ _ ?_)
     exact ih r Q _ s3 _ I β w pins ys K hp h3 (uX _ _ _ _ _ mS Is.undef) (by rw[nU.st,oz.st]; exact Gu) (fun s' I' aI a' w' hk di hg=>hQ s' I' aI a' w' hk di (((cu.same oz).trans (cu.same nU)).trans hg))
  | load i D r =>
   simp only[g_] at hp
   ·obtain⟨je,gm,hD,hp⟩:=hp
    unfold bA at h
    replace h:=aq h
    obtain⟨o,ho,h⟩:=h
    rw[Array.getElem?_toList] at ho
    unfold l4 at gm
    rw[ho] at gm
    simp only[Bool.and_eq_true] at gm
    have he:aR o.op=false:=by unfold aR; rw[gm.1,Bool.or_true]; rfl
    rcases kl hR h with ⟨gn,s1,h1,oz,mS⟩|⟨gn,s1,h1,oz,mS⟩
    ·split at h1
     ·rename_i t ad tj
      replace h1:=aO.bL mS h1
      obtain⟨x,h1,hx⟩:=h1
      obtain⟨z,v,g,h1,hz,hg,bx⟩:=po hG.ok mS.heap mS.aw h1 hx
      obtain⟨s3,h3,nU,uX⟩:=aO.ik (G:=G) h1
      have RS:∀ w2:World,w2.heap[g]?=w.heap[g]?->(execOp a.eval o).run G.cx.P w2 = .ok (.value v) w2:=fun w2 tg=>by
       unfold execOp
       rw[tj]
       simp only[Sem.run_bind,bx w2 tg,Result.andThen_ok,Sem.run_pure]
      have Dk:g < w.heap.size:=by
       rcases hg with hg|⟨l',b,p,o',_,hb,az,ow,K5⟩
       ·exact hR.aw.aw g hg
       ·exact mS.heap.cM ⟨l',b,p,o',hb,az,ow,K5⟩
      refine cO.first (v:=v) (D:=D) (Y:=fun w2=>w2.heap[g]?=w.heap[g]?) ho he xG fuel l a _ ys (Region.free_spec ho gm.2) (K6 hD) (.inl ⟨gn,RS⟩) (fun w2 tg=>by rw[tg]) je ?_
      refine ih r Q _ s3 _ I β w (tl D x pins) _ K hp h3 (uX _ _ _ _ _ mS hz) ?_ (fun s' I' aI a' w' hk di hg=>hQ s' I' aI a' w' hk di (((cu.same oz).trans (cu.same nU)).trans hg))
      rw[nU.st,oz.st]
      intro y hy
      rcases List.mem_cons.1 hy with rfl|hy
      ·refine .inr ⟨g,fun _=>Iff.rfl,Dk,?_⟩
       rcases hg with hg|⟨l',b,p,o',lV,hb,az,ow,K5⟩
       ·exact .inl hg
       ·refine .inr ⟨⟨D,l'⟩,by unfold tl; rw[lV]; exact List.mem_cons_self,rfl,b,p,o',by rw[← oz.st]; exact hb,az,ow,K5⟩
      ·rcases Gu y hy with h|⟨g',k1,k2,k3⟩
       ·exact .inl h
       ·refine .inr ⟨g',k1,k2,k3.imp id fun ⟨p,Ct,k4⟩=>⟨p,?_,k4⟩⟩
        unfold tl
        split
        ·exact List.mem_cons_of_mem _ Ct
        ·exact Ct
     ·exact h1.elim
    ·obtain⟨s3,h3,nU,uX⟩:=aO.ik (G:=G) h1
     refine cO.first (v:=undef) (D:=[]) (Y:=fun _=>True) ho he xG fuel l a _ ys (Region.free_spec ho gm.2) (fun j hj=>by cases hj) (.inr ⟨gn,rfl⟩) (fun _ _=>trivial) je (cO.l6 _ _ _ _ _ ?_)
     exact ih r Q _ s3 _ I β w pins ys K hp h3 (uX _ _ _ _ _ mS Is.undef) (by rw[nU.st,oz.st]; exact Gu) (fun s' I' aI a' w' hk di hg=>hQ s' I' aI a' w' hk di (((cu.same oz).trans (cu.same nU)).trans hg))
  | aR i r ms =>
   simp only[g_] at hp
   split at hp
   ·rename_i i0 more u5
    obtain⟨rfl,hei,WM,QV,Ct⟩:=hp
    unfold bA at h
    replace h:=aq h
    obtain⟨o,ho,h⟩:=h
    rw[Array.getElem?_toList] at ho
    have he:=l7 ho hei
    have bZ:Region.ready .any ops l≠[]:=by rw[u5]; simp
    
    have go:∀ {j:Nat} {oj:Oper} {rj:aF} {K':aO->Prop},g_ ops fuel (l.setIfInBounds j true) rj->ops[j]?=some oj->aR oj.op=true->(eQ G ops.toList s j oj pins fun s1=>bA G ops.toList rj s1 (cz j pins) K')->(∀ sf,K' sf->K sf) ->
      (aR oj.op=false->∃ v,Yields G.cx.P ops (fun w2=>w2=w) oj v a/\cO G.cx.P ops Q fuel (l.setIfInBounds j true) (a.put oj.dst v) (fun w2=>w2=w) (b_ j ys)) /\
      (aR oj.op=true->∀ w2,w2=w->Ev.ov G.cx.P ops oj a w2 fun v w'=>∃ S':World->Prop,(∀ p∈b_ j ys,∀ w,S' w->p.Y w)/\S' w'/\cO G.cx.P ops Q fuel (l.setIfInBounds j true) (a.put oj.dst v) S' (b_ j ys)):=by
     intro j oj rj K' WN kI WO h' hK
     refine⟨(fun e=>by rw[WO] at e; cases e),fun _ w2 tg=>?_⟩
     subst tg
     refine km ?_ (l5 hG h' hR Gu)
     rintro v w' ⟨s',I',aI,hk,di,hg,hY,dk⟩
     refine⟨fun w2=>w2=w',fun p hp w2 tg=>by rw[tg]; exact hY p hp,rfl,?_⟩
     exact ih rj Q _ s' _ I' aI w' _ _ K' WN hk di dk fun s2 I2 gY a2 w3 kO jR Dq=>hQ s2 I2 gY a2 w3 (hK s2 kO) jR (hg.trans Dq)
    have Zy:∀ {j:Nat} {oj:Oper} {rj:aF} {K':aO->Prop},g_ ops fuel (l.setIfInBounds j true) rj->ops[j]?=some oj->aR oj.op=true->(eQ G ops.toList s j oj pins fun s1=>bA G ops.toList rj s1 (cz j pins) K')->(∀ sf,K' sf->∃ Az,Sub G sf Az/\K Az) ->
      (aR oj.op=false->∃ v,Yields G.cx.P ops (fun w2=>w2=w) oj v a/\cO G.cx.P ops Q fuel (l.setIfInBounds j true) (a.put oj.dst v) (fun w2=>w2=w) (b_ j ys)) /\
      (aR oj.op=true->∀ w2,w2=w->Ev.ov G.cx.P ops oj a w2 fun v w'=>∃ S':World->Prop,(∀ p∈b_ j ys,∀ w,S' w->p.Y w)/\S' w'/\cO G.cx.P ops Q fuel (l.setIfInBounds j true) (a.put oj.dst v) S' (b_ j ys)):=by
     intro j oj rj K' WN kI WO h' hK
     refine⟨(fun e=>by rw[WO] at e; cases e),fun _ w2 tg=>?_⟩
     subst tg
     refine km ?_ (l5 hG h' hR Gu)
     rintro v w' ⟨s',I',aI,hk,di,hg,hY,dk⟩
     refine⟨fun w2=>w2=w',fun p hp w2 tg=>by rw[tg]; exact hY p hp,rfl,?_⟩
     exact ih rj Q _ s' _ I' aI w' _ _ K' WN hk di dk fun s2 I2 gY a2 w3 kO jR Dq=>by
      obtain⟨Az,hs,xg⟩:=hK s2 kO
      obtain⟨I3,β3,WL,WQ⟩:=hs I2 gY a2 w3 jR
      exact hQ Az I3 β3 a2 w3 xg WL ((hg.trans Dq).trans WQ)
    cases ms with
    | nil =>
     cases more with
     | cons=>exact Ct.elim
     | nil =>
      refine⟨fun e=>absurd e bZ,fun j hj oj kI=>?_⟩
      rw[u5,List.mem_singleton] at hj
      subst hj
      rw[ho] at kI
      cases kI
      exact go QV ho he h fun _ hk=>hk
    | cons j0 r0 Dr =>
     have cZ:∀ sf,((aV ops.toList[j0]? fun o=>eQ G ops.toList s j0 o pins fun s2=>bA G ops.toList r0 s2 (cz j0 pins) fun uZ=>uZ=sf)/\dy G ops.toList Dr s pins sf)->dy G ops.toList (.cons j0 r0 Dr) s pins sf:=fun sf h=>by unfold dy; exact h
     
     obtain⟨sf,WR,l8⟩:∃ sf,K sf/\dy G ops.toList (.cons j0 r0 Dr) s pins sf:=by
      obtain⟨v,w',s',I',aI,hk,di,hg,hY,dk⟩:=jS (l5 hG h hR Gu)
      have hA:=ih r (fun _ _ _=>∃ sf,K sf/\dy G ops.toList (.cons j0 r0 Dr) s pins sf) _ s' (a.put o.dst v) I' aI w' _ _ _ QV hk di dk fun s2 I2 gY a2 w3 kO _ _=>⟨s2,kO.1,cZ _ kO.2⟩
      obtain⟨_,_,h3⟩:=cO.ends _ _ _ _ _ w' hA rfl
      exact h3
     refine⟨fun e=>absurd e bZ,fun j hj oj kI=>?_⟩
     rw[u5] at hj
     rcases List.mem_cons.1 hj with rfl|hj
     ·rw[ho] at kI
      cases kI
      exact go QV ho he h fun _ hk=>hk.1
     ·obtain⟨rj,RT,h2⟩:=pC Ct l8 j hj
      replace h2:=aq h2
      obtain⟨WB,pz,h2⟩:=h2
      rw[Array.getElem?_toList,kI] at pz
      cases pz
      exact go RT kI (l7 kI (WM j hj)) h2 fun uZ e=>by rw[e]; exact WR
    | sub j0 r0 Dr =>
     have cZ:∀ sf,((aV ops.toList[j0]? fun o=>eQ G ops.toList s j0 o pins fun s2=>bA G ops.toList r0 s2 (cz j0 pins) fun uZ=>Sub G uZ sf)/\eR G ops.toList Dr s pins sf)->eR G ops.toList (.sub j0 r0 Dr) s pins sf:=fun sf h=>by unfold eR; exact h
     obtain⟨sf,WR,l8⟩:∃ sf,K sf/\eR G ops.toList (.sub j0 r0 Dr) s pins sf:=by
      obtain⟨v,w',s',I',aI,hk,di,hg,hY,dk⟩:=jS (l5 hG h hR Gu)
      have hA:=ih r (fun _ _ _=>∃ sf,K sf/\eR G ops.toList (.sub j0 r0 Dr) s pins sf) _ s' (a.put o.dst v) I' aI w' _ _ _ QV hk di dk fun s2 I2 gY a2 w3 kO _ _=>let ⟨Az,_,h2,h3⟩:=kO; ⟨Az,h2,cZ _ h3⟩
      obtain⟨_,_,h3⟩:=cO.ends _ _ _ _ _ w' hA rfl
      exact h3
     refine⟨fun e=>absurd e bZ,fun j hj oj kI=>?_⟩
     rw[u5] at hj
     rcases List.mem_cons.1 hj with rfl|hj
     ·rw[ho] at kI
      cases kI
      exact Zy QV ho he h fun _ hk=>let ⟨Az,h1,h2,_⟩:=hk; ⟨Az,h1,h2⟩
     ·obtain⟨rj,RT,h2⟩:=nX Ct l8 j hj
      replace h2:=aq h2
      obtain⟨WB,pz,h2⟩:=h2
      rw[Array.getElem?_toList,kI] at pz
      cases pz
      exact Zy RT kI (l7 kI (WM j hj)) h2 fun uZ e=>⟨sf,e,WR⟩
    | alt j0 r0 Dr =>
     obtain⟨h,l8⟩:=h
     have cZ:hC G ops.toList (.alt j0 r0 Dr) s pins K:=by unfold hC; exact l8
     refine⟨fun e=>absurd e bZ,fun j hj oj kI=>?_⟩
     rw[u5] at hj
     rcases List.mem_cons.1 hj with rfl|hj
     ·rw[ho] at kI
      cases kI
      exact go QV ho he h fun _ hk=>hk
     ·obtain⟨rj,RT,h2⟩:=nW Ct cZ j hj
      replace h2:=aq h2
      obtain⟨WB,pz,h2⟩:=h2
      rw[Array.getElem?_toList,kI] at pz
      cases pz
      exact go RT kI (l7 kI (WM j hj)) h2 fun _ hk=>hk
   ·cases hp
end
def tb (m i:Nat):Bool:=Nat.beq (Nat.land (Nat.shiftRight m i) 1) 1
theorem u6 (m i:Nat):tb m i=m.testBit i:=by
 unfold tb
 have h:Nat.land (Nat.shiftRight m i) 1=(m >>> i) % 2:=Nat.and_one_is_mod _
 rw[h,Nat.testBit,Nat.and_comm,Nat.and_one_is_mod]
 rcases Nat.mod_two_eq_zero_or_one (m >>> i) with e|e<;>rw[e]<;>rfl
def l9 (i:Nat):Nat:=Nat.shiftLeft 1 i
theorem l_ (i k:Nat):(l9 i).testBit k=decide (i=k):=by
 have h:l9 i=2 ^ i:=by show 1 <<< i=_; rw[Nat.one_shiftLeft]
 rw[h,Nat.testBit_two_pow]
theorem pD (a b k:Nat):(Nat.lor a b).testBit k=(a.testBit k || b.testBit k):=Nat.testBit_or a b k
def nf {α:Type}:Nat->(Nat->α)->α
 | 0,k=>k 0
 | n+1,k=>k (n+1)
theorem jh {α:Type} (n:Nat) (k:Nat->α):nf n k=k n:=by cases n<;>rfl
structure pE where
 w:Nat
 d:Nat
 l:Nat
 k:Nat
def gq:List Edge->Nat
 | []=>0
 | e::r=>bif Region.binds .any e then Nat.lor (gq r) (l9 e.on) else gq r
def u7:List Nat->Nat
 | []=>0
 | d::r=>Nat.lor (u7 r) (l9 (d+1))
def Hc:Option Nat->Nat
 | some d=>d+1
 | none=>0
def ma (o:Oper):Nat:=bif Ev.kZ o.op then 0 else bif lj o.op then 1 else 2
def rowOf (ops:Array Oper) (o:Oper):pE:=⟨gq o.after.toList,Hc o.dst,u7 (o.looksAt ops),ma o⟩
def zh (ops:Array Oper):List Oper->(List pE->Bool)->Bool
 | [],k=>k []
 | o::r,k=>nf (gq o.after.toList) fun w=>nf (Hc o.dst) fun d=>nf (u7 (o.looksAt ops)) fun l=>nf (ma o) fun q=>zh ops r fun rs=>k (⟨w,d,l,q⟩::rs)
theorem u9 (ops:Array Oper):∀ (l:List Oper) (k:List pE->Bool),zh ops l k=k (l.map (rowOf ops))
 | [],_=>rfl
 | o::r,k=>by
  simp only[zh,jh,u9 ops r]
  rfl
def jU:List pE->Nat->Nat->List Nat
 | [],_,_=>[]
 | x::r,j,m=>bif !tb m j && Nat.beq (Nat.land x.w m) x.w then j::nf (j+1) fun j=>jU r j m else nf (j+1) fun j=>jU r j m
def xJ (x y:pE):Bool:=!tb y.l x.d && (Nat.beq x.d 0 || !Nat.beq x.d y.d) && !tb x.l y.d
def u_ (i:Nat) (x:pE) (m:Nat):List pE->Nat->Bool
 | [],_=>true
 | y::r,j=>(Nat.beq j i || tb m j || tb y.w i || xJ x y) && nf (j+1) fun j=>u_ i x m r j
def zi (T:List pE) (q i m:Nat):Bool:=match T[i]? with
 | some x=>Nat.beq x.k q && !tb m i && Nat.beq (Nat.land x.w m) x.w && u_ i x m T 0
 | none=>false
def pF:List Nat->Nat
 | []=>0
 | j::r=>Nat.lor (pF r) (l9 j)
def WS (T:List pE) (m i:Nat) (D:List Nat):Bool:=nf (Nat.lor (l9 i) (pF D)) fun z=>D.all fun j=>!tb m j && (match T[j]? with
  | some y=>!Nat.beq (Nat.land y.w z) 0
  | none=>false)
def Hd (T:List pE) (i:Nat):Bool:=match T[i]? with
 | some x=>Nat.beq x.k 2
 | none=>false
def mb (T:List pE):Nat->Nat->aF->Bool
 | _,m,.done=>(jU T 0 m).isEmpty
 | 0,_,_=>false
 | fuel+1,m,.pure i r=>zi T 0 i m && nf (Nat.lor m (l9 i)) fun m=>mb T fuel m r
 | fuel+1,m,.load i D r=>zi T 1 i m && WS T m i D && nf (Nat.lor m (l9 i)) fun m=>mb T fuel m r
 | fuel+1,m,.aR i r ms=>(match jU T 0 m with
  | i0::more=>Nat.beq i0 i && Hd T i && more.all (Hd T) && (nf (Nat.lor m (l9 i)) fun m=>mb T fuel m r) && jg (fun j r=>nf (Nat.lor m (l9 j)) fun m=>mb T fuel m r) more ms
  | []=>false)
theorem mc (k:Nat):∀ l:List Edge,(gq l).testBit k=l.any fun e=>Region.binds .any e && decide (e.on=k)
 | []=>Nat.zero_testBit k
 | e::r=>by
  rw[List.any_cons,← mc k r,gq]
  cases h:Region.binds .any e with
  | true=>rw[cond_true,pD,l_,Bool.true_and,Bool.or_comm]
  | false=>rw[cond_false,Bool.false_and,Bool.false_or]
theorem va (k:Nat):∀ l:List Nat,(u7 l).testBit k=l.any fun d=>decide (d+1=k)
 | []=>Nat.zero_testBit k
 | d::r=>by rw[List.any_cons,← va k r,u7,pD,l_,Bool.or_comm]
theorem vb (k:Nat):∀ l:List Nat,(pF l).testBit k=l.any fun d=>decide (d=k)
 | []=>Nat.zero_testBit k
 | d::r=>by rw[List.any_cons,← vb k r,pF,pD,l_,Bool.or_comm]
theorem K7 (a m:Nat):Nat.beq (Nat.land a m) a=true↔∀ k,a.testBit k=true->m.testBit k=true:=by
 rw[Nat.beq_eq]
 refine⟨fun h k hk=>?_,fun h=>Nat.eq_of_testBit_eq fun k=>?_⟩
 ·have:(Nat.land a m).testBit k=true:=by rw[h]; exact hk
  have e:(Nat.land a m).testBit k=(a.testBit k && m.testBit k):=Nat.testBit_and a m k
  rw[e,hk,Bool.true_and] at this
  exact this
 ·have e:(Nat.land a m).testBit k=(a.testBit k && m.testBit k):=Nat.testBit_and a m k
  rw[e]
  cases ha:a.testBit k with
  | false=>rfl
  | true=>rw[h k ha]; rfl
theorem Ds (l:List Edge) (m:Nat):Nat.beq (Nat.land (gq l) m) (gq l)=l.all fun e=>!Region.binds .any e || m.testBit e.on:=by
 rw[Bool.eq_iff_iff,K7,List.all_eq_true]
 simp only[mc,List.any_eq_true,Bool.and_eq_true,decide_eq_true_eq,Bool.or_eq_true,Bool.not_eq_true']
 refine⟨fun h e he=>?_,fun h k ⟨e,he,hb,hk⟩=>?_⟩
 ·cases hb:Region.binds .any e with
  | false=>exact .inl rfl
  | true=>exact .inr (h e.on ⟨e,he,hb,rfl⟩)
 ·rcases h e he with h|h
  ·rw[h] at hb; cases hb
  ·rw[← hk]; exact h
structure Mk (ops:Array Oper) (l:Array Bool) (m:Nat):Prop where
 size:l.size=ops.size
 is:∀ j,l.getD j false=m.testBit j
theorem Mk.lt {ops:Array Oper} {l:Array Bool} {m:Nat} (h:Mk ops l m) {j:Nat} (hj:j < ops.size) (d:Bool):l.getD j d=m.testBit j:=by
 rw[← h.is]
 rw[Array.getD_eq_getD_getElem?,Array.getD_eq_getD_getElem?,Array.getElem?_eq_getElem (by rw[h.size]; exact hj)]
 rfl
theorem Mk.set {ops:Array Oper} {l:Array Bool} {m:Nat} (h:Mk ops l m) {i:Nat} (hi:i < ops.size):Mk ops (l.setIfInBounds i true) (Nat.lor m (l9 i)):=by
 refine⟨by rw[Array.size_setIfInBounds,h.size],fun j=>?_⟩
 rw[pD,l_,Array.getD_eq_getD_getElem?,Array.getElem?_setIfInBounds]
 by_cases e:i=j
 ·subst e
  rw[if_pos rfl,if_pos (by rw[h.size]; exact hi)]
  simp
 ·rw[if_neg e,← Array.getD_eq_getD_getElem?,h.is,decide_eq_false e,Bool.or_false]
theorem Mk.none (ops:Array Oper):Mk ops (Array.replicate ops.size false) 0:=by
 refine⟨Array.size_replicate ..,fun j=>?_⟩
 rw[Nat.zero_testBit,Array.getD_eq_getD_getElem?,Array.getElem?_replicate]
 split<;>rfl
section
variable {ops:Array Oper} {l:Array Bool} {m:Nat}
theorem vc (h:Mk ops l m) (o:Oper):(o.after.all fun e=>!Region.binds .any e || l.getD e.on false)=Nat.beq (Nat.land (rowOf ops o).w m) (rowOf ops o).w:=by
 show _=Nat.beq (Nat.land (gq o.after.toList) m) (gq o.after.toList)
 rw[Ds,← Array.all_toList]
 congr 1
 funext e
 rw[h.is]
theorem vd (h:Mk ops l m):Region.ready .any ops l=jU (ops.toList.map (rowOf ops)) 0 m:=by
 have key:∀ (L:List Oper) (j:Nat),(∀ k,L[k]?=ops[j+k]?)->j+L.length=ops.size->jU (L.map (rowOf ops)) j m=(List.range' j L.length).filter fun i=>!l.getD i true && ((ops[i]?).map (·.after.all fun e=>!Region.binds .any e || l.getD e.on false)).getD false:=by
  intro L
  induction L with
  | nil=>intro j _ _; rfl
  | cons o r ih =>
   intro j hL hs
   have h0:ops[j]?=some o:=by rw[← Nat.add_zero j,← hL 0]; rfl
   have hj:j < ops.size:=by rw[List.length_cons] at hs; omega
   have RV:=ih (j+1) (fun k=>by rw[show j+1+k=j+(k+1) by omega,← hL (k+1)]; rfl) (by rw[List.length_cons] at hs; omega)
   rw[List.map_cons,List.length_cons,List.range'_succ,jU,jh,RV,List.filter_cons,h0,Option.map_some,Option.getD_some,vc h,h.lt hj,u6]
   cases (!m.testBit j && Nat.beq (Nat.land (rowOf ops o).w m) (rowOf ops o).w)<;>rfl
 unfold Region.ready
 rw[List.range_eq_range',key ops.toList 0 (fun k=>by rw[Nat.zero_add,Array.getElem?_toList]) (by rw[Nat.zero_add,Array.length_toList]),Array.length_toList]
theorem Dt {x y:Oper} (h:xJ (rowOf ops x) (rowOf ops y)=true):x.apart ops y=true:=by
 unfold xJ at h
 simp only[rowOf,u6,va,Bool.and_eq_true,Bool.not_eq_true',List.any_eq_false,decide_eq_true_eq,Bool.or_eq_true,Nat.beq_eq] at h
 obtain⟨⟨h1,h2⟩,h3⟩:=h
 unfold Oper.apart
 rw[Bool.and_eq_true]
 constructor
 ·cases hx:x.dst with
  | none=>rfl
  | some d =>
   rw[hx] at h1 h2
   simp only[Hc] at h1 h2
   simp only[Bool.and_eq_true,Bool.not_eq_true',bne_iff_ne,ne_eq]
   refine⟨?_,fun e=>?_⟩
   ·rw[Bool.eq_false_iff]
    intro hc
    exact h1 d (List.contains_iff_mem.1 hc) rfl
   ·rw[e] at h2
    rcases h2 with h2|h2
    ·cases h2
    ·rw[Bool.eq_false_iff] at h2
     exact h2 (Nat.beq_refl _)
 ·cases hy:y.dst with
  | none=>rfl
  | some d =>
   rw[hy] at h3
   simp only[Hc] at h3
   simp only[Bool.not_eq_true']
   rw[Bool.eq_false_iff]
   intro hc
   exact h3 d (List.contains_iff_mem.1 hc) rfl
theorem He (h:Mk ops l m) {i:Nat} {oi:Oper} (hi:ops[i]?=some oi) (hf:u_ i (rowOf ops oi) m (ops.toList.map (rowOf ops)) 0=true):Region.free .any ops l i=true:=by
 have key:∀ (L:List Oper) (j:Nat),u_ i (rowOf ops oi) m (L.map (rowOf ops)) j=true->∀ (k:Nat) (o:Oper),L[k]?=some o->(j+k=i\/m.testBit (j+k)=true\/(gq o.after.toList).testBit i=true\/oi.apart ops o=true):=by
  intro L
  induction L with
  | nil=>intro j _ k o hk; cases hk
  | cons y r ih =>
   intro j hj k o hk
   rw[List.map_cons,u_,jh,Bool.and_eq_true] at hj
   cases k with
   | zero =>
    cases hk
    have h1:=hj.1
    simp only[Bool.or_eq_true,Nat.beq_eq,u6] at h1
    rcases h1 with ((h1|h1)|h1)|h1
    ·exact .inl h1
    ·exact .inr (.inl h1)
    ·exact .inr (.inr (.inl h1))
    ·exact .inr (.inr (.inr (Dt h1)))
   | succ k =>
    have:=ih (j+1) hj.2 k o hk
    rw[show j+1+k=j+(k+1) by omega] at this
    exact this
 unfold Region.free
 rw[hi]
 simp only[List.all_eq_true,List.mem_range]
 intro j hj
 have kI:ops[j]?=some ops[j]:=Array.getElem?_eq_getElem hj
 have:=key ops.toList 0 hf j ops[j] (by rw[Array.getElem?_toList]; exact kI)
 rw[Nat.zero_add] at this
 rw[kI,h.lt hj]
 simp only[Bool.or_eq_true,beq_iff_eq]
 rcases this with e|e|e|e
 ·exact .inl (.inl e)
 ·exact .inl (.inr e)
 ·rw[mc,List.any_eq_true] at e
  obtain⟨x,hx,hb⟩:=e
  refine .inr (.inl ?_)
  rw[← Array.any_toList,List.any_eq_true]
  refine⟨x,hx,?_⟩
  simp only[Bool.and_eq_true,decide_eq_true_eq] at hb
  rw[hb.1,hb.2]
  simp
 ·exact .inr (.inr e)
theorem xK (i:Nat):(ops.toList.map (rowOf ops))[i]?=(ops[i]?).map (rowOf ops):=by
 rw[List.getElem?_map,Array.getElem?_toList]
theorem zj (h:Mk ops l m) {q i:Nat} (ht:zi (ops.toList.map (rowOf ops)) q i m=true):∃ o,ops[i]?=some o/\ma o=q/\i∈Region.ready .any ops l/\Region.free .any ops l i=true:=by
 unfold zi at ht
 rw[xK] at ht
 cases ho:ops[i]? with
 | none=>rw[ho] at ht; cases ht
 | some o =>
  rw[ho] at ht
  simp only[Option.map_some,Bool.and_eq_true,Bool.not_eq_true',Nat.beq_eq,u6] at ht
  obtain⟨⟨⟨h1,h2⟩,h3⟩,h4⟩:=ht
  have hi:i < ops.size:=(Array.getElem?_eq_some_iff.1 ho).1
  refine⟨o,rfl,h1,?_,He h ho h4⟩
  unfold Region.ready
  rw[List.mem_filter,List.mem_range]
  refine⟨hi,?_⟩
  rw[ho,Option.map_some,Option.getD_some,vc h,h.lt hi,h2]
  simp only[Bool.not_false,Bool.true_and,Nat.beq_eq]
  exact h3
theorem AA {o:Oper} (h:ma o=0):Ev.kZ o.op=true:=by
 unfold ma at h
 cases hp:Ev.kZ o.op with
 | true=>rfl
 | false=>rw[hp,cond_false] at h; cases hl:lj o.op<;>rw[hl] at h<;>cases h
theorem AB {o:Oper} (h:ma o=1):lj o.op=true:=by
 unfold ma at h
 cases hp:Ev.kZ o.op with
 | true=>rw[hp,cond_true] at h; cases h
 | false=>rw[hp,cond_false] at h; cases hl:lj o.op<;>rw[hl] at h<;>first|rfl|cases h
theorem Du {o:Oper} (h:ma o=2):aR o.op=true:=by
 unfold ma at h
 unfold aR
 cases hp:Ev.kZ o.op with
 | true=>rw[hp,cond_true] at h; cases h
 | false=>rw[hp,cond_false] at h; cases hl:lj o.op<;>rw[hl] at h<;>first|rfl|cases h
theorem Dv {i:Nat} (h:Hd (ops.toList.map (rowOf ops)) i=true):nV ops i=true:=by
 unfold Hd at h
 unfold nV
 rw[xK] at h
 cases ho:ops[i]? with
 | none=>rw[ho] at h; cases h
 | some o=>rw[ho] at h; exact Du (Nat.eq_of_beq_eq_true h)
theorem K8 (h:Mk ops l m) {i:Nat} {D:List Nat} (hk:WS (ops.toList.map (rowOf ops)) m i D=true):QU ops.toList l i D=true:=by
 unfold WS at hk
 rw[jh,List.all_eq_true] at hk
 unfold QU
 rw[List.all_eq_true]
 intro j hj
 have:=hk j hj
 rw[xK] at this
 cases ho:ops[j]? with
 | none=>rw[ho] at this; simp at this
 | some o =>
  rw[ho] at this
  simp only[Option.map_some,Bool.and_eq_true,Bool.not_eq_true',u6] at this
  have hz:Nat.land (gq o.after.toList) (Nat.lor (l9 i) (pF D))≠0:=fun e=>by
   have h2:=this.2
   rw[show (rowOf ops o).w=gq o.after.toList from rfl,e] at h2
   cases h2
  obtain⟨k,Cw⟩:=Nat.exists_testBit_of_ne_zero hz
  have e:(Nat.land (gq o.after.toList) (Nat.lor (l9 i) (pF D))).testBit k=((gq o.after.toList).testBit k && (Nat.lor (l9 i) (pF D)).testBit k):=Nat.testBit_and ..
  rw[e,Bool.and_eq_true,mc,pD,l_,vb] at Cw
  obtain⟨h1,h2⟩:=Cw
  rw[List.any_eq_true] at h1
  obtain⟨ed,he,hb⟩:=h1
  simp only[Bool.and_eq_true,decide_eq_true_eq] at hb
  rw[Bool.and_eq_true]
  refine⟨by rw[h.is,this.1]; rfl,?_⟩
  rw[Array.getElem?_toList,ho]
  show o.after.toList.any _=true
  rw[List.any_eq_true]
  refine⟨ed,he,?_⟩
  rw[hb.1,Bool.true_and,hb.2,Bool.or_eq_true]
  rw[Bool.or_eq_true,decide_eq_true_eq,List.any_eq_true] at h2
  rcases h2 with h2|⟨d,hd,h2⟩
  ·exact .inl (by rw[h2]; exact Nat.beq_refl _)
  ·refine .inr ?_
   unfold iI
   rw[List.any_eq_true]
   exact⟨d,hd,by rw[of_decide_eq_true h2]; exact Nat.beq_refl _⟩
theorem ko {f:Nat->aF->Bool} {g:Nat->aF->Prop}:∀ {L:List Nat} {ms:iJ},(∀ j∈L,∀ r,f j r=true->g j r)->jg f L ms=true->jT g L ms
 | [],.nil,_,_=>trivial
 | j::L,.cons k r ms,h,hp=>by
  simp only[jg,Bool.and_eq_true,Nat.beq_eq] at hp
  exact⟨hp.1.1,h j (List.mem_cons_self ..) r hp.1.2,ko (fun j hj=>h j (List.mem_cons_of_mem _ hj)) hp.2⟩
 | j::L,.alt k r ms,h,hp=>by
  simp only[jg,Bool.and_eq_true,Nat.beq_eq] at hp
  exact⟨hp.1.1,h j (List.mem_cons_self ..) r hp.1.2,ko (fun j hj=>h j (List.mem_cons_of_mem _ hj)) hp.2⟩
 | j::L,.sub k r ms,h,hp=>by
  simp only[jg,Bool.and_eq_true,Nat.beq_eq] at hp
  exact⟨hp.1.1,h j (List.mem_cons_self ..) r hp.1.2,ko (fun j hj=>h j (List.mem_cons_of_mem _ hj)) hp.2⟩
 | [],.cons ..,_,hp=>by cases hp
 | [],.alt ..,_,hp=>by cases hp
 | [],.sub ..,_,hp=>by cases hp
 | _::_,.nil,_,hp=>by cases hp
end
theorem pG {ops:Array Oper} {l:Array Bool} {i:Nat} (h:i∈Region.ready .any ops l):i < ops.size:=by
 unfold Region.ready at h
 exact List.mem_range.1 (List.mem_filter.1 h).1
theorem jV {ops:Array Oper}:∀ (fuel:Nat) (p:aF) (l:Array Bool) (m:Nat),Mk ops l m->mb (ops.toList.map (rowOf ops)) fuel m p=true->g_ ops fuel l p
 | fuel,.done,l,m,h,hp=>by
  have e:jU (ops.toList.map (rowOf ops)) 0 m = []:=by cases fuel<;>exact List.isEmpty_iff.1 hp
  cases fuel<;>exact (vd h).trans e
 | 0,.pure ..,_,_,_,hp=>by cases hp
 | 0,.load ..,_,_,_,hp=>by cases hp
 | 0,.aR ..,_,_,_,hp=>by cases hp
 | fuel+1,.pure i r,l,m,h,hp=>by
  simp only[mb,jh,Bool.and_eq_true] at hp
  obtain⟨o,ho,hk,hr,hf⟩:=zj h hp.1
  refine⟨hr,?_,jV fuel r _ _ (h.set (pG hr)) hp.2⟩
  unfold lZ
  rw[ho]
  simp only[Bool.and_eq_true]
  exact⟨AA hk,hf⟩
 | fuel+1,.load i D r,l,m,h,hp=>by
  simp only[mb,jh,Bool.and_eq_true] at hp
  obtain⟨o,ho,hk,hr,hf⟩:=zj h hp.1.1
  refine⟨hr,?_,K8 h hp.1.2,jV fuel r _ _ (h.set (pG hr)) hp.2⟩
  unfold l4
  rw[ho]
  simp only[Bool.and_eq_true]
  exact⟨AB hk,hf⟩
 | fuel+1,.aR i r ms,l,m,h,hp=>by
  have he:=vd h
  simp only[mb,jh] at hp
  unfold g_
  split at hp
  ·rename_i i0 more u5
   rw[he,u5]
   simp only[Bool.and_eq_true,Nat.beq_eq] at hp
   obtain⟨⟨⟨⟨rfl,h1⟩,h2⟩,h3⟩,h4⟩:=hp
   have bG:∀ j∈i0::more,j < ops.size:=fun j hj=>pG (l:=l) (by rw[he,u5]; exact hj)
   refine⟨rfl,Dv h1,fun j hj=>Dv (List.all_eq_true.1 h2 j hj),jV fuel r _ _ (h.set (bG _ (List.mem_cons_self ..))) h3,ko (fun j hj r hr=>jV fuel r _ _ (h.set (bG j (List.mem_cons_of_mem _ hj))) hr) h4⟩
  ·cases hp
end Go.Proofs.YtnbhdacpogplgaaGreatDoor.Pw

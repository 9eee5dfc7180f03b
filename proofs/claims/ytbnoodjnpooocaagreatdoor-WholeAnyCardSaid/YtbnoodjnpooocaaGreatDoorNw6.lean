/- What this claim is proved with: no condition. -/
import Derived.Test.YtbnoodjnpooocaaGreatDoorNw5
import Derived.Scope
set_option linter.unusedVariables false
set_option linter.unusedSimpArgs false
namespace Go.Proofs.YtbnoodjnpooocaaGreatDoor.Pw
open Go Go.RowKit
structure mJ where
 D:List Nat
 l:Nat
def fk (i:Nat) (l:List Nat):Bool:=l.any (Nat.beq i)
def BG (listed:Array Bool) (i:Nat):List Oper->Nat->List Nat->List Nat
 | [],_,acc=>acc
 | o::r,j,acc=>bif !(listed.getD j true) && o.after.toList.any (fun e=>Region.binds .any e && (Nat.beq e.on i || fk e.on acc)) then BG listed i r (j+1) (j::acc) else BG listed i r (j+1) acc
def QC (ops:List Oper) (listed:Array Bool) (i:Nat) (D:List Nat):Bool :=
 D.all fun j=>!(listed.getD j false) && (match ops[j]? with
  | some o=>o.after.toList.any fun e=>Region.binds .any e && (Nat.beq e.on i || fk e.on D)
  | none=>false)
def pinned (i:Nat):List mJ->List Nat
 | []=>[]
 | p::r=>bif fk i p.D then pinned i r else p.l::pinned i r
def ct (i:Nat) (pins:List mJ):List mJ:=pins.filter fun p=>!fk i p.D
def Md.yQ:Md->Bool
 | .w=>true
 | _=>false
def qm (b:Bool) (m:Md):Md:=match b,m with
 | true,.w=>.p
 | _,m=>m
def fm (b:Bool) (m:Md):Md:=match b,m with
 | true,.p=>.w
 | _,m=>m
def mapM (f:Bool->Md->Md) (us:List Nat):Nat->List aj->List aj
 | _,[]=>[]
 | j,⟨k,ty,n,m,live,cs⟩::st=>⟨k,ty,n,f (fk j us) m,live,cs⟩::mapM f us (j+1) st
def G':List aj->(List aj->Prop)->Prop
 | [],q=>q []
 | ⟨k,ty,n,m,live,cs⟩::st,q=>match m with
  | .w=>G' st fun st=>q (⟨k,ty,n,.w,live,cs⟩::st)
  | .p=>G' st fun st=>q (⟨k,ty,n,.p,live,cs⟩::st)
  | .r=>G' st fun st=>q (⟨k,ty,n,.r,live,cs⟩::st)
def fJ (st:List aj) (ls:List Nat):List Nat:=ls.filter fun j=>match st[j]? with
 | some b=>b.live && b.m.yQ
 | none=>false
def YA (st:List aj) (ls:List Nat):Bool:=ls.all fun j=>match st[j]? with
 | some b=>b.live
 | none=>false
def gm (G:Gx) (ops:List Oper) (s:aD) (i:Nat) (o:Oper) (pins:List mJ) (K:aD->Prop):Prop :=
 gB ops s o (fun s=>match pinned i pins with
  | []=>pop G s o fun v s2=>s2.put o.dst v K
  | ls=>G' (mapM qm (fJ s.st ls) 0 s.st) fun st=>pop G (s.store st) o fun v s2=>bif YA s2.st ls then G' (mapM fm (fJ s.st ls) 0 s2.st) fun yR=>(s2.store yR).put o.dst v K else False)
  (fun s=>s.put o.dst (.tup []) K)
def Dj (ops:List Oper) (opK:aD->(PV->aD->Prop)->Prop) (s:aD) (i:Nat) (o:Oper) (pins:List mJ) (K:aD->Prop):Prop :=
 gB ops s o (fun s=>match pinned i pins with
  | []=>opK s fun v s2=>s2.put o.dst v K
  | ls=>G' (mapM qm (fJ s.st ls) 0 s.st) fun st=>opK (s.store st) fun v s2=>bif YA s2.st ls then G' (mapM fm (fJ s.st ls) 0 s2.st) fun yR=>(s2.store yR).put o.dst v K else False)
  (fun s=>s.put o.dst (.tup []) K)
def gG (ops:Array Oper) (listed:Array Bool) (i:Nat):Bool:=match ops[i]? with
 | some o=>Ev.g_ o.op && Region.free .any ops listed i
 | none=>false
def gH (ops:Array Oper) (listed:Array Bool) (i:Nat):Bool:=match ops[i]? with
 | some o=>kX o.op && Region.free .any ops listed i
 | none=>false
def gI (D:List Nat) (x:PV) (pins:List mJ):List mJ:=match x.dX with
 | some l=>⟨D,l⟩::pins
 | none=>pins
section
variable {w w':World} {I I':Nat->Prop} {β ay:an} {G:Gx} {s:aD} {a:Act} {st dY:List aj} {ops:Array Oper}
theorem xx:∀ {st:List aj} {q:List aj->Prop},G' st q->q st
 | [],_,h=>h
 | ⟨k,ty,n,m,live,cs⟩::st,q,h=>by
  unfold G' at h
  cases m<;>exact xx (st:=st) h
theorem eN (f:Bool->Md->Md) (us:List Nat):∀ (st:List aj) (j l:Nat),(mapM f us j st)[l]?=(st[l]?).map fun b=>{ b with m:=f (fk (j+l) us) b.m }
 | [],j,l=>by simp[mapM]
 | ⟨k,ty,n,m,live,cs⟩::st,j,0=>by simp[mapM]
 | ⟨k,ty,n,m,live,cs⟩::st,j,l+1=>by
  simp only[mapM,List.getElem?_cons_succ]
  rw[eN f us st (j+1) l,show j+1+l=j+(l+1) by omega]
theorem gJ (f:Bool->Md->Md) (us:List Nat):∀ (st:List aj) (j:Nat),(mapM f us j st).length=st.length
 | [],_=>rfl
 | ⟨_,_,_,_,_,_⟩::st,j=>by simp[mapM,gJ f us st]
theorem RQ {b:Bool} {m:Md}:qm b m = .r↔m = .r:=by cases b<;>cases m<;>simp[qm]
theorem RR {b:Bool} {m:Md} (h:qm b m = .w):m = .w:=by cases b<;>cases m<;>simp_all [qm]
theorem Ib {b:Bool} {m:Md}:fm b m = .r↔m = .r:=by cases b<;>cases m<;>simp[fm]
theorem aC.QD (h:aC I β st w) {f:Bool->Md->Md} {us:List Nat} (hf:∀ b m,f b m = .r↔m = .r):aC I β (mapM f us 0 st) w:=by
 refine⟨fun l hl=>h.p8 l (by rw[gJ] at hl; exact hl),fun l b' hl az=>?_⟩
 rw[eN,Option.map_eq_some_iff] at hl
 obtain⟨b,hb,rfl⟩:=hl
 have gE:=h.dX l b hb az
 obtain⟨p,hp,hk⟩:=gE
 have own:∀ {g:Nat} {fr:Nat × Nat},Own I β st l g fr b->Own I β (mapM f us 0 st) l g fr { b with m:=f (fk (0+l) us) b.m }:=fun ho=>by
  refine⟨fun hr=>?_,fun hr=>ho.2 ((hf _ _).1 hr)⟩
  obtain⟨h1,h2,h3⟩:=ho.1 fun e=>hr ((hf _ _).2 e)
  refine⟨h1,h2,fun l' b' cN iu fi=>?_⟩
  rw[eN,Option.map_eq_some_iff] at iu
  obtain⟨b2,dS,rfl⟩:=iu
  exact h3 l' b2 cN dS fi
 refine⟨p,hp,?_⟩
 simp only
 split at hk
 ·rename_i cm
  obtain⟨g,o,arr,ty,fr,h1,h2,h3,ho⟩:=hk
  rw[cm]
  exact⟨g,o,arr,ty,fr,h1,h2,h3,own ho⟩
 ·rename_i cm
  obtain⟨g,arr,fr,h1,h2,h3,ho,h4⟩:=hk
  rw[cm]
  exact⟨g,arr,fr,h1,h2,h3,own ho,h4⟩
 ·rename_i cm
  obtain⟨h1,hk⟩:=hk
  rw[cm]
  refine⟨h1,?_⟩
  rcases hk with h|⟨g,arr,fr,h2,h3,h4,ho,h5⟩
  ·exact .inl h
  ·exact .inr ⟨g,arr,fr,h2,h3,h4,own ho,h5⟩
 ·rename_i cm
  obtain⟨g,h1,h2,ho⟩:=hk
  rw[cm]
  exact⟨g,h1,h2,own ho⟩
 ·rename_i cm
  obtain⟨g,es,ck,h1,h2,h3,ho,h4⟩:=hk
  rw[cm]
  exact⟨g,es,ck,h1,h2,h3,own ho,h4⟩
theorem cR {i:Nat} {l:List Nat}:fk i l=true↔i∈l:=by
 unfold fk
 rw[List.any_eq_true]
 exact⟨fun ⟨x,hx,e⟩=>by rw[Nat.eq_of_beq_eq_true e]; exact hx,fun h=>⟨i,h,Nat.beq_refl i⟩⟩
def iQ (pins:List mJ) (ys:List jL) (I:Nat->Prop) (β:an) (st:List aj) (w:World):Prop :=
 ∀ y∈ys,(∀ w2,y.Y w2)\/∃ g,(∀ w2,y.Y w2↔w2.heap[g]?=w.heap[g]?)/\g < w.heap.size/\(I g\/∃ p∈pins,p.D=y.D/\∃ b pl o,st[p.l]?=some b/\b.live=true/\β p.l=some pl/\pl.a=some (g,o))
theorem kZ {i:Nat} {p:mJ}:∀ {pins:List mJ},p∈pins->fk i p.D=false->p.l∈pinned i pins
 | q::pins,h,hd=>by
  unfold pinned
  rcases List.mem_cons.1 h with rfl|h
  ·rw[hd]; exact List.mem_cons_self
  ·cases fk i q.D
   ·exact List.mem_cons_of_mem _ (kZ h hd)
   ·exact kZ h hd
theorem sU {i:Nat} {p:mJ} {pins:List mJ} (h:p∈pins) (hd:fk i p.D=false):p∈ct i pins:=by
 unfold ct; rw[List.mem_filter]; exact⟨h,by simp[hd]⟩
theorem mK {i:Nat} {y:jL} {ys:List jL} (h:y∈cF i ys):y∈ys/\fk i y.D=false:=by
 unfold cF at h; rw[List.mem_filter] at h; exact⟨h.1,by simpa [fk] using h.2⟩
theorem iQ.cF {i:Nat} {pins:List mJ} {ys:List jL} (h:iQ pins ys I β st w):iQ (ct i pins) (cF i ys) I β st w:=fun y hy=>by
 obtain⟨hy,hd⟩:=mK hy
 rcases h y hy with h|⟨g,h1,h2,h3⟩
 ·exact .inl h
 ·exact .inr ⟨g,h1,h2,h3.imp id fun ⟨p,hp,he,h4⟩=>⟨p,sU hp (by rw[he]; exact hd),he,h4⟩⟩
theorem zh {i:Nat} {o:Oper} {opK:aD->(PV->aD->Prop)->Prop} (h_:∀ {s:aD} {q:PV->aD->Prop} {I:Nat->Prop} {β:an} {a:Act} {w:World},Rel G I β s a w->opK s q->Ev.lU G.cx.P (bF G s I β w a q) ((execOp a.eval o).run G.cx.P w)) {pins:List mJ} {ys:List jL} {K:aD->Prop} (h:Dj ops.toList opK s i o pins K) (hR:Rel G I β s a w) (hp:iQ pins ys I β s.st w) :
  Ev.nK G.cx.P ops o a w fun v w'=>∃ s' I' ay,K s'/\Rel G I' ay s' (a.put o.dst v) w'/\aG I β s w I' ay s' w'/\(∀ y∈cF i ys,y.Y w')/\iQ (ct i pins) (cF i ys) I' ay s'.st w':=by
 unfold Dj at h
 rcases c9 hR h with ⟨hw,s1,h1,d_,cI⟩|⟨hw,s1,h1,d_,cI⟩
 ·refine .inl ⟨hw,?_⟩
  
  split at h1
  ·rename_i vy
   refine Ev.ke ?_ (h_ cI h1)
   rintro v w' ⟨x,s2,I2,ee,h2,eM,hx,hE,e1,e2,e3,dU,_⟩
   obtain⟨s3,h3,eA,gW⟩:=aD.aT (G:=G) h2
   have G_:aG I β s w I2 ee s3 w':=((aG.same d_).trans ⟨hE,e1,e2,e3,dU⟩).trans (aG.same eA)
   have sK:∀ y∈cF i ys,y.Y w'/\((∀ w2,y.Y w2)\/∃ g,(∀ w2,y.Y w2↔w2.heap[g]?=w'.heap[g]?)/\g < w'.heap.size/\I2 g):=fun y hy=>by
    obtain⟨hy,hd⟩:=mK hy
    rcases hp y hy with h|⟨g,h1,h2,h3⟩
    ·exact⟨h _,.inl h⟩
    ·rcases h3 with h3|⟨p,rK,he,_⟩
     ·have hs:=G_.ext.keeps hR.heap hR.au.au g h3
      exact⟨(h1 w').2 hs,.inr ⟨g,fun w2=>by rw[h1,hs],Nat.lt_of_lt_of_le h2 G_.ext.size,G_.ext.au g h3⟩⟩
     ·have:=kZ (i:=i) rK (by rw[he]; exact hd)
      rw[vy] at this
      cases this
   exact⟨s3,I2,ee,h3,gW _ _ _ _ v eM hx,G_,fun y hy=>(sK y hy).1,fun y hy=>(sK y hy).2.imp id fun ⟨g,a1,a2,a3⟩=>⟨g,a1,a2,.inl a3⟩⟩
  ·rename_i ls vy
   replace h1:=xx h1
   have E0:=cI.heap.QD (f:=qm) (us:=fJ s1.st (pinned i pins)) (fun b m=>RQ)
   have hEp:Ext I β s1.st w I β (mapM qm (fJ s1.st (pinned i pins)) 0 s1.st) w:=⟨rfl,rfl,rfl,Nat.le_refl _,fun _ _ _=>rfl,fun g hg ⟨l,b',p,o',g1,g2,g3,g4,g5⟩=>by
    rw[eN,Option.map_eq_some_iff] at g1
    obtain⟨b,hb,rfl⟩:=g1
    refine⟨l,b,p,o',hb,g2,?_,g4,g5⟩
    simp only at g3
    exact RR g3,fun _ h=>h,fun _ _ h=>.inl h⟩
   have hRp:=cI.grow E0 hEp (fun _ _ h=>h) (by rw[gJ]; exact Nat.le_refl _) cI.au.au
   refine Ev.ke ?_ (h_ hRp h1)
   rintro v w' ⟨x,s2,I2,ee,h2,eM,hx,hE,e1,e2,e3,dU,hpn⟩
   obtain⟨c1,c2,c3,c4,c5⟩:=aD.dT s1 (mapM qm (fJ s1.st (pinned i pins)) 0 s1.st)
   rw[c3] at hE hpn
   rw[c4] at e1 dU
   rw[c5] at e2 dU
   rw[c1] at e3
   replace h2:=ba h2
   obtain⟨RT,h2⟩:=h2
   replace h2:=xx h2
   have hmu:=eM.heap.QD (f:=fm) (us:=fJ s1.st (pinned i pins)) (fun b m=>Ib)
   
   have xh:∀ l∈fJ s1.st (pinned i pins),∃ b,s1.st[l]?=some b/\b.m = .w/\b.live=true:=fun l hl=>by
    unfold fJ at hl
    rw[List.mem_filter] at hl
    have:=hl.2
    cases hb:s1.st[l]? with
    | none=>rw[hb] at this; cases this
    | some b =>
     rw[hb] at this
     simp only[Bool.and_eq_true] at this
     refine⟨b,rfl,?_,this.1⟩
     have:=this.2
     cases hm:b.m<;>simp only[hm,Md.yQ] at this<;>first|rfl|cases this
   have hfix:∀ l b,s1.st[l]?=some b->b.m = .w->l∈fJ s1.st (pinned i pins)->ee l=β l:=fun l b hb hm hl=>by
    refine hpn l { b with m:=.p } ?_ rfl
    rw[eN,hb,Nat.zero_add,cR.2 hl,Option.map_some,hm]; rfl
   have RV:Ext I β s1.st w I2 ee (mapM fm (fJ s1.st (pinned i pins)) 0 s2.st) w':=by
    have MC:=hEp.trans hE
    refine⟨MC.os,MC.tape,MC.output,MC.size,MC.block,fun g hg ⟨l,b',p,o',g1,g2,g3,g4,g5⟩=>?_,MC.au,MC.new⟩
    rw[eN,Option.map_eq_some_iff] at g1
    obtain⟨b,hb,rfl⟩:=g1
    simp only[Nat.zero_add] at g3
    cases Df:fk l (fJ s1.st (pinned i pins)) with
    | false =>
     rw[Df] at g3
     refine MC.wr g hg ⟨l,b,p,o',hb,g2,?_,g4,g5⟩
     cases hm:b.m<;>rw[hm] at g3<;>first|rfl|cases g3
    | true =>
     have hl:=cR.1 Df
     obtain⟨b0,gE,l5,RW⟩:=xh l hl
     exact⟨l,b0,p,o',gE,RW,l5,by rw[← hfix l b0 gE l5 hl]; exact g4,g5⟩
   have sK:∀ y∈cF i ys,y.Y w'/\((∀ w2,y.Y w2)\/∃ g,(∀ w2,y.Y w2↔w2.heap[g]?=w'.heap[g]?)/\g < w'.heap.size/\(I2 g\/∃ p∈ct i pins,p.D=y.D/\∃ b pl o,(mapM fm (fJ s1.st (pinned i pins)) 0 s2.st)[p.l]?=some b/\b.live=true/\ee p.l=some pl/\pl.a=some (g,o))):=fun y hy=>by
    obtain⟨hy,hd⟩:=mK hy
    rcases hp y hy with h|⟨g,g1,g2,g3⟩
    ·exact⟨h _,.inl h⟩
    ·have byI:I g->y.Y w'/\((∀ w2,y.Y w2)\/∃ g,(∀ w2,y.Y w2↔w2.heap[g]?=w'.heap[g]?)/\g < w'.heap.size/\(I2 g\/∃ p∈ct i pins,p.D=y.D/\∃ b pl o,(mapM fm (fJ s1.st (pinned i pins)) 0 s2.st)[p.l]?=some b/\b.live=true/\ee p.l=some pl/\pl.a=some (g,o))):=fun hI=>by
      have hs:=RV.keeps cI.heap cI.au.au g hI
      exact⟨(g1 w').2 hs,.inr ⟨g,fun w2=>by rw[g1,hs],Nat.lt_of_lt_of_le g2 RV.size,.inl (RV.au g hI)⟩⟩
     rcases g3 with g3|⟨p,rK,he,b,pl,o',hb,az,j3,BH⟩
     ·exact byI g3
     ·rw[← d_.st] at hb
      have gE:=cI.heap.dX _ b hb az
      obtain⟨arr,ty,fr,hh,ho⟩:=gE.place j3 BH
      by_cases hmr:b.m = .r
      ·exact byI (ho.2 hmr)
      ·have hlm:=kZ (i:=i) rK (by rw[he]; exact hd)
       
       have hpin:∃ b',(mapM qm (fJ s1.st (pinned i pins)) 0 s1.st)[p.l]?=some b'/\b'.m = .p/\b'.live=true:=by
        refine⟨{ b with m:=qm (fk (0+p.l) (fJ s1.st (pinned i pins))) b.m },by rw[eN,hb]; rfl,?_,az⟩
        simp only[Nat.zero_add]
        cases hm:b.m with
        | r=>exact absurd hm hmr
        | p=>cases fk p.l (fJ s1.st (pinned i pins))<;>rfl
        | w =>
         have:p.l∈fJ s1.st (pinned i pins):=by unfold fJ; rw[List.mem_filter,hb]; exact⟨hlm,by simp only[hm,az]; rfl⟩
         rw[cR.2 this]; rfl
       obtain⟨b',cO,qb,fi⟩:=hpin
       have hb'0:=E0.dX _ b' cO fi
       obtain⟨_,_,fr',_,ho'⟩:=hb'0.place j3 BH
       have BI:¬ Wr β (mapM qm (fJ s1.st (pinned i pins)) 0 s1.st) g:=fun ⟨l2,b2,p2,o2,k1,k2,k3,k4,k5⟩=>by
        by_cases cN:l2=p.l
        ·subst cN
         rw[cO] at k1; cases k1; rw[qb] at k3; cases k3
        ·exact (ho'.1 (by rw[qb]; decide)).2.2 l2 b2 cN k1 k2 p2 g o2 k4 k5 rfl
       have hs:w'.heap[g]?=w.heap[g]?:=hE.block g g2 BI
       have hβ2:ee p.l=some pl:=(hpn _ b' cO qb).trans j3
       have MD:∃ b2,s2.st[p.l]?=some b2/\b2.live=true:=by
        unfold YA at RT
        rw[List.all_eq_true] at RT
        have:=RT _ hlm
        cases dS:s2.st[p.l]? with
        | none=>rw[dS] at this; cases this
        | some b2=>rw[dS] at this; exact⟨b2,rfl,this⟩
       obtain⟨b2,dS,bC⟩:=MD
       refine⟨(g1 w').2 hs,.inr ⟨g,fun w2=>by rw[g1,hs],Nat.lt_of_lt_of_le g2 RV.size,.inr ⟨p,sU rK (by rw[he]; exact hd),he,{ b2 with m:=fm (fk (0+p.l) (fJ s1.st (pinned i pins))) b2.m },pl,o',by rw[eN,dS]; rfl,bC,hβ2,BH⟩⟩⟩
   have hEu:Ext I2 ee s2.st w' I2 ee (mapM fm (fJ s1.st (pinned i pins)) 0 s2.st) w'->True:=fun _=>trivial
   clear hEu
   have nz:Rel G I2 ee (s2.store (mapM fm (fJ s1.st (pinned i pins)) 0 s2.st)) a w':=by
    obtain⟨d1,d2,d3,d4,d5⟩:=aD.dT s2 (mapM fm (fJ s1.st (pinned i pins)) 0 s2.st)
    exact⟨by rw[d1]; exact eM.small,eM.defers,by rw[d1]; exact eM.size,by rw[d4,d3,gJ]; exact eM.base,by rw[d2]; exact eM.get,by rw[d3]; exact hmu,eM.au⟩
   obtain⟨s3,h3,eA,gW⟩:=aD.aT (G:=G) h2
   obtain⟨d1,d2,d3,d4,d5⟩:=aD.dT s2 (mapM fm (fJ s1.st (pinned i pins)) 0 s2.st)
   refine⟨s3,I2,ee,h3,gW _ _ _ _ v nz hx,(aG.same d_).trans ⟨by rw[eA.st,d3]; exact RV,by rw[eA.base,d4]; exact e1,by rw[eA.rl,d5]; exact e2,by rw[eA.n,d1]; exact e3,dU⟩,fun y hy=>(sK y hy).1,fun y hy=>?_⟩
   rw[eA.st,d3]
   exact (sK y hy).2
 ·obtain⟨s3,h3,eA,gW⟩:=aD.aT (G:=G) h1
  refine .inr ⟨hw,s3,I,β,h3,gW _ _ _ _ _ cI Is.undef,(aG.same d_).trans (aG.same eA),fun y hy=>?_,?_⟩
  ·obtain⟨hy,_⟩:=mK hy
   rcases hp y hy with h|⟨g,h1,_⟩
   ·exact h w
   ·exact (h1 w).2 rfl
  ·rw[eA.st,d_.st]; exact hp.cF
theorem kl (hG:fD G) {i:Nat} {o:Oper} {pins:List mJ} {ys:List jL} {K:aD->Prop} (h:gm G ops.toList s i o pins K) (hR:Rel G I β s a w) (hp:iQ pins ys I β s.st w) :
  Ev.nK G.cx.P ops o a w fun v w'=>∃ s' I' ay,K s'/\Rel G I' ay s' (a.put o.dst v) w'/\aG I β s w I' ay s' w'/\(∀ y∈cF i ys,y.Y w')/\iQ (ct i pins) (cF i ys) I' ay s'.st w' :=
 zh (opK:=fun s q=>pop G s o q) (fun hR h=>sR hG hR h) h hR hp
theorem cB.gK {P:Program} {Q:Exit->Act->World->Prop} {i:Nat}:∀ (f:Nat) (l:Array Bool) (a:Act) (S:World->Prop) (pins:List jL),cB P ops Q f l a S pins->cB P ops Q f l a S (⟨i,[],fun _=>True⟩::pins)
 | 0,_,_,_,_,h=>h
 | f+1,l,a,S,pins,h=>by
  have Yy:∀ j,cF j (⟨i,[],fun _=>True⟩::pins)=⟨i,[],fun _=>True⟩::cF j pins:=fun j=>by
   unfold cF; rw[List.filter_cons,if_pos (by simp)]
  refine⟨h.1,fun j hj o ho=>?_⟩
  obtain⟨h0,h1⟩:=h.2 j hj o ho
  rw[Yy]
  refine⟨fun hl=>?_,fun hl w hw=>gl (fun v w' ⟨S',h2,h3,h4⟩=>⟨S',fun p hp=>?_,h3,cB.gK f _ _ _ _ h4⟩) (h1 hl w hw)⟩
  ·obtain⟨v,hy,hn⟩:=h0 hl
   exact⟨v,hy,cB.gK f _ _ _ _ hn⟩
  ·rcases List.mem_cons.1 hp with rfl|hp
   ·exact fun _ _=>trivial
   ·exact h2 p hp
theorem zi {P:Program} {K:Value->World->Prop} {r:Result Next} (h:Ev.lU P K r):∃ v w,K v w:=by
 cases r with
 | ok n w =>
  cases n<;>simp only[Ev.lU] at h
  case value u=>exact⟨_,_,h⟩
  case skip=>exact⟨_,_,h⟩
  case enter f args =>
   obtain⟨e,w',fr,⟨u,_,hu⟩,_⟩:=h []
   exact⟨_,_,hu⟩
 | halt x w=>exact h.elim
theorem jQ {P:Program} {o:Oper} {K:Value->World->Prop} (h:Ev.nK P ops o a w K):∃ v w',K v w':=by
 rcases h with ⟨_,h⟩|⟨_,h⟩
 ·exact zi h
 ·exact⟨_,_,h⟩
theorem cB.ends {P:Program} {Q:Exit->Act->World->Prop}:∀ (f:Nat) (l:Array Bool) (a:Act) (S:World->Prop) (pins:List jL) (w:World),cB P ops Q f l a S pins->S w->∃ a' w',Q .normal a' w'
 | 0,l,a,S,_,w,h,hw=>⟨a,w,h.2 w hw⟩
 | f+1,l,a,S,pins,w,h,hw=>by
  cases hr:Region.ready .any ops l with
  | nil=>exact⟨a,w,h.1 hr w hw⟩
  | cons i r =>
   have hi:i∈Region.ready .any ops l:=by rw[hr]; exact List.mem_cons_self
   obtain⟨o,ho⟩:=Ev.y0 hi
   obtain⟨h0,h1⟩:=h.2 i hi o ho
   cases he:ai o.op with
   | false =>
    obtain⟨v,_,hn⟩:=h0 he
    exact cB.ends f _ _ S _ w hn hw
   | true =>
    obtain⟨v,w',S',_,qZ,hn⟩:=jQ (h1 he w hw)
    exact cB.ends f _ _ S' _ w' hn qZ
theorem BJ {listed:Array Bool} {i:Nat} {D:List Nat} (h:QC ops.toList listed i D=true):∀ j∈D,listed.getD j false=false/\∃ oj,ops[j]?=some oj/\∃ e∈oj.after,Region.binds .any e=true/\(e.on=i\/e.on∈D):=by
 intro j hj
 unfold QC at h
 rw[List.all_eq_true] at h
 have:=h j hj
 simp only[Bool.and_eq_true,Bool.not_eq_true'] at this
 refine⟨this.1,?_⟩
 have h2:=this.2
 cases ho:ops.toList[j]? with
 | none=>rw[ho] at h2; cases h2
 | some oj =>
  rw[ho] at h2
  simp only[List.any_eq_true,Bool.and_eq_true,Bool.or_eq_true] at h2
  obtain⟨e,he,hb,h3⟩:=h2
  exact⟨oj,by simpa using ho,e,by simpa using he,hb,h3.imp Nat.eq_of_beq_eq_true cR.1⟩
end
mutual
inductive af where
 | done
 | pure (i:Nat) (r:af)
 | load (i:Nat) (D:List Nat) (r:af)
 | ai (i:Nat) (r:af) (more:gY)
inductive gY where
 | nil
 | cons (j:Nat) (r:af) (more:gY)
 | alt (j:Nat) (r:af) (more:gY)
 | sub (j:Nat) (r:af) (more:gY)
end
def vz:List Nat->List Nat->Bool
 | [],[]=>true
 | a::l,b::m=>Nat.beq a b && vz l m
 | _,_=>false
theorem sV:∀ {l m:List Nat},vz l m=true->l=m
 | [],[],_=>rfl
 | a::l,b::m,h=>by
  simp only[vz,Bool.and_eq_true] at h
  rw[Nat.eq_of_beq_eq_true h.1,sV h.2]
 | [],_::_,h=>by cases h
 | _::_,[],h=>by cases h
def nA (ops:Array Oper) (i:Nat):Bool:=match ops[i]? with
 | some o=>ai o.op
 | none=>false
def k7 (chk:Nat->af->Bool):List Nat->gY->Bool
 | [],.nil=>true
 | j::l,.cons k r ms=>Nat.beq j k && chk j r && k7 chk l ms
 | j::l,.alt k r ms=>Nat.beq j k && chk j r && k7 chk l ms
 | j::l,.sub k r ms=>Nat.beq j k && chk j r && k7 chk l ms
 | _,_=>false
def Dk (ops:Array Oper):Nat->Array Bool->af->Bool
 | _,listed,.done=>(Region.ready .any ops listed).isEmpty
 | 0,_,_=>false
 | fuel+1,listed,.pure i r=>(match Ev.w5 (gG ops listed) (Region.ready .any ops listed) with
  | some k=>Nat.beq k i && Dk ops fuel (listed.setIfInBounds i true) r
  | none=>false)
 | fuel+1,listed,.load i D r=>(match Ev.w5 (gH ops listed) (Region.ready .any ops listed) with
  | some k=>Nat.beq k i && vz D (BG listed i ops.toList 0 []) && QC ops.toList listed i D && Dk ops fuel (listed.setIfInBounds i true) r
  | none=>false)
 | fuel+1,listed,.ai i r ms=>(match Region.ready .any ops listed with
  | i0::more=>Nat.beq i0 i && nA ops i && more.all (nA ops) && Dk ops fuel (listed.setIfInBounds i true) r && k7 (fun j r=>Dk ops fuel (listed.setIfInBounds j true) r) more ms
  | []=>false)
def l7 (chk:Nat->af->Prop):List Nat->gY->Prop
 | [],.nil=>True
 | j::l,.cons k r ms=>j=k/\chk j r/\l7 chk l ms
 | j::l,.alt k r ms=>j=k/\chk j r/\l7 chk l ms
 | j::l,.sub k r ms=>j=k/\chk j r/\l7 chk l ms
 | _,_=>False
def jR (ops:Array Oper):Nat->Array Bool->af->Prop
 | _,listed,.done=>Region.ready .any ops listed = []
 | 0,_,_=>False
 | fuel+1,listed,.pure i r=>i∈Region.ready .any ops listed/\gG ops listed i=true/\jR ops fuel (listed.setIfInBounds i true) r
 | fuel+1,listed,.load i D r=>i∈Region.ready .any ops listed/\gH ops listed i=true/\QC ops.toList listed i D=true/\jR ops fuel (listed.setIfInBounds i true) r
 | fuel+1,listed,.ai i r ms=>(match Region.ready .any ops listed with
  | i0::more=>i0=i/\nA ops i=true/\(∀ j∈more,nA ops j=true)/\jR ops fuel (listed.setIfInBounds i true) r/\l7 (fun j r=>jR ops fuel (listed.setIfInBounds j true) r) more ms
  | []=>False)
def Sub (G:Gx) (s s':aD):Prop:=∀ I β a w,Rel G I β s a w->∃ I' ay,Rel G I' ay s' a w/\aG I β s w I' ay s' w
mutual
def bX (G:Gx) (ops:List Oper):af->aD->List mJ->(aD->Prop)->Prop
 | .done,s,_,K=>K s
 | .pure i r,s,pins,K=>aU ops[i]? fun o=>gB ops s o (fun s=>nu G.cx s o.op fun v=>s.put o.dst v fun s=>bX G ops r s pins K) (fun s=>s.put o.dst (.tup []) fun s=>bX G ops r s pins K)
 | .load i D r,s,pins,K=>aU ops[i]? fun o=>gB ops s o (fun s=>match o.op with
   | .load t ad=>s.ev ad fun x=>nv G s.st t x fun v=>s.put o.dst v fun s=>bX G ops r s (gI D x pins) K
   | _=>False) (fun s=>s.put o.dst (.tup []) fun s=>bX G ops r s pins K)
 | .ai i r ms,s,pins,K=>aU ops[i]? fun o=>match ms with
  | .nil=>gm G ops s i o pins fun s1=>bX G ops r s1 (ct i pins) K
  | .cons j r' Zt=>gm G ops s i o pins fun s1=>bX G ops r s1 (ct i pins) fun sf=>K sf/\(aU ops[j]? fun o=>gm G ops s j o pins fun s2=>bX G ops r' s2 (ct j pins) fun uW=>uW=sf)/\fo G ops Zt s pins sf
  | .sub j r' Zt=>gm G ops s i o pins fun s1=>bX G ops r s1 (ct i pins) fun sf=>∃ E1,Sub G sf E1/\K E1/\(aU ops[j]? fun o=>gm G ops s j o pins fun s2=>bX G ops r' s2 (ct j pins) fun uW=>Sub G uW E1)/\gL G ops Zt s pins E1
  | .alt j r' Zt=>(gm G ops s i o pins fun s1=>bX G ops r s1 (ct i pins) K)/\(aU ops[j]? fun o=>gm G ops s j o pins fun s2=>bX G ops r' s2 (ct j pins) K)/\jS G ops Zt s pins K
def fo (G:Gx) (ops:List Oper):gY->aD->List mJ->aD->Prop
 | .nil,_,_,_=>True
 | .cons j r ms,s,pins,sf=>(aU ops[j]? fun o=>gm G ops s j o pins fun s2=>bX G ops r s2 (ct j pins) fun uW=>uW=sf)/\fo G ops ms s pins sf
 | .alt _ _ _,_,_,_=>False
 | .sub _ _ _,_,_,_=>False
def gL (G:Gx) (ops:List Oper):gY->aD->List mJ->aD->Prop
 | .nil,_,_,_=>True
 | .sub j r ms,s,pins,sf=>(aU ops[j]? fun o=>gm G ops s j o pins fun s2=>bX G ops r s2 (ct j pins) fun uW=>Sub G uW sf)/\gL G ops ms s pins sf
 | .cons _ _ _,_,_,_=>False
 | .alt _ _ _,_,_,_=>False
def jS (G:Gx) (ops:List Oper):gY->aD->List mJ->(aD->Prop)->Prop
 | .nil,_,_,_=>True
 | .alt j r ms,s,pins,K=>(aU ops[j]? fun o=>gm G ops s j o pins fun s2=>bX G ops r s2 (ct j pins) K)/\jS G ops ms s pins K
 | .cons _ _ _,_,_,_=>False
 | .sub _ _ _,_,_,_=>False
end
section
variable {w w':World} {I I':Nat->Prop} {β ay:an} {G:Gx} {s:aD} {a:Act} {st dY:List aj} {ops:Array Oper}
theorem sW {chk:Nat->af->Prop}:∀ {l:List Nat} {ms:gY},l7 chk l ms->∀ {pins:List mJ} {sf:aD},fo G ops.toList ms s pins sf->∀ j∈l,∃ r,chk j r/\aU ops.toList[j]? fun o=>gm G ops.toList s j o pins fun s2=>bX G ops.toList r s2 (ct j pins) fun uW=>uW=sf
 | [],_,_,_,_,_,_,hj=>by cases hj
 | i::l,.nil,h,_,_,_,_,_=>False.elim h
 | i::l,.alt k r ms,h,pins,sf,hr,j,hj=>by unfold fo at hr; exact hr.elim
 | i::l,.sub k r ms,h,pins,sf,hr,j,hj=>by unfold fo at hr; exact hr.elim
 | i::l,.cons k r ms,h,pins,sf,hr,j,hj=>by
  obtain⟨rfl,h2,h3⟩:=h
  unfold fo at hr
  rcases List.mem_cons.1 hj with rfl|hj
  ·exact⟨r,h2,hr.1⟩
  ·exact sW h3 hr.2 j hj
theorem q9 {chk:Nat->af->Prop}:∀ {l:List Nat} {ms:gY},l7 chk l ms->∀ {pins:List mJ} {K:aD->Prop},jS G ops.toList ms s pins K->∀ j∈l,∃ r,chk j r/\aU ops.toList[j]? fun o=>gm G ops.toList s j o pins fun s2=>bX G ops.toList r s2 (ct j pins) K
 | [],_,_,_,_,_,_,hj=>by cases hj
 | i::l,.nil,h,_,_,_,_,_=>False.elim h
 | i::l,.cons k r ms,h,pins,K,hr,j,hj=>by unfold jS at hr; exact hr.elim
 | i::l,.sub k r ms,h,pins,K,hr,j,hj=>by unfold jS at hr; exact hr.elim
 | i::l,.alt k r ms,h,pins,K,hr,j,hj=>by
  obtain⟨rfl,h2,h3⟩:=h
  unfold jS at hr
  rcases List.mem_cons.1 hj with rfl|hj
  ·exact⟨r,h2,hr.1⟩
  ·exact q9 h3 hr.2 j hj
theorem q_ {chk:Nat->af->Prop}:∀ {l:List Nat} {ms:gY},l7 chk l ms->∀ {pins:List mJ} {sf:aD},gL G ops.toList ms s pins sf->∀ j∈l,∃ r,chk j r/\aU ops.toList[j]? fun o=>gm G ops.toList s j o pins fun s2=>bX G ops.toList r s2 (ct j pins) fun uW=>Sub G uW sf
 | [],_,_,_,_,_,_,hj=>by cases hj
 | i::l,.nil,h,_,_,_,_,_=>False.elim h
 | i::l,.cons k r ms,h,pins,sf,hr,j,hj=>by unfold gL at hr; exact hr.elim
 | i::l,.alt k r ms,h,pins,sf,hr,j,hj=>by unfold gL at hr; exact hr.elim
 | i::l,.sub k r ms,h,pins,sf,hr,j,hj=>by
  obtain⟨rfl,h2,h3⟩:=h
  unfold gL at hr
  rcases List.mem_cons.1 hj with rfl|hj
  ·exact⟨r,h2,hr.1⟩
  ·exact q_ h3 hr.2 j hj
theorem km {i:Nat} {o:Oper} (ho:ops[i]?=some o) (h:nA ops i=true):ai o.op=true:=by unfold nA at h; rw[ho] at h; exact h
theorem BL (hG:fD G) (kY:Region.noSelect ops=true):∀ (fuel:Nat) (p:af) (Q:Exit->Act->World->Prop) (l:Array Bool) (s:aD) (a:Act) (I:Nat->Prop) (β:an) (w:World) (pins:List mJ) (ys:List jL) (K:aD->Prop),
  jR ops fuel l p->bX G ops.toList p s pins K->Rel G I β s a w->iQ pins ys I β s.st w->(∀ s' I' ay a' w',K s'->Rel G I' ay s' a' w'->aG I β s w I' ay s' w'->Q .normal a' w')->cB G.cx.P ops Q fuel l a (fun w2=>w2=w) ys:=by
 intro fuel
 have fin:∀ (fuel:Nat) (Q:Exit->Act->World->Prop) (l:Array Bool) (s:aD) (a:Act) (I:Nat->Prop) (β:an) (w:World) (ys:List jL) (K:aD->Prop),Region.ready .any ops l = []->K s->Rel G I β s a w->(∀ s' I' ay a' w',K s'->Rel G I' ay s' a' w'->aG I β s w I' ay s' w'->Q .normal a' w')->cB G.cx.P ops Q fuel l a (fun w2=>w2=w) ys:=by
  intro fuel Q l s a I β w ys K hr h hR hQ
  have sJ:Region.ready .any ops l = []:=hr
  cases fuel with
  | zero=>exact⟨sJ,fun w2 hw=>by subst hw; exact hQ s I β a w2 h hR (aG.same ⟨rfl,rfl,rfl,rfl⟩)⟩
  | succ fuel=>exact⟨fun _ w2 hw=>by subst hw; exact hQ s I β a w2 h hR (aG.same ⟨rfl,rfl,rfl,rfl⟩),fun i hi=>by rw[sJ] at hi; cases hi⟩
 induction fuel with
 | zero =>
  intro p Q l s a I β w pins ys K hp h hR _ hQ
  cases p with
  | done=>exact fin 0 Q l s a I β w ys K (by simpa only [jR] using hp) (by simpa only [bX] using h) hR hQ
  | pure=>exact hp.elim
  | load=>exact hp.elim
  | ai=>exact hp.elim
 | succ fuel ih =>
  intro p Q l s a I β w pins ys K hp h hR rb hQ
  cases p with
  | done=>exact fin (fuel+1) Q l s a I β w ys K (by simpa only [jR] using hp) (by simpa only [bX] using h) hR hQ
  | pure i r =>
   simp only[jR] at hp
   ·obtain⟨cU,cz,hp⟩:=hp
    unfold bX at h
    replace h:=ao h
    obtain⟨o,ho,h⟩:=h
    rw[Array.getElem?_toList] at ho
    unfold gG at cz
    rw[ho] at cz
    simp only[Bool.and_eq_true] at cz
    have he:ai o.op=false:=by unfold ai; rw[cz.1]; rfl
    rcases c9 hR h with ⟨cP,s1,h1,d_,cI⟩|⟨cP,s1,h1,d_,cI⟩
    ·obtain⟨x,v,h1,hx,bp⟩:=oG hG.ok cI h1
     obtain⟨s3,h3,eA,gW⟩:=aD.aT (G:=G) h1
     refine cB.first (v:=v) (D:=[]) (Y:=fun _=>True) ho he kY fuel l a _ ys (Region.free_spec ho cz.2) (fun j hj=>by cases hj) (.inl ⟨cP,fun w2 _=>bp w2⟩) (fun _ _=>trivial) cU (cB.gK _ _ _ _ _ ?_)
     exact ih r Q _ s3 _ I β w pins ys K hp h3 (gW _ _ _ _ _ cI hx) (by rw[eA.st,d_.st]; exact rb) (fun s' I' ay a' w' hk br hg=>hQ s' I' ay a' w' hk br (((aG.same d_).trans (aG.same eA)).trans hg))
    ·obtain⟨s3,h3,eA,gW⟩:=aD.aT (G:=G) h1
     refine cB.first (v:=undef) (D:=[]) (Y:=fun _=>True) ho he kY fuel l a _ ys (Region.free_spec ho cz.2) (fun j hj=>by cases hj) (.inr ⟨cP,rfl⟩) (fun _ _=>trivial) cU (cB.gK _ _ _ _ _ ?_)
     exact ih r Q _ s3 _ I β w pins ys K hp h3 (gW _ _ _ _ _ cI Is.undef) (by rw[eA.st,d_.st]; exact rb) (fun s' I' ay a' w' hk br hg=>hQ s' I' ay a' w' hk br (((aG.same d_).trans (aG.same eA)).trans hg))
  | load i D r =>
   simp only[jR] at hp
   ·obtain⟨cU,cz,hD,hp⟩:=hp
    unfold bX at h
    replace h:=ao h
    obtain⟨o,ho,h⟩:=h
    rw[Array.getElem?_toList] at ho
    unfold gH at cz
    rw[ho] at cz
    simp only[Bool.and_eq_true] at cz
    have he:ai o.op=false:=by unfold ai; rw[cz.1,Bool.or_true]; rfl
    rcases c9 hR h with ⟨cP,s1,h1,d_,cI⟩|⟨cP,s1,h1,d_,cI⟩
    ·split at h1
     ·rename_i t ad h_
      replace h1:=aD.cd cI h1
      obtain⟨x,h1,hx⟩:=h1
      obtain⟨z,v,g,h1,hz,hg,bp⟩:=jm hG.ok cI.heap cI.au h1 hx
      obtain⟨s3,h3,eA,gW⟩:=aD.aT (G:=G) h1
      have sX:∀ w2:World,w2.heap[g]?=w.heap[g]?->(execOp a.eval o).run G.cx.P w2 = .ok (.value v) w2:=fun w2 j4=>by
       unfold execOp
       rw[h_]
       simp only[Sem.run_bind,bp w2 j4,Result.andThen_ok,Sem.run_pure]
      have uU:g < w.heap.size:=by
       rcases hg with hg|⟨l',b,p,o',_,hb,az,j3,BH⟩
       ·exact hR.au.au g hg
       ·exact cI.heap.cH ⟨l',b,p,o',hb,az,j3,BH⟩
      refine cB.first (v:=v) (D:=D) (Y:=fun w2=>w2.heap[g]?=w.heap[g]?) ho he kY fuel l a _ ys (Region.free_spec ho cz.2) (BJ hD) (.inl ⟨cP,sX⟩) (fun w2 j4=>by rw[j4]) cU ?_
      refine ih r Q _ s3 _ I β w (gI D x pins) _ K hp h3 (gW _ _ _ _ _ cI hz) ?_ (fun s' I' ay a' w' hk br hg=>hQ s' I' ay a' w' hk br (((aG.same d_).trans (aG.same eA)).trans hg))
      rw[eA.st,d_.st]
      intro y hy
      rcases List.mem_cons.1 hy with rfl|hy
      ·refine .inr ⟨g,fun _=>Iff.rfl,uU,?_⟩
       rcases hg with hg|⟨l',b,p,o',iE,hb,az,j3,BH⟩
       ·exact .inl hg
       ·refine .inr ⟨⟨D,l'⟩,by unfold gI; rw[iE]; exact List.mem_cons_self,rfl,b,p,o',by rw[← d_.st]; exact hb,az,j3,BH⟩
      ·rcases rb y hy with h|⟨g',k1,k2,k3⟩
       ·exact .inl h
       ·refine .inr ⟨g',k1,k2,k3.imp id fun ⟨p,rK,k4⟩=>⟨p,?_,k4⟩⟩
        unfold gI
        split
        ·exact List.mem_cons_of_mem _ rK
        ·exact rK
     ·exact h1.elim
    ·obtain⟨s3,h3,eA,gW⟩:=aD.aT (G:=G) h1
     refine cB.first (v:=undef) (D:=[]) (Y:=fun _=>True) ho he kY fuel l a _ ys (Region.free_spec ho cz.2) (fun j hj=>by cases hj) (.inr ⟨cP,rfl⟩) (fun _ _=>trivial) cU (cB.gK _ _ _ _ _ ?_)
     exact ih r Q _ s3 _ I β w pins ys K hp h3 (gW _ _ _ _ _ cI Is.undef) (by rw[eA.st,d_.st]; exact rb) (fun s' I' ay a' w' hk br hg=>hQ s' I' ay a' w' hk br (((aG.same d_).trans (aG.same eA)).trans hg))
  | ai i r ms =>
   simp only[jR] at hp
   split at hp
   ·rename_i i0 more iR
    obtain⟨rfl,RX,Zu,ME,rK⟩:=hp
    unfold bX at h
    replace h:=ao h
    obtain⟨o,ho,h⟩:=h
    rw[Array.getElem?_toList] at ho
    have he:=km ho RX
    have cN:Region.ready .any ops l≠[]:=by rw[iR]; simp
    
    have go:∀ {j:Nat} {oj:Oper} {rj:af} {K':aD->Prop},jR ops fuel (l.setIfInBounds j true) rj->ops[j]?=some oj->ai oj.op=true->(gm G ops.toList s j oj pins fun s1=>bX G ops.toList rj s1 (ct j pins) K')->(∀ sf,K' sf->K sf) ->
      (ai oj.op=false->∃ v,Yields G.cx.P ops (fun w2=>w2=w) oj v a/\cB G.cx.P ops Q fuel (l.setIfInBounds j true) (a.put oj.dst v) (fun w2=>w2=w) (cF j ys)) /\
      (ai oj.op=true->∀ w2,w2=w->Ev.nK G.cx.P ops oj a w2 fun v w'=>∃ S':World->Prop,(∀ p∈cF j ys,∀ w,S' w->p.Y w)/\S' w'/\cB G.cx.P ops Q fuel (l.setIfInBounds j true) (a.put oj.dst v) S' (cF j ys)):=by
     intro j oj rj K' QE iG RY h' hK
     refine⟨(fun e=>by rw[RY] at e; cases e),fun _ w2 j4=>?_⟩
     subst j4
     refine gl ?_ (kl hG h' hR rb)
     rintro v w' ⟨s',I',ay,hk,br,hg,hY,dM⟩
     refine⟨fun w2=>w2=w',fun p hp w2 j4=>by rw[j4]; exact hY p hp,rfl,?_⟩
     exact ih rj Q _ s' _ I' ay w' _ _ K' QE hk br dM fun s2 I2 ee a2 w3 qn eM jq=>hQ s2 I2 ee a2 w3 (hK s2 qn) eM (hg.trans jq)
    have goS:∀ {j:Nat} {oj:Oper} {rj:af} {K':aD->Prop},jR ops fuel (l.setIfInBounds j true) rj->ops[j]?=some oj->ai oj.op=true->(gm G ops.toList s j oj pins fun s1=>bX G ops.toList rj s1 (ct j pins) K')->(∀ sf,K' sf->∃ E1,Sub G sf E1/\K E1) ->
      (ai oj.op=false->∃ v,Yields G.cx.P ops (fun w2=>w2=w) oj v a/\cB G.cx.P ops Q fuel (l.setIfInBounds j true) (a.put oj.dst v) (fun w2=>w2=w) (cF j ys)) /\
      (ai oj.op=true->∀ w2,w2=w->Ev.nK G.cx.P ops oj a w2 fun v w'=>∃ S':World->Prop,(∀ p∈cF j ys,∀ w,S' w->p.Y w)/\S' w'/\cB G.cx.P ops Q fuel (l.setIfInBounds j true) (a.put oj.dst v) S' (cF j ys)):=by
     intro j oj rj K' QE iG RY h' hK
     refine⟨(fun e=>by rw[RY] at e; cases e),fun _ w2 j4=>?_⟩
     subst j4
     refine gl ?_ (kl hG h' hR rb)
     rintro v w' ⟨s',I',ay,hk,br,hg,hY,dM⟩
     refine⟨fun w2=>w2=w',fun p hp w2 j4=>by rw[j4]; exact hY p hp,rfl,?_⟩
     exact ih rj Q _ s' _ I' ay w' _ _ K' QE hk br dM fun s2 I2 ee a2 w3 qn eM jq=>by
      obtain⟨E1,hs,Dl⟩:=hK s2 qn
      obtain⟨I3,sY,nz,xy⟩:=hs I2 ee a2 w3 eM
      exact hQ E1 I3 sY a2 w3 Dl nz ((hg.trans jq).trans xy)
    cases ms with
    | nil =>
     cases more with
     | cons=>exact rK.elim
     | nil =>
      refine⟨fun e=>absurd e cN,fun j hj oj iG=>?_⟩
      rw[iR,List.mem_singleton] at hj
      subst hj
      rw[ho] at iG
      cases iG
      exact go ME ho he h fun _ hk=>hk
    | cons j0 r0 qo =>
     have eC:∀ sf,((aU ops.toList[j0]? fun o=>gm G ops.toList s j0 o pins fun s2=>bX G ops.toList r0 s2 (ct j0 pins) fun uW=>uW=sf)/\fo G ops.toList qo s pins sf)->fo G ops.toList (.cons j0 r0 qo) s pins sf:=fun sf h=>by unfold fo; exact h
     
     obtain⟨sf,hKf,oP⟩:∃ sf,K sf/\fo G ops.toList (.cons j0 r0 qo) s pins sf:=by
      obtain⟨v,w',s',I',ay,hk,br,hg,hY,dM⟩:=jQ (kl hG h hR rb)
      have hA:=ih r (fun _ _ _=>∃ sf,K sf/\fo G ops.toList (.cons j0 r0 qo) s pins sf) _ s' (a.put o.dst v) I' ay w' _ _ _ ME hk br dM fun s2 I2 ee a2 w3 qn _ _=>⟨s2,qn.1,eC _ qn.2⟩
      obtain⟨_,_,h3⟩:=cB.ends _ _ _ _ _ w' hA rfl
      exact h3
     refine⟨fun e=>absurd e cN,fun j hj oj iG=>?_⟩
     rw[iR] at hj
     rcases List.mem_cons.1 hj with rfl|hj
     ·rw[ho] at iG
      cases iG
      exact go ME ho he h fun _ hk=>hk.1
     ·obtain⟨rj,RZ,h2⟩:=sW rK oP j hj
      replace h2:=ao h2
      obtain⟨oj',oO,h2⟩:=h2
      rw[Array.getElem?_toList,iG] at oO
      cases oO
      exact go RZ iG (km iG (Zu j hj)) h2 fun uW e=>by rw[e]; exact hKf
    | sub j0 r0 qo =>
     have eC:∀ sf,((aU ops.toList[j0]? fun o=>gm G ops.toList s j0 o pins fun s2=>bX G ops.toList r0 s2 (ct j0 pins) fun uW=>Sub G uW sf)/\gL G ops.toList qo s pins sf)->gL G ops.toList (.sub j0 r0 qo) s pins sf:=fun sf h=>by unfold gL; exact h
     obtain⟨sf,hKf,oP⟩:∃ sf,K sf/\gL G ops.toList (.sub j0 r0 qo) s pins sf:=by
      obtain⟨v,w',s',I',ay,hk,br,hg,hY,dM⟩:=jQ (kl hG h hR rb)
      have hA:=ih r (fun _ _ _=>∃ sf,K sf/\gL G ops.toList (.sub j0 r0 qo) s pins sf) _ s' (a.put o.dst v) I' ay w' _ _ _ ME hk br dM fun s2 I2 ee a2 w3 qn _ _=>let ⟨E1,_,h2,h3⟩:=qn; ⟨E1,h2,eC _ h3⟩
      obtain⟨_,_,h3⟩:=cB.ends _ _ _ _ _ w' hA rfl
      exact h3
     refine⟨fun e=>absurd e cN,fun j hj oj iG=>?_⟩
     rw[iR] at hj
     rcases List.mem_cons.1 hj with rfl|hj
     ·rw[ho] at iG
      cases iG
      exact goS ME ho he h fun _ hk=>let ⟨E1,h1,h2,_⟩:=hk; ⟨E1,h1,h2⟩
     ·obtain⟨rj,RZ,h2⟩:=q_ rK oP j hj
      replace h2:=ao h2
      obtain⟨oj',oO,h2⟩:=h2
      rw[Array.getElem?_toList,iG] at oO
      cases oO
      exact goS RZ iG (km iG (Zu j hj)) h2 fun uW e=>⟨sf,e,hKf⟩
    | alt j0 r0 qo =>
     obtain⟨h,oP⟩:=h
     have eC:jS G ops.toList (.alt j0 r0 qo) s pins K:=by unfold jS; exact oP
     refine⟨fun e=>absurd e cN,fun j hj oj iG=>?_⟩
     rw[iR] at hj
     rcases List.mem_cons.1 hj with rfl|hj
     ·rw[ho] at iG
      cases iG
      exact go ME ho he h fun _ hk=>hk
     ·obtain⟨rj,RZ,h2⟩:=q9 rK eC j hj
      replace h2:=ao h2
      obtain⟨oj',oO,h2⟩:=h2
      rw[Array.getElem?_toList,iG] at oO
      cases oO
      exact go RZ iG (km iG (Zu j hj)) h2 fun _ hk=>hk
   ·cases hp
end
def tb (m i:Nat):Bool:=Nat.beq (Nat.land (Nat.shiftRight m i) 1) 1
theorem zj (m i:Nat):tb m i=m.testBit i:=by
 unfold tb
 have h:Nat.land (Nat.shiftRight m i) 1=(m >>> i) % 2:=Nat.and_one_is_mod _
 rw[h,Nat.testBit,Nat.and_comm,Nat.and_one_is_mod]
 rcases Nat.mod_two_eq_zero_or_one (m >>> i) with e|e<;>rw[e]<;>rfl
def lI (i:Nat):Nat:=Nat.shiftLeft 1 i
theorem oQ (i k:Nat):(lI i).testBit k=decide (i=k):=by
 have h:lI i=2 ^ i:=by show 1 <<< i=_; rw[Nat.one_shiftLeft]
 rw[h,Nat.testBit_two_pow]
theorem sZ (a b k:Nat):(Nat.lor a b).testBit k=(a.testBit k || b.testBit k):=Nat.testBit_or a b k
def l8 {α:Type}:Nat->(Nat->α)->α
 | 0,k=>k 0
 | n+1,k=>k (n+1)
theorem iw {α:Type} (n:Nat) (k:Nat->α):l8 n k=k n:=by cases n<;>rfl
structure qp where
 w:Nat
 d:Nat
 l:Nat
 k:Nat
def jr:List Edge->Nat
 | []=>0
 | e::r=>bif Region.binds .any e then Nat.lor (jr r) (lI e.on) else jr r
def zk:List Nat->Nat
 | []=>0
 | d::r=>Nat.lor (zk r) (lI (d+1))
def Ng:Option Nat->Nat
 | some d=>d+1
 | none=>0
def l9 (o:Oper):Nat:=bif Ev.g_ o.op then 0 else bif kX o.op then 1 else 2
def rowOf (ops:Array Oper) (o:Oper):qp:=⟨jr o.after.toList,Ng o.dst,zk (o.looksAt ops),l9 o⟩
def zl (ops:Array Oper):List Oper->(List qp->Bool)->Bool
 | [],k=>k []
 | o::r,k=>l8 (jr o.after.toList) fun w=>l8 (Ng o.dst) fun d=>l8 (zk (o.looksAt ops)) fun l=>l8 (l9 o) fun q=>zl ops r fun rs=>k (⟨w,d,l,q⟩::rs)
theorem s7 (ops:Array Oper):∀ (l:List Oper) (k:List qp->Bool),zl ops l k=k (l.map (rowOf ops))
 | [],_=>rfl
 | o::r,k=>by
  simp only[zl,iw,s7 ops r]
  rfl
def js:List qp->Nat->Nat->List Nat
 | [],_,_=>[]
 | x::r,j,m=>bif !tb m j && Nat.beq (Nat.land x.w m) x.w then j::l8 (j+1) fun j=>js r j m else l8 (j+1) fun j=>js r j m
def BN (x y:qp):Bool:=!tb y.l x.d && (Nat.beq x.d 0 || !Nat.beq x.d y.d) && !tb x.l y.d
def zm (i:Nat) (x:qp) (m:Nat):List qp->Nat->Bool
 | [],_=>true
 | y::r,j=>(Nat.beq j i || tb m j || tb y.w i || BN x y) && l8 (j+1) fun j=>zm i x m r j
def vA (T:List qp) (q i m:Nat):Bool:=match T[i]? with
 | some x=>Nat.beq x.k q && !tb m i && Nat.beq (Nat.land x.w m) x.w && zm i x m T 0
 | none=>false
def s_:List Nat->Nat
 | []=>0
 | j::r=>Nat.lor (s_ r) (lI j)
def okM (T:List qp) (m i:Nat) (D:List Nat):Bool:=l8 (Nat.lor (lI i) (s_ D)) fun z=>D.all fun j=>!tb m j && (match T[j]? with
  | some y=>!Nat.beq (Nat.land y.w z) 0
  | none=>false)
def Nh (T:List qp) (i:Nat):Bool:=match T[i]? with
 | some x=>Nat.beq x.k 2
 | none=>false
def oR (T:List qp):Nat->Nat->af->Bool
 | _,m,.done=>(js T 0 m).isEmpty
 | 0,_,_=>false
 | fuel+1,m,.pure i r=>vA T 0 i m && l8 (Nat.lor m (lI i)) fun m=>oR T fuel m r
 | fuel+1,m,.load i D r=>vA T 1 i m && okM T m i D && l8 (Nat.lor m (lI i)) fun m=>oR T fuel m r
 | fuel+1,m,.ai i r ms=>(match js T 0 m with
  | i0::more=>Nat.beq i0 i && Nh T i && more.all (Nh T) && (l8 (Nat.lor m (lI i)) fun m=>oR T fuel m r) && k7 (fun j r=>l8 (Nat.lor m (lI j)) fun m=>oR T fuel m r) more ms
  | []=>false)
theorem oS (k:Nat):∀ l:List Edge,(jr l).testBit k=l.any fun e=>Region.binds .any e && decide (e.on=k)
 | []=>Nat.zero_testBit k
 | e::r=>by
  rw[List.any_cons,← oS k r,jr]
  cases h:Region.binds .any e with
  | true=>rw[cond_true,sZ,oQ,Bool.true_and,Bool.or_comm]
  | false=>rw[cond_false,Bool.false_and,Bool.false_or]
theorem zo (k:Nat):∀ l:List Nat,(zk l).testBit k=l.any fun d=>decide (d+1=k)
 | []=>Nat.zero_testBit k
 | d::r=>by rw[List.any_cons,← zo k r,zk,sZ,oQ,Bool.or_comm]
theorem zp (k:Nat):∀ l:List Nat,(s_ l).testBit k=l.any fun d=>decide (d=k)
 | []=>Nat.zero_testBit k
 | d::r=>by rw[List.any_cons,← zp k r,s_,sZ,oQ,Bool.or_comm]
theorem R0 (a m:Nat):Nat.beq (Nat.land a m) a=true↔∀ k,a.testBit k=true->m.testBit k=true:=by
 rw[Nat.beq_eq]
 refine⟨fun h k hk=>?_,fun h=>Nat.eq_of_testBit_eq fun k=>?_⟩
 ·have:(Nat.land a m).testBit k=true:=by rw[h]; exact hk
  have e:(Nat.land a m).testBit k=(a.testBit k && m.testBit k):=Nat.testBit_and a m k
  rw[e,hk,Bool.true_and] at this
  exact this
 ·have e:(Nat.land a m).testBit k=(a.testBit k && m.testBit k):=Nat.testBit_and a m k
  rw[e]
  cases ha:a.testBit k with
  | false=>rfl
  | true=>rw[h k ha]; rfl
theorem Ic (l:List Edge) (m:Nat):Nat.beq (Nat.land (jr l) m) (jr l)=l.all fun e=>!Region.binds .any e || m.testBit e.on:=by
 rw[Bool.eq_iff_iff,R0,List.all_eq_true]
 simp only[oS,List.any_eq_true,Bool.and_eq_true,decide_eq_true_eq,Bool.or_eq_true,Bool.not_eq_true']
 refine⟨fun h e he=>?_,fun h k ⟨e,he,hb,hk⟩=>?_⟩
 ·cases hb:Region.binds .any e with
  | false=>exact .inl rfl
  | true=>exact .inr (h e.on ⟨e,he,hb,rfl⟩)
 ·rcases h e he with h|h
  ·rw[h] at hb; cases hb
  ·rw[← hk]; exact h
structure Mk (ops:Array Oper) (l:Array Bool) (m:Nat):Prop where
 size:l.size=ops.size
 is:∀ j,l.getD j false=m.testBit j
theorem Mk.lt {ops:Array Oper} {l:Array Bool} {m:Nat} (h:Mk ops l m) {j:Nat} (hj:j < ops.size) (d:Bool):l.getD j d=m.testBit j:=by
 rw[← h.is]
 rw[Array.getD_eq_getD_getElem?,Array.getD_eq_getD_getElem?,Array.getElem?_eq_getElem (by rw[h.size]; exact hj)]
 rfl
theorem Mk.set {ops:Array Oper} {l:Array Bool} {m:Nat} (h:Mk ops l m) {i:Nat} (hi:i < ops.size):Mk ops (l.setIfInBounds i true) (Nat.lor m (lI i)):=by
 refine⟨by rw[Array.size_setIfInBounds,h.size],fun j=>?_⟩
 rw[sZ,oQ,Array.getD_eq_getD_getElem?,Array.getElem?_setIfInBounds]
 by_cases e:i=j
 ·subst e
  rw[if_pos rfl,if_pos (by rw[h.size]; exact hi)]
  simp
 ·rw[if_neg e,← Array.getD_eq_getD_getElem?,h.is,decide_eq_false e,Bool.or_false]
theorem Mk.none (ops:Array Oper):Mk ops (Array.replicate ops.size false) 0:=by
 refine⟨Array.size_replicate ..,fun j=>?_⟩
 rw[Nat.zero_testBit,Array.getD_eq_getD_getElem?,Array.getElem?_replicate]
 split<;>rfl
section
variable {ops:Array Oper} {l:Array Bool} {m:Nat}
theorem zq (h:Mk ops l m) (o:Oper):(o.after.all fun e=>!Region.binds .any e || l.getD e.on false)=Nat.beq (Nat.land (rowOf ops o).w m) (rowOf ops o).w:=by
 show _=Nat.beq (Nat.land (jr o.after.toList) m) (jr o.after.toList)
 rw[Ic,← Array.all_toList]
 congr 1
 funext e
 rw[h.is]
theorem oT (h:Mk ops l m):Region.ready .any ops l=js (ops.toList.map (rowOf ops)) 0 m:=by
 have key:∀ (L:List Oper) (j:Nat),(∀ k,L[k]?=ops[j+k]?)->j+L.length=ops.size->js (L.map (rowOf ops)) j m=(List.range' j L.length).filter fun i=>!l.getD i true && ((ops[i]?).map (·.after.all fun e=>!Region.binds .any e || l.getD e.on false)).getD false:=by
  intro L
  induction L with
  | nil=>intro j _ _; rfl
  | cons o r ih =>
   intro j hL hs
   have h0:ops[j]?=some o:=by rw[← Nat.add_zero j,← hL 0]; rfl
   have hj:j < ops.size:=by rw[List.length_cons] at hs; omega
   have ih':=ih (j+1) (fun k=>by rw[show j+1+k=j+(k+1) by omega,← hL (k+1)]; rfl) (by rw[List.length_cons] at hs; omega)
   rw[List.map_cons,List.length_cons,List.range'_succ,js,iw,ih',List.filter_cons,h0,Option.map_some,Option.getD_some,zq h,h.lt hj,zj]
   cases (!m.testBit j && Nat.beq (Nat.land (rowOf ops o).w m) (rowOf ops o).w)<;>rfl
 unfold Region.ready
 rw[List.range_eq_range',key ops.toList 0 (fun k=>by rw[Nat.zero_add,Array.getElem?_toList]) (by rw[Nat.zero_add,Array.length_toList]),Array.length_toList]
theorem Ie {x y:Oper} (h:BN (rowOf ops x) (rowOf ops y)=true):x.apart ops y=true:=by
 unfold BN at h
 simp only[rowOf,zj,zo,Bool.and_eq_true,Bool.not_eq_true',List.any_eq_false,decide_eq_true_eq,Bool.or_eq_true,Nat.beq_eq] at h
 obtain⟨⟨h1,h2⟩,h3⟩:=h
 unfold Oper.apart
 rw[Bool.and_eq_true]
 constructor
 ·cases hx:x.dst with
  | none=>rfl
  | some d =>
   rw[hx] at h1 h2
   simp only[Ng] at h1 h2
   simp only[Bool.and_eq_true,Bool.not_eq_true',bne_iff_ne,ne_eq]
   refine⟨?_,fun e=>?_⟩
   ·rw[Bool.eq_false_iff]
    intro hc
    exact h1 d (List.contains_iff_mem.1 hc) rfl
   ·rw[e] at h2
    rcases h2 with h2|h2
    ·cases h2
    ·rw[Bool.eq_false_iff] at h2
     exact h2 (Nat.beq_refl _)
 ·cases hy:y.dst with
  | none=>rfl
  | some d =>
   rw[hy] at h3
   simp only[Ng] at h3
   simp only[Bool.not_eq_true']
   rw[Bool.eq_false_iff]
   intro hc
   exact h3 d (List.contains_iff_mem.1 hc) rfl
theorem Ni (h:Mk ops l m) {i:Nat} {oi:Oper} (hi:ops[i]?=some oi) (hf:zm i (rowOf ops oi) m (ops.toList.map (rowOf ops)) 0=true):Region.free .any ops l i=true:=by
 have key:∀ (L:List Oper) (j:Nat),zm i (rowOf ops oi) m (L.map (rowOf ops)) j=true->∀ (k:Nat) (o:Oper),L[k]?=some o->(j+k=i\/m.testBit (j+k)=true\/(jr o.after.toList).testBit i=true\/oi.apart ops o=true):=by
  intro L
  induction L with
  | nil=>intro j _ k o hk; cases hk
  | cons y r ih =>
   intro j hj k o hk
   rw[List.map_cons,zm,iw,Bool.and_eq_true] at hj
   cases k with
   | zero =>
    cases hk
    have h1:=hj.1
    simp only[Bool.or_eq_true,Nat.beq_eq,zj] at h1
    rcases h1 with ((h1|h1)|h1)|h1
    ·exact .inl h1
    ·exact .inr (.inl h1)
    ·exact .inr (.inr (.inl h1))
    ·exact .inr (.inr (.inr (Ie h1)))
   | succ k =>
    have:=ih (j+1) hj.2 k o hk
    rw[show j+1+k=j+(k+1) by omega] at this
    exact this
 unfold Region.free
 rw[hi]
 simp only[List.all_eq_true,List.mem_range]
 intro j hj
 have iG:ops[j]?=some ops[j]:=Array.getElem?_eq_getElem hj
 have:=key ops.toList 0 hf j ops[j] (by rw[Array.getElem?_toList]; exact iG)
 rw[Nat.zero_add] at this
 rw[iG,h.lt hj]
 simp only[Bool.or_eq_true,beq_iff_eq]
 rcases this with e|e|e|e
 ·exact .inl (.inl e)
 ·exact .inl (.inr e)
 ·rw[oS,List.any_eq_true] at e
  obtain⟨x,hx,hb⟩:=e
  refine .inr (.inl ?_)
  rw[← Array.any_toList,List.any_eq_true]
  refine⟨x,hx,?_⟩
  simp only[Bool.and_eq_true,decide_eq_true_eq] at hb
  rw[hb.1,hb.2]
  simp
 ·exact .inr (.inr e)
theorem xz (i:Nat):(ops.toList.map (rowOf ops))[i]?=(ops[i]?).map (rowOf ops):=by
 rw[List.getElem?_map,Array.getElem?_toList]
theorem r_ (h:Mk ops l m) {q i:Nat} (ht:vA (ops.toList.map (rowOf ops)) q i m=true):∃ o,ops[i]?=some o/\l9 o=q/\i∈Region.ready .any ops l/\Region.free .any ops l i=true:=by
 unfold vA at ht
 rw[xz] at ht
 cases ho:ops[i]? with
 | none=>rw[ho] at ht; cases ht
 | some o =>
  rw[ho] at ht
  simp only[Option.map_some,Bool.and_eq_true,Bool.not_eq_true',Nat.beq_eq,zj] at ht
  obtain⟨⟨⟨h1,h2⟩,h3⟩,h4⟩:=ht
  have hi:i < ops.size:=(Array.getElem?_eq_some_iff.1 ho).1
  refine⟨o,rfl,h1,?_,Ni h ho h4⟩
  unfold Region.ready
  rw[List.mem_filter,List.mem_range]
  refine⟨hi,?_⟩
  rw[ho,Option.map_some,Option.getD_some,zq h,h.lt hi,h2]
  simp only[Bool.not_false,Bool.true_and,Nat.beq_eq]
  exact h3
theorem vB {o:Oper} (h:l9 o=0):Ev.g_ o.op=true:=by
 unfold l9 at h
 cases hp:Ev.g_ o.op with
 | true=>rfl
 | false=>rw[hp,cond_false] at h; cases hl:kX o.op<;>rw[hl] at h<;>cases h
theorem vC {o:Oper} (h:l9 o=1):kX o.op=true:=by
 unfold l9 at h
 cases hp:Ev.g_ o.op with
 | true=>rw[hp,cond_true] at h; cases h
 | false=>rw[hp,cond_false] at h; cases hl:kX o.op<;>rw[hl] at h<;>first|rfl|cases h
theorem Ig {o:Oper} (h:l9 o=2):ai o.op=true:=by
 unfold l9 at h
 unfold ai
 cases hp:Ev.g_ o.op with
 | true=>rw[hp,cond_true] at h; cases h
 | false=>rw[hp,cond_false] at h; cases hl:kX o.op<;>rw[hl] at h<;>first|rfl|cases h
theorem Ih {i:Nat} (h:Nh (ops.toList.map (rowOf ops)) i=true):nA ops i=true:=by
 unfold Nh at h
 unfold nA
 rw[xz] at h
 cases ho:ops[i]? with
 | none=>rw[ho] at h; cases h
 | some o=>rw[ho] at h; exact Ig (Nat.eq_of_beq_eq_true h)
theorem Ii (h:Mk ops l m) {i:Nat} {D:List Nat} (hk:okM (ops.toList.map (rowOf ops)) m i D=true):QC ops.toList l i D=true:=by
 unfold okM at hk
 rw[iw,List.all_eq_true] at hk
 unfold QC
 rw[List.all_eq_true]
 intro j hj
 have:=hk j hj
 rw[xz] at this
 cases ho:ops[j]? with
 | none=>rw[ho] at this; simp at this
 | some o =>
  rw[ho] at this
  simp only[Option.map_some,Bool.and_eq_true,Bool.not_eq_true',zj] at this
  have hz:Nat.land (jr o.after.toList) (Nat.lor (lI i) (s_ D))≠0:=fun e=>by
   have h2:=this.2
   rw[show (rowOf ops o).w=jr o.after.toList from rfl,e] at h2
   cases h2
  obtain⟨k,Ha⟩:=Nat.exists_testBit_of_ne_zero hz
  have e:(Nat.land (jr o.after.toList) (Nat.lor (lI i) (s_ D))).testBit k=((jr o.after.toList).testBit k && (Nat.lor (lI i) (s_ D)).testBit k):=Nat.testBit_and ..
  rw[e,Bool.and_eq_true,oS,sZ,oQ,zp] at Ha
  obtain⟨h1,h2⟩:=Ha
  rw[List.any_eq_true] at h1
  obtain⟨ed,he,hb⟩:=h1
  simp only[Bool.and_eq_true,decide_eq_true_eq] at hb
  rw[Bool.and_eq_true]
  refine⟨by rw[h.is,this.1]; rfl,?_⟩
  rw[Array.getElem?_toList,ho]
  show o.after.toList.any _=true
  rw[List.any_eq_true]
  refine⟨ed,he,?_⟩
  rw[hb.1,Bool.true_and,hb.2,Bool.or_eq_true]
  rw[Bool.or_eq_true,decide_eq_true_eq,List.any_eq_true] at h2
  rcases h2 with h2|⟨d,hd,h2⟩
  ·exact .inl (by rw[h2]; exact Nat.beq_refl _)
  ·refine .inr ?_
   unfold fk
   rw[List.any_eq_true]
   exact⟨d,hd,by rw[of_decide_eq_true h2]; exact Nat.beq_refl _⟩
theorem mL {f:Nat->af->Bool} {g:Nat->af->Prop}:∀ {L:List Nat} {ms:gY},(∀ j∈L,∀ r,f j r=true->g j r)->k7 f L ms=true->l7 g L ms
 | [],.nil,_,_=>trivial
 | j::L,.cons k r ms,h,hp=>by
  simp only[k7,Bool.and_eq_true,Nat.beq_eq] at hp
  exact⟨hp.1.1,h j (List.mem_cons_self ..) r hp.1.2,mL (fun j hj=>h j (List.mem_cons_of_mem _ hj)) hp.2⟩
 | j::L,.alt k r ms,h,hp=>by
  simp only[k7,Bool.and_eq_true,Nat.beq_eq] at hp
  exact⟨hp.1.1,h j (List.mem_cons_self ..) r hp.1.2,mL (fun j hj=>h j (List.mem_cons_of_mem _ hj)) hp.2⟩
 | j::L,.sub k r ms,h,hp=>by
  simp only[k7,Bool.and_eq_true,Nat.beq_eq] at hp
  exact⟨hp.1.1,h j (List.mem_cons_self ..) r hp.1.2,mL (fun j hj=>h j (List.mem_cons_of_mem _ hj)) hp.2⟩
 | [],.cons ..,_,hp=>by cases hp
 | [],.alt ..,_,hp=>by cases hp
 | [],.sub ..,_,hp=>by cases hp
 | _::_,.nil,_,hp=>by cases hp
end
theorem kn {ops:Array Oper} {l:Array Bool} {i:Nat} (h:i∈Region.ready .any ops l):i < ops.size:=by
 unfold Region.ready at h
 exact List.mem_range.1 (List.mem_filter.1 h).1
theorem l_ {ops:Array Oper}:∀ (fuel:Nat) (p:af) (l:Array Bool) (m:Nat),Mk ops l m->oR (ops.toList.map (rowOf ops)) fuel m p=true->jR ops fuel l p
 | fuel,.done,l,m,h,hp=>by
  have e:js (ops.toList.map (rowOf ops)) 0 m = []:=by cases fuel<;>exact List.isEmpty_iff.1 hp
  cases fuel<;>exact (oT h).trans e
 | 0,.pure ..,_,_,_,hp=>by cases hp
 | 0,.load ..,_,_,_,hp=>by cases hp
 | 0,.ai ..,_,_,_,hp=>by cases hp
 | fuel+1,.pure i r,l,m,h,hp=>by
  simp only[oR,iw,Bool.and_eq_true] at hp
  obtain⟨o,ho,hk,hr,hf⟩:=r_ h hp.1
  refine⟨hr,?_,l_ fuel r _ _ (h.set (kn hr)) hp.2⟩
  unfold gG
  rw[ho]
  simp only[Bool.and_eq_true]
  exact⟨vB hk,hf⟩
 | fuel+1,.load i D r,l,m,h,hp=>by
  simp only[oR,iw,Bool.and_eq_true] at hp
  obtain⟨o,ho,hk,hr,hf⟩:=r_ h hp.1.1
  refine⟨hr,?_,Ii h hp.1.2,l_ fuel r _ _ (h.set (kn hr)) hp.2⟩
  unfold gH
  rw[ho]
  simp only[Bool.and_eq_true]
  exact⟨vC hk,hf⟩
 | fuel+1,.ai i r ms,l,m,h,hp=>by
  have he:=oT h
  simp only[oR,iw] at hp
  unfold jR
  split at hp
  ·rename_i i0 more iR
   rw[he,iR]
   simp only[Bool.and_eq_true,Nat.beq_eq] at hp
   obtain⟨⟨⟨⟨rfl,h1⟩,h2⟩,h3⟩,h4⟩:=hp
   have bZ:∀ j∈i0::more,j < ops.size:=fun j hj=>kn (l:=l) (by rw[he,iR]; exact hj)
   refine⟨rfl,Ih h1,fun j hj=>Ih (List.all_eq_true.1 h2 j hj),l_ fuel r _ _ (h.set (bZ _ (List.mem_cons_self ..))) h3,mL (fun j hj r hr=>l_ fuel r _ _ (h.set (bZ j (List.mem_cons_of_mem _ hj))) hr) h4⟩
  ·cases hp
def oU (k:aD->Prop) (Q:X->aD->Prop) (x:X) (s:aD):Prop:=match x with
 | .cA=>k s
 | x=>Q x s
def ju (id:Nat) (Q:X->aD->Prop) (x:X) (s:aD):Prop:=match x with
 | .exit j=>bif Nat.beq j id then Q .cA s else Q (.exit j) s
 | x=>Q x s
def zr (s:aD) (c:Operand) (t e:aD->Prop):Prop:=s.ev c fun x=>match x with
 | .tt=>t s
 | .ff=>e s
 | .bool p=>(match c with
  | .tmp i=>(p->s.put (some i) .tt t)/\(¬ p->s.put (some i) .ff e)
  | _=>(p->t s)/\(¬ p->e s))
 | _=>False
def bR (R:List (Nat × af)):Code->Bool
 | .region id ops true=>(match Ev.lO id R with
  | some p=>Region.noSelect ops && zl ops ops.toList fun T=>oR T ops.size 0 p
  | none=>true)
 | .seq a b=>bR R a && bR R b
 | .cond _ a b=>bR R a && bR R b
 | .block _ c=>bR R c
 | .scope c=>bR R c
 | .loop c=>bR R c
 | _=>true
def Dm:Code->Option Nat
 | .region id _ _=>some id
 | .seq a _=>Dm a
 | _=>none
def ix (R:List (Nat × af)) (c:Code):Bool:=match Dm c with
 | some id=>(Ev.lO (id+100000) R).isSome
 | none=>false
def pw (G:Gx) (R:List (Nat × af)):Nat->Code->(X->aD->Prop)->aD->Prop
 | 0,_,_,_=>False
 | n+1,c,Q,s=>match c with
  | .skip|.label _=>Q .cA s
  | .ret=>Q .ret s
  | .exit id=>Q (.exit id) s
  | .seq a b=>bif ix R b then (∃ s0,pw G R n a (oU (fun s'=>Sub G s' s0) Q) s/\pw G R n b Q s0) else pw G R n a (oU (pw G R n b Q) Q) s
  | .cond c a b=>zr s c (pw G R n a Q) (pw G R n b Q)
  | .block id c=>pw G R n c (ju id Q) s
  | .scope c=>pw G R n c Q s
  | .loop c=>SW G (.loop c) Q s
  | .rangeFunc f ps a b=>SW G (.rangeFunc f ps a b) Q s
  | .region id ops draw=>(match draw with
   | true=>aU (Ev.lO id R) fun p=>bX G ops.toList p s [] (Q .cA)
   | false=>xb G ops.toList Q ops.toList s)
  | _=>False
section
variable {w w':World} {I I':Nat->Prop} {β ay:an} {G:Gx} {s:aD} {a:Act} {st dY:List aj}
theorem bA.of {Q:X->aD->Prop} {x:X} {s':aD} {w0:World} (hq:Q x s') {a':Act} (hR:Rel G I' ay s' a' w') (hg:aG I β s w0 I' ay s' w'):bA G s I β w0 Q (X.e x) a' w' :=
 ⟨x,s',I',ay,rfl,hq,hR,hg.ext,hg.base,hg.rl,hg.n,hg.low⟩
theorem bA.goes {Q:X->aD->Prop} {e:Exit} {a':Act} (h:bA G s I β w Q e a' w'):∃ x s' I' ay,e=X.e x/\Q x s'/\Rel G I' ay s' a' w'/\aG I β s w I' ay s' w' :=
 let ⟨x,s',I',ay,he,hq,hR,h1,h2,h3,h4,h5⟩:=h; ⟨x,s',I',ay,he,hq,hR,h1,h2,h3,h4,h5⟩
theorem SW.intro {c:Code} {Q:X->aD->Prop} (h:∀ I β a w,Rel G I β s a w->c.wp G.cx.P (bA G s I β w Q) a w):SW G c Q s:=by unfold SW; exact h
theorem SW.run {c:Code} {Q:X->aD->Prop} (h:SW G c Q s) (hR:Rel G I β s a w):c.wp G.cx.P (bA G s I β w Q) a w:=by unfold SW at h; exact h I β a w hR
theorem SW.from {c:Code} {Q:X->aD->Prop} {s0:aD} {I0:Nat->Prop} {eU:an} {w0:World} (h:SW G c Q s) (hR:Rel G I β s a w) (hg:aG I0 eU s0 w0 I β s w):c.wp G.cx.P (bA G s0 I0 eU w0 Q) a w :=
 wp_mono (h.run hR) fun e a' w' hp=>by
  obtain⟨x,s',I',ay,rfl,hq,br,re⟩:=hp.goes
  exact bA.of hq br (hg.trans re)
theorem Ext.iS (hh:w'.heap=w.heap) (h1:w'.os=w.os) (h2:w'.tape=w.tape) (h3:w'.output=w.output):Ext I β st w I β st w' :=
 ⟨h1,h2,h3,by rw[hh]; exact Nat.le_refl _,fun g _ _=>by rw[hh],fun _ _ h=>h,fun _ h=>h,fun _ _ h=>.inl h⟩
theorem aC.iS (h:aC I β st w) (hh:w'.heap=w.heap):aC I β st w' :=
 ⟨h.p8,fun l b hl az=>(h.dX l b hl az).mono (fun _ h=>h) (fun _ _=>by rw[hh]) (fun _ _ h=>h) fun p g o hp ha=>⟨by rw[hh],fun hr=>by
  obtain⟨_,_,fr,_,ho⟩:=(h.dX l b hl az).place hp ha
  exact⟨(ho.1 hr).2.1,(ho.1 hr).2.2⟩⟩⟩
theorem ta (s:aD):s.store s.st=s:=by cases s; rfl
theorem Rel.iS (hR:Rel G I β s a w) (hh:w'.heap=w.heap) (h1:w'.os=w.os) (h2:w'.tape=w.tape) (h3:w'.output=w.output):Rel G I β s a w':=by
 have:=hR.grow (hR.heap.iS hh) (Ext.iS hh h1 h2 h3) (fun _ _ h=>h) (Nat.le_refl _) (fun g hg=>by rw[hh]; exact hR.au.au g hg)
 rwa [ta] at this
theorem oV {c:Operand} {t e:aD->Prop} (hR:Rel G I β s a w) (h:zr s c t e):∃ b s',a.eval c = .bool b/\(if b then t s' else e s')/\jb s s'/\Rel G I β s' a w:=by
 have same:jb s s:=⟨rfl,rfl,rfl,rfl⟩
 unfold zr at h
 cases c with
 | tmp i =>
  replace h:=ao h
  obtain⟨x,hx,h⟩:=h
  obtain⟨v,hv,hi⟩:=hR.get i x hx
  have he:a.eval (.tmp i)=v:=by simp only[Act.eval,Array.getD_eq_getD_getElem?,hv,Option.getD_some]
  rw[he]
  split at h<;>try simp only[PV.Is] at hi
  ·exact⟨true,s,hi,h,same,hR⟩
  ·exact⟨false,s,hi,h,same,hR⟩
  ·rename_i p
   by_cases hp:p
   ·obtain⟨s',hk,hs,hr⟩:=aD.gk hR hv (x:=.tt) (by rw[hi,cv hp]; exact Is.tt) (h.1 hp)
    exact⟨true,s',by rw[hi,cv hp],hk,hs,hr⟩
   ·obtain⟨s',hk,hs,hr⟩:=aD.gk hR hv (x:=.ff) (by rw[hi,bT hp]; exact Is.ff) (h.2 hp)
    exact⟨false,s',by rw[hi,bT hp],hk,hs,hr⟩
  ·exact h.elim
 | _ =>
  replace h:=aD.cd hR h
  obtain⟨x,h,hx⟩:=h
  split at h<;>try simp only[PV.Is] at hx
  ·exact⟨true,s,hx,h,same,hR⟩
  ·exact⟨false,s,hx,h,same,hR⟩
  ·rename_i p
   by_cases hp:p
   ·exact⟨true,s,by rw[hx,cv hp],h.1 hp,same,hR⟩
   ·exact⟨false,s,by rw[hx,bT hp],h.2 hp,same,hR⟩
  ·exact h.elim
theorem er (hG:fD G) {R:List (Nat × af)}:∀ (n:Nat) (c:Code) (Q:X->aD->Prop) (s:aD),bR R c=true->pw G R n c Q s->SW G c Q s
 | 0,_,_,_,_,h=>h.elim
 | n+1,c,Q,s,hc,h=>by
  cases c with
  | skip=>exact SW.intro fun I β a w hR=>wp_skip (bA.of (x:=.cA) h hR (aG.same ⟨rfl,rfl,rfl,rfl⟩))
  | label l=>exact SW.intro fun I β a w hR=>wp_label (bA.of (x:=.cA) h hR (aG.same ⟨rfl,rfl,rfl,rfl⟩))
  | ret=>exact SW.intro fun I β a w hR=>wp_ret (bA.of (x:=.ret) h hR (aG.same ⟨rfl,rfl,rfl,rfl⟩))
  | exit id=>exact SW.intro fun I β a w hR=>wp_exit (bA.of (x:=.exit id) h hR (aG.same ⟨rfl,rfl,rfl,rfl⟩))
  | seq x y =>
   simp only[bR,Bool.and_eq_true] at hc
   replace h:bif ix R y then (∃ s0,pw G R n x (oU (fun s'=>Sub G s' s0) Q) s/\pw G R n y Q s0) else pw G R n x (oU (pw G R n y Q) Q) s:=h
   cases Ij:ix R y with
   | true =>
    rw[Ij] at h
    obtain⟨s0,h,h2⟩:=h
    have h1:=er hG n x _ s hc.1 h
    refine SW.intro fun I β a w hR=>wp_seq (wp_mono (h1.run hR) fun e a' w' hp=>?_)
    obtain⟨x',s',I',ay,rfl,hq,br,hg⟩:=hp.goes
    cases x' with
    | cA =>
     obtain⟨I2,ee,eM,jq⟩:=hq I' ay a' w' br
     exact (er hG n y Q s0 hc.2 h2).from eM (hg.trans jq)
    | exit id=>exact bA.of (Q:=Q) (x:=.exit id) hq br hg
    | ret=>exact bA.of (Q:=Q) (x:=.ret) hq br hg
   | false =>
   rw[Ij] at h
   have h1:=er hG n x _ s hc.1 h
   refine SW.intro fun I β a w hR=>wp_seq (wp_mono (h1.run hR) fun e a' w' hp=>?_)
   obtain⟨x',s',I',ay,rfl,hq,br,hg⟩:=hp.goes
   cases x' with
   | cA=>exact (er hG n y Q s' hc.2 hq).from br hg
   | exit id=>exact bA.of (Q:=Q) (x:=.exit id) hq br hg
   | ret=>exact bA.of (Q:=Q) (x:=.ret) hq br hg
  | cond c x y =>
   simp only[bR,Bool.and_eq_true] at hc
   refine SW.intro fun I β a w hR=>?_
   obtain⟨b,s',he,hk,hs,br⟩:=oV hR h
   refine wp_cond he ?_
   cases b with
   | true=>exact (er hG n x Q s' hc.1 hk).from br (aG.same hs)
   | false=>exact (er hG n y Q s' hc.2 hk).from br (aG.same hs)
  | block id c =>
   have h1:=er hG n c _ s hc h
   refine SW.intro fun I β a w hR=>wp_block (wp_mono (h1.run hR) fun e a' w' hp=>?_)
   obtain⟨x',s',I',ay,rfl,hq,br,hg⟩:=hp.goes
   cases x' with
   | cA=>exact bA.of (Q:=Q) (x:=.cA) hq br hg
   | exit j =>
    show Exit.inBlock id _ (.exit j) a' w'
    simp only[Exit.inBlock]
    by_cases hj:j=id
    ·subst hj
     rw[if_pos rfl]
     have kL:Q .cA s':=by simpa [ju,Nat.beq_refl] using hq
     exact bA.of (x:=.cA) kL br hg
    ·have cO:Nat.beq j id=false:=by rw[Bool.eq_false_iff]; exact fun e=>hj (Nat.eq_of_beq_eq_true e)
     rw[if_neg hj]
     have kL:Q (.exit j) s':=by simpa [ju,cO] using hq
     exact bA.of (x:=.exit j) kL br hg
   | ret=>exact bA.of (Q:=Q) (x:=.ret) hq br hg
  | scope c =>
   have h1:=er hG n c _ s hc h
   refine SW.intro fun I β a w hR=>wp_scope_straight (wp_mono (h1.run hR) fun e a' w' hp=>?_)
   obtain⟨x',s',I',ay,rfl,hq,br,hg⟩:=hp.goes
   cases x' with
   | cA=>exact bA.of (Q:=Q) (x:=.cA) hq br hg
   | exit j=>exact bA.of (Q:=Q) (x:=.exit j) hq br hg
   | ret=>exact bA.of (Q:=Q) (x:=.ret) hq br hg
  | loop c=>exact h
  | rangeFunc f ps a b=>exact h
  | region id ops draw =>
   refine SW.intro fun I β a w hR=>?_
   cases draw with
   | true =>
    obtain⟨p,hp,h⟩:=ao h
    unfold bR at hc
    rw[hp] at hc
    simp only[Bool.and_eq_true,s7] at hc
    have br:Rel G I β s a { w with drawn:=w.drawn+1 }:=hR.iS rfl rfl rfl rfl
    have hd:aG I β s w I β s { w with drawn:=w.drawn+1 }:=⟨Ext.iS rfl rfl rfl rfl,rfl,rfl,rfl,fun _ _ _=>rfl⟩
    have hA:=BL hG hc.1 ops.size p (bA G s I β w Q) _ s a I β _ [] [] _ (l_ _ _ _ _ (Mk.none ops) hc.2) h br (fun y hy=>by cases hy) fun s' I' ay a' w' hk eM hg=>bA.of (Q:=Q) (x:=.cA) hk eM (hd.trans hg)
    exact wp_region_any hG.ok.mix (cB.sound _ _ _ _ _ _ hA rfl)
   | false=>exact wp_region_list (xw hG _ h hR fun x s' I' ay a' w' hq br hg=>bA.of hq br hg)
  | _=>exact h.elim
def oW (k:aD->Prop) (Q:X->aD->Prop) (x:X) (s:aD):Prop:=match x with
 | .cA=>k s
 | x=>Q x s
def rnd (G:Gx) (R:List (Nat × af)) (N:Nat) (c:Code) (Q:X->aD->Prop):Nat->aD->Prop
 | 0,_=>False
 | n+1,s=>pw G R N c (oW (rnd G R N c Q n) Q) s
theorem SW.rounds (hG:fD G) (R:List (Nat × af)) {N:Nat} {c:Code} {Q:X->aD->Prop} (hc:bR R c=true) (n:Nat) (h:rnd G R N c Q n s):SW G (.loop c) Q s:=by
 have key:∀ (n:Nat) (s0 s:aD) (I0 I:Nat->Prop) (eU β:an) (w0 w:World) (a:Act),rnd G R N c Q n s->Rel G I β s a w->aG I0 eU s0 w0 I β s w->Code.rounds G.cx.P c (bA G s0 I0 eU w0 Q) n a w:=by
  intro n
  induction n with
  | zero=>intro s0 s I0 I eU β w0 w a h _ _; exact h.elim
  | succ n ih =>
   intro s0 s I0 I eU β w0 w a h hR hg
   rw[rounds_succ]
   refine wp_mono ((er hG N c _ s hc h).run hR) fun e a' w' hp=>?_
   obtain⟨x',s',I',ay,rfl,hq,br,re⟩:=hp.goes
   cases x' with
   | cA=>exact ih s0 s' I0 I' eU ay w0 w' a' hq br (hg.trans re)
   | exit id=>exact bA.of (Q:=Q) (x:=.exit id) hq br (hg.trans re)
   | ret=>exact bA.of (Q:=Q) (x:=.ret) hq br (hg.trans re)
 exact SW.intro fun I β a w hR=>wp_loop_rounds n (key n s s I I β β w w a h hR (aG.same ⟨rfl,rfl,rfl,rfl⟩))
theorem Sub.refl:Sub G s s:=fun I β _ _ hR=>⟨I,β,hR,aG.same ⟨rfl,rfl,rfl,rfl⟩⟩
theorem SW.inv (hG:fD G) {R:List (Nat × af)} {α:Type} (inv:α->aD) (μ:α->Nat) {N:Nat} {c:Code} {Q:X->aD->Prop} (hc:bR R c=true) (x0:α) (h0:Sub G s (inv x0)) (K:α->aD->Prop) (hK:∀ x s',K x s'->∃ y,μ y < μ x/\Sub G s' (inv y))
  (h:∀ x,pw G R N c (oW (K x) Q) (inv x)):SW G (.loop c) Q s:=by
 refine SW.intro fun I0 eU a w hR=>?_
 obtain⟨I,β,cI,gV⟩:=h0 I0 eU a w hR
 let J:Nat->Act->World->Prop:=fun m a w'=>∃ x I β,μ x=m/\Rel G I β (inv x) a w'/\aG I0 eU s w I β (inv x) w'
 have key:∀ (m:Nat) (a:Act) (w':World),J m a w'->∀ (b:Frame) (k:List Item) (cs:List Frame),∃ e a' m_,bA G s I0 eU w Q e a' m_/\Arrives G.cx.P (lone (b.at a (.code c::.inLoop c::k)) cs w') b k cs e a' m_:=by
  intro m
  induction m using Nat.strongRecOn with
  | _ m ih =>
   rintro a w' ⟨x,I,β,hx,hR,hg⟩ b k cs
   obtain⟨e,xA,xB,hp,qe⟩:=(er hG N c _ _ hc (h x)).run hR b (.inLoop c::k) cs
   obtain⟨x',s',I',ay,rfl,hq,br,re⟩:=hp.goes
   cases x' with
   | cA =>
    obtain⟨y,hy,hs⟩:=hK x s' hq
    obtain⟨I2,ee,eM,jq⟩:=hs I' ay xA xB br
    obtain⟨R1,R2,R3,Ik,xC⟩:=ih (μ y) (by omega) xA xB ⟨y,I2,ee,rfl,eM,(hg.trans re).trans jq⟩ b k cs
    exact⟨R1,R2,R3,Ik,.of_steps (Steps.trans qe (.one step_inLoop)) xC⟩
   | exit id=>exact⟨_,xA,xB,bA.of (Q:=Q) (x:=.exit id) hq br (hg.trans re),.pass (x:=.inLoop c) rfl (fun _ _=>.inl (by simp[X.e])) qe⟩
   | ret=>exact⟨_,xA,xB,bA.of (Q:=Q) (x:=.ret) hq br (hg.trans re),.pass (x:=.inLoop c) rfl (fun _ _=>.inl (by simp[X.e])) qe⟩
 intro b k cs
 obtain⟨e,a',w',hq,qe⟩:=key (μ x0) a w ⟨x0,I,β,rfl,cI,gV⟩ b k cs
 exact⟨e,a',w',hq,.of_steps (.one step_loop) qe⟩
end
def Be (x y:PV):Prop:=match x,y with
 | .lit k a,.lit l b=>if decide (k=l) then a=b else False
 | .lit k a,.int l b=>if decide (k=l) then a=b else False
 | .int k a,.lit l b=>if decide (k=l) then a=b else False
 | .int k a,.int l b=>if decide (k=l) then a=b else False
 | .tt,.tt=>True|.ff,.ff=>True
 | .tt,.bool p=>p|.ff,.bool p=>¬ p
 | .bool p,.tt=>p|.bool p,.ff=>¬ p
 | .bool p,.bool q=>p↔q
 | .val v,.val u=>v=u
 | .nil,.nil=>True
 | .nil,.sl _ es=>es = []
 | .sl n es,.sl m fs=>if Nat.beq n m then es=fs else False
 | .wref l,.wref m=>if Nat.beq l m then True else False
 | .mref l,.mref m=>if Nat.beq l m then True else False
 | .ref l o n,.ref l' o' n'=>if Nat.beq l l' && Nat.beq o o' && Nat.beq n n' then True else False
 | .ptr l o,.ptr l' o'=>if Nat.beq l l' && Nat.beq o o' then True else False
 | .pti l o i n,.pti l' o' i' n'=>if Nat.beq l l' && Nat.beq o o' && Nat.beq n n' then i=i' else False
 | .dpt l i n o,.dpt l' i' n' o'=>if Nat.beq l l' && Nat.beq o o' && Nat.beq n n' then i=i' else False
 | .ep cs o,.ep ds o'=>if Nat.beq o o' then cs=ds else False
 | .gp g o,.gp g' o'=>if Nat.beq g g' && Nat.beq o o' then True else False
 | .gpi g o i n,.gpi g' o' i' n'=>if Nat.beq g g' && Nat.beq o o' && Nat.beq n n' then i=i' else False
 | _,_=>False
def oX (r:PV->PV->Prop):List PV->List PV->Prop
 | [],[]=>True
 | x::xs,y::ys=>r x y/\oX r xs ys
 | _,_=>False
def leA (x y:PV):Prop:=match x,y with
 | .agg cs,.agg ds=>oX Be cs ds
 | .clo f cs,.clo g ds=>if Nat.beq f g then oX Be cs ds else False
 | x,y=>Be x y
def ma (x y:PV):Prop:=match x,y with
 | .tup cs,.tup ds=>oX leA cs ds
 | x,y=>leA x y
def qq (x y:PV):Prop:=∀ w I β v,x.Is w I β v->y.Is w I β v
theorem qq.refl (x:PV):qq x x:=fun _ _ _ _ h=>h
section
variable {w w':World} {I I':Nat->Prop} {β ay:an} {G:Gx} {s:aD} {a:Act} {st dY:List aj}
theorem jT {c p:Prop} [Decidable c] (h:if c then p else False):c/\p:=by
 split at h
 ·exact⟨‹_›,h⟩
 ·exact h.elim
theorem tc {x y:PV} (h:Be x y):qq x y:=by
 intro w I β v hx
 unfold Be at h
 split at h<;>first|exact h.elim|(simp only[PV.Is] at hx ⊢)
 ·obtain⟨hk,h⟩:=jT h; rw[hx,of_decide_eq_true hk,h]
 ·obtain⟨hk,h⟩:=jT h; rw[hx,of_decide_eq_true hk,h]
 ·obtain⟨hk,h⟩:=jT h; rw[hx,of_decide_eq_true hk,h]
 ·obtain⟨hk,h⟩:=jT h; rw[hx,of_decide_eq_true hk,h]
 ·exact hx
 ·exact hx
 ·rw[hx,cv h]
 ·rw[hx,bT h]
 ·rw[hx,cv h]
 ·rw[hx,bT h]
 ·rw[hx,show pb _=pb _ from congrArg pb (propext h)]
 ·rw[← h]; exact hx
 ·exact hx
 ·subst h; exact⟨none,0,hx,Nat.le_refl _,Nat.zero_le _,(fun _ _ e=>by cases e),fun hn=>absurd rfl hn⟩
 ·obtain⟨hb,h⟩:=jT h; rw[← h,← Nat.eq_of_beq_eq_true hb]; exact hx
 ·obtain⟨hb,h⟩:=jT h; rw[← Nat.eq_of_beq_eq_true hb]; exact hx
 ·obtain⟨hb,h⟩:=jT h; rw[← Nat.eq_of_beq_eq_true hb]; exact hx
 ·obtain⟨hb,h⟩:=jT h
  simp only[Bool.and_eq_true] at hb
  rw[← Nat.eq_of_beq_eq_true hb.1.1,← Nat.eq_of_beq_eq_true hb.1.2,← Nat.eq_of_beq_eq_true hb.2]; exact hx
 ·obtain⟨hb,h⟩:=jT h
  simp only[Bool.and_eq_true] at hb
  rw[← Nat.eq_of_beq_eq_true hb.1,← Nat.eq_of_beq_eq_true hb.2]; exact hx
 ·obtain⟨hb,h⟩:=jT h
  simp only[Bool.and_eq_true] at hb
  rw[← Nat.eq_of_beq_eq_true hb.1.1,← Nat.eq_of_beq_eq_true hb.1.2,← Nat.eq_of_beq_eq_true hb.2,← h]; exact hx
 ·obtain⟨hb,h⟩:=jT h
  simp only[Bool.and_eq_true] at hb
  rw[← Nat.eq_of_beq_eq_true hb.1.1,← Nat.eq_of_beq_eq_true hb.1.2,← Nat.eq_of_beq_eq_true hb.2,← h]; exact hx
 ·obtain⟨hb,h⟩:=jT h; rw[← Nat.eq_of_beq_eq_true hb,← h]; exact hx
 ·obtain⟨hb,h⟩:=jT h
  simp only[Bool.and_eq_true] at hb
  rw[← Nat.eq_of_beq_eq_true hb.1,← Nat.eq_of_beq_eq_true hb.2]; exact hx
 ·obtain⟨hb,h⟩:=jT h
  simp only[Bool.and_eq_true] at hb
  rw[← Nat.eq_of_beq_eq_true hb.1.1,← Nat.eq_of_beq_eq_true hb.1.2,← Nat.eq_of_beq_eq_true hb.2,← h]; exact hx
theorem jv {r:PV->PV->Prop} (hr:∀ x y,r x y->qq x y):∀ {xs ys:List PV} {vs:List Value},oX r xs ys->bg w I xs β vs->bg w I ys β vs
 | [],[],_,_,h=>h
 | x::xs,y::ys,v::vs,h,hx=>by
  simp only[bg] at hx ⊢
  exact⟨hr x y h.1 w I β v hx.1,jv hr h.2 hx.2⟩
 | x::xs,y::ys,[],h,hx=>by simp only[bg] at hx
 | [],_::_,_,h,_=>h.elim
 | _::_,[],_,h,_=>h.elim
theorem Il {x y:PV} (h:leA x y):qq x y:=by
 unfold leA at h
 split at h
 ·intro w I β v hx
  simp only[PV.Is] at hx ⊢
  obtain⟨vs,rfl,hx⟩:=hx
  exact⟨vs,rfl,jv (fun _ _=>tc) h hx⟩
 ·intro w I β v hx
  split at h
  ·rename_i hb
   simp only[PV.Is] at hx ⊢
   obtain⟨vs,rfl,hx⟩:=hx
   exact⟨vs,by rw[Nat.eq_of_beq_eq_true hb],jv (fun _ _=>tc) h hx⟩
  ·exact h.elim
 ·exact tc h
theorem fp {x y:PV} (h:ma x y):qq x y:=by
 unfold ma at h
 split at h
 ·intro w I β v hx
  simp only[PV.Is] at hx ⊢
  obtain⟨vs,rfl,hx⟩:=hx
  exact⟨vs,rfl,jv (fun _ _=>Il) h hx⟩
 ·exact Il h
abbrev ia:=List (Option Nat)
def PV.zt (π:ia) (x:PV):Option PV:=match x with
 | .wref l=>(match π[l]? with
  | some (some m)=>some (.wref m)
  | some none=>some .nil
  | none=>none)
 | .mref l=>(match π[l]? with
  | some (some m)=>some (.mref m)
  | _=>none)
 | .ref l o n=>(match π[l]? with
  | some (some m)=>some (.ref m o n)
  | _=>none)
 | .ptr l o=>(match π[l]? with
  | some (some m)=>some (.ptr m o)
  | _=>none)
 | .pti l o i n=>(match π[l]? with
  | some (some m)=>some (.pti m o i n)
  | _=>none)
 | .dpt l i n o=>(match π[l]? with
  | some (some m)=>some (.dpt m i n o)
  | _=>none)
 | .agg _|.tup _|.clo ..|.mth ..=>none
 | x=>some x
def f_ (π:ia):List PV->Option (List PV)
 | []=>some []
 | c::cs=>(match c.zt π,f_ π cs with
  | some x,some l=>some (x::l)
  | _,_=>none)
def PV.MF (π:ia) (x:PV):Option PV:=match x with
 | .agg cs=>(f_ π cs).map .agg
 | .clo f cs=>(f_ π cs).map (.clo f)
 | .tup _=>none
 | x=>x.zt π
def jx (β:an) (π:ia):an:=fun l=>match π[l]? with
 | some (some m)=>β m
 | some none=>some ⟨none,0,0⟩
 | none=>none
theorem cG {π:ia} {l m:Nat} (h:π[l]?=some (some m)):jx β π l=β m:=by unfold jx; rw[h]
theorem ko {π:ia} {l:Nat} (h:π[l]?=some none):jx β π l=some ⟨none,0,0⟩:=by unfold jx; rw[h]
theorem sa {π:ia} {x y:PV} {v:Value} (h:x.zt π=some y) (hy:y.Is w I β v):x.Is w I (jx β π) v:=by
 unfold PV.zt at h
 split at h
 ·split at h
  ·rename_i m hm
   cases h
   simp only[PV.Is] at hy ⊢
   rw[cG hm]; exact hy
  ·rename_i hm
   cases h
   simp only[PV.Is] at hy ⊢
   exact⟨_,ko hm,hy⟩
  ·cases h
 ·split at h
  ·rename_i m hm
   cases h
   simp only[PV.Is] at hy ⊢
   rw[cG hm]; exact hy
  ·cases h
 ·split at h
  ·rename_i m hm
   cases h
   simp only[PV.Is] at hy ⊢
   rw[cG hm]; exact hy
  ·cases h
 ·split at h
  ·rename_i m hm
   cases h
   simp only[PV.Is] at hy ⊢
   rw[cG hm]; exact hy
  ·cases h
 ·split at h
  ·rename_i m hm
   cases h
   simp only[PV.Is] at hy ⊢
   rw[cG hm]; exact hy
  ·cases h
 ·split at h
  ·rename_i m hm
   cases h
   simp only[PV.Is] at hy ⊢
   rw[cG hm]; exact hy
  ·cases h
 ·cases h
 ·cases h
 ·cases h
 ·cases h
 ·cases h
  refine PV.Is.mono (fun _ h=>h) (fun _ _=>rfl) x β _ v (fun l p hl=>?_) hy
  cases x<;>first|(simp_all [PV.df]; done)|(rename_i a1 a2 a3 a4 a5 a6 a7 a8 a9 R4; first|exact (a4 _ _ _ _ rfl).elim|exact (a5 _ _ _ _ rfl).elim|exact (a6 _ _ _ _ rfl).elim)
theorem xD {π:ia}:∀ {xs ys:List PV} {vs:List Value},f_ π xs=some ys->bg w I ys β vs->bg w I xs (jx β π) vs
 | [],ys,vs,h,hy=>by
  simp only[f_,Option.some.injEq] at h
  subst h
  cases vs with
  | nil=>simp only[bg]
  | cons v vs=>simp only[bg] at hy
 | x::xs,ys,vs,h,hy=>by
  simp only[f_] at h
  split at h
  ·rename_i y l h1 h2
   cases h
   cases vs with
   | nil=>simp only[bg] at hy
   | cons v vs =>
    simp only[bg] at hy ⊢
    exact⟨sa h1 hy.1,xD h2 hy.2⟩
  ·cases h
theorem Im {π:ia} {x y:PV} {v:Value} (h:x.MF π=some y) (hy:y.Is w I β v):x.Is w I (jx β π) v:=by
 unfold PV.MF at h
 split at h
 ·rw[Option.map_eq_some_iff] at h
  obtain⟨l,hl,rfl⟩:=h
  simp only[PV.Is] at hy ⊢
  obtain⟨vs,rfl,hy⟩:=hy
  exact⟨vs,rfl,xD hl hy⟩
 ·rw[Option.map_eq_some_iff] at h
  obtain⟨l,hl,rfl⟩:=h
  simp only[PV.Is] at hy ⊢
  obtain⟨vs,rfl,hy⟩:=hy
  exact⟨vs,rfl,xD hl hy⟩
 ·cases h
 ·exact sa h hy
def TM.ma (π:ia):TM->TM->Prop
 | _,.nil=>True
 | .nil,.node v l r=>(match v with
  | none=>True
  | some _=>False)/\TM.ma π .nil l/\TM.ma π .nil r
 | .node v l r,.node v' l' r'=>(match v' with
  | none=>True
  | some y=>aU v fun x=>aU (y.MF π) fun y=>Pw.ma x y)/\TM.ma π l l'/\TM.ma π r r'
def Md.beq:Md->Md->Bool
 | .w,.w=>true|.p,.p=>true|.r,.r=>true
 | _,_=>false
def BK.beq:BK->BK->Bool
 | .loc,.loc=>true|.arr,.arr=>true|.dyn,.dyn=>true|.mp,.mp=>true
 | _,_=>false
def Zv (cx:Ev.Cx) (π:ia) (b b':aj):Prop:=bif Nat.beq b.ty b'.ty && Nat.beq b.size b'.size && Md.beq b.m b'.m && b.live then (match b.k,b'.k with
 | .loc,.loc=>aU (f_ π b'.cs) fun cs=>oX Be b.cs cs
 | .arr,.arr=>aU (f_ π b'.cs) fun cs=>oX Be b.cs cs
 | .dyn,.dyn=>b.cs=b'.cs
 | .mp,.mp=>b.cs=b'.cs
 | .arr,.dyn=>aU (Ev.fI cx b.ty) fun ag=>bif ag || Nat.beq b.size 1 then b.szK fun n=>aU (fW ag n (.stat b.cs)) fun es=>es=b'.cs else False
 | _,_=>False) else False
def stK (cx:Ev.Cx) (π:ia) (st:List aj):List aj->ia->Prop
 | [],[]=>True
 | b'::r,some m::π'=>(match b'.live with
  | true=>aU st[m]? fun b=>Zv cx π b b'
  | false=>True)/\stK cx π st r π'
 | b'::r,none::π'=>(match b'.k,b'.cs with
  | .dyn,[]=>bif Nat.blt 0 b'.size then True else False
  | _,_=>False)/\stK cx π st r π'
 | _,_=>False
def te:ia->Bool
 | []=>true
 | none::π=>te π
 | some m::π=>!(π.any fun x=>match x with
  | some k=>Nat.beq m k
  | none=>false) && te π
def oY (rl:List Nat):Nat->Nat->ia->Bool
 | 0,_,_=>true
 | n+1,l,some m::π=>(Nat.beq l m || fk l rl) && oY rl n (l+1) π
 | n+1,l,none::π=>fk l rl && oY rl n (l+1) π
 | _+1,_,[]=>false
def fK (cx:Ev.Cx) (π:ia) (s s':aD):Prop :=
 s'.n=s.n/\s'.base=s.base/\s'.rl=s.rl/\(bif te π && oY s.rl s.base 0 π then True else False)/\stK cx π s.st s'.st π/\TM.ma π s.t s'.t
theorem TM.fp {π:ia}:∀ {t t':TM} {n:Nat} {y:PV},TM.ma π t t'->t'.get n=some y->∃ x z,t.get n=some x/\y.MF π=some z/\Pw.ma x z
 | _,.nil,n,y,_,hy=>by cases hy
 | .nil,.node v l r,n,y,h,hy=>by
  exfalso
  have key:∀ (t':TM),TM.ma π .nil t'->∀ n y,t'.get n=some y->False:=by
   intro t'
   induction t' with
   | nil=>intro _ n y hy; cases hy
   | node v l r ihl ihr =>
    intro h n y hy
    obtain⟨h1,h2,h3⟩:=h
    cases v with
    | some _=>exact h1.elim
    | none =>
     simp only[TM.get] at hy
     cases h0:Nat.beq n 0<;>rw[h0] at hy
     ·cases h1:Nat.beq (n % 2) 1<;>rw[h1] at hy
      ·exact ihr h3 _ _ hy
      ·exact ihl h2 _ _ hy
     ·cases hy
  exact key _ h n y hy
 | .node v l r,.node v' l' r',n,y,h,hy=>by
  obtain⟨h1,h2,h3⟩:=h
  simp only[TM.get] at hy ⊢
  cases h0:Nat.beq n 0<;>rw[h0] at hy
  ·cases hp:Nat.beq (n % 2) 1<;>rw[hp] at hy
   ·exact TM.fp h3 hy
   ·exact TM.fp h2 hy
  ·cases v' with
   | none=>cases hy
   | some y' =>
    cases hy
    obtain⟨x,hx,h1⟩:=ao h1
    obtain⟨z,hz,h1⟩:=ao h1
    exact⟨x,z,hx,hz,h1⟩
theorem Md.nS {m n:Md} (h:Md.beq m n=true):m=n:=by cases m<;>cases n<;>first|rfl|cases h
theorem BO {cx:Ev.Cx} {MG:ia} {st:List aj}:∀ {dY:List aj} {π:ia},stK cx MG st dY π->π.length=dY.length/\∀ (l:Nat) (b':aj),dY[l]?=some b'->b'.live=true->(∃ (m:Nat) (b:aj),π[l]?=some (some m)/\st[m]?=some b/\Zv cx MG b b')\/(π[l]?=some none/\b'.k = .dyn/\b'.cs = []/\0 < b'.size)
 | [],[],_=>⟨rfl,fun l b' hl=>by simp at hl⟩
 | b0::r,some m::π,h=>by
  obtain⟨h1,h2⟩:=h
  obtain⟨My,MQ⟩:=BO h2
  refine⟨by simp[My],fun l b' hl az=>?_⟩
  cases l with
  | zero =>
   simp at hl; subst hl
   rw[az] at h1
   obtain⟨b,hb,h1⟩:=ao h1
   exact .inl ⟨m,b,rfl,hb,h1⟩
  | succ l=>simpa using MQ l b' (by simpa using hl) az
 | b0::r,none::π,h=>by
  obtain⟨h1,h2⟩:=h
  obtain⟨My,MQ⟩:=BO h2
  refine⟨by simp[My],fun l b' hl az=>?_⟩
  cases l with
  | zero =>
   simp at hl; subst hl
   split at h1
   ·rename_i hk hc
    obtain⟨hb,_⟩:=ba h1
    exact .inr ⟨rfl,hk,hc,Nat.le_of_ble_eq_true hb⟩
   ·exact h1.elim
  | succ l=>simpa using MQ l b' (by simpa using hl) az
 | [],_::_,h=>h.elim
 | _::_,[],h=>h.elim
theorem qs:∀ {π:ia},te π=true->∀ (l l' m:Nat),π[l]?=some (some m)->π[l']?=some (some m)->l=l'
 | [],_,l,_,_,h,_=>by simp at h
 | none::π,hn,l,l',m,h,h'=>by
  cases l with
  | zero=>simp at h
  | succ l=>cases l' with
   | zero=>simp at h'
   | succ l'=>rw[qs (π:=π) hn l l' m (by simpa using h) (by simpa using h')]
 | some k::π,hn,l,l',m,h,h'=>by
  simp only[te,Bool.and_eq_true,Bool.not_eq_true',List.any_eq_false] at hn
  have no:∀ l,π[l]?=some (some k)->False:=fun l hl=>by
   have:=hn.1 _ (List.mem_of_getElem? hl)
   simp at this
  cases l with
  | zero =>
   simp at h; subst h
   cases l' with
   | zero=>rfl
   | succ l'=>exact (no l' (by simpa using h')).elim
  | succ l =>
   cases l' with
   | zero=>simp at h'; subst h'; exact (no l (by simpa using h)).elim
   | succ l'=>rw[qs (π:=π) hn.2 l l' m (by simpa using h) (by simpa using h')]
theorem qt {rl:List Nat}:∀ {n l:Nat} {π:ia},oY rl n l π=true->n<=π.length
 | 0,_,_,_=>Nat.zero_le _
 | n+1,l,some m::π,h=>by
  simp only[oY,Bool.and_eq_true] at h
  simpa using qt h.2
 | n+1,l,none::π,h=>by
  simp only[oY,Bool.and_eq_true] at h
  simpa using qt h.2
 | _+1,_,[],h=>by cases h
theorem tg {rl:List Nat}:∀ {n l:Nat} {π:ia},oY rl n l π=true->∀ i,i < n->(π[i]?=some (some (l+i))\/(l+i)∈rl)
 | 0,_,_,_,i,hi=>by omega
 | n+1,l,some m::π,h,i,hi=>by
  simp only[oY,Bool.and_eq_true,Bool.or_eq_true] at h
  cases i with
  | zero=>exact h.1.imp (fun e=>by rw[← Nat.eq_of_beq_eq_true e]; rfl) cR.1
  | succ i =>
   have:=tg h.2 i (by omega)
   rw[show l+1+i=l+(i+1) by omega] at this
   simpa using this
 | n+1,l,none::π,h,i,hi=>by
  simp only[oY,Bool.and_eq_true] at h
  cases i with
  | zero=>exact .inr (cR.1 h.1)
  | succ i =>
   have:=tg h.2 i (by omega)
   rw[show l+1+i=l+(i+1) by omega] at this
   simpa using this
 | _+1,_,[],h,_,_=>by cases h
end
end Go.Proofs.YtbnoodjnpooocaaGreatDoor.Pw

/- What this claim is proved with: no condition. -/
import Derived.Test.YtnbhdacpogplgaaGreatDoorPn6
set_option linter.unusedVariables false
set_option linter.unusedSimpArgs false
namespace Go.Proofs.YtnbhdacpogplgaaGreatDoor.Pw
open Go Go.RowKit
structure nV where
 D:List Nat
 l:Nat
def gg (i:Nat) (l:List Nat):Bool:=l.any (Nat.beq i)
def tK (listed:Array Bool) (i:Nat):List Oper->Nat->List Nat->List Nat
 | [],_,acc=>acc
 | o::r,j,acc=>bif !(listed.getD j true) && o.after.toList.any (fun e=>Region.binds .any e && (Nat.beq e.on i || gg e.on acc)) then tK listed i r (j+1) (j::acc) else tK listed i r (j+1) acc
def Lm (ops:List Oper) (listed:Array Bool) (i:Nat) (D:List Nat):Bool :=
 D.all fun j=>!(listed.getD j false) && (match ops[j]? with
  | some o=>o.after.toList.any fun e=>Region.binds .any e && (Nat.beq e.on i || gg e.on D)
  | none=>false)
def pinned (i:Nat):List nV->List Nat
 | []=>[]
 | p::r=>bif gg i p.D then pinned i r else p.l::pinned i r
def bY (i:Nat) (pins:List nV):List nV:=pins.filter fun p=>!gg i p.D
def Md.SS:Md->Bool
 | .w=>true
 | _=>false
def mC (b:Bool) (m:Md):Md:=match b,m with
 | true,.w=>.p
 | _,m=>m
def dZ (b:Bool) (m:Md):Md:=match b,m with
 | true,.p=>.w
 | _,m=>m
def mapM (f:Bool->Md->Md) (us:List Nat):Nat->List aj->List aj
 | _,[]=>[]
 | j,⟨k,ty,n,m,live,cs⟩::st=>⟨k,ty,n,f (gg j us) m,live,cs⟩::mapM f us (j+1) st
def EB:List aj->(List aj->Prop)->Prop
 | [],q=>q []
 | ⟨k,ty,n,m,live,cs⟩::st,q=>match m with
  | .w=>EB st fun st=>q (⟨k,ty,n,.w,live,cs⟩::st)
  | .p=>EB st fun st=>q (⟨k,ty,n,.p,live,cs⟩::st)
  | .r=>EB st fun st=>q (⟨k,ty,n,.r,live,cs⟩::st)
def ew (st:List aj) (ls:List Nat):List Nat:=ls.filter fun j=>match st[j]? with
 | some b=>b.live && b.m.SS
 | none=>false
def SU (st:List aj) (ls:List Nat):Bool:=ls.all fun j=>match st[j]? with
 | some b=>b.live
 | none=>false
def dA (G:Gx) (ops:List Oper) (s:aL) (i:Nat) (o:Oper) (pins:List nV) (K:aL->Prop):Prop :=
 kv ops s o (fun s=>match pinned i pins with
  | []=>pop G s o fun v s2=>s2.put o.dst v K
  | ls=>EB (mapM mC (ew s.st ls) 0 s.st) fun st=>pop G (s.store st) o fun v s2=>bif SU s2.st ls then EB (mapM dZ (ew s.st ls) 0 s2.st) fun Qy=>(s2.store Qy).put o.dst v K else False)
  (fun s=>s.put o.dst (.tup []) K)
def jS (ops:Array Oper) (listed:Array Bool) (i:Nat):Bool:=match ops[i]? with
 | some o=>Ev.jf o.op && Region.free .any ops listed i
 | none=>false
def jT (ops:Array Oper) (listed:Array Bool) (i:Nat):Bool:=match ops[i]? with
 | some o=>jq o.op && Region.free .any ops listed i
 | none=>false
def pO (D:List Nat) (x:PV) (pins:List nV):List nV:=match x.dX with
 | some l=>⟨D,l⟩::pins
 | none=>pins
section
variable {w w':World} {I I':Nat->Prop} {β aG:au} {G:Gx} {s:aL} {a:Act} {st cA:List aj} {ops:Array Oper}
theorem pP:∀ {st:List aj} {q:List aj->Prop},EB st q->q st
 | [],_,h=>h
 | ⟨k,ty,n,m,live,cs⟩::st,q,h=>by
  unfold EB at h
  cases m<;>exact pP (st:=st) h
theorem c9 (f:Bool->Md->Md) (us:List Nat):∀ (st:List aj) (j l:Nat),(mapM f us j st)[l]?=(st[l]?).map fun b=>{ b with m:=f (gg (j+l) us) b.m }
 | [],j,l=>by simp[mapM]
 | ⟨k,ty,n,m,live,cs⟩::st,j,0=>by simp[mapM]
 | ⟨k,ty,n,m,live,cs⟩::st,j,l+1=>by
  simp only[mapM,List.getElem?_cons_succ]
  rw[c9 f us st (j+1) l,show j+1+l=j+(l+1) by omega]
theorem dC (f:Bool->Md->Md) (us:List Nat):∀ (st:List aj) (j:Nat),(mapM f us j st).length=st.length
 | [],_=>rfl
 | ⟨_,_,_,_,_,_⟩::st,j=>by simp[mapM,dC f us st]
theorem FK {b:Bool} {m:Md}:mC b m = .r↔m = .r:=by cases b<;>cases m<;>simp[mC]
theorem FM {b:Bool} {m:Md} (h:mC b m = .w):m = .w:=by cases b<;>cases m<;>simp_all [mC]
theorem y8 {b:Bool} {m:Md}:dZ b m = .r↔m = .r:=by cases b<;>cases m<;>simp[dZ]
theorem aB.EC (h:aB I β st w) {f:Bool->Md->Md} {us:List Nat} (hf:∀ b m,f b m = .r↔m = .r):aB I β (mapM f us 0 st) w:=by
 refine⟨fun l hl=>h.jE l (by rw[dC] at hl; exact hl),fun l b' hl ax=>?_⟩
 rw[c9,Option.map_eq_some_iff] at hl
 obtain⟨b,hb,rfl⟩:=hl
 have ee:=h.dX l b hb ax
 obtain⟨p,hp,hk⟩:=ee
 have own:∀ {g:Nat} {fr:Nat × Nat},Own I β st l g fr b->Own I β (mapM f us 0 st) l g fr { b with m:=f (gg (0+l) us) b.m }:=fun ho=>by
  refine⟨fun hr=>?_,fun hr=>ho.2 ((hf _ _).1 hr)⟩
  obtain⟨h1,h2,h3⟩:=ho.1 fun e=>hr ((hf _ _).2 e)
  refine⟨h1,h2,fun l' b' bR eF dh=>?_⟩
  rw[c9,Option.map_eq_some_iff] at eF
  obtain⟨b2,cv,rfl⟩:=eF
  exact h3 l' b2 bR cv dh
 refine⟨p,hp,?_⟩
 simp only
 split at hk
 ·rename_i bH
  obtain⟨g,o,arr,ty,fr,h1,h2,h3,ho⟩:=hk
  rw[bH]
  exact⟨g,o,arr,ty,fr,h1,h2,h3,own ho⟩
 ·rename_i bH
  obtain⟨g,arr,fr,h1,h2,h3,ho,h4⟩:=hk
  rw[bH]
  exact⟨g,arr,fr,h1,h2,h3,own ho,h4⟩
 ·rename_i bH
  obtain⟨h1,hk⟩:=hk
  rw[bH]
  refine⟨h1,?_⟩
  rcases hk with h|⟨g,arr,fr,h2,h3,h4,ho,h5⟩
  ·exact .inl h
  ·exact .inr ⟨g,arr,fr,h2,h3,h4,own ho,h5⟩
 ·rename_i bH
  obtain⟨g,h1,h2,ho⟩:=hk
  rw[bH]
  exact⟨g,h1,h2,own ho⟩
theorem ck {i:Nat} {l:List Nat}:gg i l=true↔i∈l:=by
 unfold gg
 rw[List.any_eq_true]
 exact⟨fun ⟨x,hx,e⟩=>by rw[Nat.eq_of_beq_eq_true e]; exact hx,fun h=>⟨i,h,Nat.beq_refl i⟩⟩
def kH (pins:List nV) (ys:List iO) (I:Nat->Prop) (β:au) (st:List aj) (w:World):Prop :=
 ∀ y∈ys,(∀ w2,y.Y w2)\/∃ g,(∀ w2,y.Y w2↔w2.heap[g]?=w.heap[g]?)/\g < w.heap.size/\(I g\/∃ p∈pins,p.D=y.D/\∃ b pl o,st[p.l]?=some b/\b.live=true/\β p.l=some pl/\pl.a=some (g,o))
theorem gk {i:Nat} {p:nV}:∀ {pins:List nV},p∈pins->gg i p.D=false->p.l∈pinned i pins
 | q::pins,h,hd=>by
  unfold pinned
  rcases List.mem_cons.1 h with rfl|h
  ·rw[hd]; exact List.mem_cons_self
  ·cases gg i q.D
   ·exact List.mem_cons_of_mem _ (gk h hd)
   ·exact gk h hd
theorem mD {i:Nat} {p:nV} {pins:List nV} (h:p∈pins) (hd:gg i p.D=false):p∈bY i pins:=by
 unfold bY; rw[List.mem_filter]; exact⟨h,by simp[hd]⟩
theorem iz {i:Nat} {y:iO} {ys:List iO} (h:y∈bK i ys):y∈ys/\gg i y.D=false:=by
 unfold bK at h; rw[List.mem_filter] at h; exact⟨h.1,by simpa [gg] using h.2⟩
theorem kH.bK {i:Nat} {pins:List nV} {ys:List iO} (h:kH pins ys I β st w):kH (bY i pins) (bK i ys) I β st w:=fun y hy=>by
 obtain⟨hy,hd⟩:=iz hy
 rcases h y hy with h|⟨g,h1,h2,h3⟩
 ·exact .inl h
 ·exact .inr ⟨g,h1,h2,h3.imp id fun ⟨p,hp,he,h4⟩=>⟨p,mD hp (by rw[he]; exact hd),he,h4⟩⟩
theorem jU (hG:lX G) {i:Nat} {o:Oper} {pins:List nV} {ys:List iO} {K:aL->Prop} (h:dA G ops.toList s i o pins K) (hR:Rel G I β s a w) (hp:kH pins ys I β s.st w) :
  Ev.lE G.cx.P ops o a w fun v w'=>∃ s' I' aG,K s'/\Rel G I' aG s' (a.put o.dst v) w'/\bU I β s w I' aG s' w'/\(∀ y∈bK i ys,y.Y w')/\kH (bY i pins) (bK i ys) I' aG s'.st w':=by
 unfold dA at h
 rcases ix hR h with ⟨hw,s1,h1,lG,kp⟩|⟨hw,s1,h1,lG,kp⟩
 ·refine .inl ⟨hw,?_⟩
  
  split at h1
  ·rename_i SV
   refine Ev.iu ?_ (tI hG kp h1)
   rintro v w' ⟨x,s2,I2,fQ,h2,kF,hx,hE,e1,e2,e3,eu,_⟩
   obtain⟨s3,h3,lh,q9⟩:=aL.fC (G:=G) h2
   have Ln:bU I β s w I2 fQ s3 w':=((bU.same lG).trans ⟨hE,e1,e2,e3,eu⟩).trans (bU.same lh)
   have mz:∀ y∈bK i ys,y.Y w'/\((∀ w2,y.Y w2)\/∃ g,(∀ w2,y.Y w2↔w2.heap[g]?=w'.heap[g]?)/\g < w'.heap.size/\I2 g):=fun y hy=>by
    obtain⟨hy,hd⟩:=iz hy
    rcases hp y hy with h|⟨g,h1,h2,h3⟩
    ·exact⟨h _,.inl h⟩
    ·rcases h3 with h3|⟨p,yb,he,_⟩
     ·have hs:=Ln.ext.keeps hR.heap hR.av.av g h3
      exact⟨(h1 w').2 hs,.inr ⟨g,fun w2=>by rw[h1,hs],Nat.lt_of_lt_of_le h2 Ln.ext.size,Ln.ext.av g h3⟩⟩
     ·have:=gk (i:=i) yb (by rw[he]; exact hd)
      rw[SV] at this
      cases this
   exact⟨s3,I2,fQ,h3,q9 _ _ _ _ v kF hx,Ln,fun y hy=>(mz y hy).1,fun y hy=>(mz y hy).2.imp id fun ⟨g,a1,a2,a3⟩=>⟨g,a1,a2,.inl a3⟩⟩
  ·rename_i ls SV
   replace h1:=pP h1
   have Cl:=kp.heap.EC (f:=mC) (us:=ew s1.st (pinned i pins)) (fun b m=>FK)
   have SX:Ext I β s1.st w I β (mapM mC (ew s1.st (pinned i pins)) 0 s1.st) w:=⟨rfl,rfl,rfl,Nat.le_refl _,fun _ _ _=>rfl,fun g hg ⟨l,b',p,o',g1,g2,g3,g4,g5⟩=>by
    rw[c9,Option.map_eq_some_iff] at g1
    obtain⟨b,hb,rfl⟩:=g1
    refine⟨l,b,p,o',hb,g2,?_,g4,g5⟩
    simp only at g3
    exact FM g3,fun _ h=>h,fun _ _ h=>.inl h⟩
   have UL:=kp.grow Cl SX (fun _ _ h=>h) (by rw[dC]; exact Nat.le_refl _) kp.av.av
   refine Ev.iu ?_ (tI hG UL h1)
   rintro v w' ⟨x,s2,I2,fQ,h2,kF,hx,hE,e1,e2,e3,eu,Pn⟩
   obtain⟨c1,c2,c3,c4,c5⟩:=aL.fP s1 (mapM mC (ew s1.st (pinned i pins)) 0 s1.st)
   rw[c3] at hE Pn
   rw[c4] at e1 eu
   rw[c5] at e2 eu
   rw[c1] at e3
   replace h2:=aK h2
   obtain⟨FN,h2⟩:=h2
   replace h2:=pP h2
   have UM:=kF.heap.EC (f:=dZ) (us:=ew s1.st (pinned i pins)) (fun b m=>y8)
   
   have L0:∀ l∈ew s1.st (pinned i pins),∃ b,s1.st[l]?=some b/\b.m = .w/\b.live=true:=fun l hl=>by
    unfold ew at hl
    rw[List.mem_filter] at hl
    have:=hl.2
    cases hb:s1.st[l]? with
    | none=>rw[hb] at this; cases this
    | some b =>
     rw[hb] at this
     simp only[Bool.and_eq_true] at this
     refine⟨b,rfl,?_,this.1⟩
     have:=this.2
     cases hm:b.m<;>simp only[hm,Md.SS] at this<;>first|rfl|cases this
   have Qz:∀ l b,s1.st[l]?=some b->b.m = .w->l∈ew s1.st (pinned i pins)->fQ l=β l:=fun l b hb hm hl=>by
    refine Pn l { b with m:=.p } ?_ rfl
    rw[c9,hb,Nat.zero_add,ck.2 hl,Option.map_some,hm]; rfl
   have Mi:Ext I β s1.st w I2 fQ (mapM dZ (ew s1.st (pinned i pins)) 0 s2.st) w':=by
    have ED:=SX.trans hE
    refine⟨ED.os,ED.tape,ED.output,ED.size,ED.block,fun g hg ⟨l,b',p,o',g1,g2,g3,g4,g5⟩=>?_,ED.av,ED.new⟩
    rw[c9,Option.map_eq_some_iff] at g1
    obtain⟨b,hb,rfl⟩:=g1
    simp only[Nat.zero_add] at g3
    cases yZ:gg l (ew s1.st (pinned i pins)) with
    | false =>
     rw[yZ] at g3
     refine ED.wr g hg ⟨l,b,p,o',hb,g2,?_,g4,g5⟩
     cases hm:b.m<;>rw[hm] at g3<;>first|rfl|cases g3
    | true =>
     have hl:=ck.1 yZ
     obtain⟨b0,ee,lH,FO⟩:=L0 l hl
     exact⟨l,b0,p,o',ee,FO,lH,by rw[← Qz l b0 ee lH hl]; exact g4,g5⟩
   have mz:∀ y∈bK i ys,y.Y w'/\((∀ w2,y.Y w2)\/∃ g,(∀ w2,y.Y w2↔w2.heap[g]?=w'.heap[g]?)/\g < w'.heap.size/\(I2 g\/∃ p∈bY i pins,p.D=y.D/\∃ b pl o,(mapM dZ (ew s1.st (pinned i pins)) 0 s2.st)[p.l]?=some b/\b.live=true/\fQ p.l=some pl/\pl.a=some (g,o))):=fun y hy=>by
    obtain⟨hy,hd⟩:=iz hy
    rcases hp y hy with h|⟨g,g1,g2,g3⟩
    ·exact⟨h _,.inl h⟩
    ·have SY:I g->y.Y w'/\((∀ w2,y.Y w2)\/∃ g,(∀ w2,y.Y w2↔w2.heap[g]?=w'.heap[g]?)/\g < w'.heap.size/\(I2 g\/∃ p∈bY i pins,p.D=y.D/\∃ b pl o,(mapM dZ (ew s1.st (pinned i pins)) 0 s2.st)[p.l]?=some b/\b.live=true/\fQ p.l=some pl/\pl.a=some (g,o))):=fun hI=>by
      have hs:=Mi.keeps kp.heap kp.av.av g hI
      exact⟨(g1 w').2 hs,.inr ⟨g,fun w2=>by rw[g1,hs],Nat.lt_of_lt_of_le g2 Mi.size,.inl (Mi.av g hI)⟩⟩
     rcases g3 with g3|⟨p,yb,he,b,pl,o',hb,ax,mq,FP⟩
     ·exact SY g3
     ·rw[← lG.st] at hb
      have ee:=kp.heap.dX _ b hb ax
      obtain⟨arr,ty,fr,hh,ho⟩:=ee.place mq FP
      by_cases SZ:b.m = .r
      ·exact SY (ho.2 SZ)
      ·have S3:=gk (i:=i) yb (by rw[he]; exact hd)
       
       have QA:∃ b',(mapM mC (ew s1.st (pinned i pins)) 0 s1.st)[p.l]?=some b'/\b'.m = .p/\b'.live=true:=by
        refine⟨{ b with m:=mC (gg (0+p.l) (ew s1.st (pinned i pins))) b.m },by rw[c9,hb]; rfl,?_,ax⟩
        simp only[Nat.zero_add]
        cases hm:b.m with
        | r=>exact absurd hm SZ
        | p=>cases gg p.l (ew s1.st (pinned i pins))<;>rfl
        | w =>
         have:p.l∈ew s1.st (pinned i pins):=by unfold ew; rw[List.mem_filter,hb]; exact⟨S3,by simp only[hm,ax]; rfl⟩
         rw[ck.2 this]; rfl
       obtain⟨b',bV,jg,dh⟩:=QA
       have QB:=Cl.dX _ b' bV dh
       obtain⟨_,_,SE,_,UN⟩:=QB.place mq FP
       have yc:¬ Wr β (mapM mC (ew s1.st (pinned i pins)) 0 s1.st) g:=fun ⟨l2,b2,p2,o2,k1,k2,k3,k4,k5⟩=>by
        by_cases bR:l2=p.l
        ·subst bR
         rw[bV] at k1; cases k1; rw[jg] at k3; cases k3
        ·exact (UN.1 (by rw[jg]; decide)).2.2 l2 b2 bR k1 k2 p2 g o2 k4 k5 rfl
       have hs:w'.heap[g]?=w.heap[g]?:=hE.block g g2 yc
       have QC:fQ p.l=some pl:=(Pn _ b' bV jg).trans mq
       have EE:∃ b2,s2.st[p.l]?=some b2/\b2.live=true:=by
        unfold SU at FN
        rw[List.all_eq_true] at FN
        have:=FN _ S3
        cases cv:s2.st[p.l]? with
        | none=>rw[cv] at this; cases this
        | some b2=>rw[cv] at this; exact⟨b2,rfl,this⟩
       obtain⟨b2,cv,aY⟩:=EE
       refine⟨(g1 w').2 hs,.inr ⟨g,fun w2=>by rw[g1,hs],Nat.lt_of_lt_of_le g2 Mi.size,.inr ⟨p,mD yb (by rw[he]; exact hd),he,{ b2 with m:=dZ (gg (0+p.l) (ew s1.st (pinned i pins))) b2.m },pl,o',by rw[c9,cv]; rfl,aY,QC,FP⟩⟩⟩
   have UO:Ext I2 fQ s2.st w' I2 fQ (mapM dZ (ew s1.st (pinned i pins)) 0 s2.st) w'->True:=fun _=>trivial
   clear UO
   have QD:Rel G I2 fQ (s2.store (mapM dZ (ew s1.st (pinned i pins)) 0 s2.st)) a w':=by
    obtain⟨d1,d2,d3,d4,d5⟩:=aL.fP s2 (mapM dZ (ew s1.st (pinned i pins)) 0 s2.st)
    exact⟨by rw[d1]; exact kF.small,kF.defers,by rw[d1]; exact kF.size,by rw[d4,d3,dC]; exact kF.base,by rw[d2]; exact kF.get,by rw[d3]; exact UM,kF.av⟩
   obtain⟨s3,h3,lh,q9⟩:=aL.fC (G:=G) h2
   obtain⟨d1,d2,d3,d4,d5⟩:=aL.fP s2 (mapM dZ (ew s1.st (pinned i pins)) 0 s2.st)
   refine⟨s3,I2,fQ,h3,q9 _ _ _ _ v QD hx,(bU.same lG).trans ⟨by rw[lh.st,d3]; exact Mi,by rw[lh.base,d4]; exact e1,by rw[lh.rl,d5]; exact e2,by rw[lh.n,d1]; exact e3,eu⟩,fun y hy=>(mz y hy).1,fun y hy=>?_⟩
   rw[lh.st,d3]
   exact (mz y hy).2
 ·obtain⟨s3,h3,lh,q9⟩:=aL.fC (G:=G) h1
  refine .inr ⟨hw,s3,I,β,h3,q9 _ _ _ _ _ kp Is.undef,(bU.same lG).trans (bU.same lh),fun y hy=>?_,?_⟩
  ·obtain⟨hy,_⟩:=iz hy
   rcases hp y hy with h|⟨g,h1,_⟩
   ·exact h w
   ·exact (h1 w).2 rfl
  ·rw[lh.st,lG.st]; exact hp.bK
theorem cj.jV {P:Program} {Q:Exit->Act->World->Prop} {i:Nat}:∀ (f:Nat) (l:Array Bool) (a:Act) (S:World->Prop) (pins:List iO),cj P ops Q f l a S pins->cj P ops Q f l a S (⟨i,[],fun _=>True⟩::pins)
 | 0,_,_,_,_,h=>h
 | f+1,l,a,S,pins,h=>by
  have Ll:∀ j,bK j (⟨i,[],fun _=>True⟩::pins)=⟨i,[],fun _=>True⟩::bK j pins:=fun j=>by
   unfold bK; rw[List.filter_cons,if_pos (by simp)]
  refine⟨h.1,fun j hj o ho=>?_⟩
  obtain⟨h0,h1⟩:=h.2 j hj o ho
  rw[Ll]
  refine⟨fun hl=>?_,fun hl w hw=>iy (fun v w' ⟨S',h2,h3,h4⟩=>⟨S',fun p hp=>?_,h3,cj.jV f _ _ _ _ h4⟩) (h1 hl w hw)⟩
  ·obtain⟨v,hy,hn⟩:=h0 hl
   exact⟨v,hy,cj.jV f _ _ _ _ hn⟩
  ·rcases List.mem_cons.1 hp with rfl|hp
   ·exact fun _ _=>trivial
   ·exact h2 p hp
theorem q_ {P:Program} {K:Value->World->Prop} {r:Result Next} (h:Ev.lD P K r):∃ v w,K v w:=by
 cases r with
 | ok n w =>
  cases n<;>simp only[Ev.lD] at h
  case value u=>exact⟨_,_,h⟩
  case skip=>exact⟨_,_,h⟩
  case enter f args =>
   obtain⟨e,w',fr,⟨u,_,hu⟩,_⟩:=h []
   exact⟨_,_,hu⟩
 | halt x w=>exact h.elim
theorem gW {P:Program} {o:Oper} {K:Value->World->Prop} (h:Ev.lE P ops o a w K):∃ v w',K v w':=by
 rcases h with ⟨_,h⟩|⟨_,h⟩
 ·exact q_ h
 ·exact⟨_,_,h⟩
theorem cj.ends {P:Program} {Q:Exit->Act->World->Prop}:∀ (f:Nat) (l:Array Bool) (a:Act) (S:World->Prop) (pins:List iO) (w:World),cj P ops Q f l a S pins->S w->∃ a' w',Q .normal a' w'
 | 0,l,a,S,_,w,h,hw=>⟨a,w,h.2 w hw⟩
 | f+1,l,a,S,pins,w,h,hw=>by
  cases hr:Region.ready .any ops l with
  | nil=>exact⟨a,w,h.1 hr w hw⟩
  | cons i r =>
   have hi:i∈Region.ready .any ops l:=by rw[hr]; exact List.mem_cons_self
   obtain⟨o,ho⟩:=Ev.qI hi
   obtain⟨h0,h1⟩:=h.2 i hi o ho
   cases he:bu o.op with
   | false =>
    obtain⟨v,_,hn⟩:=h0 he
    exact cj.ends f _ _ S _ w hn hw
   | true =>
    obtain⟨v,w',S',_,ya,hn⟩:=gW (h1 he w hw)
    exact cj.ends f _ _ S' _ w' hn ya
theorem FQ {listed:Array Bool} {i:Nat} {D:List Nat} (h:Lm ops.toList listed i D=true):∀ j∈D,listed.getD j false=false/\∃ oj,ops[j]?=some oj/\∃ e∈oj.after,Region.binds .any e=true/\(e.on=i\/e.on∈D):=by
 intro j hj
 unfold Lm at h
 rw[List.all_eq_true] at h
 have:=h j hj
 simp only[Bool.and_eq_true,Bool.not_eq_true'] at this
 refine⟨this.1,?_⟩
 have h2:=this.2
 cases ho:ops.toList[j]? with
 | none=>rw[ho] at h2; cases h2
 | some oj =>
  rw[ho] at h2
  simp only[List.any_eq_true,Bool.and_eq_true,Bool.or_eq_true] at h2
  obtain⟨e,he,hb,h3⟩:=h2
  exact⟨oj,by simpa using ho,e,by simpa using he,hb,h3.imp Nat.eq_of_beq_eq_true ck.1⟩
end
mutual
inductive aI where
 | done
 | pure (i:Nat) (r:aI)
 | load (i:Nat) (D:List Nat) (r:aI)
 | bu (i:Nat) (r:aI) (more:fR)
inductive fR where
 | nil
 | cons (j:Nat) (r:aI) (more:fR)
 | alt (j:Nat) (r:aI) (more:fR)
 | sub (j:Nat) (r:aI) (more:fR)
end
def EF:List Nat->List Nat->Bool
 | [],[]=>true
 | a::l,b::m=>Nat.beq a b && EF l m
 | _,_=>false
def lj (ops:Array Oper) (i:Nat):Bool:=match ops[i]? with
 | some o=>bu o.op
 | none=>false
def gl (nN:Nat->aI->Bool):List Nat->fR->Bool
 | [],.nil=>true
 | j::l,.cons k r ms=>Nat.beq j k && nN j r && gl nN l ms
 | j::l,.alt k r ms=>Nat.beq j k && nN j r && gl nN l ms
 | j::l,.sub k r ms=>Nat.beq j k && nN j r && gl nN l ms
 | _,_=>false
def vc (ops:Array Oper):Nat->Array Bool->aI->Bool
 | _,listed,.done=>(Region.ready .any ops listed).isEmpty
 | 0,_,_=>false
 | fuel+1,listed,.pure i r=>(match Ev.px (jS ops listed) (Region.ready .any ops listed) with
  | some k=>Nat.beq k i && vc ops fuel (listed.setIfInBounds i true) r
  | none=>false)
 | fuel+1,listed,.load i D r=>(match Ev.px (jT ops listed) (Region.ready .any ops listed) with
  | some k=>Nat.beq k i && EF D (tK listed i ops.toList 0 []) && Lm ops.toList listed i D && vc ops fuel (listed.setIfInBounds i true) r
  | none=>false)
 | fuel+1,listed,.bu i r ms=>(match Region.ready .any ops listed with
  | i0::more=>Nat.beq i0 i && lj ops i && more.all (lj ops) && vc ops fuel (listed.setIfInBounds i true) r && gl (fun j r=>vc ops fuel (listed.setIfInBounds j true) r) more ms
  | []=>false)
def gX (nN:Nat->aI->Prop):List Nat->fR->Prop
 | [],.nil=>True
 | j::l,.cons k r ms=>j=k/\nN j r/\gX nN l ms
 | j::l,.alt k r ms=>j=k/\nN j r/\gX nN l ms
 | j::l,.sub k r ms=>j=k/\nN j r/\gX nN l ms
 | _,_=>False
def fo (ops:Array Oper):Nat->Array Bool->aI->Prop
 | _,listed,.done=>Region.ready .any ops listed = []
 | 0,_,_=>False
 | fuel+1,listed,.pure i r=>i∈Region.ready .any ops listed/\jS ops listed i=true/\fo ops fuel (listed.setIfInBounds i true) r
 | fuel+1,listed,.load i D r=>i∈Region.ready .any ops listed/\jT ops listed i=true/\Lm ops.toList listed i D=true/\fo ops fuel (listed.setIfInBounds i true) r
 | fuel+1,listed,.bu i r ms=>(match Region.ready .any ops listed with
  | i0::more=>i0=i/\lj ops i=true/\(∀ j∈more,lj ops j=true)/\fo ops fuel (listed.setIfInBounds i true) r/\gX (fun j r=>fo ops fuel (listed.setIfInBounds j true) r) more ms
  | []=>False)
def Sub (G:Gx) (s s':aL):Prop:=∀ I β a w,Rel G I β s a w->∃ I' aG,Rel G I' aG s' a w/\bU I β s w I' aG s' w
mutual
def bn (G:Gx) (ops:List Oper):aI->aL->List nV->(aL->Prop)->Prop
 | .done,s,_,K=>K s
 | .pure i r,s,pins,K=>aP ops[i]? fun o=>kv ops s o (fun s=>lb G.cx s o.op fun v=>s.put o.dst v fun s=>bn G ops r s pins K) (fun s=>s.put o.dst (.tup []) fun s=>bn G ops r s pins K)
 | .load i D r,s,pins,K=>aP ops[i]? fun o=>kv ops s o (fun s=>match o.op with
   | .load t ad=>s.ev ad fun x=>ow G s.st t x fun v=>s.put o.dst v fun s=>bn G ops r s (pO D x pins) K
   | _=>False) (fun s=>s.put o.dst (.tup []) fun s=>bn G ops r s pins K)
 | .bu i r ms,s,pins,K=>aP ops[i]? fun o=>match ms with
  | .nil=>dA G ops s i o pins fun s1=>bn G ops r s1 (bY i pins) K
  | .cons j r' Mj=>dA G ops s i o pins fun s1=>bn G ops r s1 (bY i pins) fun sf=>K sf/\(aP ops[j]? fun o=>dA G ops s j o pins fun s2=>bn G ops r' s2 (bY j pins) fun rb=>rb=sf)/\cM G ops Mj s pins sf
  | .sub j r' Mj=>dA G ops s i o pins fun s1=>bn G ops r s1 (bY i pins) fun sf=>∃ wz,Sub G sf wz/\K wz/\(aP ops[j]? fun o=>dA G ops s j o pins fun s2=>bn G ops r' s2 (bY j pins) fun rb=>Sub G rb wz)/\dD G ops Mj s pins wz
  | .alt j r' Mj=>(dA G ops s i o pins fun s1=>bn G ops r s1 (bY i pins) K)/\(aP ops[j]? fun o=>dA G ops s j o pins fun s2=>bn G ops r' s2 (bY j pins) K)/\fp G ops Mj s pins K
def cM (G:Gx) (ops:List Oper):fR->aL->List nV->aL->Prop
 | .nil,_,_,_=>True
 | .cons j r ms,s,pins,sf=>(aP ops[j]? fun o=>dA G ops s j o pins fun s2=>bn G ops r s2 (bY j pins) fun rb=>rb=sf)/\cM G ops ms s pins sf
 | .alt _ _ _,_,_,_=>False
 | .sub _ _ _,_,_,_=>False
def dD (G:Gx) (ops:List Oper):fR->aL->List nV->aL->Prop
 | .nil,_,_,_=>True
 | .sub j r ms,s,pins,sf=>(aP ops[j]? fun o=>dA G ops s j o pins fun s2=>bn G ops r s2 (bY j pins) fun rb=>Sub G rb sf)/\dD G ops ms s pins sf
 | .cons _ _ _,_,_,_=>False
 | .alt _ _ _,_,_,_=>False
def fp (G:Gx) (ops:List Oper):fR->aL->List nV->(aL->Prop)->Prop
 | .nil,_,_,_=>True
 | .alt j r ms,s,pins,K=>(aP ops[j]? fun o=>dA G ops s j o pins fun s2=>bn G ops r s2 (bY j pins) K)/\fp G ops ms s pins K
 | .cons _ _ _,_,_,_=>False
 | .sub _ _ _,_,_,_=>False
end
section
variable {w w':World} {I I':Nat->Prop} {β aG:au} {G:Gx} {s:aL} {a:Act} {st cA:List aj} {ops:Array Oper}
theorem mE {nN:Nat->aI->Prop}:∀ {l:List Nat} {ms:fR},gX nN l ms->∀ {pins:List nV} {sf:aL},cM G ops.toList ms s pins sf->∀ j∈l,∃ r,nN j r/\aP ops.toList[j]? fun o=>dA G ops.toList s j o pins fun s2=>bn G ops.toList r s2 (bY j pins) fun rb=>rb=sf
 | [],_,_,_,_,_,_,hj=>by cases hj
 | i::l,.nil,h,_,_,_,_,_=>False.elim h
 | i::l,.alt k r ms,h,pins,sf,hr,j,hj=>by unfold cM at hr; exact hr.elim
 | i::l,.sub k r ms,h,pins,sf,hr,j,hj=>by unfold cM at hr; exact hr.elim
 | i::l,.cons k r ms,h,pins,sf,hr,j,hj=>by
  obtain⟨rfl,h2,h3⟩:=h
  unfold cM at hr
  rcases List.mem_cons.1 hj with rfl|hj
  ·exact⟨r,h2,hr.1⟩
  ·exact mE h3 hr.2 j hj
theorem ll {nN:Nat->aI->Prop}:∀ {l:List Nat} {ms:fR},gX nN l ms->∀ {pins:List nV} {K:aL->Prop},fp G ops.toList ms s pins K->∀ j∈l,∃ r,nN j r/\aP ops.toList[j]? fun o=>dA G ops.toList s j o pins fun s2=>bn G ops.toList r s2 (bY j pins) K
 | [],_,_,_,_,_,_,hj=>by cases hj
 | i::l,.nil,h,_,_,_,_,_=>False.elim h
 | i::l,.cons k r ms,h,pins,K,hr,j,hj=>by unfold fp at hr; exact hr.elim
 | i::l,.sub k r ms,h,pins,K,hr,j,hj=>by unfold fp at hr; exact hr.elim
 | i::l,.alt k r ms,h,pins,K,hr,j,hj=>by
  obtain⟨rfl,h2,h3⟩:=h
  unfold fp at hr
  rcases List.mem_cons.1 hj with rfl|hj
  ·exact⟨r,h2,hr.1⟩
  ·exact ll h3 hr.2 j hj
theorem ln {nN:Nat->aI->Prop}:∀ {l:List Nat} {ms:fR},gX nN l ms->∀ {pins:List nV} {sf:aL},dD G ops.toList ms s pins sf->∀ j∈l,∃ r,nN j r/\aP ops.toList[j]? fun o=>dA G ops.toList s j o pins fun s2=>bn G ops.toList r s2 (bY j pins) fun rb=>Sub G rb sf
 | [],_,_,_,_,_,_,hj=>by cases hj
 | i::l,.nil,h,_,_,_,_,_=>False.elim h
 | i::l,.cons k r ms,h,pins,sf,hr,j,hj=>by unfold dD at hr; exact hr.elim
 | i::l,.alt k r ms,h,pins,sf,hr,j,hj=>by unfold dD at hr; exact hr.elim
 | i::l,.sub k r ms,h,pins,sf,hr,j,hj=>by
  obtain⟨rfl,h2,h3⟩:=h
  unfold dD at hr
  rcases List.mem_cons.1 hj with rfl|hj
  ·exact⟨r,h2,hr.1⟩
  ·exact ln h3 hr.2 j hj
theorem jW {i:Nat} {o:Oper} (ho:ops[i]?=some o) (h:lj ops i=true):bu o.op=true:=by unfold lj at h; rw[ho] at h; exact h
theorem tL (hG:lX G) (tJ:Region.noSelect ops=true):∀ (fuel:Nat) (p:aI) (Q:Exit->Act->World->Prop) (l:Array Bool) (s:aL) (a:Act) (I:Nat->Prop) (β:au) (w:World) (pins:List nV) (ys:List iO) (K:aL->Prop),
  fo ops fuel l p->bn G ops.toList p s pins K->Rel G I β s a w->kH pins ys I β s.st w->(∀ s' I' aG a' w',K s'->Rel G I' aG s' a' w'->bU I β s w I' aG s' w'->Q .normal a' w')->cj G.cx.P ops Q fuel l a (fun w2=>w2=w) ys:=by
 intro fuel
 have fin:∀ (fuel:Nat) (Q:Exit->Act->World->Prop) (l:Array Bool) (s:aL) (a:Act) (I:Nat->Prop) (β:au) (w:World) (ys:List iO) (K:aL->Prop),Region.ready .any ops l = []->K s->Rel G I β s a w->(∀ s' I' aG a' w',K s'->Rel G I' aG s' a' w'->bU I β s w I' aG s' w'->Q .normal a' w')->cj G.cx.P ops Q fuel l a (fun w2=>w2=w) ys:=by
  intro fuel Q l s a I β w ys K hr h hR hQ
  have qw:Region.ready .any ops l = []:=hr
  cases fuel with
  | zero=>exact⟨qw,fun w2 hw=>by subst hw; exact hQ s I β a w2 h hR (bU.same ⟨rfl,rfl,rfl,rfl⟩)⟩
  | succ fuel=>exact⟨fun _ w2 hw=>by subst hw; exact hQ s I β a w2 h hR (bU.same ⟨rfl,rfl,rfl,rfl⟩),fun i hi=>by rw[qw] at hi; cases hi⟩
 induction fuel with
 | zero =>
  intro p Q l s a I β w pins ys K hp h hR _ hQ
  cases p with
  | done=>exact fin 0 Q l s a I β w ys K (by simpa only [fo] using hp) (by simpa only [bn] using h) hR hQ
  | pure=>exact hp.elim
  | load=>exact hp.elim
  | bu=>exact hp.elim
 | succ fuel ih =>
  intro p Q l s a I β w pins ys K hp h hR BL hQ
  cases p with
  | done=>exact fin (fuel+1) Q l s a I β w ys K (by simpa only [fo] using hp) (by simpa only [bn] using h) hR hQ
  | pure i r =>
   simp only[fo] at hp
   ·obtain⟨gj,eN,hp⟩:=hp
    unfold bn at h
    replace h:=an h
    obtain⟨o,ho,h⟩:=h
    rw[Array.getElem?_toList] at ho
    unfold jS at eN
    rw[ho] at eN
    simp only[Bool.and_eq_true] at eN
    have he:bu o.op=false:=by unfold bu; rw[eN.1]; rfl
    rcases ix hR h with ⟨eO,s1,h1,lG,kp⟩|⟨eO,s1,h1,lG,kp⟩
    ·obtain⟨x,v,h1,hx,bm⟩:=qO hG.ok kp h1
     obtain⟨s3,h3,lh,q9⟩:=aL.fC (G:=G) h1
     refine cj.first (v:=v) (D:=[]) (Y:=fun _=>True) ho he tJ fuel l a _ ys (Region.free_spec ho eN.2) (fun j hj=>by cases hj) (.inl ⟨eO,fun w2 _=>bm w2⟩) (fun _ _=>trivial) gj (cj.jV _ _ _ _ _ ?_)
     exact ih r Q _ s3 _ I β w pins ys K hp h3 (q9 _ _ _ _ _ kp hx) (by rw[lh.st,lG.st]; exact BL) (fun s' I' aG a' w' hk cS hg=>hQ s' I' aG a' w' hk cS (((bU.same lG).trans (bU.same lh)).trans hg))
    ·obtain⟨s3,h3,lh,q9⟩:=aL.fC (G:=G) h1
     refine cj.first (v:=undef) (D:=[]) (Y:=fun _=>True) ho he tJ fuel l a _ ys (Region.free_spec ho eN.2) (fun j hj=>by cases hj) (.inr ⟨eO,rfl⟩) (fun _ _=>trivial) gj (cj.jV _ _ _ _ _ ?_)
     exact ih r Q _ s3 _ I β w pins ys K hp h3 (q9 _ _ _ _ _ kp Is.undef) (by rw[lh.st,lG.st]; exact BL) (fun s' I' aG a' w' hk cS hg=>hQ s' I' aG a' w' hk cS (((bU.same lG).trans (bU.same lh)).trans hg))
  | load i D r =>
   simp only[fo] at hp
   ·obtain⟨gj,eN,hD,hp⟩:=hp
    unfold bn at h
    replace h:=an h
    obtain⟨o,ho,h⟩:=h
    rw[Array.getElem?_toList] at ho
    unfold jT at eN
    rw[ho] at eN
    simp only[Bool.and_eq_true] at eN
    have he:bu o.op=false:=by unfold bu; rw[eN.1,Bool.or_true]; rfl
    rcases ix hR h with ⟨eO,s1,h1,lG,kp⟩|⟨eO,s1,h1,lG,kp⟩
    ·split at h1
     ·rename_i t ad pM
      replace h1:=aL.bw kp h1
      obtain⟨x,h1,hx⟩:=h1
      obtain⟨z,v,g,h1,hz,hg,bm⟩:=mu hG.ok kp.heap kp.av h1 hx
      obtain⟨s3,h3,lh,q9⟩:=aL.fC (G:=G) h1
      have Ml:∀ w2:World,w2.heap[g]?=w.heap[g]?->(execOp a.eval o).run G.cx.P w2 = .ok (.value v) w2:=fun w2 pK=>by
       unfold execOp
       rw[pM]
       simp only[Sem.run_bind,bm w2 pK,Result.andThen_ok,Sem.run_pure]
      have y4:g < w.heap.size:=by
       rcases hg with hg|⟨l',b,p,o',_,hb,ax,mq,FP⟩
       ·exact hR.av.av g hg
       ·exact kp.heap.ch ⟨l',b,p,o',hb,ax,mq,FP⟩
      refine cj.first (v:=v) (D:=D) (Y:=fun w2=>w2.heap[g]?=w.heap[g]?) ho he tJ fuel l a _ ys (Region.free_spec ho eN.2) (FQ hD) (.inl ⟨eO,Ml⟩) (fun w2 pK=>by rw[pK]) gj ?_
      refine ih r Q _ s3 _ I β w (pO D x pins) _ K hp h3 (q9 _ _ _ _ _ kp hz) ?_ (fun s' I' aG a' w' hk cS hg=>hQ s' I' aG a' w' hk cS (((bU.same lG).trans (bU.same lh)).trans hg))
      rw[lh.st,lG.st]
      intro y hy
      rcases List.mem_cons.1 hy with rfl|hy
      ·refine .inr ⟨g,fun _=>Iff.rfl,y4,?_⟩
       rcases hg with hg|⟨l',b,p,o',jO,hb,ax,mq,FP⟩
       ·exact .inl hg
       ·refine .inr ⟨⟨D,l'⟩,by unfold pO; rw[jO]; exact List.mem_cons_self,rfl,b,p,o',by rw[← lG.st]; exact hb,ax,mq,FP⟩
      ·rcases BL y hy with h|⟨g',k1,k2,k3⟩
       ·exact .inl h
       ·refine .inr ⟨g',k1,k2,k3.imp id fun ⟨p,yb,k4⟩=>⟨p,?_,k4⟩⟩
        unfold pO
        split
        ·exact List.mem_cons_of_mem _ yb
        ·exact yb
     ·exact h1.elim
    ·obtain⟨s3,h3,lh,q9⟩:=aL.fC (G:=G) h1
     refine cj.first (v:=undef) (D:=[]) (Y:=fun _=>True) ho he tJ fuel l a _ ys (Region.free_spec ho eN.2) (fun j hj=>by cases hj) (.inr ⟨eO,rfl⟩) (fun _ _=>trivial) gj (cj.jV _ _ _ _ _ ?_)
     exact ih r Q _ s3 _ I β w pins ys K hp h3 (q9 _ _ _ _ _ kp Is.undef) (by rw[lh.st,lG.st]; exact BL) (fun s' I' aG a' w' hk cS hg=>hQ s' I' aG a' w' hk cS (((bU.same lG).trans (bU.same lh)).trans hg))
  | bu i r ms =>
   simp only[fo] at hp
   split at hp
   ·rename_i i0 more re
    obtain⟨rfl,UP,QE,Lo,yb⟩:=hp
    unfold bn at h
    replace h:=an h
    obtain⟨o,ho,h⟩:=h
    rw[Array.getElem?_toList] at ho
    have he:=jW ho UP
    have bR:Region.ready .any ops l≠[]:=by rw[re]; simp
    
    have go:∀ {j:Nat} {oj:Oper} {rj:aI} {K':aL->Prop},fo ops fuel (l.setIfInBounds j true) rj->ops[j]?=some oj->bu oj.op=true->(dA G ops.toList s j oj pins fun s1=>bn G ops.toList rj s1 (bY j pins) K')->(∀ sf,K' sf->K sf) ->
      (bu oj.op=false->∃ v,Yields G.cx.P ops (fun w2=>w2=w) oj v a/\cj G.cx.P ops Q fuel (l.setIfInBounds j true) (a.put oj.dst v) (fun w2=>w2=w) (bK j ys)) /\
      (bu oj.op=true->∀ w2,w2=w->Ev.lE G.cx.P ops oj a w2 fun v w'=>∃ S':World->Prop,(∀ p∈bK j ys,∀ w,S' w->p.Y w)/\S' w'/\cj G.cx.P ops Q fuel (l.setIfInBounds j true) (a.put oj.dst v) S' (bK j ys)):=by
     intro j oj rj K' QF iP QG h' hK
     refine⟨(fun e=>by rw[QG] at e; cases e),fun _ w2 pK=>?_⟩
     subst pK
     refine iy ?_ (jU hG h' hR BL)
     rintro v w' ⟨s',I',aG,hk,cS,hg,hY,cE⟩
     refine⟨fun w2=>w2=w',fun p hp w2 pK=>by rw[pK]; exact hY p hp,rfl,?_⟩
     exact ih rj Q _ s' _ I' aG w' _ _ K' QF hk cS cE fun s2 I2 fQ a2 w3 l4 kF Cm=>hQ s2 I2 fQ a2 w3 (hK s2 l4) kF (hg.trans Cm)
    have S4:∀ {j:Nat} {oj:Oper} {rj:aI} {K':aL->Prop},fo ops fuel (l.setIfInBounds j true) rj->ops[j]?=some oj->bu oj.op=true->(dA G ops.toList s j oj pins fun s1=>bn G ops.toList rj s1 (bY j pins) K')->(∀ sf,K' sf->∃ wz,Sub G sf wz/\K wz) ->
      (bu oj.op=false->∃ v,Yields G.cx.P ops (fun w2=>w2=w) oj v a/\cj G.cx.P ops Q fuel (l.setIfInBounds j true) (a.put oj.dst v) (fun w2=>w2=w) (bK j ys)) /\
      (bu oj.op=true->∀ w2,w2=w->Ev.lE G.cx.P ops oj a w2 fun v w'=>∃ S':World->Prop,(∀ p∈bK j ys,∀ w,S' w->p.Y w)/\S' w'/\cj G.cx.P ops Q fuel (l.setIfInBounds j true) (a.put oj.dst v) S' (bK j ys)):=by
     intro j oj rj K' QF iP QG h' hK
     refine⟨(fun e=>by rw[QG] at e; cases e),fun _ w2 pK=>?_⟩
     subst pK
     refine iy ?_ (jU hG h' hR BL)
     rintro v w' ⟨s',I',aG,hk,cS,hg,hY,cE⟩
     refine⟨fun w2=>w2=w',fun p hp w2 pK=>by rw[pK]; exact hY p hp,rfl,?_⟩
     exact ih rj Q _ s' _ I' aG w' _ _ K' QF hk cS cE fun s2 I2 fQ a2 w3 l4 kF Cm=>by
      obtain⟨wz,hs,EG⟩:=hK s2 l4
      obtain⟨I3,UQ,QD,UR⟩:=hs I2 fQ a2 w3 kF
      exact hQ wz I3 UQ a2 w3 EG QD ((hg.trans Cm).trans UR)
    cases ms with
    | nil =>
     cases more with
     | cons=>exact yb.elim
     | nil =>
      refine⟨fun e=>absurd e bR,fun j hj oj iP=>?_⟩
      rw[re,List.mem_singleton] at hj
      subst hj
      rw[ho] at iP
      cases iP
      exact go Lo ho he h fun _ hk=>hk
    | cons j0 r0 y9 =>
     have cr:∀ sf,((aP ops.toList[j0]? fun o=>dA G ops.toList s j0 o pins fun s2=>bn G ops.toList r0 s2 (bY j0 pins) fun rb=>rb=sf)/\cM G ops.toList y9 s pins sf)->cM G ops.toList (.cons j0 r0 y9) s pins sf:=fun sf h=>by unfold cM; exact h
     
     obtain⟨sf,QH,jX⟩:∃ sf,K sf/\cM G ops.toList (.cons j0 r0 y9) s pins sf:=by
      obtain⟨v,w',s',I',aG,hk,cS,hg,hY,cE⟩:=gW (jU hG h hR BL)
      have hA:=ih r (fun _ _ _=>∃ sf,K sf/\cM G ops.toList (.cons j0 r0 y9) s pins sf) _ s' (a.put o.dst v) I' aG w' _ _ _ Lo hk cS cE fun s2 I2 fQ a2 w3 l4 _ _=>⟨s2,l4.1,cr _ l4.2⟩
      obtain⟨_,_,h3⟩:=cj.ends _ _ _ _ _ w' hA rfl
      exact h3
     refine⟨fun e=>absurd e bR,fun j hj oj iP=>?_⟩
     rw[re] at hj
     rcases List.mem_cons.1 hj with rfl|hj
     ·rw[ho] at iP
      cases iP
      exact go Lo ho he h fun _ hk=>hk.1
     ·obtain⟨rj,Mm,h2⟩:=mE yb jX j hj
      replace h2:=an h2
      obtain⟨Qu,mB,h2⟩:=h2
      rw[Array.getElem?_toList,iP] at mB
      cases mB
      exact go Mm iP (jW iP (QE j hj)) h2 fun rb e=>by rw[e]; exact QH
    | sub j0 r0 y9 =>
     have cr:∀ sf,((aP ops.toList[j0]? fun o=>dA G ops.toList s j0 o pins fun s2=>bn G ops.toList r0 s2 (bY j0 pins) fun rb=>Sub G rb sf)/\dD G ops.toList y9 s pins sf)->dD G ops.toList (.sub j0 r0 y9) s pins sf:=fun sf h=>by unfold dD; exact h
     obtain⟨sf,QH,jX⟩:∃ sf,K sf/\dD G ops.toList (.sub j0 r0 y9) s pins sf:=by
      obtain⟨v,w',s',I',aG,hk,cS,hg,hY,cE⟩:=gW (jU hG h hR BL)
      have hA:=ih r (fun _ _ _=>∃ sf,K sf/\dD G ops.toList (.sub j0 r0 y9) s pins sf) _ s' (a.put o.dst v) I' aG w' _ _ _ Lo hk cS cE fun s2 I2 fQ a2 w3 l4 _ _=>let ⟨wz,_,h2,h3⟩:=l4; ⟨wz,h2,cr _ h3⟩
      obtain⟨_,_,h3⟩:=cj.ends _ _ _ _ _ w' hA rfl
      exact h3
     refine⟨fun e=>absurd e bR,fun j hj oj iP=>?_⟩
     rw[re] at hj
     rcases List.mem_cons.1 hj with rfl|hj
     ·rw[ho] at iP
      cases iP
      exact S4 Lo ho he h fun _ hk=>let ⟨wz,h1,h2,_⟩:=hk; ⟨wz,h1,h2⟩
     ·obtain⟨rj,Mm,h2⟩:=ln yb jX j hj
      replace h2:=an h2
      obtain⟨Qu,mB,h2⟩:=h2
      rw[Array.getElem?_toList,iP] at mB
      cases mB
      exact S4 Mm iP (jW iP (QE j hj)) h2 fun rb e=>⟨sf,e,QH⟩
    | alt j0 r0 y9 =>
     obtain⟨h,jX⟩:=h
     have cr:fp G ops.toList (.alt j0 r0 y9) s pins K:=by unfold fp; exact jX
     refine⟨fun e=>absurd e bR,fun j hj oj iP=>?_⟩
     rw[re] at hj
     rcases List.mem_cons.1 hj with rfl|hj
     ·rw[ho] at iP
      cases iP
      exact go Lo ho he h fun _ hk=>hk
     ·obtain⟨rj,Mm,h2⟩:=ll yb cr j hj
      replace h2:=an h2
      obtain⟨Qu,mB,h2⟩:=h2
      rw[Array.getElem?_toList,iP] at mB
      cases mB
      exact go Mm iP (jW iP (QE j hj)) h2 fun _ hk=>hk
   ·cases hp
end
def tb (m i:Nat):Bool:=Nat.beq (Nat.land (Nat.shiftRight m i) 1) 1
theorem rf (m i:Nat):tb m i=m.testBit i:=by
 unfold tb
 have h:Nat.land (Nat.shiftRight m i) 1=(m >>> i) % 2:=Nat.and_one_is_mod _
 rw[h,Nat.testBit,Nat.and_comm,Nat.and_one_is_mod]
 rcases Nat.mod_two_eq_zero_or_one (m >>> i) with e|e<;>rw[e]<;>rfl
def jY (i:Nat):Nat:=Nat.shiftLeft 1 i
theorem jZ (i k:Nat):(jY i).testBit k=decide (i=k):=by
 have h:jY i=2 ^ i:=by show 1 <<< i=_; rw[Nat.one_shiftLeft]
 rw[h,Nat.testBit_two_pow]
theorem mF (a b k:Nat):(Nat.lor a b).testBit k=(a.testBit k || b.testBit k):=Nat.testBit_or a b k
def kI {α:Type}:Nat->(Nat->α)->α
 | 0,k=>k 0
 | n+1,k=>k (n+1)
theorem gm {α:Type} (n:Nat) (k:Nat->α):kI n k=k n:=by cases n<;>rfl
structure mG where
 w:Nat
 d:Nat
 l:Nat
 k:Nat
def eP:List Edge->Nat
 | []=>0
 | e::r=>bif Region.binds .any e then Nat.lor (eP r) (jY e.on) else eP r
def rh:List Nat->Nat
 | []=>0
 | d::r=>Nat.lor (rh r) (jY (d+1))
def Cn:Option Nat->Nat
 | some d=>d+1
 | none=>0
def j1 (o:Oper):Nat:=bif Ev.jf o.op then 0 else bif jq o.op then 1 else 2
def rowOf (ops:Array Oper) (o:Oper):mG:=⟨eP o.after.toList,Cn o.dst,rh (o.looksAt ops),j1 o⟩
def vd (ops:Array Oper):List Oper->(List mG->Bool)->Bool
 | [],k=>k []
 | o::r,k=>kI (eP o.after.toList) fun w=>kI (Cn o.dst) fun d=>kI (rh (o.looksAt ops)) fun l=>kI (j1 o) fun q=>vd ops r fun rs=>k (⟨w,d,l,q⟩::rs)
theorem ri (ops:Array Oper):∀ (l:List Oper) (k:List mG->Bool),vd ops l k=k (l.map (rowOf ops))
 | [],_=>rfl
 | o::r,k=>by
  simp only[vd,gm,ri ops r]
  rfl
def gY:List mG->Nat->Nat->List Nat
 | [],_,_=>[]
 | x::r,j,m=>bif !tb m j && Nat.beq (Nat.land x.w m) x.w then j::kI (j+1) fun j=>gY r j m else kI (j+1) fun j=>gY r j m
def tM (x y:mG):Bool:=!tb y.l x.d && (Nat.beq x.d 0 || !Nat.beq x.d y.d) && !tb x.l y.d
def rk (i:Nat) (x:mG) (m:Nat):List mG->Nat->Bool
 | [],_=>true
 | y::r,j=>(Nat.beq j i || tb m j || tb y.w i || tM x y) && kI (j+1) fun j=>rk i x m r j
def ve (T:List mG) (q i m:Nat):Bool:=match T[i]? with
 | some x=>Nat.beq x.k q && !tb m i && Nat.beq (Nat.land x.w m) x.w && rk i x m T 0
 | none=>false
def mH:List Nat->Nat
 | []=>0
 | j::r=>Nat.lor (mH r) (jY j)
def QI (T:List mG) (m i:Nat) (D:List Nat):Bool:=kI (Nat.lor (jY i) (mH D)) fun z=>D.all fun j=>!tb m j && (match T[j]? with
  | some y=>!Nat.beq (Nat.land y.w z) 0
  | none=>false)
def Co (T:List mG) (i:Nat):Bool:=match T[i]? with
 | some x=>Nat.beq x.k 2
 | none=>false
def j3 (T:List mG):Nat->Nat->aI->Bool
 | _,m,.done=>(gY T 0 m).isEmpty
 | 0,_,_=>false
 | fuel+1,m,.pure i r=>ve T 0 i m && kI (Nat.lor m (jY i)) fun m=>j3 T fuel m r
 | fuel+1,m,.load i D r=>ve T 1 i m && QI T m i D && kI (Nat.lor m (jY i)) fun m=>j3 T fuel m r
 | fuel+1,m,.bu i r ms=>(match gY T 0 m with
  | i0::more=>Nat.beq i0 i && Co T i && more.all (Co T) && (kI (Nat.lor m (jY i)) fun m=>j3 T fuel m r) && gl (fun j r=>kI (Nat.lor m (jY j)) fun m=>j3 T fuel m r) more ms
  | []=>false)
theorem j4 (k:Nat):∀ l:List Edge,(eP l).testBit k=l.any fun e=>Region.binds .any e && decide (e.on=k)
 | []=>Nat.zero_testBit k
 | e::r=>by
  rw[List.any_cons,← j4 k r,eP]
  cases h:Region.binds .any e with
  | true=>rw[cond_true,mF,jZ,Bool.true_and,Bool.or_comm]
  | false=>rw[cond_false,Bool.false_and,Bool.false_or]
theorem rp (k:Nat):∀ l:List Nat,(rh l).testBit k=l.any fun d=>decide (d+1=k)
 | []=>Nat.zero_testBit k
 | d::r=>by rw[List.any_cons,← rp k r,rh,mF,jZ,Bool.or_comm]
theorem rq (k:Nat):∀ l:List Nat,(mH l).testBit k=l.any fun d=>decide (d=k)
 | []=>Nat.zero_testBit k
 | d::r=>by rw[List.any_cons,← rq k r,mH,mF,jZ,Bool.or_comm]
theorem FR (a m:Nat):Nat.beq (Nat.land a m) a=true↔∀ k,a.testBit k=true->m.testBit k=true:=by
 rw[Nat.beq_eq]
 refine⟨fun h k hk=>?_,fun h=>Nat.eq_of_testBit_eq fun k=>?_⟩
 ·have:(Nat.land a m).testBit k=true:=by rw[h]; exact hk
  have e:(Nat.land a m).testBit k=(a.testBit k && m.testBit k):=Nat.testBit_and a m k
  rw[e,hk,Bool.true_and] at this
  exact this
 ·have e:(Nat.land a m).testBit k=(a.testBit k && m.testBit k):=Nat.testBit_and a m k
  rw[e]
  cases ha:a.testBit k with
  | false=>rfl
  | true=>rw[h k ha]; rfl
theorem y_ (l:List Edge) (m:Nat):Nat.beq (Nat.land (eP l) m) (eP l)=l.all fun e=>!Region.binds .any e || m.testBit e.on:=by
 rw[Bool.eq_iff_iff,FR,List.all_eq_true]
 simp only[j4,List.any_eq_true,Bool.and_eq_true,decide_eq_true_eq,Bool.or_eq_true,Bool.not_eq_true']
 refine⟨fun h e he=>?_,fun h k ⟨e,he,hb,hk⟩=>?_⟩
 ·cases hb:Region.binds .any e with
  | false=>exact .inl rfl
  | true=>exact .inr (h e.on ⟨e,he,hb,rfl⟩)
 ·rcases h e he with h|h
  ·rw[h] at hb; cases hb
  ·rw[← hk]; exact h
structure Mk (ops:Array Oper) (l:Array Bool) (m:Nat):Prop where
 size:l.size=ops.size
 is:∀ j,l.getD j false=m.testBit j
theorem Mk.lt {ops:Array Oper} {l:Array Bool} {m:Nat} (h:Mk ops l m) {j:Nat} (hj:j < ops.size) (d:Bool):l.getD j d=m.testBit j:=by
 rw[← h.is]
 rw[Array.getD_eq_getD_getElem?,Array.getD_eq_getD_getElem?,Array.getElem?_eq_getElem (by rw[h.size]; exact hj)]
 rfl
theorem Mk.set {ops:Array Oper} {l:Array Bool} {m:Nat} (h:Mk ops l m) {i:Nat} (hi:i < ops.size):Mk ops (l.setIfInBounds i true) (Nat.lor m (jY i)):=by
 refine⟨by rw[Array.size_setIfInBounds,h.size],fun j=>?_⟩
 rw[mF,jZ,Array.getD_eq_getD_getElem?,Array.getElem?_setIfInBounds]
 by_cases e:i=j
 ·subst e
  rw[if_pos rfl,if_pos (by rw[h.size]; exact hi)]
  simp
 ·rw[if_neg e,← Array.getD_eq_getD_getElem?,h.is,decide_eq_false e,Bool.or_false]
theorem Mk.none (ops:Array Oper):Mk ops (Array.replicate ops.size false) 0:=by
 refine⟨Array.size_replicate ..,fun j=>?_⟩
 rw[Nat.zero_testBit,Array.getD_eq_getD_getElem?,Array.getElem?_replicate]
 split<;>rfl
section
variable {ops:Array Oper} {l:Array Bool} {m:Nat}
theorem rr (h:Mk ops l m) (o:Oper):(o.after.all fun e=>!Region.binds .any e || l.getD e.on false)=Nat.beq (Nat.land (rowOf ops o).w m) (rowOf ops o).w:=by
 show _=Nat.beq (Nat.land (eP o.after.toList) m) (eP o.after.toList)
 rw[y_,← Array.all_toList]
 congr 1
 funext e
 rw[h.is]
theorem ry (h:Mk ops l m):Region.ready .any ops l=gY (ops.toList.map (rowOf ops)) 0 m:=by
 have key:∀ (L:List Oper) (j:Nat),(∀ k,L[k]?=ops[j+k]?)->j+L.length=ops.size->gY (L.map (rowOf ops)) j m=(List.range' j L.length).filter fun i=>!l.getD i true && ((ops[i]?).map (·.after.all fun e=>!Region.binds .any e || l.getD e.on false)).getD false:=by
  intro L
  induction L with
  | nil=>intro j _ _; rfl
  | cons o r ih =>
   intro j hL hs
   have h0:ops[j]?=some o:=by rw[← Nat.add_zero j,← hL 0]; rfl
   have hj:j < ops.size:=by rw[List.length_cons] at hs; omega
   have US:=ih (j+1) (fun k=>by rw[show j+1+k=j+(k+1) by omega,← hL (k+1)]; rfl) (by rw[List.length_cons] at hs; omega)
   rw[List.map_cons,List.length_cons,List.range'_succ,gY,gm,US,List.filter_cons,h0,Option.map_some,Option.getD_some,rr h,h.lt hj,rf]
   cases (!m.testBit j && Nat.beq (Nat.land (rowOf ops o).w m) (rowOf ops o).w)<;>rfl
 unfold Region.ready
 rw[List.range_eq_range',key ops.toList 0 (fun k=>by rw[Nat.zero_add,Array.getElem?_toList]) (by rw[Nat.zero_add,Array.length_toList]),Array.length_toList]
theorem za {x y:Oper} (h:tM (rowOf ops x) (rowOf ops y)=true):x.apart ops y=true:=by
 unfold tM at h
 simp only[rowOf,rf,rp,Bool.and_eq_true,Bool.not_eq_true',List.any_eq_false,decide_eq_true_eq,Bool.or_eq_true,Nat.beq_eq] at h
 obtain⟨⟨h1,h2⟩,h3⟩:=h
 unfold Oper.apart
 rw[Bool.and_eq_true]
 constructor
 ·cases hx:x.dst with
  | none=>rfl
  | some d =>
   rw[hx] at h1 h2
   simp only[Cn] at h1 h2
   simp only[Bool.and_eq_true,Bool.not_eq_true',bne_iff_ne,ne_eq]
   refine⟨?_,fun e=>?_⟩
   ·rw[Bool.eq_false_iff]
    intro hc
    exact h1 d (List.contains_iff_mem.1 hc) rfl
   ·rw[e] at h2
    rcases h2 with h2|h2
    ·cases h2
    ·rw[Bool.eq_false_iff] at h2
     exact h2 (Nat.beq_refl _)
 ·cases hy:y.dst with
  | none=>rfl
  | some d =>
   rw[hy] at h3
   simp only[Cn] at h3
   simp only[Bool.not_eq_true']
   rw[Bool.eq_false_iff]
   intro hc
   exact h3 d (List.contains_iff_mem.1 hc) rfl
theorem Cp (h:Mk ops l m) {i:Nat} {oi:Oper} (hi:ops[i]?=some oi) (hf:rk i (rowOf ops oi) m (ops.toList.map (rowOf ops)) 0=true):Region.free .any ops l i=true:=by
 have key:∀ (L:List Oper) (j:Nat),rk i (rowOf ops oi) m (L.map (rowOf ops)) j=true->∀ (k:Nat) (o:Oper),L[k]?=some o->(j+k=i\/m.testBit (j+k)=true\/(eP o.after.toList).testBit i=true\/oi.apart ops o=true):=by
  intro L
  induction L with
  | nil=>intro j _ k o hk; cases hk
  | cons y r ih =>
   intro j hj k o hk
   rw[List.map_cons,rk,gm,Bool.and_eq_true] at hj
   cases k with
   | zero =>
    cases hk
    have h1:=hj.1
    simp only[Bool.or_eq_true,Nat.beq_eq,rf] at h1
    rcases h1 with ((h1|h1)|h1)|h1
    ·exact .inl h1
    ·exact .inr (.inl h1)
    ·exact .inr (.inr (.inl h1))
    ·exact .inr (.inr (.inr (za h1)))
   | succ k =>
    have:=ih (j+1) hj.2 k o hk
    rw[show j+1+k=j+(k+1) by omega] at this
    exact this
 unfold Region.free
 rw[hi]
 simp only[List.all_eq_true,List.mem_range]
 intro j hj
 have iP:ops[j]?=some ops[j]:=Array.getElem?_eq_getElem hj
 have:=key ops.toList 0 hf j ops[j] (by rw[Array.getElem?_toList]; exact iP)
 rw[Nat.zero_add] at this
 rw[iP,h.lt hj]
 simp only[Bool.or_eq_true,beq_iff_eq]
 rcases this with e|e|e|e
 ·exact .inl (.inl e)
 ·exact .inl (.inr e)
 ·rw[j4,List.any_eq_true] at e
  obtain⟨x,hx,hb⟩:=e
  refine .inr (.inl ?_)
  rw[← Array.any_toList,List.any_eq_true]
  refine⟨x,hx,?_⟩
  simp only[Bool.and_eq_true,decide_eq_true_eq] at hb
  rw[hb.1,hb.2]
  simp
 ·exact .inr (.inr e)
theorem tN (i:Nat):(ops.toList.map (rowOf ops))[i]?=(ops[i]?).map (rowOf ops):=by
 rw[List.getElem?_map,Array.getElem?_toList]
theorem vf (h:Mk ops l m) {q i:Nat} (ht:ve (ops.toList.map (rowOf ops)) q i m=true):∃ o,ops[i]?=some o/\j1 o=q/\i∈Region.ready .any ops l/\Region.free .any ops l i=true:=by
 unfold ve at ht
 rw[tN] at ht
 cases ho:ops[i]? with
 | none=>rw[ho] at ht; cases ht
 | some o =>
  rw[ho] at ht
  simp only[Option.map_some,Bool.and_eq_true,Bool.not_eq_true',Nat.beq_eq,rf] at ht
  obtain⟨⟨⟨h1,h2⟩,h3⟩,h4⟩:=ht
  have hi:i < ops.size:=(Array.getElem?_eq_some_iff.1 ho).1
  refine⟨o,rfl,h1,?_,Cp h ho h4⟩
  unfold Region.ready
  rw[List.mem_filter,List.mem_range]
  refine⟨hi,?_⟩
  rw[ho,Option.map_some,Option.getD_some,rr h,h.lt hi,h2]
  simp only[Bool.not_false,Bool.true_and,Nat.beq_eq]
  exact h3
theorem wA {o:Oper} (h:j1 o=0):Ev.jf o.op=true:=by
 unfold j1 at h
 cases hp:Ev.jf o.op with
 | true=>rfl
 | false=>rw[hp,cond_false] at h; cases hl:jq o.op<;>rw[hl] at h<;>cases h
theorem wB {o:Oper} (h:j1 o=1):jq o.op=true:=by
 unfold j1 at h
 cases hp:Ev.jf o.op with
 | true=>rw[hp,cond_true] at h; cases h
 | false=>rw[hp,cond_false] at h; cases hl:jq o.op<;>rw[hl] at h<;>first|rfl|cases h
theorem zb {o:Oper} (h:j1 o=2):bu o.op=true:=by
 unfold j1 at h
 unfold bu
 cases hp:Ev.jf o.op with
 | true=>rw[hp,cond_true] at h; cases h
 | false=>rw[hp,cond_false] at h; cases hl:jq o.op<;>rw[hl] at h<;>first|rfl|cases h
theorem zc {i:Nat} (h:Co (ops.toList.map (rowOf ops)) i=true):lj ops i=true:=by
 unfold Co at h
 unfold lj
 rw[tN] at h
 cases ho:ops[i]? with
 | none=>rw[ho] at h; cases h
 | some o=>rw[ho] at h; exact zb (Nat.eq_of_beq_eq_true h)
theorem FT (h:Mk ops l m) {i:Nat} {D:List Nat} (hk:QI (ops.toList.map (rowOf ops)) m i D=true):Lm ops.toList l i D=true:=by
 unfold QI at hk
 rw[gm,List.all_eq_true] at hk
 unfold Lm
 rw[List.all_eq_true]
 intro j hj
 have:=hk j hj
 rw[tN] at this
 cases ho:ops[j]? with
 | none=>rw[ho] at this; simp at this
 | some o =>
  rw[ho] at this
  simp only[Option.map_some,Bool.and_eq_true,Bool.not_eq_true',rf] at this
  have hz:Nat.land (eP o.after.toList) (Nat.lor (jY i) (mH D))≠0:=fun e=>by
   have h2:=this.2
   rw[show (rowOf ops o).w=eP o.after.toList from rfl,e] at h2
   cases h2
  obtain⟨k,yd⟩:=Nat.exists_testBit_of_ne_zero hz
  have e:(Nat.land (eP o.after.toList) (Nat.lor (jY i) (mH D))).testBit k=((eP o.after.toList).testBit k && (Nat.lor (jY i) (mH D)).testBit k):=Nat.testBit_and ..
  rw[e,Bool.and_eq_true,j4,mF,jZ,rq] at yd
  obtain⟨h1,h2⟩:=yd
  rw[List.any_eq_true] at h1
  obtain⟨ed,he,hb⟩:=h1
  simp only[Bool.and_eq_true,decide_eq_true_eq] at hb
  rw[Bool.and_eq_true]
  refine⟨by rw[h.is,this.1]; rfl,?_⟩
  rw[Array.getElem?_toList,ho]
  show o.after.toList.any _=true
  rw[List.any_eq_true]
  refine⟨ed,he,?_⟩
  rw[hb.1,Bool.true_and,hb.2,Bool.or_eq_true]
  rw[Bool.or_eq_true,decide_eq_true_eq,List.any_eq_true] at h2
  rcases h2 with h2|⟨d,hd,h2⟩
  ·exact .inl (by rw[h2]; exact Nat.beq_refl _)
  ·refine .inr ?_
   unfold gg
   rw[List.any_eq_true]
   exact⟨d,hd,by rw[of_decide_eq_true h2]; exact Nat.beq_refl _⟩
theorem iB {f:Nat->aI->Bool} {g:Nat->aI->Prop}:∀ {L:List Nat} {ms:fR},(∀ j∈L,∀ r,f j r=true->g j r)->gl f L ms=true->gX g L ms
 | [],.nil,_,_=>trivial
 | j::L,.cons k r ms,h,hp=>by
  simp only[gl,Bool.and_eq_true,Nat.beq_eq] at hp
  exact⟨hp.1.1,h j (List.mem_cons_self ..) r hp.1.2,iB (fun j hj=>h j (List.mem_cons_of_mem _ hj)) hp.2⟩
 | j::L,.alt k r ms,h,hp=>by
  simp only[gl,Bool.and_eq_true,Nat.beq_eq] at hp
  exact⟨hp.1.1,h j (List.mem_cons_self ..) r hp.1.2,iB (fun j hj=>h j (List.mem_cons_of_mem _ hj)) hp.2⟩
 | j::L,.sub k r ms,h,hp=>by
  simp only[gl,Bool.and_eq_true,Nat.beq_eq] at hp
  exact⟨hp.1.1,h j (List.mem_cons_self ..) r hp.1.2,iB (fun j hj=>h j (List.mem_cons_of_mem _ hj)) hp.2⟩
 | [],.cons ..,_,hp=>by cases hp
 | [],.alt ..,_,hp=>by cases hp
 | [],.sub ..,_,hp=>by cases hp
 | _::_,.nil,_,hp=>by cases hp
end
theorem mI {ops:Array Oper} {l:Array Bool} {i:Nat} (h:i∈Region.ready .any ops l):i < ops.size:=by
 unfold Region.ready at h
 exact List.mem_range.1 (List.mem_filter.1 h).1
theorem g_ {ops:Array Oper}:∀ (fuel:Nat) (p:aI) (l:Array Bool) (m:Nat),Mk ops l m->j3 (ops.toList.map (rowOf ops)) fuel m p=true->fo ops fuel l p
 | fuel,.done,l,m,h,hp=>by
  have e:gY (ops.toList.map (rowOf ops)) 0 m = []:=by cases fuel<;>exact List.isEmpty_iff.1 hp
  cases fuel<;>exact (ry h).trans e
 | 0,.pure ..,_,_,_,hp=>by cases hp
 | 0,.load ..,_,_,_,hp=>by cases hp
 | 0,.bu ..,_,_,_,hp=>by cases hp
 | fuel+1,.pure i r,l,m,h,hp=>by
  simp only[j3,gm,Bool.and_eq_true] at hp
  obtain⟨o,ho,hk,hr,hf⟩:=vf h hp.1
  refine⟨hr,?_,g_ fuel r _ _ (h.set (mI hr)) hp.2⟩
  unfold jS
  rw[ho]
  simp only[Bool.and_eq_true]
  exact⟨wA hk,hf⟩
 | fuel+1,.load i D r,l,m,h,hp=>by
  simp only[j3,gm,Bool.and_eq_true] at hp
  obtain⟨o,ho,hk,hr,hf⟩:=vf h hp.1.1
  refine⟨hr,?_,FT h hp.1.2,g_ fuel r _ _ (h.set (mI hr)) hp.2⟩
  unfold jT
  rw[ho]
  simp only[Bool.and_eq_true]
  exact⟨wB hk,hf⟩
 | fuel+1,.bu i r ms,l,m,h,hp=>by
  have he:=ry h
  simp only[j3,gm] at hp
  unfold fo
  split at hp
  ·rename_i i0 more re
   rw[he,re]
   simp only[Bool.and_eq_true,Nat.beq_eq] at hp
   obtain⟨⟨⟨⟨rfl,h1⟩,h2⟩,h3⟩,h4⟩:=hp
   have bA:∀ j∈i0::more,j < ops.size:=fun j hj=>mI (l:=l) (by rw[he,re]; exact hj)
   refine⟨rfl,zc h1,fun j hj=>zc (List.all_eq_true.1 h2 j hj),g_ fuel r _ _ (h.set (bA _ (List.mem_cons_self ..))) h3,iB (fun j hj r hr=>g_ fuel r _ _ (h.set (bA j (List.mem_cons_of_mem _ hj))) hr) h4⟩
  ·cases hp
end Go.Proofs.YtnbhdacpogplgaaGreatDoor.Pw

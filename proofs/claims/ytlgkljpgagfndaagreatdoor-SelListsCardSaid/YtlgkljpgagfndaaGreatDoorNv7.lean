/- What this claim is proved with: no condition. -/
import Derived.Test.YtlgkljpgagfndaaGreatDoorNv6
set_option linter.unusedVariables false
set_option linter.unusedSimpArgs false
namespace Go.Proofs.YtlgkljpgagfndaaGreatDoor.Pw
open Go Go.RowKit
structure sH where
 D:List Nat
 l:Nat
def jR (i:Nat) (l:List Nat):Bool:=l.any (Nat.beq i)
def yP (listed:Array Bool) (i:Nat):List Oper->Nat->List Nat->List Nat
 | [],_,acc=>acc
 | o::r,j,acc=>bif !(listed.getD j true) && o.after.toList.any (fun e=>Region.binds .any e && (Nat.beq e.on i || jR e.on acc)) then yP listed i r (j+1) (j::acc) else yP listed i r (j+1) acc
def U4 (ops:List Oper) (listed:Array Bool) (i:Nat) (D:List Nat):Bool :=
 D.all fun j=>!(listed.getD j false) && (match ops[j]? with
  | some o=>o.after.toList.any fun e=>Region.binds .any e && (Nat.beq e.on i || jR e.on D)
  | none=>false)
def pinned (i:Nat):List sH->List Nat
 | []=>[]
 | p::r=>bif jR i p.D then pinned i r else p.l::pinned i r
def dy (i:Nat) (pins:List sH):List sH:=pins.filter fun p=>!jR i p.D
def Md.isW:Md->Bool
 | .w=>true
 | _=>false
def qE (b:Bool) (m:Md):Md:=match b,m with
 | true,.w=>.p
 | _,m=>m
def gY (b:Bool) (m:Md):Md:=match b,m with
 | true,.p=>.w
 | _,m=>m
def mapM (f:Bool->Md->Md) (us:List Nat):Nat->List ak->List ak
 | _,[]=>[]
 | j,⟨k,ty,n,m,live,cs⟩::st=>⟨k,ty,n,f (jR j us) m,live,cs⟩::mapM f us (j+1) st
def Nm:List ak->(List ak->Prop)->Prop
 | [],q=>q []
 | ⟨k,ty,n,m,live,cs⟩::st,q=>match m with
  | .w=>Nm st fun st=>q (⟨k,ty,n,.w,live,cs⟩::st)
  | .p=>Nm st fun st=>q (⟨k,ty,n,.p,live,cs⟩::st)
  | .r=>Nm st fun st=>q (⟨k,ty,n,.r,live,cs⟩::st)
def ia (st:List ak) (ls:List Nat):List Nat:=ls.filter fun j=>match st[j]? with
 | some b=>b.live && b.m.isW
 | none=>false
def okP (st:List ak) (ls:List Nat):Bool:=ls.all fun j=>match st[j]? with
 | some b=>b.live
 | none=>false
def gh (G:Gx) (ops:List Oper) (s:bb) (i:Nat) (o:Oper) (pins:List sH) (K:bb->Prop):Prop :=
 oA ops s o (fun s=>match pinned i pins with
  | []=>pop G s o fun v s2=>s2.put o.dst v K
  | ls=>Nm (mapM qE (ia s.st ls) 0 s.st) fun st=>pop G (s.store st) o fun v s2=>bif okP s2.st ls then Nm (mapM gY (ia s.st ls) 0 s2.st) fun yr=>(s2.store yr).put o.dst v K else False)
  (fun s=>s.put o.dst (.tup []) K)
def nk (ops:Array Oper) (listed:Array Bool) (i:Nat):Bool:=match ops[i]? with
 | some o=>Ev.mo o.op && Region.free .any ops listed i
 | none=>false
def nn (ops:Array Oper) (listed:Array Bool) (i:Nat):Bool:=match ops[i]? with
 | some o=>mz o.op && Region.free .any ops listed i
 | none=>false
def uO (D:List Nat) (x:PV) (pins:List sH):List sH:=match x.gw with
 | some l=>⟨D,l⟩::pins
 | none=>pins
section
variable {w w':World} {I I':Nat->Prop} {β aU:aB} {G:Gx} {s:bb} {a:Act} {st eA:List ak} {ops:Array Oper}
theorem uP:∀ {st:List ak} {q:List ak->Prop},Nm st q->q st
 | [],_,h=>h
 | ⟨k,ty,n,m,live,cs⟩::st,q,h=>by
  unfold Nm at h
  cases m<;>exact uP (st:=st) h
theorem fG (f:Bool->Md->Md) (us:List Nat):∀ (st:List ak) (j l:Nat),(mapM f us j st)[l]?=(st[l]?).map fun b=>{ b with m:=f (jR (j+l) us) b.m }
 | [],j,l=>by simp[mapM]
 | ⟨k,ty,n,m,live,cs⟩::st,j,0=>by simp[mapM]
 | ⟨k,ty,n,m,live,cs⟩::st,j,l+1=>by
  simp only[mapM,List.getElem?_cons_succ]
  rw[fG f us st (j+1) l,show j+1+l=j+(l+1) by omega]
theorem gi (f:Bool->Md->Md) (us:List Nat):∀ (st:List ak) (j:Nat),(mapM f us j st).length=st.length
 | [],_=>rfl
 | ⟨_,_,_,_,_,_⟩::st,j=>by simp[mapM,gi f us st]
theorem OA {b:Bool} {m:Md}:qE b m = .r↔m = .r:=by cases b<;>cases m<;>simp[qE]
theorem OB {b:Bool} {m:Md} (h:qE b m = .w):m = .w:=by cases b<;>cases m<;>simp_all [qE]
theorem E9 {b:Bool} {m:Md}:gY b m = .r↔m = .r:=by cases b<;>cases m<;>simp[gY]
theorem aO.Nn (h:aO I β st w) {f:Bool->Md->Md} {us:List Nat} (hf:∀ b m,f b m = .r↔m = .r):aO I β (mapM f us 0 st) w:=by
 refine⟨fun l hl=>h.qo l (by rw[gi] at hl; exact hl),fun l b' hl aN=>?_⟩
 rw[fG,Option.map_eq_some_iff] at hl
 obtain⟨b,hb,rfl⟩:=hl
 have gq:=h.gw l b hb aN
 obtain⟨p,hp,hk⟩:=gq
 have own:∀ {g:Nat} {fr:Nat × Nat},Own I β st l g fr b->Own I β (mapM f us 0 st) l g fr { b with m:=f (jR (0+l) us) b.m }:=fun ho=>by
  refine⟨fun hr=>?_,fun hr=>ho.2 ((hf _ _).1 hr)⟩
  obtain⟨h1,h2,h3⟩:=ho.1 fun e=>hr ((hf _ _).2 e)
  refine⟨h1,h2,fun l' b' de jv fO=>?_⟩
  rw[fG,Option.map_eq_some_iff] at jv
  obtain⟨b2,eI,rfl⟩:=jv
  exact h3 l' b2 de eI fO
 refine⟨p,hp,?_⟩
 simp only
 split at hk
 ·rename_i cM
  obtain⟨g,o,arr,ty,fr,h1,h2,h3,ho⟩:=hk
  rw[cM]
  exact⟨g,o,arr,ty,fr,h1,h2,h3,own ho⟩
 ·rename_i cM
  obtain⟨g,arr,fr,h1,h2,h3,ho,h4⟩:=hk
  rw[cM]
  exact⟨g,arr,fr,h1,h2,h3,own ho,h4⟩
 ·rename_i cM
  obtain⟨h1,hk⟩:=hk
  rw[cM]
  refine⟨h1,?_⟩
  rcases hk with h|⟨g,arr,fr,h2,h3,h4,ho,h5⟩
  ·exact .inl h
  ·exact .inr ⟨g,arr,fr,h2,h3,h4,own ho,h5⟩
 ·rename_i cM
  obtain⟨g,h1,h2,ho⟩:=hk
  rw[cM]
  exact⟨g,h1,h2,own ho⟩
theorem dV {i:Nat} {l:List Nat}:jR i l=true↔i∈l:=by
 unfold jR
 rw[List.any_eq_true]
 exact⟨fun ⟨x,hx,e⟩=>by rw[Nat.eq_of_beq_eq_true e]; exact hx,fun h=>⟨i,h,Nat.beq_refl i⟩⟩
def oK (pins:List sH) (ys:List lU) (I:Nat->Prop) (β:aB) (st:List ak) (w:World):Prop :=
 ∀ y∈ys,(∀ w2,y.Y w2)\/∃ g,(∀ w2,y.Y w2↔w2.heap[g]?=w.heap[g]?)/\g < w.heap.size/\(I g\/∃ p∈pins,p.D=y.D/\∃ b pl o,st[p.l]?=some b/\b.live=true/\β p.l=some pl/\pl.a=some (g,o))
theorem jV {i:Nat} {p:sH}:∀ {pins:List sH},p∈pins->jR i p.D=false->p.l∈pinned i pins
 | q::pins,h,hd=>by
  unfold pinned
  rcases List.mem_cons.1 h with rfl|h
  ·rw[hd]; exact List.mem_cons_self
  ·cases jR i q.D
   ·exact List.mem_cons_of_mem _ (jV h hd)
   ·exact jV h hd
theorem qF {i:Nat} {p:sH} {pins:List sH} (h:p∈pins) (hd:jR i p.D=false):p∈dy i pins:=by
 unfold dy; rw[List.mem_filter]; exact⟨h,by simp[hd]⟩
theorem lB {i:Nat} {y:lU} {ys:List lU} (h:y∈dc i ys):y∈ys/\jR i y.D=false:=by
 unfold dc at h; rw[List.mem_filter] at h; exact⟨h.1,by simpa [jR] using h.2⟩
theorem oK.dc {i:Nat} {pins:List sH} {ys:List lU} (h:oK pins ys I β st w):oK (dy i pins) (dc i ys) I β st w:=fun y hy=>by
 obtain⟨hy,hd⟩:=lB hy
 rcases h y hy with h|⟨g,h1,h2,h3⟩
 ·exact .inl h
 ·exact .inr ⟨g,h1,h2,h3.imp id fun ⟨p,hp,he,h4⟩=>⟨p,qF hp (by rw[he]; exact hd),he,h4⟩⟩
theorem np (hG:ma G) {i:Nat} {o:Oper} {pins:List sH} {ys:List lU} {K:bb->Prop} (h:gh G ops.toList s i o pins K) (hR:Rel G I β s a w) (hp:oK pins ys I β s.st w) :
  Ev.pJ G.cx.P ops o a w fun v w'=>∃ s' I' aU,K s'/\Rel G I' aU s' (a.put o.dst v) w'/\bW I β s w I' aU s' w'/\(∀ y∈dc i ys,y.Y w')/\oK (dy i pins) (dc i ys) I' aU s'.st w':=by
 unfold gh at h
 rcases jB hR h with ⟨hw,s1,h1,mv,iy⟩|⟨hw,s1,h1,mv,iy⟩
 ·refine .inl ⟨hw,?_⟩
  
  split at h1
  ·rename_i hls
   refine Ev.lr ?_ (uM hG iy h1)
   rintro v w' ⟨x,s2,I2,gx,h2,nj,hx,hE,e1,e2,e3,gu,_⟩
   obtain⟨s3,h3,mV,sG⟩:=bb.bU (G:=G) h2
   have U5:bW I β s w I2 gx s3 w':=((bW.same mv).trans ⟨hE,e1,e2,e3,gu⟩).trans (bW.same mV)
   have qy:∀ y∈dc i ys,y.Y w'/\((∀ w2,y.Y w2)\/∃ g,(∀ w2,y.Y w2↔w2.heap[g]?=w'.heap[g]?)/\g < w'.heap.size/\I2 g):=fun y hy=>by
    obtain⟨hy,hd⟩:=lB hy
    rcases hp y hy with h|⟨g,h1,h2,h3⟩
    ·exact⟨h _,.inl h⟩
    ·rcases h3 with h3|⟨p,Ed,he,_⟩
     ·have hs:=U5.ext.keeps hR.heap hR.az.az g h3
      exact⟨(h1 w').2 hs,.inr ⟨g,fun w2=>by rw[h1,hs],Nat.lt_of_lt_of_le h2 U5.ext.size,U5.ext.az g h3⟩⟩
     ·have:=jV (i:=i) Ed (by rw[he]; exact hd)
      rw[hls] at this
      cases this
   exact⟨s3,I2,gx,h3,sG _ _ _ _ v nj hx,U5,fun y hy=>(qy y hy).1,fun y hy=>(qy y hy).2.imp id fun ⟨g,a1,a2,a3⟩=>⟨g,a1,a2,.inl a3⟩⟩
  ·rename_i ls hls
   replace h1:=uP h1
   have JS:=iy.heap.Nn (f:=qE) (us:=ia s1.st (pinned i pins)) (fun b m=>OA)
   have hEp:Ext I β s1.st w I β (mapM qE (ia s1.st (pinned i pins)) 0 s1.st) w:=⟨rfl,rfl,rfl,Nat.le_refl _,fun _ _ _=>rfl,fun g hg ⟨l,b',p,o',g1,g2,g3,g4,g5⟩=>by
    rw[fG,Option.map_eq_some_iff] at g1
    obtain⟨b,hb,rfl⟩:=g1
    refine⟨l,b,p,o',hb,g2,?_,g4,g5⟩
    simp only at g3
    exact OB g3,fun _ h=>h,fun _ _ h=>.inl h⟩
   have hRp:=iy.grow JS hEp (fun _ _ h=>h) (by rw[gi]; exact Nat.le_refl _) iy.az.az
   refine Ev.lr ?_ (uM hG hRp h1)
   rintro v w' ⟨x,s2,I2,gx,h2,nj,hx,hE,e1,e2,e3,gu,hpn⟩
   obtain⟨c1,c2,c3,c4,c5⟩:=bb.eD s1 (mapM qE (ia s1.st (pinned i pins)) 0 s1.st)
   rw[c3] at hE hpn
   rw[c4] at e1 gu
   rw[c5] at e2 gu
   rw[c1] at e3
   replace h2:=bp h2
   obtain⟨OC,h2⟩:=h2
   replace h2:=uP h2
   have hmu:=nj.heap.Nn (f:=gY) (us:=ia s1.st (pinned i pins)) (fun b m=>E9)
   
   have VA:∀ l∈ia s1.st (pinned i pins),∃ b,s1.st[l]?=some b/\b.m = .w/\b.live=true:=fun l hl=>by
    unfold ia at hl
    rw[List.mem_filter] at hl
    have:=hl.2
    cases hb:s1.st[l]? with
    | none=>rw[hb] at this; cases this
    | some b =>
     rw[hb] at this
     simp only[Bool.and_eq_true] at this
     refine⟨b,rfl,?_,this.1⟩
     have:=this.2
     cases hm:b.m<;>simp only[hm,Md.isW] at this<;>first|rfl|cases this
   have hfix:∀ l b,s1.st[l]?=some b->b.m = .w->l∈ia s1.st (pinned i pins)->gx l=β l:=fun l b hb hm hl=>by
    refine hpn l { b with m:=.p } ?_ rfl
    rw[fG,hb,Nat.zero_add,dV.2 hl,Option.map_some,hm]; rfl
   have VW:Ext I β s1.st w I2 gx (mapM gY (ia s1.st (pinned i pins)) 0 s2.st) w':=by
    have No:=hEp.trans hE
    refine⟨No.os,No.tape,No.output,No.size,No.block,fun g hg ⟨l,b',p,o',g1,g2,g3,g4,g5⟩=>?_,No.az,No.new⟩
    rw[fG,Option.map_eq_some_iff] at g1
    obtain⟨b,hb,rfl⟩:=g1
    simp only[Nat.zero_add] at g3
    cases Al:jR l (ia s1.st (pinned i pins)) with
    | false =>
     rw[Al] at g3
     refine No.wr g hg ⟨l,b,p,o',hb,g2,?_,g4,g5⟩
     cases hm:b.m<;>rw[hm] at g3<;>first|rfl|cases g3
    | true =>
     have hl:=dV.1 Al
     obtain⟨b0,gq,pL,OD⟩:=VA l hl
     exact⟨l,b0,p,o',gq,OD,pL,by rw[← hfix l b0 gq pL hl]; exact g4,g5⟩
   have qy:∀ y∈dc i ys,y.Y w'/\((∀ w2,y.Y w2)\/∃ g,(∀ w2,y.Y w2↔w2.heap[g]?=w'.heap[g]?)/\g < w'.heap.size/\(I2 g\/∃ p∈dy i pins,p.D=y.D/\∃ b pl o,(mapM gY (ia s1.st (pinned i pins)) 0 s2.st)[p.l]?=some b/\b.live=true/\gx p.l=some pl/\pl.a=some (g,o))):=fun y hy=>by
    obtain⟨hy,hd⟩:=lB hy
    rcases hp y hy with h|⟨g,g1,g2,g3⟩
    ·exact⟨h _,.inl h⟩
    ·have byI:I g->y.Y w'/\((∀ w2,y.Y w2)\/∃ g,(∀ w2,y.Y w2↔w2.heap[g]?=w'.heap[g]?)/\g < w'.heap.size/\(I2 g\/∃ p∈dy i pins,p.D=y.D/\∃ b pl o,(mapM gY (ia s1.st (pinned i pins)) 0 s2.st)[p.l]?=some b/\b.live=true/\gx p.l=some pl/\pl.a=some (g,o))):=fun hI=>by
      have hs:=VW.keeps iy.heap iy.az.az g hI
      exact⟨(g1 w').2 hs,.inr ⟨g,fun w2=>by rw[g1,hs],Nat.lt_of_lt_of_le g2 VW.size,.inl (VW.az g hI)⟩⟩
     rcases g3 with g3|⟨p,Ed,he,b,pl,o',hb,aN,pk,OE⟩
     ·exact byI g3
     ·rw[← mv.st] at hb
      have gq:=iy.heap.gw _ b hb aN
      obtain⟨arr,ty,fr,hh,ho⟩:=gq.place pk OE
      by_cases hmr:b.m = .r
      ·exact byI (ho.2 hmr)
      ·have hlm:=jV (i:=i) Ed (by rw[he]; exact hd)
       
       have hpin:∃ b',(mapM qE (ia s1.st (pinned i pins)) 0 s1.st)[p.l]?=some b'/\b'.m = .p/\b'.live=true:=by
        refine⟨{ b with m:=qE (jR (0+p.l) (ia s1.st (pinned i pins))) b.m },by rw[fG,hb]; rfl,?_,aN⟩
        simp only[Nat.zero_add]
        cases hm:b.m with
        | r=>exact absurd hm hmr
        | p=>cases jR p.l (ia s1.st (pinned i pins))<;>rfl
        | w =>
         have:p.l∈ia s1.st (pinned i pins):=by unfold ia; rw[List.mem_filter,hb]; exact⟨hlm,by simp only[hm,aN]; rfl⟩
         rw[dV.2 this]; rfl
       obtain⟨b',dq,lQ,fO⟩:=hpin
       have hb'0:=JS.gw _ b' dq fO
       obtain⟨_,_,fr',_,ho'⟩:=hb'0.place pk OE
       have Ee:¬ Wr β (mapM qE (ia s1.st (pinned i pins)) 0 s1.st) g:=fun ⟨l2,b2,p2,o2,k1,k2,k3,k4,k5⟩=>by
        by_cases de:l2=p.l
        ·subst de
         rw[dq] at k1; cases k1; rw[lQ] at k3; cases k3
        ·exact (ho'.1 (by rw[lQ]; decide)).2.2 l2 b2 de k1 k2 p2 g o2 k4 k5 rfl
       have hs:w'.heap[g]?=w.heap[g]?:=hE.block g g2 Ee
       have hβ2:gx p.l=some pl:=(hpn _ b' dq lQ).trans pk
       have Np:∃ b2,s2.st[p.l]?=some b2/\b2.live=true:=by
        unfold okP at OC
        rw[List.all_eq_true] at OC
        have:=OC _ hlm
        cases eI:s2.st[p.l]? with
        | none=>rw[eI] at this; cases this
        | some b2=>rw[eI] at this; exact⟨b2,rfl,this⟩
       obtain⟨b2,eI,bT⟩:=Np
       refine⟨(g1 w').2 hs,.inr ⟨g,fun w2=>by rw[g1,hs],Nat.lt_of_lt_of_le g2 VW.size,.inr ⟨p,qF Ed (by rw[he]; exact hd),he,{ b2 with m:=gY (jR (0+p.l) (ia s1.st (pinned i pins))) b2.m },pl,o',by rw[fG,eI]; rfl,bT,hβ2,OE⟩⟩⟩
   have hEu:Ext I2 gx s2.st w' I2 gx (mapM gY (ia s1.st (pinned i pins)) 0 s2.st) w'->True:=fun _=>trivial
   clear hEu
   have yQ:Rel G I2 gx (s2.store (mapM gY (ia s1.st (pinned i pins)) 0 s2.st)) a w':=by
    obtain⟨d1,d2,d3,d4,d5⟩:=bb.eD s2 (mapM gY (ia s1.st (pinned i pins)) 0 s2.st)
    exact⟨by rw[d1]; exact nj.small,nj.defers,by rw[d1]; exact nj.size,by rw[d4,d3,gi]; exact nj.base,by rw[d2]; exact nj.get,by rw[d3]; exact hmu,nj.az⟩
   obtain⟨s3,h3,mV,sG⟩:=bb.bU (G:=G) h2
   obtain⟨d1,d2,d3,d4,d5⟩:=bb.eD s2 (mapM gY (ia s1.st (pinned i pins)) 0 s2.st)
   refine⟨s3,I2,gx,h3,sG _ _ _ _ v yQ hx,(bW.same mv).trans ⟨by rw[mV.st,d3]; exact VW,by rw[mV.base,d4]; exact e1,by rw[mV.rl,d5]; exact e2,by rw[mV.n,d1]; exact e3,gu⟩,fun y hy=>(qy y hy).1,fun y hy=>?_⟩
   rw[mV.st,d3]
   exact (qy y hy).2
 ·obtain⟨s3,h3,mV,sG⟩:=bb.bU (G:=G) h1
  refine .inr ⟨hw,s3,I,β,h3,sG _ _ _ _ _ iy Is.undef,(bW.same mv).trans (bW.same mV),fun y hy=>?_,?_⟩
  ·obtain⟨hy,_⟩:=lB hy
   rcases hp y hy with h|⟨g,h1,_⟩
   ·exact h w
   ·exact (h1 w).2 rfl
  ·rw[mV.st,mv.st]; exact hp.dc
theorem dU.nq {P:Program} {Q:Exit->Act->World->Prop} {i:Nat}:∀ (f:Nat) (l:Array Bool) (a:Act) (S:World->Prop) (pins:List lU),dU P ops Q f l a S pins->dU P ops Q f l a S (⟨i,[],fun _=>True⟩::pins)
 | 0,_,_,_,_,h=>h
 | f+1,l,a,S,pins,h=>by
  have U3:∀ j,dc j (⟨i,[],fun _=>True⟩::pins)=⟨i,[],fun _=>True⟩::dc j pins:=fun j=>by
   unfold dc; rw[List.filter_cons,if_pos (by simp)]
  refine⟨h.1,fun j hj o ho=>?_⟩
  obtain⟨h0,h1⟩:=h.2 j hj o ho
  rw[U3]
  refine⟨fun hl=>?_,fun hl w hw=>lA (fun v w' ⟨S',h2,h3,h4⟩=>⟨S',fun p hp=>?_,h3,dU.nq f _ _ _ _ h4⟩) (h1 hl w hw)⟩
  ·obtain⟨v,hy,hn⟩:=h0 hl
   exact⟨v,hy,dU.nq f _ _ _ _ hn⟩
  ·rcases List.mem_cons.1 hp with rfl|hp
   ·exact fun _ _=>trivial
   ·exact h2 p hp
theorem wm {P:Program} {K:Value->World->Prop} {r:Result Next} (h:Ev.mZ P K r):∃ v w,K v w:=by
 cases r with
 | ok n w =>
  cases n<;>simp only[Ev.mZ] at h
  case value u=>exact⟨_,_,h⟩
  case skip=>exact⟨_,_,h⟩
  case enter f args =>
   obtain⟨e,w',fr,⟨u,_,hu⟩,_⟩:=h []
   exact⟨_,_,hu⟩
 | halt x w=>exact h.elim
theorem kK {P:Program} {o:Oper} {K:Value->World->Prop} (h:Ev.pJ P ops o a w K):∃ v w',K v w':=by
 rcases h with ⟨_,h⟩|⟨_,h⟩
 ·exact wm h
 ·exact⟨_,_,h⟩
theorem dU.ends {P:Program} {Q:Exit->Act->World->Prop}:∀ (f:Nat) (l:Array Bool) (a:Act) (S:World->Prop) (pins:List lU) (w:World),dU P ops Q f l a S pins->S w->∃ a' w',Q .normal a' w'
 | 0,l,a,S,_,w,h,hw=>⟨a,w,h.2 w hw⟩
 | f+1,l,a,S,pins,w,h,hw=>by
  cases hr:Region.ready .any ops l with
  | nil=>exact⟨a,w,h.1 hr w hw⟩
  | cons i r =>
   have hi:i∈Region.ready .any ops l:=by rw[hr]; exact List.mem_cons_self
   obtain⟨o,ho⟩:=Ev.vU hi
   obtain⟨h0,h1⟩:=h.2 i hi o ho
   cases he:bq o.op with
   | false =>
    obtain⟨v,_,hn⟩:=h0 he
    exact dU.ends f _ _ S _ w hn hw
   | true =>
    obtain⟨v,w',S',_,Jj,hn⟩:=kK (h1 he w hw)
    exact dU.ends f _ _ S' _ w' hn Jj
theorem OF {listed:Array Bool} {i:Nat} {D:List Nat} (h:U4 ops.toList listed i D=true):∀ j∈D,listed.getD j false=false/\∃ oj,ops[j]?=some oj/\∃ e∈oj.after,Region.binds .any e=true/\(e.on=i\/e.on∈D):=by
 intro j hj
 unfold U4 at h
 rw[List.all_eq_true] at h
 have:=h j hj
 simp only[Bool.and_eq_true,Bool.not_eq_true'] at this
 refine⟨this.1,?_⟩
 have h2:=this.2
 cases ho:ops.toList[j]? with
 | none=>rw[ho] at h2; cases h2
 | some oj =>
  rw[ho] at h2
  simp only[List.any_eq_true,Bool.and_eq_true,Bool.or_eq_true] at h2
  obtain⟨e,he,hb,h3⟩:=h2
  exact⟨oj,by simpa using ho,e,by simpa using he,hb,h3.imp Nat.eq_of_beq_eq_true dV.1⟩
end
mutual
inductive aT where
 | done
 | pure (i:Nat) (r:aT)
 | load (i:Nat) (D:List Nat) (r:aT)
 | bq (i:Nat) (r:aT) (more:jC)
inductive jC where
 | nil
 | cons (j:Nat) (r:aT) (more:jC)
 | alt (j:Nat) (r:aT) (more:jC)
 | sub (j:Nat) (r:aT) (more:jC)
end
def Nq:List Nat->List Nat->Bool
 | [],[]=>true
 | a::l,b::m=>Nat.beq a b && Nq l m
 | _,_=>false
def pv (ops:Array Oper) (i:Nat):Bool:=match ops[i]? with
 | some o=>bq o.op
 | none=>false
def jW (sr:Nat->aT->Bool):List Nat->jC->Bool
 | [],.nil=>true
 | j::l,.cons k r ms=>Nat.beq j k && sr j r && jW sr l ms
 | j::l,.alt k r ms=>Nat.beq j k && sr j r && jW sr l ms
 | j::l,.sub k r ms=>Nat.beq j k && sr j r && jW sr l ms
 | _,_=>false
def As (ops:Array Oper):Nat->Array Bool->aT->Bool
 | _,listed,.done=>(Region.ready .any ops listed).isEmpty
 | 0,_,_=>false
 | fuel+1,listed,.pure i r=>(match Ev.uv (nk ops listed) (Region.ready .any ops listed) with
  | some k=>Nat.beq k i && As ops fuel (listed.setIfInBounds i true) r
  | none=>false)
 | fuel+1,listed,.load i D r=>(match Ev.uv (nn ops listed) (Region.ready .any ops listed) with
  | some k=>Nat.beq k i && Nq D (yP listed i ops.toList 0 []) && U4 ops.toList listed i D && As ops fuel (listed.setIfInBounds i true) r
  | none=>false)
 | fuel+1,listed,.bq i r ms=>(match Region.ready .any ops listed with
  | i0::more=>Nat.beq i0 i && pv ops i && more.all (pv ops) && As ops fuel (listed.setIfInBounds i true) r && jW (fun j r=>As ops fuel (listed.setIfInBounds j true) r) more ms
  | []=>false)
def kL (sr:Nat->aT->Prop):List Nat->jC->Prop
 | [],.nil=>True
 | j::l,.cons k r ms=>j=k/\sr j r/\kL sr l ms
 | j::l,.alt k r ms=>j=k/\sr j r/\kL sr l ms
 | j::l,.sub k r ms=>j=k/\sr j r/\kL sr l ms
 | _,_=>False
def iY (ops:Array Oper):Nat->Array Bool->aT->Prop
 | _,listed,.done=>Region.ready .any ops listed = []
 | 0,_,_=>False
 | fuel+1,listed,.pure i r=>i∈Region.ready .any ops listed/\nk ops listed i=true/\iY ops fuel (listed.setIfInBounds i true) r
 | fuel+1,listed,.load i D r=>i∈Region.ready .any ops listed/\nn ops listed i=true/\U4 ops.toList listed i D=true/\iY ops fuel (listed.setIfInBounds i true) r
 | fuel+1,listed,.bq i r ms=>(match Region.ready .any ops listed with
  | i0::more=>i0=i/\pv ops i=true/\(∀ j∈more,pv ops j=true)/\iY ops fuel (listed.setIfInBounds i true) r/\kL (fun j r=>iY ops fuel (listed.setIfInBounds j true) r) more ms
  | []=>False)
def Sub (G:Gx) (s s':bb):Prop:=∀ I β a w,Rel G I β s a w->∃ I' aU,Rel G I' aU s' a w/\bW I β s w I' aU s' w
mutual
def cp (G:Gx) (ops:List Oper):aT->bb->List sH->(bb->Prop)->Prop
 | .done,s,_,K=>K s
 | .pure i r,s,pins,K=>bu ops[i]? fun o=>oA ops s o (fun s=>ph G.cx s o.op fun v=>s.put o.dst v fun s=>cp G ops r s pins K) (fun s=>s.put o.dst (.tup []) fun s=>cp G ops r s pins K)
 | .load i D r,s,pins,K=>bu ops[i]? fun o=>oA ops s o (fun s=>match o.op with
   | .load t ad=>s.ev ad fun x=>tp G s.st t x fun v=>s.put o.dst v fun s=>cp G ops r s (uO D x pins) K
   | _=>False) (fun s=>s.put o.dst (.tup []) fun s=>cp G ops r s pins K)
 | .bq i r ms,s,pins,K=>bu ops[i]? fun o=>match ms with
  | .nil=>gh G ops s i o pins fun s1=>cp G ops r s1 (dy i pins) K
  | .cons j r' VX=>gh G ops s i o pins fun s1=>cp G ops r s1 (dy i pins) fun sf=>K sf/\(bu ops[j]? fun o=>gh G ops s j o pins fun s2=>cp G ops r' s2 (dy j pins) fun wo=>wo=sf)/\fo G ops VX s pins sf
  | .sub j r' VX=>gh G ops s i o pins fun s1=>cp G ops r s1 (dy i pins) fun sf=>∃ BW,Sub G sf BW/\K BW/\(bu ops[j]? fun o=>gh G ops s j o pins fun s2=>cp G ops r' s2 (dy j pins) fun wo=>Sub G wo BW)/\gj G ops VX s pins BW
  | .alt j r' VX=>(gh G ops s i o pins fun s1=>cp G ops r s1 (dy i pins) K)/\(bu ops[j]? fun o=>gh G ops s j o pins fun s2=>cp G ops r' s2 (dy j pins) K)/\i_ G ops VX s pins K
def fo (G:Gx) (ops:List Oper):jC->bb->List sH->bb->Prop
 | .nil,_,_,_=>True
 | .cons j r ms,s,pins,sf=>(bu ops[j]? fun o=>gh G ops s j o pins fun s2=>cp G ops r s2 (dy j pins) fun wo=>wo=sf)/\fo G ops ms s pins sf
 | .alt _ _ _,_,_,_=>False
 | .sub _ _ _,_,_,_=>False
def gj (G:Gx) (ops:List Oper):jC->bb->List sH->bb->Prop
 | .nil,_,_,_=>True
 | .sub j r ms,s,pins,sf=>(bu ops[j]? fun o=>gh G ops s j o pins fun s2=>cp G ops r s2 (dy j pins) fun wo=>Sub G wo sf)/\gj G ops ms s pins sf
 | .cons _ _ _,_,_,_=>False
 | .alt _ _ _,_,_,_=>False
def i_ (G:Gx) (ops:List Oper):jC->bb->List sH->(bb->Prop)->Prop
 | .nil,_,_,_=>True
 | .alt j r ms,s,pins,K=>(bu ops[j]? fun o=>gh G ops s j o pins fun s2=>cp G ops r s2 (dy j pins) K)/\i_ G ops ms s pins K
 | .cons _ _ _,_,_,_=>False
 | .sub _ _ _,_,_,_=>False
end
section
variable {w w':World} {I I':Nat->Prop} {β aU:aB} {G:Gx} {s:bb} {a:Act} {st eA:List ak} {ops:Array Oper}
theorem qG {sr:Nat->aT->Prop}:∀ {l:List Nat} {ms:jC},kL sr l ms->∀ {pins:List sH} {sf:bb},fo G ops.toList ms s pins sf->∀ j∈l,∃ r,sr j r/\bu ops.toList[j]? fun o=>gh G ops.toList s j o pins fun s2=>cp G ops.toList r s2 (dy j pins) fun wo=>wo=sf
 | [],_,_,_,_,_,_,hj=>by cases hj
 | i::l,.nil,h,_,_,_,_,_=>False.elim h
 | i::l,.alt k r ms,h,pins,sf,hr,j,hj=>by unfold fo at hr; exact hr.elim
 | i::l,.sub k r ms,h,pins,sf,hr,j,hj=>by unfold fo at hr; exact hr.elim
 | i::l,.cons k r ms,h,pins,sf,hr,j,hj=>by
  obtain⟨rfl,h2,h3⟩:=h
  unfold fo at hr
  rcases List.mem_cons.1 hj with rfl|hj
  ·exact⟨r,h2,hr.1⟩
  ·exact qG h3 hr.2 j hj
theorem px {sr:Nat->aT->Prop}:∀ {l:List Nat} {ms:jC},kL sr l ms->∀ {pins:List sH} {K:bb->Prop},i_ G ops.toList ms s pins K->∀ j∈l,∃ r,sr j r/\bu ops.toList[j]? fun o=>gh G ops.toList s j o pins fun s2=>cp G ops.toList r s2 (dy j pins) K
 | [],_,_,_,_,_,_,hj=>by cases hj
 | i::l,.nil,h,_,_,_,_,_=>False.elim h
 | i::l,.cons k r ms,h,pins,K,hr,j,hj=>by unfold i_ at hr; exact hr.elim
 | i::l,.sub k r ms,h,pins,K,hr,j,hj=>by unfold i_ at hr; exact hr.elim
 | i::l,.alt k r ms,h,pins,K,hr,j,hj=>by
  obtain⟨rfl,h2,h3⟩:=h
  unfold i_ at hr
  rcases List.mem_cons.1 hj with rfl|hj
  ·exact⟨r,h2,hr.1⟩
  ·exact px h3 hr.2 j hj
theorem py {sr:Nat->aT->Prop}:∀ {l:List Nat} {ms:jC},kL sr l ms->∀ {pins:List sH} {sf:bb},gj G ops.toList ms s pins sf->∀ j∈l,∃ r,sr j r/\bu ops.toList[j]? fun o=>gh G ops.toList s j o pins fun s2=>cp G ops.toList r s2 (dy j pins) fun wo=>Sub G wo sf
 | [],_,_,_,_,_,_,hj=>by cases hj
 | i::l,.nil,h,_,_,_,_,_=>False.elim h
 | i::l,.cons k r ms,h,pins,sf,hr,j,hj=>by unfold gj at hr; exact hr.elim
 | i::l,.alt k r ms,h,pins,sf,hr,j,hj=>by unfold gj at hr; exact hr.elim
 | i::l,.sub k r ms,h,pins,sf,hr,j,hj=>by
  obtain⟨rfl,h2,h3⟩:=h
  unfold gj at hr
  rcases List.mem_cons.1 hj with rfl|hj
  ·exact⟨r,h2,hr.1⟩
  ·exact py h3 hr.2 j hj
theorem ns {i:Nat} {o:Oper} (ho:ops[i]?=some o) (h:pv ops i=true):bq o.op=true:=by unfold pv at h; rw[ho] at h; exact h
theorem yR (hG:ma G) (yO:Region.noSelect ops=true):∀ (fuel:Nat) (p:aT) (Q:Exit->Act->World->Prop) (l:Array Bool) (s:bb) (a:Act) (I:Nat->Prop) (β:aB) (w:World) (pins:List sH) (ys:List lU) (K:bb->Prop),
  iY ops fuel l p->cp G ops.toList p s pins K->Rel G I β s a w->oK pins ys I β s.st w->(∀ s' I' aU a' w',K s'->Rel G I' aU s' a' w'->bW I β s w I' aU s' w'->Q .normal a' w')->dU G.cx.P ops Q fuel l a (fun w2=>w2=w) ys:=by
 intro fuel
 have fin:∀ (fuel:Nat) (Q:Exit->Act->World->Prop) (l:Array Bool) (s:bb) (a:Act) (I:Nat->Prop) (β:aB) (w:World) (ys:List lU) (K:bb->Prop),Region.ready .any ops l = []->K s->Rel G I β s a w->(∀ s' I' aU a' w',K s'->Rel G I' aU s' a' w'->bW I β s w I' aU s' w'->Q .normal a' w')->dU G.cx.P ops Q fuel l a (fun w2=>w2=w) ys:=by
  intro fuel Q l s a I β w ys K hr h hR hQ
  have pn:Region.ready .any ops l = []:=hr
  cases fuel with
  | zero=>exact⟨pn,fun w2 hw=>by subst hw; exact hQ s I β a w2 h hR (bW.same ⟨rfl,rfl,rfl,rfl⟩)⟩
  | succ fuel=>exact⟨fun _ w2 hw=>by subst hw; exact hQ s I β a w2 h hR (bW.same ⟨rfl,rfl,rfl,rfl⟩),fun i hi=>by rw[pn] at hi; cases hi⟩
 induction fuel with
 | zero =>
  intro p Q l s a I β w pins ys K hp h hR _ hQ
  cases p with
  | done=>exact fin 0 Q l s a I β w ys K (by simpa only [iY] using hp) (by simpa only [cp] using h) hR hQ
  | pure=>exact hp.elim
  | load=>exact hp.elim
  | bq=>exact hp.elim
 | succ fuel ih =>
  intro p Q l s a I β w pins ys K hp h hR Jk hQ
  cases p with
  | done=>exact fin (fuel+1) Q l s a I β w ys K (by simpa only [iY] using hp) (by simpa only [cp] using h) hR hQ
  | pure i r =>
   simp only[iY] at hp
   ·obtain⟨gM,ix,hp⟩:=hp
    unfold cp at h
    replace h:=aA h
    obtain⟨o,ho,h⟩:=h
    rw[Array.getElem?_toList] at ho
    unfold nk at ix
    rw[ho] at ix
    simp only[Bool.and_eq_true] at ix
    have he:bq o.op=false:=by unfold bq; rw[ix.1]; rfl
    rcases jB hR h with ⟨iz,s1,h1,mv,iy⟩|⟨iz,s1,h1,mv,iy⟩
    ·obtain⟨x,v,h1,hx,cg⟩:=v5 hG.ok iy h1
     obtain⟨s3,h3,mV,sG⟩:=bb.bU (G:=G) h1
     refine dU.first (v:=v) (D:=[]) (Y:=fun _=>True) ho he yO fuel l a _ ys (Region.free_spec ho ix.2) (fun j hj=>by cases hj) (.inl ⟨iz,fun w2 _=>cg w2⟩) (fun _ _=>trivial) gM (dU.nq _ _ _ _ _ ?_)
     exact ih r Q _ s3 _ I β w pins ys K hp h3 (sG _ _ _ _ _ iy hx) (by rw[mV.st,mv.st]; exact Jk) (fun s' I' aU a' w' hk dt hg=>hQ s' I' aU a' w' hk dt (((bW.same mv).trans (bW.same mV)).trans hg))
    ·obtain⟨s3,h3,mV,sG⟩:=bb.bU (G:=G) h1
     refine dU.first (v:=undef) (D:=[]) (Y:=fun _=>True) ho he yO fuel l a _ ys (Region.free_spec ho ix.2) (fun j hj=>by cases hj) (.inr ⟨iz,rfl⟩) (fun _ _=>trivial) gM (dU.nq _ _ _ _ _ ?_)
     exact ih r Q _ s3 _ I β w pins ys K hp h3 (sG _ _ _ _ _ iy Is.undef) (by rw[mV.st,mv.st]; exact Jk) (fun s' I' aU a' w' hk dt hg=>hQ s' I' aU a' w' hk dt (((bW.same mv).trans (bW.same mV)).trans hg))
  | load i D r =>
   simp only[iY] at hp
   ·obtain⟨gM,ix,hD,hp⟩:=hp
    unfold cp at h
    replace h:=aA h
    obtain⟨o,ho,h⟩:=h
    rw[Array.getElem?_toList] at ho
    unfold nn at ix
    rw[ho] at ix
    simp only[Bool.and_eq_true] at ix
    have he:bq o.op=false:=by unfold bq; rw[ix.1,Bool.or_true]; rfl
    rcases jB hR h with ⟨iz,s1,h1,mv,iy⟩|⟨iz,s1,h1,mv,iy⟩
    ·split at h1
     ·rename_i t ad sF
      replace h1:=bb.cI iy h1
      obtain⟨x,h1,hx⟩:=h1
      obtain⟨z,v,g,h1,hz,hg,cg⟩:=qv hG.ok iy.heap iy.az h1 hx
      obtain⟨s3,h3,mV,sG⟩:=bb.bU (G:=G) h1
      have VY:∀ w2:World,w2.heap[g]?=w.heap[g]?->(execOp a.eval o).run G.cx.P w2 = .ok (.value v) w2:=fun w2 uJ=>by
       unfold execOp
       rw[sF]
       simp only[Sem.run_bind,cg w2 uJ,Result.andThen_ok,Sem.run_pure]
      have E6:g < w.heap.size:=by
       rcases hg with hg|⟨l',b,p,o',_,hb,aN,pk,OE⟩
       ·exact hR.az.az g hg
       ·exact iy.heap.dS ⟨l',b,p,o',hb,aN,pk,OE⟩
      refine dU.first (v:=v) (D:=D) (Y:=fun w2=>w2.heap[g]?=w.heap[g]?) ho he yO fuel l a _ ys (Region.free_spec ho ix.2) (OF hD) (.inl ⟨iz,VY⟩) (fun w2 uJ=>by rw[uJ]) gM ?_
      refine ih r Q _ s3 _ I β w (uO D x pins) _ K hp h3 (sG _ _ _ _ _ iy hz) ?_ (fun s' I' aU a' w' hk dt hg=>hQ s' I' aU a' w' hk dt (((bW.same mv).trans (bW.same mV)).trans hg))
      rw[mV.st,mv.st]
      intro y hy
      rcases List.mem_cons.1 hy with rfl|hy
      ·refine .inr ⟨g,fun _=>Iff.rfl,E6,?_⟩
       rcases hg with hg|⟨l',b,p,o',nc,hb,aN,pk,OE⟩
       ·exact .inl hg
       ·refine .inr ⟨⟨D,l'⟩,by unfold uO; rw[nc]; exact List.mem_cons_self,rfl,b,p,o',by rw[← mv.st]; exact hb,aN,pk,OE⟩
      ·rcases Jk y hy with h|⟨g',k1,k2,k3⟩
       ·exact .inl h
       ·refine .inr ⟨g',k1,k2,k3.imp id fun ⟨p,Ed,k4⟩=>⟨p,?_,k4⟩⟩
        unfold uO
        split
        ·exact List.mem_cons_of_mem _ Ed
        ·exact Ed
     ·exact h1.elim
    ·obtain⟨s3,h3,mV,sG⟩:=bb.bU (G:=G) h1
     refine dU.first (v:=undef) (D:=[]) (Y:=fun _=>True) ho he yO fuel l a _ ys (Region.free_spec ho ix.2) (fun j hj=>by cases hj) (.inr ⟨iz,rfl⟩) (fun _ _=>trivial) gM (dU.nq _ _ _ _ _ ?_)
     exact ih r Q _ s3 _ I β w pins ys K hp h3 (sG _ _ _ _ _ iy Is.undef) (by rw[mV.st,mv.st]; exact Jk) (fun s' I' aU a' w' hk dt hg=>hQ s' I' aU a' w' hk dt (((bW.same mv).trans (bW.same mV)).trans hg))
  | bq i r ms =>
   simp only[iY] at hp
   split at hp
   ·rename_i i0 more wq
    obtain⟨rfl,hei,hem,U6,Ed⟩:=hp
    unfold cp at h
    replace h:=aA h
    obtain⟨o,ho,h⟩:=h
    rw[Array.getElem?_toList] at ho
    have he:=ns ho hei
    have de:Region.ready .any ops l≠[]:=by rw[wq]; simp
    
    have go:∀ {j:Nat} {oj:Oper} {rj:aT} {K':bb->Prop},iY ops fuel (l.setIfInBounds j true) rj->ops[j]?=some oj->bq oj.op=true->(gh G ops.toList s j oj pins fun s1=>cp G ops.toList rj s1 (dy j pins) K')->(∀ sf,K' sf->K sf) ->
      (bq oj.op=false->∃ v,Yields G.cx.P ops (fun w2=>w2=w) oj v a/\dU G.cx.P ops Q fuel (l.setIfInBounds j true) (a.put oj.dst v) (fun w2=>w2=w) (dc j ys)) /\
      (bq oj.op=true->∀ w2,w2=w->Ev.pJ G.cx.P ops oj a w2 fun v w'=>∃ S':World->Prop,(∀ p∈dc j ys,∀ w,S' w->p.Y w)/\S' w'/\dU G.cx.P ops Q fuel (l.setIfInBounds j true) (a.put oj.dst v) S' (dc j ys)):=by
     intro j oj rj K' OG lV hej h' hK
     refine⟨(fun e=>by rw[hej] at e; cases e),fun _ w2 uJ=>?_⟩
     subst uJ
     refine lA ?_ (np hG h' hR Jk)
     rintro v w' ⟨s',I',aU,hk,dt,hg,hY,eU⟩
     refine⟨fun w2=>w2=w',fun p hp w2 uJ=>by rw[uJ]; exact hY p hp,rfl,?_⟩
     exact ih rj Q _ s' _ I' aU w' _ _ K' OG hk dt eU fun s2 I2 gx a2 w3 sI nj BX=>hQ s2 I2 gx a2 w3 (hK s2 sI) nj (hg.trans BX)
    have goS:∀ {j:Nat} {oj:Oper} {rj:aT} {K':bb->Prop},iY ops fuel (l.setIfInBounds j true) rj->ops[j]?=some oj->bq oj.op=true->(gh G ops.toList s j oj pins fun s1=>cp G ops.toList rj s1 (dy j pins) K')->(∀ sf,K' sf->∃ BW,Sub G sf BW/\K BW) ->
      (bq oj.op=false->∃ v,Yields G.cx.P ops (fun w2=>w2=w) oj v a/\dU G.cx.P ops Q fuel (l.setIfInBounds j true) (a.put oj.dst v) (fun w2=>w2=w) (dc j ys)) /\
      (bq oj.op=true->∀ w2,w2=w->Ev.pJ G.cx.P ops oj a w2 fun v w'=>∃ S':World->Prop,(∀ p∈dc j ys,∀ w,S' w->p.Y w)/\S' w'/\dU G.cx.P ops Q fuel (l.setIfInBounds j true) (a.put oj.dst v) S' (dc j ys)):=by
     intro j oj rj K' OG lV hej h' hK
     refine⟨(fun e=>by rw[hej] at e; cases e),fun _ w2 uJ=>?_⟩
     subst uJ
     refine lA ?_ (np hG h' hR Jk)
     rintro v w' ⟨s',I',aU,hk,dt,hg,hY,eU⟩
     refine⟨fun w2=>w2=w',fun p hp w2 uJ=>by rw[uJ]; exact hY p hp,rfl,?_⟩
     exact ih rj Q _ s' _ I' aU w' _ _ K' OG hk dt eU fun s2 I2 gx a2 w3 sI nj BX=>by
      obtain⟨BW,hs,uQ⟩:=hK s2 sI
      obtain⟨I3,U7,yQ,VZ⟩:=hs I2 gx a2 w3 nj
      exact hQ BW I3 U7 a2 w3 uQ yQ ((hg.trans BX).trans VZ)
    cases ms with
    | nil =>
     cases more with
     | cons=>exact Ed.elim
     | nil =>
      refine⟨fun e=>absurd e de,fun j hj oj lV=>?_⟩
      rw[wq,List.mem_singleton] at hj
      subst hj
      rw[ho] at lV
      cases lV
      exact go U6 ho he h fun _ hk=>hk
    | cons j0 r0 p9 =>
     have dx:∀ sf,((bu ops.toList[j0]? fun o=>gh G ops.toList s j0 o pins fun s2=>cp G ops.toList r0 s2 (dy j0 pins) fun wo=>wo=sf)/\fo G ops.toList p9 s pins sf)->fo G ops.toList (.cons j0 r0 p9) s pins sf:=fun sf h=>by unfold fo; exact h
     
     obtain⟨sf,hKf,nt⟩:∃ sf,K sf/\fo G ops.toList (.cons j0 r0 p9) s pins sf:=by
      obtain⟨v,w',s',I',aU,hk,dt,hg,hY,eU⟩:=kK (np hG h hR Jk)
      have hA:=ih r (fun _ _ _=>∃ sf,K sf/\fo G ops.toList (.cons j0 r0 p9) s pins sf) _ s' (a.put o.dst v) I' aU w' _ _ _ U6 hk dt eU fun s2 I2 gx a2 w3 sI _ _=>⟨s2,sI.1,dx _ sI.2⟩
      obtain⟨_,_,h3⟩:=dU.ends _ _ _ _ _ w' hA rfl
      exact h3
     refine⟨fun e=>absurd e de,fun j hj oj lV=>?_⟩
     rw[wq] at hj
     rcases List.mem_cons.1 hj with rfl|hj
     ·rw[ho] at lV
      cases lV
      exact go U6 ho he h fun _ hk=>hk.1
     ·obtain⟨rj,V0,h2⟩:=qG Ed nt j hj
      replace h2:=aA h2
      obtain⟨oj',qD,h2⟩:=h2
      rw[Array.getElem?_toList,lV] at qD
      cases qD
      exact go V0 lV (ns lV (hem j hj)) h2 fun wo e=>by rw[e]; exact hKf
    | sub j0 r0 p9 =>
     have dx:∀ sf,((bu ops.toList[j0]? fun o=>gh G ops.toList s j0 o pins fun s2=>cp G ops.toList r0 s2 (dy j0 pins) fun wo=>Sub G wo sf)/\gj G ops.toList p9 s pins sf)->gj G ops.toList (.sub j0 r0 p9) s pins sf:=fun sf h=>by unfold gj; exact h
     obtain⟨sf,hKf,nt⟩:∃ sf,K sf/\gj G ops.toList (.sub j0 r0 p9) s pins sf:=by
      obtain⟨v,w',s',I',aU,hk,dt,hg,hY,eU⟩:=kK (np hG h hR Jk)
      have hA:=ih r (fun _ _ _=>∃ sf,K sf/\gj G ops.toList (.sub j0 r0 p9) s pins sf) _ s' (a.put o.dst v) I' aU w' _ _ _ U6 hk dt eU fun s2 I2 gx a2 w3 sI _ _=>let ⟨BW,_,h2,h3⟩:=sI; ⟨BW,h2,dx _ h3⟩
      obtain⟨_,_,h3⟩:=dU.ends _ _ _ _ _ w' hA rfl
      exact h3
     refine⟨fun e=>absurd e de,fun j hj oj lV=>?_⟩
     rw[wq] at hj
     rcases List.mem_cons.1 hj with rfl|hj
     ·rw[ho] at lV
      cases lV
      exact goS U6 ho he h fun _ hk=>let ⟨BW,h1,h2,_⟩:=hk; ⟨BW,h1,h2⟩
     ·obtain⟨rj,V0,h2⟩:=py Ed nt j hj
      replace h2:=aA h2
      obtain⟨oj',qD,h2⟩:=h2
      rw[Array.getElem?_toList,lV] at qD
      cases qD
      exact goS V0 lV (ns lV (hem j hj)) h2 fun wo e=>⟨sf,e,hKf⟩
    | alt j0 r0 p9 =>
     obtain⟨h,nt⟩:=h
     have dx:i_ G ops.toList (.alt j0 r0 p9) s pins K:=by unfold i_; exact nt
     refine⟨fun e=>absurd e de,fun j hj oj lV=>?_⟩
     rw[wq] at hj
     rcases List.mem_cons.1 hj with rfl|hj
     ·rw[ho] at lV
      cases lV
      exact go U6 ho he h fun _ hk=>hk
     ·obtain⟨rj,V0,h2⟩:=px Ed dx j hj
      replace h2:=aA h2
      obtain⟨oj',qD,h2⟩:=h2
      rw[Array.getElem?_toList,lV] at qD
      cases qD
      exact go V0 lV (ns lV (hem j hj)) h2 fun _ hk=>hk
   ·cases hp
end
def tb (m i:Nat):Bool:=Nat.beq (Nat.land (Nat.shiftRight m i) 1) 1
theorem wu (m i:Nat):tb m i=m.testBit i:=by
 unfold tb
 have h:Nat.land (Nat.shiftRight m i) 1=(m >>> i) % 2:=Nat.and_one_is_mod _
 rw[h,Nat.testBit,Nat.and_comm,Nat.and_one_is_mod]
 rcases Nat.mod_two_eq_zero_or_one (m >>> i) with e|e<;>rw[e]<;>rfl
def cZ (i:Nat):Nat:=Nat.shiftLeft 1 i
theorem nu (i k:Nat):(cZ i).testBit k=decide (i=k):=by
 have h:cZ i=2 ^ i:=by show 1 <<< i=_; rw[Nat.one_shiftLeft]
 rw[h,Nat.testBit_two_pow]
theorem qH (a b k:Nat):(Nat.lor a b).testBit k=(a.testBit k || b.testBit k):=Nat.testBit_or a b k
def oL {α:Type}:Nat->(Nat->α)->α
 | 0,k=>k 0
 | n+1,k=>k (n+1)
theorem jX {α:Type} (n:Nat) (k:Nat->α):oL n k=k n:=by cases n<;>rfl
structure qI where
 w:Nat
 d:Nat
 l:Nat
 k:Nat
def iA:List Edge->Nat
 | []=>0
 | e::r=>bif Region.binds .any e then Nat.lor (iA r) (cZ e.on) else iA r
def wv:List Nat->Nat
 | []=>0
 | d::r=>Nat.lor (wv r) (cZ (d+1))
def JT:Option Nat->Nat
 | some d=>d+1
 | none=>0
def nv (o:Oper):Nat:=bif Ev.mo o.op then 0 else bif mz o.op then 1 else 2
def rowOf (ops:Array Oper) (o:Oper):qI:=⟨iA o.after.toList,JT o.dst,wv (o.looksAt ops),nv o⟩
def At (ops:Array Oper):List Oper->(List qI->Bool)->Bool
 | [],k=>k []
 | o::r,k=>oL (iA o.after.toList) fun w=>oL (JT o.dst) fun d=>oL (wv (o.looksAt ops)) fun l=>oL (nv o) fun q=>At ops r fun rs=>k (⟨w,d,l,q⟩::rs)
theorem wx (ops:Array Oper):∀ (l:List Oper) (k:List qI->Bool),At ops l k=k (l.map (rowOf ops))
 | [],_=>rfl
 | o::r,k=>by
  simp only[At,jX,wx ops r]
  rfl
def kN:List qI->Nat->Nat->List Nat
 | [],_,_=>[]
 | x::r,j,m=>bif !tb m j && Nat.beq (Nat.land x.w m) x.w then j::oL (j+1) fun j=>kN r j m else oL (j+1) fun j=>kN r j m
def yS (x y:qI):Bool:=!tb y.l x.d && (Nat.beq x.d 0 || !Nat.beq x.d y.d) && !tb x.l y.d
def wy (i:Nat) (x:qI) (m:Nat):List qI->Nat->Bool
 | [],_=>true
 | y::r,j=>(Nat.beq j i || tb m j || tb y.w i || yS x y) && oL (j+1) fun j=>wy i x m r j
def Au (T:List qI) (q i m:Nat):Bool:=match T[i]? with
 | some x=>Nat.beq x.k q && !tb m i && Nat.beq (Nat.land x.w m) x.w && wy i x m T 0
 | none=>false
def qJ:List Nat->Nat
 | []=>0
 | j::r=>Nat.lor (qJ r) (cZ j)
def okM (T:List qI) (m i:Nat) (D:List Nat):Bool:=oL (Nat.lor (cZ i) (qJ D)) fun z=>D.all fun j=>!tb m j && (match T[j]? with
  | some y=>!Nat.beq (Nat.land y.w z) 0
  | none=>false)
def JU (T:List qI) (i:Nat):Bool:=match T[i]? with
 | some x=>Nat.beq x.k 2
 | none=>false
def nw (T:List qI):Nat->Nat->aT->Bool
 | _,m,.done=>(kN T 0 m).isEmpty
 | 0,_,_=>false
 | fuel+1,m,.pure i r=>Au T 0 i m && oL (Nat.lor m (cZ i)) fun m=>nw T fuel m r
 | fuel+1,m,.load i D r=>Au T 1 i m && okM T m i D && oL (Nat.lor m (cZ i)) fun m=>nw T fuel m r
 | fuel+1,m,.bq i r ms=>(match kN T 0 m with
  | i0::more=>Nat.beq i0 i && JU T i && more.all (JU T) && (oL (Nat.lor m (cZ i)) fun m=>nw T fuel m r) && jW (fun j r=>oL (Nat.lor m (cZ j)) fun m=>nw T fuel m r) more ms
  | []=>false)
theorem nx (k:Nat):∀ l:List Edge,(iA l).testBit k=l.any fun e=>Region.binds .any e && decide (e.on=k)
 | []=>Nat.zero_testBit k
 | e::r=>by
  rw[List.any_cons,← nx k r,iA]
  cases h:Region.binds .any e with
  | true=>rw[cond_true,qH,nu,Bool.true_and,Bool.or_comm]
  | false=>rw[cond_false,Bool.false_and,Bool.false_or]
theorem wz (k:Nat):∀ l:List Nat,(wv l).testBit k=l.any fun d=>decide (d+1=k)
 | []=>Nat.zero_testBit k
 | d::r=>by rw[List.any_cons,← wz k r,wv,qH,nu,Bool.or_comm]
theorem wA (k:Nat):∀ l:List Nat,(qJ l).testBit k=l.any fun d=>decide (d=k)
 | []=>Nat.zero_testBit k
 | d::r=>by rw[List.any_cons,← wA k r,qJ,qH,nu,Bool.or_comm]
theorem OH (a m:Nat):Nat.beq (Nat.land a m) a=true↔∀ k,a.testBit k=true->m.testBit k=true:=by
 rw[Nat.beq_eq]
 refine⟨fun h k hk=>?_,fun h=>Nat.eq_of_testBit_eq fun k=>?_⟩
 ·have:(Nat.land a m).testBit k=true:=by rw[h]; exact hk
  have e:(Nat.land a m).testBit k=(a.testBit k && m.testBit k):=Nat.testBit_and a m k
  rw[e,hk,Bool.true_and] at this
  exact this
 ·have e:(Nat.land a m).testBit k=(a.testBit k && m.testBit k):=Nat.testBit_and a m k
  rw[e]
  cases ha:a.testBit k with
  | false=>rfl
  | true=>rw[h k ha]; rfl
theorem E' (l:List Edge) (m:Nat):Nat.beq (Nat.land (iA l) m) (iA l)=l.all fun e=>!Region.binds .any e || m.testBit e.on:=by
 rw[Bool.eq_iff_iff,OH,List.all_eq_true]
 simp only[nx,List.any_eq_true,Bool.and_eq_true,decide_eq_true_eq,Bool.or_eq_true,Bool.not_eq_true']
 refine⟨fun h e he=>?_,fun h k ⟨e,he,hb,hk⟩=>?_⟩
 ·cases hb:Region.binds .any e with
  | false=>exact .inl rfl
  | true=>exact .inr (h e.on ⟨e,he,hb,rfl⟩)
 ·rcases h e he with h|h
  ·rw[h] at hb; cases hb
  ·rw[← hk]; exact h
structure Mk (ops:Array Oper) (l:Array Bool) (m:Nat):Prop where
 size:l.size=ops.size
 is:∀ j,l.getD j false=m.testBit j
theorem Mk.lt {ops:Array Oper} {l:Array Bool} {m:Nat} (h:Mk ops l m) {j:Nat} (hj:j < ops.size) (d:Bool):l.getD j d=m.testBit j:=by
 rw[← h.is]
 rw[Array.getD_eq_getD_getElem?,Array.getD_eq_getD_getElem?,Array.getElem?_eq_getElem (by rw[h.size]; exact hj)]
 rfl
theorem Mk.set {ops:Array Oper} {l:Array Bool} {m:Nat} (h:Mk ops l m) {i:Nat} (hi:i < ops.size):Mk ops (l.setIfInBounds i true) (Nat.lor m (cZ i)):=by
 refine⟨by rw[Array.size_setIfInBounds,h.size],fun j=>?_⟩
 rw[qH,nu,Array.getD_eq_getD_getElem?,Array.getElem?_setIfInBounds]
 by_cases e:i=j
 ·subst e
  rw[if_pos rfl,if_pos (by rw[h.size]; exact hi)]
  simp
 ·rw[if_neg e,← Array.getD_eq_getD_getElem?,h.is,decide_eq_false e,Bool.or_false]
theorem Mk.none (ops:Array Oper):Mk ops (Array.replicate ops.size false) 0:=by
 refine⟨Array.size_replicate ..,fun j=>?_⟩
 rw[Nat.zero_testBit,Array.getD_eq_getD_getElem?,Array.getElem?_replicate]
 split<;>rfl
section
variable {ops:Array Oper} {l:Array Bool} {m:Nat}
theorem wB (h:Mk ops l m) (o:Oper):(o.after.all fun e=>!Region.binds .any e || l.getD e.on false)=Nat.beq (Nat.land (rowOf ops o).w m) (rowOf ops o).w:=by
 show _=Nat.beq (Nat.land (iA o.after.toList) m) (iA o.after.toList)
 rw[E',← Array.all_toList]
 congr 1
 funext e
 rw[h.is]
theorem wC (h:Mk ops l m):Region.ready .any ops l=kN (ops.toList.map (rowOf ops)) 0 m:=by
 have key:∀ (L:List Oper) (j:Nat),(∀ k,L[k]?=ops[j+k]?)->j+L.length=ops.size->kN (L.map (rowOf ops)) j m=(List.range' j L.length).filter fun i=>!l.getD i true && ((ops[i]?).map (·.after.all fun e=>!Region.binds .any e || l.getD e.on false)).getD false:=by
  intro L
  induction L with
  | nil=>intro j _ _; rfl
  | cons o r ih =>
   intro j hL hs
   have h0:ops[j]?=some o:=by rw[← Nat.add_zero j,← hL 0]; rfl
   have hj:j < ops.size:=by rw[List.length_cons] at hs; omega
   have ih':=ih (j+1) (fun k=>by rw[show j+1+k=j+(k+1) by omega,← hL (k+1)]; rfl) (by rw[List.length_cons] at hs; omega)
   rw[List.map_cons,List.length_cons,List.range'_succ,kN,jX,ih',List.filter_cons,h0,Option.map_some,Option.getD_some,wB h,h.lt hj,wu]
   cases (!m.testBit j && Nat.beq (Nat.land (rowOf ops o).w m) (rowOf ops o).w)<;>rfl
 unfold Region.ready
 rw[List.range_eq_range',key ops.toList 0 (fun k=>by rw[Nat.zero_add,Array.getElem?_toList]) (by rw[Nat.zero_add,Array.length_toList]),Array.length_toList]
theorem E_ {x y:Oper} (h:yS (rowOf ops x) (rowOf ops y)=true):x.apart ops y=true:=by
 unfold yS at h
 simp only[rowOf,wu,wz,Bool.and_eq_true,Bool.not_eq_true',List.any_eq_false,decide_eq_true_eq,Bool.or_eq_true,Nat.beq_eq] at h
 obtain⟨⟨h1,h2⟩,h3⟩:=h
 unfold Oper.apart
 rw[Bool.and_eq_true]
 constructor
 ·cases hx:x.dst with
  | none=>rfl
  | some d =>
   rw[hx] at h1 h2
   simp only[JT] at h1 h2
   simp only[Bool.and_eq_true,Bool.not_eq_true',bne_iff_ne,ne_eq]
   refine⟨?_,fun e=>?_⟩
   ·rw[Bool.eq_false_iff]
    intro hc
    exact h1 d (List.contains_iff_mem.1 hc) rfl
   ·rw[e] at h2
    rcases h2 with h2|h2
    ·cases h2
    ·rw[Bool.eq_false_iff] at h2
     exact h2 (Nat.beq_refl _)
 ·cases hy:y.dst with
  | none=>rfl
  | some d =>
   rw[hy] at h3
   simp only[JT] at h3
   simp only[Bool.not_eq_true']
   rw[Bool.eq_false_iff]
   intro hc
   exact h3 d (List.contains_iff_mem.1 hc) rfl
theorem JV (h:Mk ops l m) {i:Nat} {oi:Oper} (hi:ops[i]?=some oi) (hf:wy i (rowOf ops oi) m (ops.toList.map (rowOf ops)) 0=true):Region.free .any ops l i=true:=by
 have key:∀ (L:List Oper) (j:Nat),wy i (rowOf ops oi) m (L.map (rowOf ops)) j=true->∀ (k:Nat) (o:Oper),L[k]?=some o->(j+k=i\/m.testBit (j+k)=true\/(iA o.after.toList).testBit i=true\/oi.apart ops o=true):=by
  intro L
  induction L with
  | nil=>intro j _ k o hk; cases hk
  | cons y r ih =>
   intro j hj k o hk
   rw[List.map_cons,wy,jX,Bool.and_eq_true] at hj
   cases k with
   | zero =>
    cases hk
    have h1:=hj.1
    simp only[Bool.or_eq_true,Nat.beq_eq,wu] at h1
    rcases h1 with ((h1|h1)|h1)|h1
    ·exact .inl h1
    ·exact .inr (.inl h1)
    ·exact .inr (.inr (.inl h1))
    ·exact .inr (.inr (.inr (E_ h1)))
   | succ k =>
    have:=ih (j+1) hj.2 k o hk
    rw[show j+1+k=j+(k+1) by omega] at this
    exact this
 unfold Region.free
 rw[hi]
 simp only[List.all_eq_true,List.mem_range]
 intro j hj
 have lV:ops[j]?=some ops[j]:=Array.getElem?_eq_getElem hj
 have:=key ops.toList 0 hf j ops[j] (by rw[Array.getElem?_toList]; exact lV)
 rw[Nat.zero_add] at this
 rw[lV,h.lt hj]
 simp only[Bool.or_eq_true,beq_iff_eq]
 rcases this with e|e|e|e
 ·exact .inl (.inl e)
 ·exact .inl (.inr e)
 ·rw[nx,List.any_eq_true] at e
  obtain⟨x,hx,hb⟩:=e
  refine .inr (.inl ?_)
  rw[← Array.any_toList,List.any_eq_true]
  refine⟨x,hx,?_⟩
  simp only[Bool.and_eq_true,decide_eq_true_eq] at hb
  rw[hb.1,hb.2]
  simp
 ·exact .inr (.inr e)
theorem yT (i:Nat):(ops.toList.map (rowOf ops))[i]?=(ops[i]?).map (rowOf ops):=by
 rw[List.getElem?_map,Array.getElem?_toList]
theorem Av (h:Mk ops l m) {q i:Nat} (ht:Au (ops.toList.map (rowOf ops)) q i m=true):∃ o,ops[i]?=some o/\nv o=q/\i∈Region.ready .any ops l/\Region.free .any ops l i=true:=by
 unfold Au at ht
 rw[yT] at ht
 cases ho:ops[i]? with
 | none=>rw[ho] at ht; cases ht
 | some o =>
  rw[ho] at ht
  simp only[Option.map_some,Bool.and_eq_true,Bool.not_eq_true',Nat.beq_eq,wu] at ht
  obtain⟨⟨⟨h1,h2⟩,h3⟩,h4⟩:=ht
  have hi:i < ops.size:=(Array.getElem?_eq_some_iff.1 ho).1
  refine⟨o,rfl,h1,?_,JV h ho h4⟩
  unfold Region.ready
  rw[List.mem_filter,List.mem_range]
  refine⟨hi,?_⟩
  rw[ho,Option.map_some,Option.getD_some,wB h,h.lt hi,h2]
  simp only[Bool.not_false,Bool.true_and,Nat.beq_eq]
  exact h3
theorem BY {o:Oper} (h:nv o=0):Ev.mo o.op=true:=by
 unfold nv at h
 cases hp:Ev.mo o.op with
 | true=>rfl
 | false=>rw[hp,cond_false] at h; cases hl:mz o.op<;>rw[hl] at h<;>cases h
theorem BZ {o:Oper} (h:nv o=1):mz o.op=true:=by
 unfold nv at h
 cases hp:Ev.mo o.op with
 | true=>rw[hp,cond_true] at h; cases h
 | false=>rw[hp,cond_false] at h; cases hl:mz o.op<;>rw[hl] at h<;>first|rfl|cases h
theorem Fa {o:Oper} (h:nv o=2):bq o.op=true:=by
 unfold nv at h
 unfold bq
 cases hp:Ev.mo o.op with
 | true=>rw[hp,cond_true] at h; cases h
 | false=>rw[hp,cond_false] at h; cases hl:mz o.op<;>rw[hl] at h<;>first|rfl|cases h
theorem Fb {i:Nat} (h:JU (ops.toList.map (rowOf ops)) i=true):pv ops i=true:=by
 unfold JU at h
 unfold pv
 rw[yT] at h
 cases ho:ops[i]? with
 | none=>rw[ho] at h; cases h
 | some o=>rw[ho] at h; exact Fa (Nat.eq_of_beq_eq_true h)
theorem OI (h:Mk ops l m) {i:Nat} {D:List Nat} (hk:okM (ops.toList.map (rowOf ops)) m i D=true):U4 ops.toList l i D=true:=by
 unfold okM at hk
 rw[jX,List.all_eq_true] at hk
 unfold U4
 rw[List.all_eq_true]
 intro j hj
 have:=hk j hj
 rw[yT] at this
 cases ho:ops[j]? with
 | none=>rw[ho] at this; simp at this
 | some o =>
  rw[ho] at this
  simp only[Option.map_some,Bool.and_eq_true,Bool.not_eq_true',wu] at this
  have hz:Nat.land (iA o.after.toList) (Nat.lor (cZ i) (qJ D))≠0:=fun e=>by
   have h2:=this.2
   rw[show (rowOf ops o).w=iA o.after.toList from rfl,e] at h2
   cases h2
  obtain⟨k,Ef⟩:=Nat.exists_testBit_of_ne_zero hz
  have e:(Nat.land (iA o.after.toList) (Nat.lor (cZ i) (qJ D))).testBit k=((iA o.after.toList).testBit k && (Nat.lor (cZ i) (qJ D)).testBit k):=Nat.testBit_and ..
  rw[e,Bool.and_eq_true,nx,qH,nu,wA] at Ef
  obtain⟨h1,h2⟩:=Ef
  rw[List.any_eq_true] at h1
  obtain⟨ed,he,hb⟩:=h1
  simp only[Bool.and_eq_true,decide_eq_true_eq] at hb
  rw[Bool.and_eq_true]
  refine⟨by rw[h.is,this.1]; rfl,?_⟩
  rw[Array.getElem?_toList,ho]
  show o.after.toList.any _=true
  rw[List.any_eq_true]
  refine⟨ed,he,?_⟩
  rw[hb.1,Bool.true_and,hb.2,Bool.or_eq_true]
  rw[Bool.or_eq_true,decide_eq_true_eq,List.any_eq_true] at h2
  rcases h2 with h2|⟨d,hd,h2⟩
  ·exact .inl (by rw[h2]; exact Nat.beq_refl _)
  ·refine .inr ?_
   unfold jR
   rw[List.any_eq_true]
   exact⟨d,hd,by rw[of_decide_eq_true h2]; exact Nat.beq_refl _⟩
theorem lC {f:Nat->aT->Bool} {g:Nat->aT->Prop}:∀ {L:List Nat} {ms:jC},(∀ j∈L,∀ r,f j r=true->g j r)->jW f L ms=true->kL g L ms
 | [],.nil,_,_=>trivial
 | j::L,.cons k r ms,h,hp=>by
  simp only[jW,Bool.and_eq_true,Nat.beq_eq] at hp
  exact⟨hp.1.1,h j (List.mem_cons_self ..) r hp.1.2,lC (fun j hj=>h j (List.mem_cons_of_mem _ hj)) hp.2⟩
 | j::L,.alt k r ms,h,hp=>by
  simp only[jW,Bool.and_eq_true,Nat.beq_eq] at hp
  exact⟨hp.1.1,h j (List.mem_cons_self ..) r hp.1.2,lC (fun j hj=>h j (List.mem_cons_of_mem _ hj)) hp.2⟩
 | j::L,.sub k r ms,h,hp=>by
  simp only[jW,Bool.and_eq_true,Nat.beq_eq] at hp
  exact⟨hp.1.1,h j (List.mem_cons_self ..) r hp.1.2,lC (fun j hj=>h j (List.mem_cons_of_mem _ hj)) hp.2⟩
 | [],.cons ..,_,hp=>by cases hp
 | [],.alt ..,_,hp=>by cases hp
 | [],.sub ..,_,hp=>by cases hp
 | _::_,.nil,_,hp=>by cases hp
end
theorem qK {ops:Array Oper} {l:Array Bool} {i:Nat} (h:i∈Region.ready .any ops l):i < ops.size:=by
 unfold Region.ready at h
 exact List.mem_range.1 (List.mem_filter.1 h).1
theorem kO {ops:Array Oper}:∀ (fuel:Nat) (p:aT) (l:Array Bool) (m:Nat),Mk ops l m->nw (ops.toList.map (rowOf ops)) fuel m p=true->iY ops fuel l p
 | fuel,.done,l,m,h,hp=>by
  have e:kN (ops.toList.map (rowOf ops)) 0 m = []:=by cases fuel<;>exact List.isEmpty_iff.1 hp
  cases fuel<;>exact (wC h).trans e
 | 0,.pure ..,_,_,_,hp=>by cases hp
 | 0,.load ..,_,_,_,hp=>by cases hp
 | 0,.bq ..,_,_,_,hp=>by cases hp
 | fuel+1,.pure i r,l,m,h,hp=>by
  simp only[nw,jX,Bool.and_eq_true] at hp
  obtain⟨o,ho,hk,hr,hf⟩:=Av h hp.1
  refine⟨hr,?_,kO fuel r _ _ (h.set (qK hr)) hp.2⟩
  unfold nk
  rw[ho]
  simp only[Bool.and_eq_true]
  exact⟨BY hk,hf⟩
 | fuel+1,.load i D r,l,m,h,hp=>by
  simp only[nw,jX,Bool.and_eq_true] at hp
  obtain⟨o,ho,hk,hr,hf⟩:=Av h hp.1.1
  refine⟨hr,?_,OI h hp.1.2,kO fuel r _ _ (h.set (qK hr)) hp.2⟩
  unfold nn
  rw[ho]
  simp only[Bool.and_eq_true]
  exact⟨BZ hk,hf⟩
 | fuel+1,.bq i r ms,l,m,h,hp=>by
  have he:=wC h
  simp only[nw,jX] at hp
  unfold iY
  split at hp
  ·rename_i i0 more wq
   rw[he,wq]
   simp only[Bool.and_eq_true,Nat.beq_eq] at hp
   obtain⟨⟨⟨⟨rfl,h1⟩,h2⟩,h3⟩,h4⟩:=hp
   have cJ:∀ j∈i0::more,j < ops.size:=fun j hj=>qK (l:=l) (by rw[he,wq]; exact hj)
   refine⟨rfl,Fb h1,fun j hj=>Fb (List.all_eq_true.1 h2 j hj),kO fuel r _ _ (h.set (cJ _ (List.mem_cons_self ..))) h3,lC (fun j hj r hr=>kO fuel r _ _ (h.set (cJ j (List.mem_cons_of_mem _ hj))) hr) h4⟩
  ·cases hp
end Go.Proofs.YtlgkljpgagfndaaGreatDoor.Pw

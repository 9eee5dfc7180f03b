/- What this claim is proved with: no condition. -/
import Derived.Test.YtlgkljpgagfndaaGreatDoorNu6
set_option linter.unusedVariables false
set_option linter.unusedSimpArgs false
namespace Go.Proofs.YtlgkljpgagfndaaGreatDoor.Pw
open Go Go.RowKit
structure tM where
 D:List Nat
 l:Nat
def ko (i:Nat) (l:List Nat):Bool:=l.any (Nat.beq i)
def zS (listed:Array Bool) (i:Nat):List Oper->Nat->List Nat->List Nat
 | [],_,acc=>acc
 | o::r,j,acc=>bif !(listed.getD j true) && o.after.toList.any (fun e=>Region.binds .any e && (Nat.beq e.on i || ko e.on acc)) then zS listed i r (j+1) (j::acc) else zS listed i r (j+1) acc
def WJ (ops:List Oper) (listed:Array Bool) (i:Nat) (D:List Nat):Bool :=
 D.all fun j=>!(listed.getD j false) && (match ops[j]? with
  | some o=>o.after.toList.any fun e=>Region.binds .any e && (Nat.beq e.on i || ko e.on D)
  | none=>false)
def pinned (i:Nat):List tM->List Nat
 | []=>[]
 | p::r=>bif ko i p.D then pinned i r else p.l::pinned i r
def dC (i:Nat) (pins:List tM):List tM:=pins.filter fun p=>!ko i p.D
def Md.isW:Md->Bool
 | .w=>true
 | _=>false
def rD (b:Bool) (m:Md):Md:=match b,m with
 | true,.w=>.p
 | _,m=>m
def iw (b:Bool) (m:Md):Md:=match b,m with
 | true,.p=>.w
 | _,m=>m
def mapM (f:Bool->Md->Md) (us:List Nat):Nat->List an->List an
 | _,[]=>[]
 | j,⟨k,ty,n,m,live,cs⟩::st=>⟨k,ty,n,f (ko j us) m,live,cs⟩::mapM f us (j+1) st
def OQ:List an->(List an->Prop)->Prop
 | [],q=>q []
 | ⟨k,ty,n,m,live,cs⟩::st,q=>match m with
  | .w=>OQ st fun st=>q (⟨k,ty,n,.w,live,cs⟩::st)
  | .p=>OQ st fun st=>q (⟨k,ty,n,.p,live,cs⟩::st)
  | .r=>OQ st fun st=>q (⟨k,ty,n,.r,live,cs⟩::st)
def iE (st:List an) (ls:List Nat):List Nat:=ls.filter fun j=>match st[j]? with
 | some b=>b.live && b.m.isW
 | none=>false
def okP (st:List an) (ls:List Nat):Bool:=ls.all fun j=>match st[j]? with
 | some b=>b.live
 | none=>false
def gB (G:Gx) (ops:List Oper) (s:ba) (i:Nat) (o:Oper) (pins:List tM) (K:ba->Prop):Prop :=
 mX ops s o (fun s=>match pinned i pins with
  | []=>pop G s o fun v s2=>s2.put o.dst v K
  | ls=>OQ (mapM rD (iE s.st ls) 0 s.st) fun st=>pop G (s.store st) o fun v s2=>bif okP s2.st ls then OQ (mapM iw (iE s.st ls) 0 s2.st) fun qp=>(s2.store qp).put o.dst v K else False)
  (fun s=>s.put o.dst (.tup []) K)
def nU (ops:Array Oper) (listed:Array Bool) (i:Nat):Bool:=match ops[i]? with
 | some o=>Ev.mU o.op && Region.free .any ops listed i
 | none=>false
def nV (ops:Array Oper) (listed:Array Bool) (i:Nat):Bool:=match ops[i]? with
 | some o=>m9 o.op && Region.free .any ops listed i
 | none=>false
def vH (D:List Nat) (x:PV) (pins:List tM):List tM:=match x.gM with
 | some l=>⟨D,l⟩::pins
 | none=>pins
section
variable {w w':World} {I I':Nat->Prop} {β aU:aB} {G:Gx} {s:ba} {a:Act} {st eU:List an} {ops:Array Oper}
theorem vI:∀ {st:List an} {q:List an->Prop},OQ st q->q st
 | [],_,h=>h
 | ⟨k,ty,n,m,live,cs⟩::st,q,h=>by
  unfold OQ at h
  cases m<;>exact vI (st:=st) h
theorem fS (f:Bool->Md->Md) (us:List Nat):∀ (st:List an) (j l:Nat),(mapM f us j st)[l]?=(st[l]?).map fun b=>{ b with m:=f (ko (j+l) us) b.m }
 | [],j,l=>by simp[mapM]
 | ⟨k,ty,n,m,live,cs⟩::st,j,0=>by simp[mapM]
 | ⟨k,ty,n,m,live,cs⟩::st,j,l+1=>by
  simp only[mapM,List.getElem?_cons_succ]
  rw[fS f us st (j+1) l,show j+1+l=j+(l+1) by omega]
theorem gC (f:Bool->Md->Md) (us:List Nat):∀ (st:List an) (j:Nat),(mapM f us j st).length=st.length
 | [],_=>rfl
 | ⟨_,_,_,_,_,_⟩::st,j=>by simp[mapM,gC f us st]
theorem Qb {b:Bool} {m:Md}:rD b m = .r↔m = .r:=by cases b<;>cases m<;>simp[rD]
theorem Qc {b:Bool} {m:Md} (h:rD b m = .w):m = .w:=by cases b<;>cases m<;>simp_all [rD]
theorem Gq {b:Bool} {m:Md}:iw b m = .r↔m = .r:=by cases b<;>cases m<;>simp[iw]
theorem aN.OR (h:aN I β st w) {f:Bool->Md->Md} {us:List Nat} (hf:∀ b m,f b m = .r↔m = .r):aN I β (mapM f us 0 st) w:=by
 refine⟨fun l hl=>h.qG l (by rw[gC] at hl; exact hl),fun l b' hl aP=>?_⟩
 rw[fS,Option.map_eq_some_iff] at hl
 obtain⟨b,hb,rfl⟩:=hl
 have gq:=h.gM l b hb aP
 obtain⟨p,hp,hk⟩:=gq
 have own:∀ {g:Nat} {fr:Nat × Nat},Own I β st l g fr b->Own I β (mapM f us 0 st) l g fr { b with m:=f (ko (0+l) us) b.m }:=fun ho=>by
  refine⟨fun hr=>?_,fun hr=>ho.2 ((hf _ _).1 hr)⟩
  obtain⟨h1,h2,h3⟩:=ho.1 fun e=>hr ((hf _ _).2 e)
  refine⟨h1,h2,fun l' b' dk jT fA=>?_⟩
  rw[fS,Option.map_eq_some_iff] at jT
  obtain⟨b2,eu,rfl⟩:=jT
  exact h3 l' b2 dk eu fA
 refine⟨p,hp,?_⟩
 simp only
 split at hk
 ·rename_i cX
  obtain⟨g,o,arr,ty,fr,h1,h2,h3,ho⟩:=hk
  rw[cX]
  exact⟨g,o,arr,ty,fr,h1,h2,h3,own ho⟩
 ·rename_i cX
  obtain⟨g,arr,fr,h1,h2,h3,ho,h4⟩:=hk
  rw[cX]
  exact⟨g,arr,fr,h1,h2,h3,own ho,h4⟩
 ·rename_i cX
  obtain⟨h1,hk⟩:=hk
  rw[cX]
  refine⟨h1,?_⟩
  rcases hk with h|⟨g,arr,fr,h2,h3,h4,ho,h5⟩
  ·exact .inl h
  ·exact .inr ⟨g,arr,fr,h2,h3,h4,own ho,h5⟩
 ·rename_i cX
  obtain⟨g,h1,h2,ho⟩:=hk
  rw[cX]
  exact⟨g,h1,h2,own ho⟩
theorem dY {i:Nat} {l:List Nat}:ko i l=true↔i∈l:=by
 unfold ko
 rw[List.any_eq_true]
 exact⟨fun ⟨x,hx,e⟩=>by rw[Nat.eq_of_beq_eq_true e]; exact hx,fun h=>⟨i,h,Nat.beq_refl i⟩⟩
def pj (pins:List tM) (ys:List my) (I:Nat->Prop) (β:aB) (st:List an) (w:World):Prop :=
 ∀ y∈ys,(∀ w2,y.Y w2)\/∃ g,(∀ w2,y.Y w2↔w2.heap[g]?=w.heap[g]?)/\g < w.heap.size/\(I g\/∃ p∈pins,p.D=y.D/\∃ b pl o,st[p.l]?=some b/\b.live=true/\β p.l=some pl/\pl.a=some (g,o))
theorem kq {i:Nat} {p:tM}:∀ {pins:List tM},p∈pins->ko i p.D=false->p.l∈pinned i pins
 | q::pins,h,hd=>by
  unfold pinned
  rcases List.mem_cons.1 h with rfl|h
  ·rw[hd]; exact List.mem_cons_self
  ·cases ko i q.D
   ·exact List.mem_cons_of_mem _ (kq h hd)
   ·exact kq h hd
theorem rE {i:Nat} {p:tM} {pins:List tM} (h:p∈pins) (hd:ko i p.D=false):p∈dC i pins:=by
 unfold dC; rw[List.mem_filter]; exact⟨h,by simp[hd]⟩
theorem me {i:Nat} {y:my} {ys:List my} (h:y∈dh i ys):y∈ys/\ko i y.D=false:=by
 unfold dh at h; rw[List.mem_filter] at h; exact⟨h.1,by simpa [ko] using h.2⟩
theorem pj.dh {i:Nat} {pins:List tM} {ys:List my} (h:pj pins ys I β st w):pj (dC i pins) (dh i ys) I β st w:=fun y hy=>by
 obtain⟨hy,hd⟩:=me hy
 rcases h y hy with h|⟨g,h1,h2,h3⟩
 ·exact .inl h
 ·exact .inr ⟨g,h1,h2,h3.imp id fun ⟨p,hp,he,h4⟩=>⟨p,rE hp (by rw[he]; exact hd),he,h4⟩⟩
theorem nW (hG:m5 G) {i:Nat} {o:Oper} {pins:List tM} {ys:List my} {K:ba->Prop} (h:gB G ops.toList s i o pins K) (hR:Rel G I β s a w) (hp:pj pins ys I β s.st w) :
  Ev.qm G.cx.P ops o a w fun v w'=>∃ s' I' aU,K s'/\Rel G I' aU s' (a.put o.dst v) w'/\bW I β s w I' aU s' w'/\(∀ y∈dh i ys,y.Y w')/\pj (dC i pins) (dh i ys) I' aU s'.st w':=by
 unfold gB at h
 rcases iQ hR h with ⟨hw,s1,h1,mZ,ib⟩|⟨hw,s1,h1,mZ,ib⟩
 ·refine .inl ⟨hw,?_⟩
  
  split at h1
  ·rename_i hls
   refine Ev.l8 ?_ (vC hG ib h1)
   rintro v w' ⟨x,s2,I2,gl,h2,kO,hx,hE,e1,e2,e3,gJ,_⟩
   obtain⟨s3,h3,ny,tL⟩:=ba.bV (G:=G) h2
   have WK:bW I β s w I2 gl s3 w':=((bW.same mZ).trans ⟨hE,e1,e2,e3,gJ⟩).trans (bW.same ny)
   have rq:∀ y∈dh i ys,y.Y w'/\((∀ w2,y.Y w2)\/∃ g,(∀ w2,y.Y w2↔w2.heap[g]?=w'.heap[g]?)/\g < w'.heap.size/\I2 g):=fun y hy=>by
    obtain⟨hy,hd⟩:=me hy
    rcases hp y hy with h|⟨g,h1,h2,h3⟩
    ·exact⟨h _,.inl h⟩
    ·rcases h3 with h3|⟨p,Fu,he,_⟩
     ·have hs:=WK.ext.keeps hR.heap hR.ay.ay g h3
      exact⟨(h1 w').2 hs,.inr ⟨g,fun w2=>by rw[h1,hs],Nat.lt_of_lt_of_le h2 WK.ext.size,WK.ext.ay g h3⟩⟩
     ·have:=kq (i:=i) Fu (by rw[he]; exact hd)
      rw[hls] at this
      cases this
   exact⟨s3,I2,gl,h3,tL _ _ _ _ v kO hx,WK,fun y hy=>(rq y hy).1,fun y hy=>(rq y hy).2.imp id fun ⟨g,a1,a2,a3⟩=>⟨g,a1,a2,.inl a3⟩⟩
  ·rename_i ls hls
   replace h1:=vI h1
   have K7:=ib.heap.OR (f:=rD) (us:=iE s1.st (pinned i pins)) (fun b m=>Qb)
   have hEp:Ext I β s1.st w I β (mapM rD (iE s1.st (pinned i pins)) 0 s1.st) w:=⟨rfl,rfl,rfl,Nat.le_refl _,fun _ _ _=>rfl,fun g hg ⟨l,b',p,o',g1,g2,g3,g4,g5⟩=>by
    rw[fS,Option.map_eq_some_iff] at g1
    obtain⟨b,hb,rfl⟩:=g1
    refine⟨l,b,p,o',hb,g2,?_,g4,g5⟩
    simp only at g3
    exact Qc g3,fun _ h=>h,fun _ _ h=>.inl h⟩
   have hRp:=ib.grow K7 hEp (fun _ _ h=>h) (by rw[gC]; exact Nat.le_refl _) ib.ay.ay
   refine Ev.l8 ?_ (vC hG hRp h1)
   rintro v w' ⟨x,s2,I2,gl,h2,kO,hx,hE,e1,e2,e3,gJ,hpn⟩
   obtain⟨c1,c2,c3,c4,c5⟩:=ba.eP s1 (mapM rD (iE s1.st (pinned i pins)) 0 s1.st)
   rw[c3] at hE hpn
   rw[c4] at e1 gJ
   rw[c5] at e2 gJ
   rw[c1] at e3
   replace h2:=bs h2
   obtain⟨Qd,h2⟩:=h2
   replace h2:=vI h2
   have hmu:=kO.heap.OR (f:=iw) (us:=iE s1.st (pinned i pins)) (fun b m=>Gq)
   
   have Xu:∀ l∈iE s1.st (pinned i pins),∃ b,s1.st[l]?=some b/\b.m = .w/\b.live=true:=fun l hl=>by
    unfold iE at hl
    rw[List.mem_filter] at hl
    have:=hl.2
    cases hb:s1.st[l]? with
    | none=>rw[hb] at this; cases this
    | some b =>
     rw[hb] at this
     simp only[Bool.and_eq_true] at this
     refine⟨b,rfl,?_,this.1⟩
     have:=this.2
     cases hm:b.m<;>simp only[hm,Md.isW] at this<;>first|rfl|cases this
   have hfix:∀ l b,s1.st[l]?=some b->b.m = .w->l∈iE s1.st (pinned i pins)->gl l=β l:=fun l b hb hm hl=>by
    refine hpn l { b with m:=.p } ?_ rfl
    rw[fS,hb,Nat.zero_add,dY.2 hl,Option.map_some,hm]; rfl
   have XX:Ext I β s1.st w I2 gl (mapM iw (iE s1.st (pinned i pins)) 0 s2.st) w':=by
    have OS:=hEp.trans hE
    refine⟨OS.os,OS.tape,OS.output,OS.size,OS.block,fun g hg ⟨l,b',p,o',g1,g2,g3,g4,g5⟩=>?_,OS.ay,OS.new⟩
    rw[fS,Option.map_eq_some_iff] at g1
    obtain⟨b,hb,rfl⟩:=g1
    simp only[Nat.zero_add] at g3
    cases xu:ko l (iE s1.st (pinned i pins)) with
    | false =>
     rw[xu] at g3
     refine OS.wr g hg ⟨l,b,p,o',hb,g2,?_,g4,g5⟩
     cases hm:b.m<;>rw[hm] at g3<;>first|rfl|cases g3
    | true =>
     have hl:=dY.1 xu
     obtain⟨b0,gq,m0,Qe⟩:=Xu l hl
     exact⟨l,b0,p,o',gq,Qe,m0,by rw[← hfix l b0 gq m0 hl]; exact g4,g5⟩
   have rq:∀ y∈dh i ys,y.Y w'/\((∀ w2,y.Y w2)\/∃ g,(∀ w2,y.Y w2↔w2.heap[g]?=w'.heap[g]?)/\g < w'.heap.size/\(I2 g\/∃ p∈dC i pins,p.D=y.D/\∃ b pl o,(mapM iw (iE s1.st (pinned i pins)) 0 s2.st)[p.l]?=some b/\b.live=true/\gl p.l=some pl/\pl.a=some (g,o))):=fun y hy=>by
    obtain⟨hy,hd⟩:=me hy
    rcases hp y hy with h|⟨g,g1,g2,g3⟩
    ·exact⟨h _,.inl h⟩
    ·have byI:I g->y.Y w'/\((∀ w2,y.Y w2)\/∃ g,(∀ w2,y.Y w2↔w2.heap[g]?=w'.heap[g]?)/\g < w'.heap.size/\(I2 g\/∃ p∈dC i pins,p.D=y.D/\∃ b pl o,(mapM iw (iE s1.st (pinned i pins)) 0 s2.st)[p.l]?=some b/\b.live=true/\gl p.l=some pl/\pl.a=some (g,o))):=fun hI=>by
      have hs:=XX.keeps ib.heap ib.ay.ay g hI
      exact⟨(g1 w').2 hs,.inr ⟨g,fun w2=>by rw[g1,hs],Nat.lt_of_lt_of_le g2 XX.size,.inl (XX.ay g hI)⟩⟩
     rcases g3 with g3|⟨p,Fu,he,b,pl,o',hb,aP,pU,Qf⟩
     ·exact byI g3
     ·rw[← mZ.st] at hb
      have gq:=ib.heap.gM _ b hb aP
      obtain⟨arr,ty,fr,hh,ho⟩:=gq.place pU Qf
      by_cases hmr:b.m = .r
      ·exact byI (ho.2 hmr)
      ·have hlm:=kq (i:=i) Fu (by rw[he]; exact hd)
       
       have hpin:∃ b',(mapM rD (iE s1.st (pinned i pins)) 0 s1.st)[p.l]?=some b'/\b'.m = .p/\b'.live=true:=by
        refine⟨{ b with m:=rD (ko (0+p.l) (iE s1.st (pinned i pins))) b.m },by rw[fS,hb]; rfl,?_,aP⟩
        simp only[Nat.zero_add]
        cases hm:b.m with
        | r=>exact absurd hm hmr
        | p=>cases ko p.l (iE s1.st (pinned i pins))<;>rfl
        | w =>
         have:p.l∈iE s1.st (pinned i pins):=by unfold iE; rw[List.mem_filter,hb]; exact⟨hlm,by simp only[hm,aP]; rfl⟩
         rw[dY.2 this]; rfl
       obtain⟨b',dw,mw,fA⟩:=hpin
       have hb'0:=K7.gM _ b' dw fA
       obtain⟨_,_,fr',_,ho'⟩:=hb'0.place pU Qf
       have Fv:¬ Wr β (mapM rD (iE s1.st (pinned i pins)) 0 s1.st) g:=fun ⟨l2,b2,p2,o2,k1,k2,k3,k4,k5⟩=>by
        by_cases dk:l2=p.l
        ·subst dk
         rw[dw] at k1; cases k1; rw[mw] at k3; cases k3
        ·exact (ho'.1 (by rw[mw]; decide)).2.2 l2 b2 dk k1 k2 p2 g o2 k4 k5 rfl
       have hs:w'.heap[g]?=w.heap[g]?:=hE.block g g2 Fv
       have hβ2:gl p.l=some pl:=(hpn _ b' dw mw).trans pU
       have OT:∃ b2,s2.st[p.l]?=some b2/\b2.live=true:=by
        unfold okP at Qd
        rw[List.all_eq_true] at Qd
        have:=Qd _ hlm
        cases eu:s2.st[p.l]? with
        | none=>rw[eu] at this; cases this
        | some b2=>rw[eu] at this; exact⟨b2,rfl,this⟩
       obtain⟨b2,eu,bU⟩:=OT
       refine⟨(g1 w').2 hs,.inr ⟨g,fun w2=>by rw[g1,hs],Nat.lt_of_lt_of_le g2 XX.size,.inr ⟨p,rE Fu (by rw[he]; exact hd),he,{ b2 with m:=iw (ko (0+p.l) (iE s1.st (pinned i pins))) b2.m },pl,o',by rw[fS,eu]; rfl,bU,hβ2,Qf⟩⟩⟩
   have hEu:Ext I2 gl s2.st w' I2 gl (mapM iw (iE s1.st (pinned i pins)) 0 s2.st) w'->True:=fun _=>trivial
   clear hEu
   have vJ:Rel G I2 gl (s2.store (mapM iw (iE s1.st (pinned i pins)) 0 s2.st)) a w':=by
    obtain⟨d1,d2,d3,d4,d5⟩:=ba.eP s2 (mapM iw (iE s1.st (pinned i pins)) 0 s2.st)
    exact⟨by rw[d1]; exact kO.small,kO.defers,by rw[d1]; exact kO.size,by rw[d4,d3,gC]; exact kO.base,by rw[d2]; exact kO.get,by rw[d3]; exact hmu,kO.ay⟩
   obtain⟨s3,h3,ny,tL⟩:=ba.bV (G:=G) h2
   obtain⟨d1,d2,d3,d4,d5⟩:=ba.eP s2 (mapM iw (iE s1.st (pinned i pins)) 0 s2.st)
   refine⟨s3,I2,gl,h3,tL _ _ _ _ v vJ hx,(bW.same mZ).trans ⟨by rw[ny.st,d3]; exact XX,by rw[ny.base,d4]; exact e1,by rw[ny.rl,d5]; exact e2,by rw[ny.n,d1]; exact e3,gJ⟩,fun y hy=>(rq y hy).1,fun y hy=>?_⟩
   rw[ny.st,d3]
   exact (rq y hy).2
 ·obtain⟨s3,h3,ny,tL⟩:=ba.bV (G:=G) h1
  refine .inr ⟨hw,s3,I,β,h3,tL _ _ _ _ _ ib Is.undef,(bW.same mZ).trans (bW.same ny),fun y hy=>?_,?_⟩
  ·obtain⟨hy,_⟩:=me hy
   rcases hp y hy with h|⟨g,h1,_⟩
   ·exact h w
   ·exact (h1 w).2 rfl
  ·rw[ny.st,mZ.st]; exact hp.dh
theorem dX.nX {P:Program} {Q:Exit->Act->World->Prop} {i:Nat}:∀ (f:Nat) (l:Array Bool) (a:Act) (S:World->Prop) (pins:List my),dX P ops Q f l a S pins->dX P ops Q f l a S (⟨i,[],fun _=>True⟩::pins)
 | 0,_,_,_,_,h=>h
 | f+1,l,a,S,pins,h=>by
  have WI:∀ j,dh j (⟨i,[],fun _=>True⟩::pins)=⟨i,[],fun _=>True⟩::dh j pins:=fun j=>by
   unfold dh; rw[List.filter_cons,if_pos (by simp)]
  refine⟨h.1,fun j hj o ho=>?_⟩
  obtain⟨h0,h1⟩:=h.2 j hj o ho
  rw[WI]
  refine⟨fun hl=>?_,fun hl w hw=>mc (fun v w' ⟨S',h2,h3,h4⟩=>⟨S',fun p hp=>?_,h3,dX.nX f _ _ _ _ h4⟩) (h1 hl w hw)⟩
  ·obtain⟨v,hy,hn⟩:=h0 hl
   exact⟨v,hy,dX.nX f _ _ _ _ hn⟩
  ·rcases List.mem_cons.1 hp with rfl|hp
   ·exact fun _ _=>trivial
   ·exact h2 p hp
theorem xC {P:Program} {K:Value->World->Prop} {r:Result Next} (h:Ev.nF P K r):∃ v w,K v w:=by
 cases r with
 | ok n w =>
  cases n<;>simp only[Ev.nF] at h
  case value u=>exact⟨_,_,h⟩
  case skip=>exact⟨_,_,h⟩
  case enter f args =>
   obtain⟨e,w',fr,⟨u,_,hu⟩,_⟩:=h []
   exact⟨_,_,hu⟩
 | halt x w=>exact h.elim
theorem lD {P:Program} {o:Oper} {K:Value->World->Prop} (h:Ev.qm P ops o a w K):∃ v w',K v w':=by
 rcases h with ⟨_,h⟩|⟨_,h⟩
 ·exact xC h
 ·exact⟨_,_,h⟩
theorem dX.ends {P:Program} {Q:Exit->Act->World->Prop}:∀ (f:Nat) (l:Array Bool) (a:Act) (S:World->Prop) (pins:List my) (w:World),dX P ops Q f l a S pins->S w->∃ a' w',Q .normal a' w'
 | 0,l,a,S,_,w,h,hw=>⟨a,w,h.2 w hw⟩
 | f+1,l,a,S,pins,w,h,hw=>by
  cases hr:Region.ready .any ops l with
  | nil=>exact⟨a,w,h.1 hr w hw⟩
  | cons i r =>
   have hi:i∈Region.ready .any ops l:=by rw[hr]; exact List.mem_cons_self
   obtain⟨o,ho⟩:=Ev.xh hi
   obtain⟨h0,h1⟩:=h.2 i hi o ho
   cases he:bq o.op with
   | false =>
    obtain⟨v,_,hn⟩:=h0 he
    exact dX.ends f _ _ S _ w hn hw
   | true =>
    obtain⟨v,w',S',_,Kt,hn⟩:=lD (h1 he w hw)
    exact dX.ends f _ _ S' _ w' hn Kt
theorem Qg {listed:Array Bool} {i:Nat} {D:List Nat} (h:WJ ops.toList listed i D=true):∀ j∈D,listed.getD j false=false/\∃ oj,ops[j]?=some oj/\∃ e∈oj.after,Region.binds .any e=true/\(e.on=i\/e.on∈D):=by
 intro j hj
 unfold WJ at h
 rw[List.all_eq_true] at h
 have:=h j hj
 simp only[Bool.and_eq_true,Bool.not_eq_true'] at this
 refine⟨this.1,?_⟩
 have h2:=this.2
 cases ho:ops.toList[j]? with
 | none=>rw[ho] at h2; cases h2
 | some oj =>
  rw[ho] at h2
  simp only[List.any_eq_true,Bool.and_eq_true,Bool.or_eq_true] at h2
  obtain⟨e,he,hb,h3⟩:=h2
  exact⟨oj,by simpa using ho,e,by simpa using he,hb,h3.imp Nat.eq_of_beq_eq_true dY.1⟩
end
mutual
inductive aS where
 | done
 | pure (i:Nat) (r:aS)
 | load (i:Nat) (D:List Nat) (r:aS)
 | bq (i:Nat) (r:aS) (more:jZ)
inductive jZ where
 | nil
 | cons (j:Nat) (r:aS) (more:jZ)
 | alt (j:Nat) (r:aS) (more:jZ)
 | sub (j:Nat) (r:aS) (more:jZ)
end
def OU:List Nat->List Nat->Bool
 | [],[]=>true
 | a::l,b::m=>Nat.beq a b && OU l m
 | _,_=>false
def pZ (ops:Array Oper) (i:Nat):Bool:=match ops[i]? with
 | some o=>bq o.op
 | none=>false
def kt (tF:Nat->aS->Bool):List Nat->jZ->Bool
 | [],.nil=>true
 | j::l,.cons k r ms=>Nat.beq j k && tF j r && kt tF l ms
 | j::l,.alt k r ms=>Nat.beq j k && tF j r && kt tF l ms
 | j::l,.sub k r ms=>Nat.beq j k && tF j r && kt tF l ms
 | _,_=>false
def BB (ops:Array Oper):Nat->Array Bool->aS->Bool
 | _,listed,.done=>(Region.ready .any ops listed).isEmpty
 | 0,_,_=>false
 | fuel+1,listed,.pure i r=>(match Ev.vj (nU ops listed) (Region.ready .any ops listed) with
  | some k=>Nat.beq k i && BB ops fuel (listed.setIfInBounds i true) r
  | none=>false)
 | fuel+1,listed,.load i D r=>(match Ev.vj (nV ops listed) (Region.ready .any ops listed) with
  | some k=>Nat.beq k i && OU D (zS listed i ops.toList 0 []) && WJ ops.toList listed i D && BB ops fuel (listed.setIfInBounds i true) r
  | none=>false)
 | fuel+1,listed,.bq i r ms=>(match Region.ready .any ops listed with
  | i0::more=>Nat.beq i0 i && pZ ops i && more.all (pZ ops) && BB ops fuel (listed.setIfInBounds i true) r && kt (fun j r=>BB ops fuel (listed.setIfInBounds j true) r) more ms
  | []=>false)
def lE (tF:Nat->aS->Prop):List Nat->jZ->Prop
 | [],.nil=>True
 | j::l,.cons k r ms=>j=k/\tF j r/\lE tF l ms
 | j::l,.alt k r ms=>j=k/\tF j r/\lE tF l ms
 | j::l,.sub k r ms=>j=k/\tF j r/\lE tF l ms
 | _,_=>False
def ju (ops:Array Oper):Nat->Array Bool->aS->Prop
 | _,listed,.done=>Region.ready .any ops listed = []
 | 0,_,_=>False
 | fuel+1,listed,.pure i r=>i∈Region.ready .any ops listed/\nU ops listed i=true/\ju ops fuel (listed.setIfInBounds i true) r
 | fuel+1,listed,.load i D r=>i∈Region.ready .any ops listed/\nV ops listed i=true/\WJ ops.toList listed i D=true/\ju ops fuel (listed.setIfInBounds i true) r
 | fuel+1,listed,.bq i r ms=>(match Region.ready .any ops listed with
  | i0::more=>i0=i/\pZ ops i=true/\(∀ j∈more,pZ ops j=true)/\ju ops fuel (listed.setIfInBounds i true) r/\lE (fun j r=>ju ops fuel (listed.setIfInBounds j true) r) more ms
  | []=>False)
def Sub (G:Gx) (s s':ba):Prop:=∀ I β a w,Rel G I β s a w->∃ I' aU,Rel G I' aU s' a w/\bW I β s w I' aU s' w
mutual
def cp (G:Gx) (ops:List Oper):aS->ba->List tM->(ba->Prop)->Prop
 | .done,s,_,K=>K s
 | .pure i r,s,pins,K=>bB ops[i]? fun o=>mX ops s o (fun s=>pS G.cx s o.op fun v=>s.put o.dst v fun s=>cp G ops r s pins K) (fun s=>s.put o.dst (.tup []) fun s=>cp G ops r s pins K)
 | .load i D r,s,pins,K=>bB ops[i]? fun o=>mX ops s o (fun s=>match o.op with
   | .load t ad=>s.ev ad fun x=>um G s.st t x fun v=>s.put o.dst v fun s=>cp G ops r s (vH D x pins) K
   | _=>False) (fun s=>s.put o.dst (.tup []) fun s=>cp G ops r s pins K)
 | .bq i r ms,s,pins,K=>bB ops[i]? fun o=>match ms with
  | .nil=>gB G ops s i o pins fun s1=>cp G ops r s1 (dC i pins) K
  | .cons j r' XY=>gB G ops s i o pins fun s1=>cp G ops r s1 (dC i pins) fun sf=>K sf/\(bB ops[j]? fun o=>gB G ops s j o pins fun s2=>cp G ops r' s2 (dC j pins) fun xD=>xD=sf)/\fC G ops XY s pins sf
  | .sub j r' XY=>gB G ops s i o pins fun s1=>cp G ops r s1 (dC i pins) fun sf=>∃ CW,Sub G sf CW/\K CW/\(bB ops[j]? fun o=>gB G ops s j o pins fun s2=>cp G ops r' s2 (dC j pins) fun xD=>Sub G xD CW)/\gD G ops XY s pins CW
  | .alt j r' XY=>(gB G ops s i o pins fun s1=>cp G ops r s1 (dC i pins) K)/\(bB ops[j]? fun o=>gB G ops s j o pins fun s2=>cp G ops r' s2 (dC j pins) K)/\jv G ops XY s pins K
def fC (G:Gx) (ops:List Oper):jZ->ba->List tM->ba->Prop
 | .nil,_,_,_=>True
 | .cons j r ms,s,pins,sf=>(bB ops[j]? fun o=>gB G ops s j o pins fun s2=>cp G ops r s2 (dC j pins) fun xD=>xD=sf)/\fC G ops ms s pins sf
 | .alt _ _ _,_,_,_=>False
 | .sub _ _ _,_,_,_=>False
def gD (G:Gx) (ops:List Oper):jZ->ba->List tM->ba->Prop
 | .nil,_,_,_=>True
 | .sub j r ms,s,pins,sf=>(bB ops[j]? fun o=>gB G ops s j o pins fun s2=>cp G ops r s2 (dC j pins) fun xD=>Sub G xD sf)/\gD G ops ms s pins sf
 | .cons _ _ _,_,_,_=>False
 | .alt _ _ _,_,_,_=>False
def jv (G:Gx) (ops:List Oper):jZ->ba->List tM->(ba->Prop)->Prop
 | .nil,_,_,_=>True
 | .alt j r ms,s,pins,K=>(bB ops[j]? fun o=>gB G ops s j o pins fun s2=>cp G ops r s2 (dC j pins) K)/\jv G ops ms s pins K
 | .cons _ _ _,_,_,_=>False
 | .sub _ _ _,_,_,_=>False
end
section
variable {w w':World} {I I':Nat->Prop} {β aU:aB} {G:Gx} {s:ba} {a:Act} {st eU:List an} {ops:Array Oper}
theorem rF {tF:Nat->aS->Prop}:∀ {l:List Nat} {ms:jZ},lE tF l ms->∀ {pins:List tM} {sf:ba},fC G ops.toList ms s pins sf->∀ j∈l,∃ r,tF j r/\bB ops.toList[j]? fun o=>gB G ops.toList s j o pins fun s2=>cp G ops.toList r s2 (dC j pins) fun xD=>xD=sf
 | [],_,_,_,_,_,_,hj=>by cases hj
 | i::l,.nil,h,_,_,_,_,_=>False.elim h
 | i::l,.alt k r ms,h,pins,sf,hr,j,hj=>by unfold fC at hr; exact hr.elim
 | i::l,.sub k r ms,h,pins,sf,hr,j,hj=>by unfold fC at hr; exact hr.elim
 | i::l,.cons k r ms,h,pins,sf,hr,j,hj=>by
  obtain⟨rfl,h2,h3⟩:=h
  unfold fC at hr
  rcases List.mem_cons.1 hj with rfl|hj
  ·exact⟨r,h2,hr.1⟩
  ·exact rF h3 hr.2 j hj
theorem p4 {tF:Nat->aS->Prop}:∀ {l:List Nat} {ms:jZ},lE tF l ms->∀ {pins:List tM} {K:ba->Prop},jv G ops.toList ms s pins K->∀ j∈l,∃ r,tF j r/\bB ops.toList[j]? fun o=>gB G ops.toList s j o pins fun s2=>cp G ops.toList r s2 (dC j pins) K
 | [],_,_,_,_,_,_,hj=>by cases hj
 | i::l,.nil,h,_,_,_,_,_=>False.elim h
 | i::l,.cons k r ms,h,pins,K,hr,j,hj=>by unfold jv at hr; exact hr.elim
 | i::l,.sub k r ms,h,pins,K,hr,j,hj=>by unfold jv at hr; exact hr.elim
 | i::l,.alt k r ms,h,pins,K,hr,j,hj=>by
  obtain⟨rfl,h2,h3⟩:=h
  unfold jv at hr
  rcases List.mem_cons.1 hj with rfl|hj
  ·exact⟨r,h2,hr.1⟩
  ·exact p4 h3 hr.2 j hj
theorem p6 {tF:Nat->aS->Prop}:∀ {l:List Nat} {ms:jZ},lE tF l ms->∀ {pins:List tM} {sf:ba},gD G ops.toList ms s pins sf->∀ j∈l,∃ r,tF j r/\bB ops.toList[j]? fun o=>gB G ops.toList s j o pins fun s2=>cp G ops.toList r s2 (dC j pins) fun xD=>Sub G xD sf
 | [],_,_,_,_,_,_,hj=>by cases hj
 | i::l,.nil,h,_,_,_,_,_=>False.elim h
 | i::l,.cons k r ms,h,pins,sf,hr,j,hj=>by unfold gD at hr; exact hr.elim
 | i::l,.alt k r ms,h,pins,sf,hr,j,hj=>by unfold gD at hr; exact hr.elim
 | i::l,.sub k r ms,h,pins,sf,hr,j,hj=>by
  obtain⟨rfl,h2,h3⟩:=h
  unfold gD at hr
  rcases List.mem_cons.1 hj with rfl|hj
  ·exact⟨r,h2,hr.1⟩
  ·exact p6 h3 hr.2 j hj
theorem nY {i:Nat} {o:Oper} (ho:ops[i]?=some o) (h:pZ ops i=true):bq o.op=true:=by unfold pZ at h; rw[ho] at h; exact h
theorem zT (hG:m5 G) (zR:Region.noSelect ops=true):∀ (fuel:Nat) (p:aS) (Q:Exit->Act->World->Prop) (l:Array Bool) (s:ba) (a:Act) (I:Nat->Prop) (β:aB) (w:World) (pins:List tM) (ys:List my) (K:ba->Prop),
  ju ops fuel l p->cp G ops.toList p s pins K->Rel G I β s a w->pj pins ys I β s.st w->(∀ s' I' aU a' w',K s'->Rel G I' aU s' a' w'->bW I β s w I' aU s' w'->Q .normal a' w')->dX G.cx.P ops Q fuel l a (fun w2=>w2=w) ys:=by
 intro fuel
 have fin:∀ (fuel:Nat) (Q:Exit->Act->World->Prop) (l:Array Bool) (s:ba) (a:Act) (I:Nat->Prop) (β:aB) (w:World) (ys:List my) (K:ba->Prop),Region.ready .any ops l = []->K s->Rel G I β s a w->(∀ s' I' aU a' w',K s'->Rel G I' aU s' a' w'->bW I β s w I' aU s' w'->Q .normal a' w')->dX G.cx.P ops Q fuel l a (fun w2=>w2=w) ys:=by
  intro fuel Q l s a I β w ys K hr h hR hQ
  have pV:Region.ready .any ops l = []:=hr
  cases fuel with
  | zero=>exact⟨pV,fun w2 hw=>by subst hw; exact hQ s I β a w2 h hR (bW.same ⟨rfl,rfl,rfl,rfl⟩)⟩
  | succ fuel=>exact⟨fun _ w2 hw=>by subst hw; exact hQ s I β a w2 h hR (bW.same ⟨rfl,rfl,rfl,rfl⟩),fun i hi=>by rw[pV] at hi; cases hi⟩
 induction fuel with
 | zero =>
  intro p Q l s a I β w pins ys K hp h hR _ hQ
  cases p with
  | done=>exact fin 0 Q l s a I β w ys K (by simpa only [ju] using hp) (by simpa only [cp] using h) hR hQ
  | pure=>exact hp.elim
  | load=>exact hp.elim
  | bq=>exact hp.elim
 | succ fuel ih =>
  intro p Q l s a I β w pins ys K hp h hR Ku hQ
  cases p with
  | done=>exact fin (fuel+1) Q l s a I β w ys K (by simpa only [ju] using hp) (by simpa only [cp] using h) hR hQ
  | pure i r =>
   simp only[ju] at hp
   ·obtain⟨kp,iU,hp⟩:=hp
    unfold cp at h
    replace h:=aD h
    obtain⟨o,ho,h⟩:=h
    rw[Array.getElem?_toList] at ho
    unfold nU at iU
    rw[ho] at iU
    simp only[Bool.and_eq_true] at iU
    have he:bq o.op=false:=by unfold bq; rw[iU.1]; rfl
    rcases iQ hR h with ⟨ic,s1,h1,mZ,ib⟩|⟨ic,s1,h1,mZ,ib⟩
    ·obtain⟨x,v,h1,hx,cj⟩:=xo hG.ok ib h1
     obtain⟨s3,h3,ny,tL⟩:=ba.bV (G:=G) h1
     refine dX.first (v:=v) (D:=[]) (Y:=fun _=>True) ho he zR fuel l a _ ys (Region.free_spec ho iU.2) (fun j hj=>by cases hj) (.inl ⟨ic,fun w2 _=>cj w2⟩) (fun _ _=>trivial) kp (dX.nX _ _ _ _ _ ?_)
     exact ih r Q _ s3 _ I β w pins ys K hp h3 (tL _ _ _ _ _ ib hx) (by rw[ny.st,mZ.st]; exact Ku) (fun s' I' aU a' w' hk dm hg=>hQ s' I' aU a' w' hk dm (((bW.same mZ).trans (bW.same ny)).trans hg))
    ·obtain⟨s3,h3,ny,tL⟩:=ba.bV (G:=G) h1
     refine dX.first (v:=undef) (D:=[]) (Y:=fun _=>True) ho he zR fuel l a _ ys (Region.free_spec ho iU.2) (fun j hj=>by cases hj) (.inr ⟨ic,rfl⟩) (fun _ _=>trivial) kp (dX.nX _ _ _ _ _ ?_)
     exact ih r Q _ s3 _ I β w pins ys K hp h3 (tL _ _ _ _ _ ib Is.undef) (by rw[ny.st,mZ.st]; exact Ku) (fun s' I' aU a' w' hk dm hg=>hQ s' I' aU a' w' hk dm (((bW.same mZ).trans (bW.same ny)).trans hg))
  | load i D r =>
   simp only[ju] at hp
   ·obtain⟨kp,iU,hD,hp⟩:=hp
    unfold cp at h
    replace h:=aD h
    obtain⟨o,ho,h⟩:=h
    rw[Array.getElem?_toList] at ho
    unfold nV at iU
    rw[ho] at iU
    simp only[Bool.and_eq_true] at iU
    have he:bq o.op=false:=by unfold bq; rw[iU.1,Bool.or_true]; rfl
    rcases iQ hR h with ⟨ic,s1,h1,mZ,ib⟩|⟨ic,s1,h1,mZ,ib⟩
    ·split at h1
     ·rename_i t ad vE
      replace h1:=ba.cN ib h1
      obtain⟨x,h1,hx⟩:=h1
      obtain⟨z,v,g,h1,hz,hg,cj⟩:=ri hG.ok ib.heap ib.ay h1 hx
      obtain⟨s3,h3,ny,tL⟩:=ba.bV (G:=G) h1
      have XZ:∀ w2:World,w2.heap[g]?=w.heap[g]?->(execOp a.eval o).run G.cx.P w2 = .ok (.value v) w2:=fun w2 vw=>by
       unfold execOp
       rw[vE]
       simp only[Sem.run_bind,cj w2 vw,Result.andThen_ok,Sem.run_pure]
      have Gm:g < w.heap.size:=by
       rcases hg with hg|⟨l',b,p,o',_,hb,aP,pU,Qf⟩
       ·exact hR.ay.ay g hg
       ·exact ib.heap.dW ⟨l',b,p,o',hb,aP,pU,Qf⟩
      refine dX.first (v:=v) (D:=D) (Y:=fun w2=>w2.heap[g]?=w.heap[g]?) ho he zR fuel l a _ ys (Region.free_spec ho iU.2) (Qg hD) (.inl ⟨ic,XZ⟩) (fun w2 vw=>by rw[vw]) kp ?_
      refine ih r Q _ s3 _ I β w (vH D x pins) _ K hp h3 (tL _ _ _ _ _ ib hz) ?_ (fun s' I' aU a' w' hk dm hg=>hQ s' I' aU a' w' hk dm (((bW.same mZ).trans (bW.same ny)).trans hg))
      rw[ny.st,mZ.st]
      intro y hy
      rcases List.mem_cons.1 hy with rfl|hy
      ·refine .inr ⟨g,fun _=>Iff.rfl,Gm,?_⟩
       rcases hg with hg|⟨l',b,p,o',nQ,hb,aP,pU,Qf⟩
       ·exact .inl hg
       ·refine .inr ⟨⟨D,l'⟩,by unfold vH; rw[nQ]; exact List.mem_cons_self,rfl,b,p,o',by rw[← mZ.st]; exact hb,aP,pU,Qf⟩
      ·rcases Ku y hy with h|⟨g',k1,k2,k3⟩
       ·exact .inl h
       ·refine .inr ⟨g',k1,k2,k3.imp id fun ⟨p,Fu,k4⟩=>⟨p,?_,k4⟩⟩
        unfold vH
        split
        ·exact List.mem_cons_of_mem _ Fu
        ·exact Fu
     ·exact h1.elim
    ·obtain⟨s3,h3,ny,tL⟩:=ba.bV (G:=G) h1
     refine dX.first (v:=undef) (D:=[]) (Y:=fun _=>True) ho he zR fuel l a _ ys (Region.free_spec ho iU.2) (fun j hj=>by cases hj) (.inr ⟨ic,rfl⟩) (fun _ _=>trivial) kp (dX.nX _ _ _ _ _ ?_)
     exact ih r Q _ s3 _ I β w pins ys K hp h3 (tL _ _ _ _ _ ib Is.undef) (by rw[ny.st,mZ.st]; exact Ku) (fun s' I' aU a' w' hk dm hg=>hQ s' I' aU a' w' hk dm (((bW.same mZ).trans (bW.same ny)).trans hg))
  | bq i r ms =>
   simp only[ju] at hp
   split at hp
   ·rename_i i0 more xE
    obtain⟨rfl,hei,hem,WL,Fu⟩:=hp
    unfold cp at h
    replace h:=aD h
    obtain⟨o,ho,h⟩:=h
    rw[Array.getElem?_toList] at ho
    have he:=nY ho hei
    have dk:Region.ready .any ops l≠[]:=by rw[xE]; simp
    
    have go:∀ {j:Nat} {oj:Oper} {rj:aS} {K':ba->Prop},ju ops fuel (l.setIfInBounds j true) rj->ops[j]?=some oj->bq oj.op=true->(gB G ops.toList s j oj pins fun s1=>cp G ops.toList rj s1 (dC j pins) K')->(∀ sf,K' sf->K sf) ->
      (bq oj.op=false->∃ v,Yields G.cx.P ops (fun w2=>w2=w) oj v a/\dX G.cx.P ops Q fuel (l.setIfInBounds j true) (a.put oj.dst v) (fun w2=>w2=w) (dh j ys)) /\
      (bq oj.op=true->∀ w2,w2=w->Ev.qm G.cx.P ops oj a w2 fun v w'=>∃ S':World->Prop,(∀ p∈dh j ys,∀ w,S' w->p.Y w)/\S' w'/\dX G.cx.P ops Q fuel (l.setIfInBounds j true) (a.put oj.dst v) S' (dh j ys)):=by
     intro j oj rj K' Gr mz hej h' hK
     refine⟨(fun e=>by rw[hej] at e; cases e),fun _ w2 vw=>?_⟩
     subst vw
     refine mc ?_ (nW hG h' hR Ku)
     rintro v w' ⟨s',I',aU,hk,dm,hg,hY,e_⟩
     refine⟨fun w2=>w2=w',fun p hp w2 vw=>by rw[vw]; exact hY p hp,rfl,?_⟩
     exact ih rj Q _ s' _ I' aU w' _ _ K' Gr hk dm e_ fun s2 I2 gl a2 w3 tN kO xa=>hQ s2 I2 gl a2 w3 (hK s2 tN) kO (hg.trans xa)
    have goS:∀ {j:Nat} {oj:Oper} {rj:aS} {K':ba->Prop},ju ops fuel (l.setIfInBounds j true) rj->ops[j]?=some oj->bq oj.op=true->(gB G ops.toList s j oj pins fun s1=>cp G ops.toList rj s1 (dC j pins) K')->(∀ sf,K' sf->∃ CW,Sub G sf CW/\K CW) ->
      (bq oj.op=false->∃ v,Yields G.cx.P ops (fun w2=>w2=w) oj v a/\dX G.cx.P ops Q fuel (l.setIfInBounds j true) (a.put oj.dst v) (fun w2=>w2=w) (dh j ys)) /\
      (bq oj.op=true->∀ w2,w2=w->Ev.qm G.cx.P ops oj a w2 fun v w'=>∃ S':World->Prop,(∀ p∈dh j ys,∀ w,S' w->p.Y w)/\S' w'/\dX G.cx.P ops Q fuel (l.setIfInBounds j true) (a.put oj.dst v) S' (dh j ys)):=by
     intro j oj rj K' Gr mz hej h' hK
     refine⟨(fun e=>by rw[hej] at e; cases e),fun _ w2 vw=>?_⟩
     subst vw
     refine mc ?_ (nW hG h' hR Ku)
     rintro v w' ⟨s',I',aU,hk,dm,hg,hY,e_⟩
     refine⟨fun w2=>w2=w',fun p hp w2 vw=>by rw[vw]; exact hY p hp,rfl,?_⟩
     exact ih rj Q _ s' _ I' aU w' _ _ K' Gr hk dm e_ fun s2 I2 gl a2 w3 tN kO xa=>by
      obtain⟨CW,hs,vK⟩:=hK s2 tN
      obtain⟨I3,Fw,vJ,OV⟩:=hs I2 gl a2 w3 kO
      exact hQ CW I3 Fw a2 w3 vK vJ ((hg.trans xa).trans OV)
    cases ms with
    | nil =>
     cases more with
     | cons=>exact Fu.elim
     | nil =>
      refine⟨fun e=>absurd e dk,fun j hj oj mz=>?_⟩
      rw[xE,List.mem_singleton] at hj
      subst hj
      rw[ho] at mz
      cases mz
      exact go WL ho he h fun _ hk=>hk
    | cons j0 r0 o5 =>
     have eQ:∀ sf,((bB ops.toList[j0]? fun o=>gB G ops.toList s j0 o pins fun s2=>cp G ops.toList r0 s2 (dC j0 pins) fun xD=>xD=sf)/\fC G ops.toList o5 s pins sf)->fC G ops.toList (.cons j0 r0 o5) s pins sf:=fun sf h=>by unfold fC; exact h
     
     obtain⟨sf,hKf,nZ⟩:∃ sf,K sf/\fC G ops.toList (.cons j0 r0 o5) s pins sf:=by
      obtain⟨v,w',s',I',aU,hk,dm,hg,hY,e_⟩:=lD (nW hG h hR Ku)
      have hA:=ih r (fun _ _ _=>∃ sf,K sf/\fC G ops.toList (.cons j0 r0 o5) s pins sf) _ s' (a.put o.dst v) I' aU w' _ _ _ WL hk dm e_ fun s2 I2 gl a2 w3 tN _ _=>⟨s2,tN.1,eQ _ tN.2⟩
      obtain⟨_,_,h3⟩:=dX.ends _ _ _ _ _ w' hA rfl
      exact h3
     refine⟨fun e=>absurd e dk,fun j hj oj mz=>?_⟩
     rw[xE] at hj
     rcases List.mem_cons.1 hj with rfl|hj
     ·rw[ho] at mz
      cases mz
      exact go WL ho he h fun _ hk=>hk.1
     ·obtain⟨rj,X0,h2⟩:=rF Fu nZ j hj
      replace h2:=aD h2
      obtain⟨oj',rC,h2⟩:=h2
      rw[Array.getElem?_toList,mz] at rC
      cases rC
      exact go X0 mz (nY mz (hem j hj)) h2 fun xD e=>by rw[e]; exact hKf
    | sub j0 r0 o5 =>
     have eQ:∀ sf,((bB ops.toList[j0]? fun o=>gB G ops.toList s j0 o pins fun s2=>cp G ops.toList r0 s2 (dC j0 pins) fun xD=>Sub G xD sf)/\gD G ops.toList o5 s pins sf)->gD G ops.toList (.sub j0 r0 o5) s pins sf:=fun sf h=>by unfold gD; exact h
     obtain⟨sf,hKf,nZ⟩:∃ sf,K sf/\gD G ops.toList (.sub j0 r0 o5) s pins sf:=by
      obtain⟨v,w',s',I',aU,hk,dm,hg,hY,e_⟩:=lD (nW hG h hR Ku)
      have hA:=ih r (fun _ _ _=>∃ sf,K sf/\gD G ops.toList (.sub j0 r0 o5) s pins sf) _ s' (a.put o.dst v) I' aU w' _ _ _ WL hk dm e_ fun s2 I2 gl a2 w3 tN _ _=>let ⟨CW,_,h2,h3⟩:=tN; ⟨CW,h2,eQ _ h3⟩
      obtain⟨_,_,h3⟩:=dX.ends _ _ _ _ _ w' hA rfl
      exact h3
     refine⟨fun e=>absurd e dk,fun j hj oj mz=>?_⟩
     rw[xE] at hj
     rcases List.mem_cons.1 hj with rfl|hj
     ·rw[ho] at mz
      cases mz
      exact goS WL ho he h fun _ hk=>let ⟨CW,h1,h2,_⟩:=hk; ⟨CW,h1,h2⟩
     ·obtain⟨rj,X0,h2⟩:=p6 Fu nZ j hj
      replace h2:=aD h2
      obtain⟨oj',rC,h2⟩:=h2
      rw[Array.getElem?_toList,mz] at rC
      cases rC
      exact goS X0 mz (nY mz (hem j hj)) h2 fun xD e=>⟨sf,e,hKf⟩
    | alt j0 r0 o5 =>
     obtain⟨h,nZ⟩:=h
     have eQ:jv G ops.toList (.alt j0 r0 o5) s pins K:=by unfold jv; exact nZ
     refine⟨fun e=>absurd e dk,fun j hj oj mz=>?_⟩
     rw[xE] at hj
     rcases List.mem_cons.1 hj with rfl|hj
     ·rw[ho] at mz
      cases mz
      exact go WL ho he h fun _ hk=>hk
     ·obtain⟨rj,X0,h2⟩:=p4 Fu eQ j hj
      replace h2:=aD h2
      obtain⟨oj',rC,h2⟩:=h2
      rw[Array.getElem?_toList,mz] at rC
      cases rC
      exact go X0 mz (nY mz (hem j hj)) h2 fun _ hk=>hk
   ·cases hp
end
def tb (m i:Nat):Bool:=Nat.beq (Nat.land (Nat.shiftRight m i) 1) 1
theorem xF (m i:Nat):tb m i=m.testBit i:=by
 unfold tb
 have h:Nat.land (Nat.shiftRight m i) 1=(m >>> i) % 2:=Nat.and_one_is_mod _
 rw[h,Nat.testBit,Nat.and_comm,Nat.and_one_is_mod]
 rcases Nat.mod_two_eq_zero_or_one (m >>> i) with e|e<;>rw[e]<;>rfl
def db (i:Nat):Nat:=Nat.shiftLeft 1 i
theorem n7 (i k:Nat):(db i).testBit k=decide (i=k):=by
 have h:db i=2 ^ i:=by show 1 <<< i=_; rw[Nat.one_shiftLeft]
 rw[h,Nat.testBit_two_pow]
theorem rG (a b k:Nat):(Nat.lor a b).testBit k=(a.testBit k || b.testBit k):=Nat.testBit_or a b k
def pk {α:Type}:Nat->(Nat->α)->α
 | 0,k=>k 0
 | n+1,k=>k (n+1)
theorem ku {α:Type} (n:Nat) (k:Nat->α):pk n k=k n:=by cases n<;>rfl
structure rH where
 w:Nat
 d:Nat
 l:Nat
 k:Nat
def iV:List Edge->Nat
 | []=>0
 | e::r=>bif Region.binds .any e then Nat.lor (iV r) (db e.on) else iV r
def xG:List Nat->Nat
 | []=>0
 | d::r=>Nat.lor (xG r) (db (d+1))
def K8:Option Nat->Nat
 | some d=>d+1
 | none=>0
def n8 (o:Oper):Nat:=bif Ev.mU o.op then 0 else bif m9 o.op then 1 else 2
def rowOf (ops:Array Oper) (o:Oper):rH:=⟨iV o.after.toList,K8 o.dst,xG (o.looksAt ops),n8 o⟩
def BC (ops:Array Oper):List Oper->(List rH->Bool)->Bool
 | [],k=>k []
 | o::r,k=>pk (iV o.after.toList) fun w=>pk (K8 o.dst) fun d=>pk (xG (o.looksAt ops)) fun l=>pk (n8 o) fun q=>BC ops r fun rs=>k (⟨w,d,l,q⟩::rs)
theorem xH (ops:Array Oper):∀ (l:List Oper) (k:List rH->Bool),BC ops l k=k (l.map (rowOf ops))
 | [],_=>rfl
 | o::r,k=>by
  simp only[BC,ku,xH ops r]
  rfl
def lF:List rH->Nat->Nat->List Nat
 | [],_,_=>[]
 | x::r,j,m=>bif !tb m j && Nat.beq (Nat.land x.w m) x.w then j::pk (j+1) fun j=>lF r j m else pk (j+1) fun j=>lF r j m
def zU (x y:rH):Bool:=!tb y.l x.d && (Nat.beq x.d 0 || !Nat.beq x.d y.d) && !tb x.l y.d
def xI (i:Nat) (x:rH) (m:Nat):List rH->Nat->Bool
 | [],_=>true
 | y::r,j=>(Nat.beq j i || tb m j || tb y.w i || zU x y) && pk (j+1) fun j=>xI i x m r j
def BD (T:List rH) (q i m:Nat):Bool:=match T[i]? with
 | some x=>Nat.beq x.k q && !tb m i && Nat.beq (Nat.land x.w m) x.w && xI i x m T 0
 | none=>false
def rI:List Nat->Nat
 | []=>0
 | j::r=>Nat.lor (rI r) (db j)
def okM (T:List rH) (m i:Nat) (D:List Nat):Bool:=pk (Nat.lor (db i) (rI D)) fun z=>D.all fun j=>!tb m j && (match T[j]? with
  | some y=>!Nat.beq (Nat.land y.w z) 0
  | none=>false)
def K9 (T:List rH) (i:Nat):Bool:=match T[i]? with
 | some x=>Nat.beq x.k 2
 | none=>false
def n9 (T:List rH):Nat->Nat->aS->Bool
 | _,m,.done=>(lF T 0 m).isEmpty
 | 0,_,_=>false
 | fuel+1,m,.pure i r=>BD T 0 i m && pk (Nat.lor m (db i)) fun m=>n9 T fuel m r
 | fuel+1,m,.load i D r=>BD T 1 i m && okM T m i D && pk (Nat.lor m (db i)) fun m=>n9 T fuel m r
 | fuel+1,m,.bq i r ms=>(match lF T 0 m with
  | i0::more=>Nat.beq i0 i && K9 T i && more.all (K9 T) && (pk (Nat.lor m (db i)) fun m=>n9 T fuel m r) && kt (fun j r=>pk (Nat.lor m (db j)) fun m=>n9 T fuel m r) more ms
  | []=>false)
theorem n_ (k:Nat):∀ l:List Edge,(iV l).testBit k=l.any fun e=>Region.binds .any e && decide (e.on=k)
 | []=>Nat.zero_testBit k
 | e::r=>by
  rw[List.any_cons,← n_ k r,iV]
  cases h:Region.binds .any e with
  | true=>rw[cond_true,rG,n7,Bool.true_and,Bool.or_comm]
  | false=>rw[cond_false,Bool.false_and,Bool.false_or]
theorem xJ (k:Nat):∀ l:List Nat,(xG l).testBit k=l.any fun d=>decide (d+1=k)
 | []=>Nat.zero_testBit k
 | d::r=>by rw[List.any_cons,← xJ k r,xG,rG,n7,Bool.or_comm]
theorem xK (k:Nat):∀ l:List Nat,(rI l).testBit k=l.any fun d=>decide (d=k)
 | []=>Nat.zero_testBit k
 | d::r=>by rw[List.any_cons,← xK k r,rI,rG,n7,Bool.or_comm]
theorem Qh (a m:Nat):Nat.beq (Nat.land a m) a=true↔∀ k,a.testBit k=true->m.testBit k=true:=by
 rw[Nat.beq_eq]
 refine⟨fun h k hk=>?_,fun h=>Nat.eq_of_testBit_eq fun k=>?_⟩
 ·have:(Nat.land a m).testBit k=true:=by rw[h]; exact hk
  have e:(Nat.land a m).testBit k=(a.testBit k && m.testBit k):=Nat.testBit_and a m k
  rw[e,hk,Bool.true_and] at this
  exact this
 ·have e:(Nat.land a m).testBit k=(a.testBit k && m.testBit k):=Nat.testBit_and a m k
  rw[e]
  cases ha:a.testBit k with
  | false=>rfl
  | true=>rw[h k ha]; rfl
theorem Gs (l:List Edge) (m:Nat):Nat.beq (Nat.land (iV l) m) (iV l)=l.all fun e=>!Region.binds .any e || m.testBit e.on:=by
 rw[Bool.eq_iff_iff,Qh,List.all_eq_true]
 simp only[n_,List.any_eq_true,Bool.and_eq_true,decide_eq_true_eq,Bool.or_eq_true,Bool.not_eq_true']
 refine⟨fun h e he=>?_,fun h k ⟨e,he,hb,hk⟩=>?_⟩
 ·cases hb:Region.binds .any e with
  | false=>exact .inl rfl
  | true=>exact .inr (h e.on ⟨e,he,hb,rfl⟩)
 ·rcases h e he with h|h
  ·rw[h] at hb; cases hb
  ·rw[← hk]; exact h
structure Mk (ops:Array Oper) (l:Array Bool) (m:Nat):Prop where
 size:l.size=ops.size
 is:∀ j,l.getD j false=m.testBit j
theorem Mk.lt {ops:Array Oper} {l:Array Bool} {m:Nat} (h:Mk ops l m) {j:Nat} (hj:j < ops.size) (d:Bool):l.getD j d=m.testBit j:=by
 rw[← h.is]
 rw[Array.getD_eq_getD_getElem?,Array.getD_eq_getD_getElem?,Array.getElem?_eq_getElem (by rw[h.size]; exact hj)]
 rfl
theorem Mk.set {ops:Array Oper} {l:Array Bool} {m:Nat} (h:Mk ops l m) {i:Nat} (hi:i < ops.size):Mk ops (l.setIfInBounds i true) (Nat.lor m (db i)):=by
 refine⟨by rw[Array.size_setIfInBounds,h.size],fun j=>?_⟩
 rw[rG,n7,Array.getD_eq_getD_getElem?,Array.getElem?_setIfInBounds]
 by_cases e:i=j
 ·subst e
  rw[if_pos rfl,if_pos (by rw[h.size]; exact hi)]
  simp
 ·rw[if_neg e,← Array.getD_eq_getD_getElem?,h.is,decide_eq_false e,Bool.or_false]
theorem Mk.none (ops:Array Oper):Mk ops (Array.replicate ops.size false) 0:=by
 refine⟨Array.size_replicate ..,fun j=>?_⟩
 rw[Nat.zero_testBit,Array.getD_eq_getD_getElem?,Array.getElem?_replicate]
 split<;>rfl
section
variable {ops:Array Oper} {l:Array Bool} {m:Nat}
theorem xL (h:Mk ops l m) (o:Oper):(o.after.all fun e=>!Region.binds .any e || l.getD e.on false)=Nat.beq (Nat.land (rowOf ops o).w m) (rowOf ops o).w:=by
 show _=Nat.beq (Nat.land (iV o.after.toList) m) (iV o.after.toList)
 rw[Gs,← Array.all_toList]
 congr 1
 funext e
 rw[h.is]
theorem xM (h:Mk ops l m):Region.ready .any ops l=lF (ops.toList.map (rowOf ops)) 0 m:=by
 have key:∀ (L:List Oper) (j:Nat),(∀ k,L[k]?=ops[j+k]?)->j+L.length=ops.size->lF (L.map (rowOf ops)) j m=(List.range' j L.length).filter fun i=>!l.getD i true && ((ops[i]?).map (·.after.all fun e=>!Region.binds .any e || l.getD e.on false)).getD false:=by
  intro L
  induction L with
  | nil=>intro j _ _; rfl
  | cons o r ih =>
   intro j hL hs
   have h0:ops[j]?=some o:=by rw[← Nat.add_zero j,← hL 0]; rfl
   have hj:j < ops.size:=by rw[List.length_cons] at hs; omega
   have ih':=ih (j+1) (fun k=>by rw[show j+1+k=j+(k+1) by omega,← hL (k+1)]; rfl) (by rw[List.length_cons] at hs; omega)
   rw[List.map_cons,List.length_cons,List.range'_succ,lF,ku,ih',List.filter_cons,h0,Option.map_some,Option.getD_some,xL h,h.lt hj,xF]
   cases (!m.testBit j && Nat.beq (Nat.land (rowOf ops o).w m) (rowOf ops o).w)<;>rfl
 unfold Region.ready
 rw[List.range_eq_range',key ops.toList 0 (fun k=>by rw[Nat.zero_add,Array.getElem?_toList]) (by rw[Nat.zero_add,Array.length_toList]),Array.length_toList]
theorem Gt {x y:Oper} (h:zU (rowOf ops x) (rowOf ops y)=true):x.apart ops y=true:=by
 unfold zU at h
 simp only[rowOf,xF,xJ,Bool.and_eq_true,Bool.not_eq_true',List.any_eq_false,decide_eq_true_eq,Bool.or_eq_true,Nat.beq_eq] at h
 obtain⟨⟨h1,h2⟩,h3⟩:=h
 unfold Oper.apart
 rw[Bool.and_eq_true]
 constructor
 ·cases hx:x.dst with
  | none=>rfl
  | some d =>
   rw[hx] at h1 h2
   simp only[K8] at h1 h2
   simp only[Bool.and_eq_true,Bool.not_eq_true',bne_iff_ne,ne_eq]
   refine⟨?_,fun e=>?_⟩
   ·rw[Bool.eq_false_iff]
    intro hc
    exact h1 d (List.contains_iff_mem.1 hc) rfl
   ·rw[e] at h2
    rcases h2 with h2|h2
    ·cases h2
    ·rw[Bool.eq_false_iff] at h2
     exact h2 (Nat.beq_refl _)
 ·cases hy:y.dst with
  | none=>rfl
  | some d =>
   rw[hy] at h3
   simp only[K8] at h3
   simp only[Bool.not_eq_true']
   rw[Bool.eq_false_iff]
   intro hc
   exact h3 d (List.contains_iff_mem.1 hc) rfl
theorem K_ (h:Mk ops l m) {i:Nat} {oi:Oper} (hi:ops[i]?=some oi) (hf:xI i (rowOf ops oi) m (ops.toList.map (rowOf ops)) 0=true):Region.free .any ops l i=true:=by
 have key:∀ (L:List Oper) (j:Nat),xI i (rowOf ops oi) m (L.map (rowOf ops)) j=true->∀ (k:Nat) (o:Oper),L[k]?=some o->(j+k=i\/m.testBit (j+k)=true\/(iV o.after.toList).testBit i=true\/oi.apart ops o=true):=by
  intro L
  induction L with
  | nil=>intro j _ k o hk; cases hk
  | cons y r ih =>
   intro j hj k o hk
   rw[List.map_cons,xI,ku,Bool.and_eq_true] at hj
   cases k with
   | zero =>
    cases hk
    have h1:=hj.1
    simp only[Bool.or_eq_true,Nat.beq_eq,xF] at h1
    rcases h1 with ((h1|h1)|h1)|h1
    ·exact .inl h1
    ·exact .inr (.inl h1)
    ·exact .inr (.inr (.inl h1))
    ·exact .inr (.inr (.inr (Gt h1)))
   | succ k =>
    have:=ih (j+1) hj.2 k o hk
    rw[show j+1+k=j+(k+1) by omega] at this
    exact this
 unfold Region.free
 rw[hi]
 simp only[List.all_eq_true,List.mem_range]
 intro j hj
 have mz:ops[j]?=some ops[j]:=Array.getElem?_eq_getElem hj
 have:=key ops.toList 0 hf j ops[j] (by rw[Array.getElem?_toList]; exact mz)
 rw[Nat.zero_add] at this
 rw[mz,h.lt hj]
 simp only[Bool.or_eq_true,beq_iff_eq]
 rcases this with e|e|e|e
 ·exact .inl (.inl e)
 ·exact .inl (.inr e)
 ·rw[n_,List.any_eq_true] at e
  obtain⟨x,hx,hb⟩:=e
  refine .inr (.inl ?_)
  rw[← Array.any_toList,List.any_eq_true]
  refine⟨x,hx,?_⟩
  simp only[Bool.and_eq_true,decide_eq_true_eq] at hb
  rw[hb.1,hb.2]
  simp
 ·exact .inr (.inr e)
theorem zV (i:Nat):(ops.toList.map (rowOf ops))[i]?=(ops[i]?).map (rowOf ops):=by
 rw[List.getElem?_map,Array.getElem?_toList]
theorem BE (h:Mk ops l m) {q i:Nat} (ht:BD (ops.toList.map (rowOf ops)) q i m=true):∃ o,ops[i]?=some o/\n8 o=q/\i∈Region.ready .any ops l/\Region.free .any ops l i=true:=by
 unfold BD at ht
 rw[zV] at ht
 cases ho:ops[i]? with
 | none=>rw[ho] at ht; cases ht
 | some o =>
  rw[ho] at ht
  simp only[Option.map_some,Bool.and_eq_true,Bool.not_eq_true',Nat.beq_eq,xF] at ht
  obtain⟨⟨⟨h1,h2⟩,h3⟩,h4⟩:=ht
  have hi:i < ops.size:=(Array.getElem?_eq_some_iff.1 ho).1
  refine⟨o,rfl,h1,?_,K_ h ho h4⟩
  unfold Region.ready
  rw[List.mem_filter,List.mem_range]
  refine⟨hi,?_⟩
  rw[ho,Option.map_some,Option.getD_some,xL h,h.lt hi,h2]
  simp only[Bool.not_false,Bool.true_and,Nat.beq_eq]
  exact h3
theorem CX {o:Oper} (h:n8 o=0):Ev.mU o.op=true:=by
 unfold n8 at h
 cases hp:Ev.mU o.op with
 | true=>rfl
 | false=>rw[hp,cond_false] at h; cases hl:m9 o.op<;>rw[hl] at h<;>cases h
theorem CY {o:Oper} (h:n8 o=1):m9 o.op=true:=by
 unfold n8 at h
 cases hp:Ev.mU o.op with
 | true=>rw[hp,cond_true] at h; cases h
 | false=>rw[hp,cond_false] at h; cases hl:m9 o.op<;>rw[hl] at h<;>first|rfl|cases h
theorem Gu {o:Oper} (h:n8 o=2):bq o.op=true:=by
 unfold n8 at h
 unfold bq
 cases hp:Ev.mU o.op with
 | true=>rw[hp,cond_true] at h; cases h
 | false=>rw[hp,cond_false] at h; cases hl:m9 o.op<;>rw[hl] at h<;>first|rfl|cases h
theorem Gv {i:Nat} (h:K9 (ops.toList.map (rowOf ops)) i=true):pZ ops i=true:=by
 unfold K9 at h
 unfold pZ
 rw[zV] at h
 cases ho:ops[i]? with
 | none=>rw[ho] at h; cases h
 | some o=>rw[ho] at h; exact Gu (Nat.eq_of_beq_eq_true h)
theorem Qi (h:Mk ops l m) {i:Nat} {D:List Nat} (hk:okM (ops.toList.map (rowOf ops)) m i D=true):WJ ops.toList l i D=true:=by
 unfold okM at hk
 rw[ku,List.all_eq_true] at hk
 unfold WJ
 rw[List.all_eq_true]
 intro j hj
 have:=hk j hj
 rw[zV] at this
 cases ho:ops[j]? with
 | none=>rw[ho] at this; simp at this
 | some o =>
  rw[ho] at this
  simp only[Option.map_some,Bool.and_eq_true,Bool.not_eq_true',xF] at this
  have hz:Nat.land (iV o.after.toList) (Nat.lor (db i) (rI D))≠0:=fun e=>by
   have h2:=this.2
   rw[show (rowOf ops o).w=iV o.after.toList from rfl,e] at h2
   cases h2
  obtain⟨k,Fx⟩:=Nat.exists_testBit_of_ne_zero hz
  have e:(Nat.land (iV o.after.toList) (Nat.lor (db i) (rI D))).testBit k=((iV o.after.toList).testBit k && (Nat.lor (db i) (rI D)).testBit k):=Nat.testBit_and ..
  rw[e,Bool.and_eq_true,n_,rG,n7,xK] at Fx
  obtain⟨h1,h2⟩:=Fx
  rw[List.any_eq_true] at h1
  obtain⟨ed,he,hb⟩:=h1
  simp only[Bool.and_eq_true,decide_eq_true_eq] at hb
  rw[Bool.and_eq_true]
  refine⟨by rw[h.is,this.1]; rfl,?_⟩
  rw[Array.getElem?_toList,ho]
  show o.after.toList.any _=true
  rw[List.any_eq_true]
  refine⟨ed,he,?_⟩
  rw[hb.1,Bool.true_and,hb.2,Bool.or_eq_true]
  rw[Bool.or_eq_true,decide_eq_true_eq,List.any_eq_true] at h2
  rcases h2 with h2|⟨d,hd,h2⟩
  ·exact .inl (by rw[h2]; exact Nat.beq_refl _)
  ·refine .inr ?_
   unfold ko
   rw[List.any_eq_true]
   exact⟨d,hd,by rw[of_decide_eq_true h2]; exact Nat.beq_refl _⟩
theorem mf {f:Nat->aS->Bool} {g:Nat->aS->Prop}:∀ {L:List Nat} {ms:jZ},(∀ j∈L,∀ r,f j r=true->g j r)->kt f L ms=true->lE g L ms
 | [],.nil,_,_=>trivial
 | j::L,.cons k r ms,h,hp=>by
  simp only[kt,Bool.and_eq_true,Nat.beq_eq] at hp
  exact⟨hp.1.1,h j (List.mem_cons_self ..) r hp.1.2,mf (fun j hj=>h j (List.mem_cons_of_mem _ hj)) hp.2⟩
 | j::L,.alt k r ms,h,hp=>by
  simp only[kt,Bool.and_eq_true,Nat.beq_eq] at hp
  exact⟨hp.1.1,h j (List.mem_cons_self ..) r hp.1.2,mf (fun j hj=>h j (List.mem_cons_of_mem _ hj)) hp.2⟩
 | j::L,.sub k r ms,h,hp=>by
  simp only[kt,Bool.and_eq_true,Nat.beq_eq] at hp
  exact⟨hp.1.1,h j (List.mem_cons_self ..) r hp.1.2,mf (fun j hj=>h j (List.mem_cons_of_mem _ hj)) hp.2⟩
 | [],.cons ..,_,hp=>by cases hp
 | [],.alt ..,_,hp=>by cases hp
 | [],.sub ..,_,hp=>by cases hp
 | _::_,.nil,_,hp=>by cases hp
end
theorem rJ {ops:Array Oper} {l:Array Bool} {i:Nat} (h:i∈Region.ready .any ops l):i < ops.size:=by
 unfold Region.ready at h
 exact List.mem_range.1 (List.mem_filter.1 h).1
theorem lG {ops:Array Oper}:∀ (fuel:Nat) (p:aS) (l:Array Bool) (m:Nat),Mk ops l m->n9 (ops.toList.map (rowOf ops)) fuel m p=true->ju ops fuel l p
 | fuel,.done,l,m,h,hp=>by
  have e:lF (ops.toList.map (rowOf ops)) 0 m = []:=by cases fuel<;>exact List.isEmpty_iff.1 hp
  cases fuel<;>exact (xM h).trans e
 | 0,.pure ..,_,_,_,hp=>by cases hp
 | 0,.load ..,_,_,_,hp=>by cases hp
 | 0,.bq ..,_,_,_,hp=>by cases hp
 | fuel+1,.pure i r,l,m,h,hp=>by
  simp only[n9,ku,Bool.and_eq_true] at hp
  obtain⟨o,ho,hk,hr,hf⟩:=BE h hp.1
  refine⟨hr,?_,lG fuel r _ _ (h.set (rJ hr)) hp.2⟩
  unfold nU
  rw[ho]
  simp only[Bool.and_eq_true]
  exact⟨CX hk,hf⟩
 | fuel+1,.load i D r,l,m,h,hp=>by
  simp only[n9,ku,Bool.and_eq_true] at hp
  obtain⟨o,ho,hk,hr,hf⟩:=BE h hp.1.1
  refine⟨hr,?_,Qi h hp.1.2,lG fuel r _ _ (h.set (rJ hr)) hp.2⟩
  unfold nV
  rw[ho]
  simp only[Bool.and_eq_true]
  exact⟨CY hk,hf⟩
 | fuel+1,.bq i r ms,l,m,h,hp=>by
  have he:=xM h
  simp only[n9,ku] at hp
  unfold ju
  split at hp
  ·rename_i i0 more xE
   rw[he,xE]
   simp only[Bool.and_eq_true,Nat.beq_eq] at hp
   obtain⟨⟨⟨⟨rfl,h1⟩,h2⟩,h3⟩,h4⟩:=hp
   have cE:∀ j∈i0::more,j < ops.size:=fun j hj=>rJ (l:=l) (by rw[he,xE]; exact hj)
   refine⟨rfl,Gv h1,fun j hj=>Gv (List.all_eq_true.1 h2 j hj),lG fuel r _ _ (h.set (cE _ (List.mem_cons_self ..))) h3,mf (fun j hj r hr=>lG fuel r _ _ (h.set (cE j (List.mem_cons_of_mem _ hj))) hr) h4⟩
  ·cases hp
end Go.Proofs.YtlgkljpgagfndaaGreatDoor.Pw

/- What this claim is proved with: no condition. -/
import Derived.Test.YtnbngokbamifbaaGreatDoorNr6
import Derived.Scope
set_option linter.unusedVariables false
set_option linter.unusedSimpArgs false
namespace Go.Proofs.YtnbngokbamifbaaGreatDoor.Pw
open Go Go.RowKit
structure tX where
 D:List Nat
 l:Nat
def kt (i:Nat) (l:List Nat):Bool:=l.any (Nat.beq i)
def Ay (listed:Array Bool) (i:Nat):List Oper->Nat->List Nat->List Nat
 | [],_,acc=>acc
 | o::r,j,acc=>bif !(listed.getD j true) && o.after.toList.any (fun e=>Region.binds .any e && (Nat.beq e.on i || kt e.on acc)) then Ay listed i r (j+1) (j::acc) else Ay listed i r (j+1) acc
def okD (ops:List Oper) (listed:Array Bool) (i:Nat) (D:List Nat):Bool :=
 D.all fun j=>!(listed.getD j false) && (match ops[j]? with
  | some o=>o.after.toList.any fun e=>Region.binds .any e && (Nat.beq e.on i || kt e.on D)
  | none=>false)
def pinned (i:Nat):List tX->List Nat
 | []=>[]
 | p::r=>bif kt i p.D then pinned i r else p.l::pinned i r
def dy (i:Nat) (pins:List tX):List tX:=pins.filter fun p=>!kt i p.D
def Md.isW:Md->Bool
 | .w=>true
 | _=>false
def r5 (b:Bool) (m:Md):Md:=match b,m with
 | true,.w=>.p
 | _,m=>m
def ic (b:Bool) (m:Md):Md:=match b,m with
 | true,.p=>.w
 | _,m=>m
def mapM (f:Bool->Md->Md) (us:List Nat):Nat->List au->List au
 | _,[]=>[]
 | j,⟨k,ty,n,m,live,cs⟩::st=>⟨k,ty,n,f (kt j us) m,live,cs⟩::mapM f us (j+1) st
def Ov:List au->(List au->Prop)->Prop
 | [],q=>q []
 | ⟨k,ty,n,m,live,cs⟩::st,q=>match m with
  | .w=>Ov st fun st=>q (⟨k,ty,n,.w,live,cs⟩::st)
  | .p=>Ov st fun st=>q (⟨k,ty,n,.p,live,cs⟩::st)
  | .r=>Ov st fun st=>q (⟨k,ty,n,.r,live,cs⟩::st)
def iA (st:List au) (ls:List Nat):List Nat:=ls.filter fun j=>match st[j]? with
 | some b=>b.live && b.m.isW
 | none=>false
def okP (st:List au) (ls:List Nat):Bool:=ls.all fun j=>match st[j]? with
 | some b=>b.live
 | none=>false
def gh (G:Gx) (ops:List Oper) (s:aV) (i:Nat) (o:Oper) (pins:List tX) (K:aV->Prop):Prop :=
 nx ops s o (fun s=>match pinned i pins with
  | []=>pop G s o fun v s2=>s2.put o.dst v K
  | ls=>Ov (mapM r5 (iA s.st ls) 0 s.st) fun st=>pop G (s.store st) o fun v s2=>bif okP s2.st ls then Ov (mapM ic (iA s.st ls) 0 s2.st) fun z8=>(s2.store z8).put o.dst v K else False)
  (fun s=>s.put o.dst (.tup []) K)
def x7 (ops:Array Oper) (listed:Array Bool) (i:Nat):Bool:=match ops[i]? with
 | some o=>Ev.Gb o.op && Region.free .any ops listed i
 | none=>false
def x8 (ops:Array Oper) (listed:Array Bool) (i:Nat):Bool:=match ops[i]? with
 | some o=>GR o.op && Region.free .any ops listed i
 | none=>false
def vT (D:List Nat) (x:PV) (pins:List tX):List tX:=match x.gA with
 | some l=>⟨D,l⟩::pins
 | none=>pins
section
variable {w w':World} {I I':Nat->Prop} {β aN:ay} {G:Gx} {s:aV} {a:Act} {st dY:List au} {ops:Array Oper}
theorem vU:∀ {st:List au} {q:List au->Prop},Ov st q->q st
 | [],_,h=>h
 | ⟨k,ty,n,m,live,cs⟩::st,q,h=>by
  unfold Ov at h
  cases m<;>exact vU (st:=st) h
theorem fD (f:Bool->Md->Md) (us:List Nat):∀ (st:List au) (j l:Nat),(mapM f us j st)[l]?=(st[l]?).map fun b=>{ b with m:=f (kt (j+l) us) b.m }
 | [],j,l=>by simp[mapM]
 | ⟨k,ty,n,m,live,cs⟩::st,j,0=>by simp[mapM]
 | ⟨k,ty,n,m,live,cs⟩::st,j,l+1=>by
  simp only[mapM,List.getElem?_cons_succ]
  rw[fD f us st (j+1) l,show j+1+l=j+(l+1) by omega]
theorem gi (f:Bool->Md->Md) (us:List Nat):∀ (st:List au) (j:Nat),(mapM f us j st).length=st.length
 | [],_=>rfl
 | ⟨_,_,_,_,_,_⟩::st,j=>by simp[mapM,gi f us st]
theorem Qc {b:Bool} {m:Md}:r5 b m = .r↔m = .r:=by cases b<;>cases m<;>simp[r5]
theorem Qd {b:Bool} {m:Md} (h:r5 b m = .w):m = .w:=by cases b<;>cases m<;>simp_all [r5]
theorem GU {b:Bool} {m:Md}:ic b m = .r↔m = .r:=by cases b<;>cases m<;>simp[ic]
theorem aE.Ow (h:aE I β st w) {f:Bool->Md->Md} {us:List Nat} (hf:∀ b m,f b m = .r↔m = .r):aE I β (mapM f us 0 st) w:=by
 refine⟨fun l hl=>h.qS l (by rw[gi] at hl; exact hl),fun l b' hl aH=>?_⟩
 rw[fD,Option.map_eq_some_iff] at hl
 obtain⟨b,hb,rfl⟩:=hl
 have gw:=h.gA l b hb aH
 obtain⟨p,hp,hk⟩:=gw
 have own:∀ {g:Nat} {fr:Nat × Nat},Own I β st l g fr b->Own I β (mapM f us 0 st) l g fr { b with m:=f (kt (0+l) us) b.m }:=fun ho=>by
  refine⟨fun hr=>?_,fun hr=>ho.2 ((hf _ _).1 hr)⟩
  obtain⟨h1,h2,h3⟩:=ho.1 fun e=>hr ((hf _ _).2 e)
  refine⟨h1,h2,fun l' b' dt jL eY=>?_⟩
  rw[fD,Option.map_eq_some_iff] at jL
  obtain⟨b2,dO,rfl⟩:=jL
  exact h3 l' b2 dt dO eY
 refine⟨p,hp,?_⟩
 simp only
 split at hk
 ·rename_i cP
  obtain⟨g,o,arr,ty,fr,h1,h2,h3,ho⟩:=hk
  rw[cP]
  exact⟨g,o,arr,ty,fr,h1,h2,h3,own ho⟩
 ·rename_i cP
  obtain⟨g,arr,fr,h1,h2,h3,ho,h4⟩:=hk
  rw[cP]
  exact⟨g,arr,fr,h1,h2,h3,own ho,h4⟩
 ·rename_i cP
  obtain⟨h1,hk⟩:=hk
  rw[cP]
  refine⟨h1,?_⟩
  rcases hk with h|⟨g,arr,fr,h2,h3,h4,ho,h5⟩
  ·exact .inl h
  ·exact .inr ⟨g,arr,fr,h2,h3,h4,own ho,h5⟩
 ·rename_i cP
  obtain⟨g,h1,h2,ho⟩:=hk
  rw[cP]
  exact⟨g,h1,h2,own ho⟩
theorem dJ {i:Nat} {l:List Nat}:kt i l=true↔i∈l:=by
 unfold kt
 rw[List.any_eq_true]
 exact⟨fun ⟨x,hx,e⟩=>by rw[Nat.eq_of_beq_eq_true e]; exact hx,fun h=>⟨i,h,Nat.beq_refl i⟩⟩
def pz (pins:List tX) (ys:List m0) (I:Nat->Prop) (β:ay) (st:List au) (w:World):Prop :=
 ∀ y∈ys,(∀ w2,y.Y w2)\/∃ g,(∀ w2,y.Y w2↔w2.heap[g]?=w.heap[g]?)/\g < w.heap.size/\(I g\/∃ p∈pins,p.D=y.D/\∃ b pl o,st[p.l]?=some b/\b.live=true/\β p.l=some pl/\pl.a=some (g,o))
theorem ku {i:Nat} {p:tX}:∀ {pins:List tX},p∈pins->kt i p.D=false->p.l∈pinned i pins
 | q::pins,h,hd=>by
  unfold pinned
  rcases List.mem_cons.1 h with rfl|h
  ·rw[hd]; exact List.mem_cons_self
  ·cases kt i q.D
   ·exact List.mem_cons_of_mem _ (ku h hd)
   ·exact ku h hd
theorem r9 {i:Nat} {p:tX} {pins:List tX} (h:p∈pins) (hd:kt i p.D=false):p∈dy i pins:=by
 unfold dy; rw[List.mem_filter]; exact⟨h,by simp[hd]⟩
theorem mr {i:Nat} {y:m0} {ys:List m0} (h:y∈dj i ys):y∈ys/\kt i y.D=false:=by
 unfold dj at h; rw[List.mem_filter] at h; exact⟨h.1,by simpa [kt] using h.2⟩
theorem pz.dj {i:Nat} {pins:List tX} {ys:List m0} (h:pz pins ys I β st w):pz (dy i pins) (dj i ys) I β st w:=fun y hy=>by
 obtain⟨hy,hd⟩:=mr hy
 rcases h y hy with h|⟨g,h1,h2,h3⟩
 ·exact .inl h
 ·exact .inr ⟨g,h1,h2,h3.imp id fun ⟨p,hp,he,h4⟩=>⟨p,r9 hp (by rw[he]; exact hd),he,h4⟩⟩
theorem ot (hG:nA G) {i:Nat} {o:Oper} {pins:List tX} {ys:List m0} {K:aV->Prop} (h:gh G ops.toList s i o pins K) (hR:Rel G I β s a w) (hp:pz pins ys I β s.st w) :
  Ev.qA G.cx.P ops o a w fun v w'=>∃ s' I' aN,K s'/\Rel G I' aN s' (a.put o.dst v) w'/\bU I β s w I' aN s' w'/\(∀ y∈dj i ys,y.Y w')/\pz (dy i pins) (dj i ys) I' aN s'.st w':=by
 unfold gh at h
 rcases iK hR h with ⟨hw,s1,h1,mZ,gX⟩|⟨hw,s1,h1,mZ,gX⟩
 ·refine .inl ⟨hw,?_⟩
  
  split at h1
  ·rename_i hls
   refine Ev.mj ?_ (vQ hG gX h1)
   rintro v w' ⟨x,s2,I2,fU,h2,kP,hx,hE,e1,e2,e3,gx,_⟩
   obtain⟨s3,h3,nS,tW⟩:=aV.bT (G:=G) h2
   have V4:bU I β s w I2 fU s3 w':=((bU.same mZ).trans ⟨hE,e1,e2,e3,gx⟩).trans (bU.same nS)
   have rV:∀ y∈dj i ys,y.Y w'/\((∀ w2,y.Y w2)\/∃ g,(∀ w2,y.Y w2↔w2.heap[g]?=w'.heap[g]?)/\g < w'.heap.size/\I2 g):=fun y hy=>by
    obtain⟨hy,hd⟩:=mr hy
    rcases hp y hy with h|⟨g,h1,h2,h3⟩
    ·exact⟨h _,.inl h⟩
    ·rcases h3 with h3|⟨p,FQ,he,_⟩
     ·have hs:=V4.ext.keeps hR.heap hR.av.av g h3
      exact⟨(h1 w').2 hs,.inr ⟨g,fun w2=>by rw[h1,hs],Nat.lt_of_lt_of_le h2 V4.ext.size,V4.ext.av g h3⟩⟩
     ·have:=ku (i:=i) FQ (by rw[he]; exact hd)
      rw[hls] at this
      cases this
   exact⟨s3,I2,fU,h3,tW _ _ _ _ v kP hx,V4,fun y hy=>(rV y hy).1,fun y hy=>(rV y hy).2.imp id fun ⟨g,a1,a2,a3⟩=>⟨g,a1,a2,.inl a3⟩⟩
  ·rename_i ls hls
   replace h1:=vU h1
   have KL:=gX.heap.Ow (f:=r5) (us:=iA s1.st (pinned i pins)) (fun b m=>Qc)
   have hEp:Ext I β s1.st w I β (mapM r5 (iA s1.st (pinned i pins)) 0 s1.st) w:=⟨rfl,rfl,rfl,Nat.le_refl _,fun _ _ _=>rfl,fun g hg ⟨l,b',p,o',g1,g2,g3,g4,g5⟩=>by
    rw[fD,Option.map_eq_some_iff] at g1
    obtain⟨b,hb,rfl⟩:=g1
    refine⟨l,b,p,o',hb,g2,?_,g4,g5⟩
    simp only at g3
    exact Qd g3,fun _ h=>h,fun _ _ h=>.inl h⟩
   have hRp:=gX.grow KL hEp (fun _ _ h=>h) (by rw[gi]; exact Nat.le_refl _) gX.av.av
   refine Ev.mj ?_ (vQ hG hRp h1)
   rintro v w' ⟨x,s2,I2,fU,h2,kP,hx,hE,e1,e2,e3,gx,hpn⟩
   obtain⟨c1,c2,c3,c4,c5⟩:=aV.dT s1 (mapM r5 (iA s1.st (pinned i pins)) 0 s1.st)
   rw[c3] at hE hpn
   rw[c4] at e1 gx
   rw[c5] at e2 gx
   rw[c1] at e3
   replace h2:=bp h2
   obtain⟨Qe,h2⟩:=h2
   replace h2:=vU h2
   have hmu:=kP.heap.Ow (f:=ic) (us:=iA s1.st (pinned i pins)) (fun b m=>GU)
   
   have WL:∀ l∈iA s1.st (pinned i pins),∃ b,s1.st[l]?=some b/\b.m = .w/\b.live=true:=fun l hl=>by
    unfold iA at hl
    rw[List.mem_filter] at hl
    have:=hl.2
    cases hb:s1.st[l]? with
    | none=>rw[hb] at this; cases this
    | some b =>
     rw[hb] at this
     simp only[Bool.and_eq_true] at this
     refine⟨b,rfl,?_,this.1⟩
     have:=this.2
     cases hm:b.m<;>simp only[hm,Md.isW] at this<;>first|rfl|cases this
   have hfix:∀ l b,s1.st[l]?=some b->b.m = .w->l∈iA s1.st (pinned i pins)->fU l=β l:=fun l b hb hm hl=>by
    refine hpn l { b with m:=.p } ?_ rfl
    rw[fD,hb,Nat.zero_add,dJ.2 hl,Option.map_some,hm]; rfl
   have Xi:Ext I β s1.st w I2 fU (mapM ic (iA s1.st (pinned i pins)) 0 s2.st) w':=by
    have Ox:=hEp.trans hE
    refine⟨Ox.os,Ox.tape,Ox.output,Ox.size,Ox.block,fun g hg ⟨l,b',p,o',g1,g2,g3,g4,g5⟩=>?_,Ox.av,Ox.new⟩
    rw[fD,Option.map_eq_some_iff] at g1
    obtain⟨b,hb,rfl⟩:=g1
    simp only[Nat.zero_add] at g3
    cases qC:kt l (iA s1.st (pinned i pins)) with
    | false =>
     rw[qC] at g3
     refine Ox.wr g hg ⟨l,b,p,o',hb,g2,?_,g4,g5⟩
     cases hm:b.m<;>rw[hm] at g3<;>first|rfl|cases g3
    | true =>
     have hl:=dJ.1 qC
     obtain⟨b0,gw,lG,Qf⟩:=WL l hl
     exact⟨l,b0,p,o',gw,Qf,lG,by rw[← hfix l b0 gw lG hl]; exact g4,g5⟩
   have rV:∀ y∈dj i ys,y.Y w'/\((∀ w2,y.Y w2)\/∃ g,(∀ w2,y.Y w2↔w2.heap[g]?=w'.heap[g]?)/\g < w'.heap.size/\(I2 g\/∃ p∈dy i pins,p.D=y.D/\∃ b pl o,(mapM ic (iA s1.st (pinned i pins)) 0 s2.st)[p.l]?=some b/\b.live=true/\fU p.l=some pl/\pl.a=some (g,o))):=fun y hy=>by
    obtain⟨hy,hd⟩:=mr hy
    rcases hp y hy with h|⟨g,g1,g2,g3⟩
    ·exact⟨h _,.inl h⟩
    ·have byI:I g->y.Y w'/\((∀ w2,y.Y w2)\/∃ g,(∀ w2,y.Y w2↔w2.heap[g]?=w'.heap[g]?)/\g < w'.heap.size/\(I2 g\/∃ p∈dy i pins,p.D=y.D/\∃ b pl o,(mapM ic (iA s1.st (pinned i pins)) 0 s2.st)[p.l]?=some b/\b.live=true/\fU p.l=some pl/\pl.a=some (g,o))):=fun hI=>by
      have hs:=Xi.keeps gX.heap gX.av.av g hI
      exact⟨(g1 w').2 hs,.inr ⟨g,fun w2=>by rw[g1,hs],Nat.lt_of_lt_of_le g2 Xi.size,.inl (Xi.av g hI)⟩⟩
     rcases g3 with g3|⟨p,FQ,he,b,pl,o',hb,aH,o_,Qg⟩
     ·exact byI g3
     ·rw[← mZ.st] at hb
      have gw:=gX.heap.gA _ b hb aH
      obtain⟨arr,ty,fr,hh,ho⟩:=gw.place o_ Qg
      by_cases hmr:b.m = .r
      ·exact byI (ho.2 hmr)
      ·have hlm:=ku (i:=i) FQ (by rw[he]; exact hd)
       
       have hpin:∃ b',(mapM r5 (iA s1.st (pinned i pins)) 0 s1.st)[p.l]?=some b'/\b'.m = .p/\b'.live=true:=by
        refine⟨{ b with m:=r5 (kt (0+p.l) (iA s1.st (pinned i pins))) b.m },by rw[fD,hb]; rfl,?_,aH⟩
        simp only[Nat.zero_add]
        cases hm:b.m with
        | r=>exact absurd hm hmr
        | p=>cases kt p.l (iA s1.st (pinned i pins))<;>rfl
        | w =>
         have:p.l∈iA s1.st (pinned i pins):=by unfold iA; rw[List.mem_filter,hb]; exact⟨hlm,by simp only[hm,aH]; rfl⟩
         rw[dJ.2 this]; rfl
       obtain⟨b',di,mY,eY⟩:=hpin
       have hb'0:=KL.gA _ b' di eY
       obtain⟨_,_,fr',_,ho'⟩:=hb'0.place o_ Qg
       have FR:¬ Wr β (mapM r5 (iA s1.st (pinned i pins)) 0 s1.st) g:=fun ⟨l2,b2,p2,o2,k1,k2,k3,k4,k5⟩=>by
        by_cases dt:l2=p.l
        ·subst dt
         rw[di] at k1; cases k1; rw[mY] at k3; cases k3
        ·exact (ho'.1 (by rw[mY]; decide)).2.2 l2 b2 dt k1 k2 p2 g o2 k4 k5 rfl
       have hs:w'.heap[g]?=w.heap[g]?:=hE.block g g2 FR
       have hβ2:fU p.l=some pl:=(hpn _ b' di mY).trans o_
       have Oy:∃ b2,s2.st[p.l]?=some b2/\b2.live=true:=by
        unfold okP at Qe
        rw[List.all_eq_true] at Qe
        have:=Qe _ hlm
        cases dO:s2.st[p.l]? with
        | none=>rw[dO] at this; cases this
        | some b2=>rw[dO] at this; exact⟨b2,rfl,this⟩
       obtain⟨b2,dO,bS⟩:=Oy
       refine⟨(g1 w').2 hs,.inr ⟨g,fun w2=>by rw[g1,hs],Nat.lt_of_lt_of_le g2 Xi.size,.inr ⟨p,r9 FQ (by rw[he]; exact hd),he,{ b2 with m:=ic (kt (0+p.l) (iA s1.st (pinned i pins))) b2.m },pl,o',by rw[fD,dO]; rfl,bS,hβ2,Qg⟩⟩⟩
   have hEu:Ext I2 fU s2.st w' I2 fU (mapM ic (iA s1.st (pinned i pins)) 0 s2.st) w'->True:=fun _=>trivial
   clear hEu
   have vV:Rel G I2 fU (s2.store (mapM ic (iA s1.st (pinned i pins)) 0 s2.st)) a w':=by
    obtain⟨d1,d2,d3,d4,d5⟩:=aV.dT s2 (mapM ic (iA s1.st (pinned i pins)) 0 s2.st)
    exact⟨by rw[d1]; exact kP.small,kP.defers,by rw[d1]; exact kP.size,by rw[d4,d3,gi]; exact kP.base,by rw[d2]; exact kP.get,by rw[d3]; exact hmu,kP.av⟩
   obtain⟨s3,h3,nS,tW⟩:=aV.bT (G:=G) h2
   obtain⟨d1,d2,d3,d4,d5⟩:=aV.dT s2 (mapM ic (iA s1.st (pinned i pins)) 0 s2.st)
   refine⟨s3,I2,fU,h3,tW _ _ _ _ v vV hx,(bU.same mZ).trans ⟨by rw[nS.st,d3]; exact Xi,by rw[nS.base,d4]; exact e1,by rw[nS.rl,d5]; exact e2,by rw[nS.n,d1]; exact e3,gx⟩,fun y hy=>(rV y hy).1,fun y hy=>?_⟩
   rw[nS.st,d3]
   exact (rV y hy).2
 ·obtain⟨s3,h3,nS,tW⟩:=aV.bT (G:=G) h1
  refine .inr ⟨hw,s3,I,β,h3,tW _ _ _ _ _ gX Is.undef,(bU.same mZ).trans (bU.same nS),fun y hy=>?_,?_⟩
  ·obtain⟨hy,_⟩:=mr hy
   rcases hp y hy with h|⟨g,h1,_⟩
   ·exact h w
   ·exact (h1 w).2 rfl
  ·rw[nS.st,mZ.st]; exact hp.dj
theorem dI.ou {P:Program} {Q:Exit->Act->World->Prop} {i:Nat}:∀ (f:Nat) (l:Array Bool) (a:Act) (S:World->Prop) (pins:List m0),dI P ops Q f l a S pins->dI P ops Q f l a S (⟨i,[],fun _=>True⟩::pins)
 | 0,_,_,_,_,h=>h
 | f+1,l,a,S,pins,h=>by
  have V3:∀ j,dj j (⟨i,[],fun _=>True⟩::pins)=⟨i,[],fun _=>True⟩::dj j pins:=fun j=>by
   unfold dj; rw[List.filter_cons,if_pos (by simp)]
  refine⟨h.1,fun j hj o ho=>?_⟩
  obtain⟨h0,h1⟩:=h.2 j hj o ho
  rw[V3]
  refine⟨fun hl=>?_,fun hl w hw=>mq (fun v w' ⟨S',h2,h3,h4⟩=>⟨S',fun p hp=>?_,h3,dI.ou f _ _ _ _ h4⟩) (h1 hl w hw)⟩
  ·obtain⟨v,hy,hn⟩:=h0 hl
   exact⟨v,hy,dI.ou f _ _ _ _ hn⟩
  ·rcases List.mem_cons.1 hp with rfl|hp
   ·exact fun _ _=>trivial
   ·exact h2 p hp
theorem x9 {P:Program} {K:Value->World->Prop} {r:Result Next} (h:Ev.nX P K r):∃ v w,K v w:=by
 cases r with
 | ok n w =>
  cases n<;>simp only[Ev.nX] at h
  case value u=>exact⟨_,_,h⟩
  case skip=>exact⟨_,_,h⟩
  case enter f args =>
   obtain⟨e,w',fr,⟨u,_,hu⟩,_⟩:=h []
   exact⟨_,_,hu⟩
 | halt x w=>exact h.elim
theorem lI {P:Program} {o:Oper} {K:Value->World->Prop} (h:Ev.qA P ops o a w K):∃ v w',K v w':=by
 rcases h with ⟨_,h⟩|⟨_,h⟩
 ·exact x9 h
 ·exact⟨_,_,h⟩
theorem dI.ends {P:Program} {Q:Exit->Act->World->Prop}:∀ (f:Nat) (l:Array Bool) (a:Act) (S:World->Prop) (pins:List m0) (w:World),dI P ops Q f l a S pins->S w->∃ a' w',Q .normal a' w'
 | 0,l,a,S,_,w,h,hw=>⟨a,w,h.2 w hw⟩
 | f+1,l,a,S,pins,w,h,hw=>by
  cases hr:Region.ready .any ops l with
  | nil=>exact⟨a,w,h.1 hr w hw⟩
  | cons i r =>
   have hi:i∈Region.ready .any ops l:=by rw[hr]; exact List.mem_cons_self
   obtain⟨o,ho⟩:=Ev.xK hi
   obtain⟨h0,h1⟩:=h.2 i hi o ho
   cases he:bA o.op with
   | false =>
    obtain⟨v,_,hn⟩:=h0 he
    exact dI.ends f _ _ S _ w hn hw
   | true =>
    obtain⟨v,w',S',_,J8,hn⟩:=lI (h1 he w hw)
    exact dI.ends f _ _ S' _ w' hn J8
theorem Qh {listed:Array Bool} {i:Nat} {D:List Nat} (h:okD ops.toList listed i D=true):∀ j∈D,listed.getD j false=false/\∃ oj,ops[j]?=some oj/\∃ e∈oj.after,Region.binds .any e=true/\(e.on=i\/e.on∈D):=by
 intro j hj
 unfold okD at h
 rw[List.all_eq_true] at h
 have:=h j hj
 simp only[Bool.and_eq_true,Bool.not_eq_true'] at this
 refine⟨this.1,?_⟩
 have h2:=this.2
 cases ho:ops.toList[j]? with
 | none=>rw[ho] at h2; cases h2
 | some oj =>
  rw[ho] at h2
  simp only[List.any_eq_true,Bool.and_eq_true,Bool.or_eq_true] at h2
  obtain⟨e,he,hb,h3⟩:=h2
  exact⟨oj,by simpa using ho,e,by simpa using he,hb,h3.imp Nat.eq_of_beq_eq_true dJ.1⟩
end
mutual
inductive aG where
 | done
 | pure (i:Nat) (r:aG)
 | load (i:Nat) (D:List Nat) (r:aG)
 | bA (i:Nat) (r:aG) (more:lJ)
inductive lJ where
 | nil
 | cons (j:Nat) (r:aG) (more:lJ)
 | alt (j:Nat) (r:aG) (more:lJ)
 | sub (j:Nat) (r:aG) (more:lJ)
end
def Oz:List Nat->List Nat->Bool
 | [],[]=>true
 | a::l,b::m=>Nat.beq a b && Oz l m
 | _,_=>false
def B' (ops:Array Oper) (i:Nat):Bool:=match ops[i]? with
 | some o=>bA o.op
 | none=>false
def iR (Az:Nat->aG->Bool):List Nat->lJ->Bool
 | [],.nil=>true
 | j::l,.cons k r ms=>Nat.beq j k && Az j r && iR Az l ms
 | j::l,.alt k r ms=>Nat.beq j k && Az j r && iR Az l ms
 | j::l,.sub k r ms=>Nat.beq j k && Az j r && iR Az l ms
 | _,_=>false
def iu (ops:Array Oper):Nat->Array Bool->aG->Bool
 | _,listed,.done=>(Region.ready .any ops listed).isEmpty
 | 0,_,_=>false
 | fuel+1,listed,.pure i r=>(match Ev.mh (x7 ops listed) (Region.ready .any ops listed) with
  | some k=>Nat.beq k i && iu ops fuel (listed.setIfInBounds i true) r
  | none=>false)
 | fuel+1,listed,.load i D r=>(match Ev.mh (x8 ops listed) (Region.ready .any ops listed) with
  | some k=>Nat.beq k i && Oz D (Ay listed i ops.toList 0 []) && okD ops.toList listed i D && iu ops fuel (listed.setIfInBounds i true) r
  | none=>false)
 | fuel+1,listed,.bA i r ms=>(match Region.ready .any ops listed with
  | i0::more=>Nat.beq i0 i && B' ops i && more.all (B' ops) && iu ops fuel (listed.setIfInBounds i true) r && iR (fun j r=>iu ops fuel (listed.setIfInBounds j true) r) more ms
  | []=>false)
def Sub (G:Gx) (s s':aV):Prop:=∀ I β a w,Rel G I β s a w->∃ I' aN,Rel G I' aN s' a w/\bU I β s w I' aN s' w
mutual
def cn (G:Gx) (ops:List Oper):aG->aV->List tX->(aV->Prop)->Prop
 | .done,s,_,K=>K s
 | .pure i r,s,pins,K=>bD ops[i]? fun o=>nx ops s o (fun s=>pY G.cx s o.op fun v=>s.put o.dst v fun s=>cn G ops r s pins K) (fun s=>s.put o.dst (.tup []) fun s=>cn G ops r s pins K)
 | .load i D r,s,pins,K=>bD ops[i]? fun o=>nx ops s o (fun s=>match o.op with
   | .load t ad=>s.ev ad fun x=>uw G s.st t x fun v=>s.put o.dst v fun s=>cn G ops r s (vT D x pins) K
   | _=>False) (fun s=>s.put o.dst (.tup []) fun s=>cn G ops r s pins K)
 | .bA i r ms,s,pins,K=>bD ops[i]? fun o=>match ms with
  | .nil=>gh G ops s i o pins fun s1=>cn G ops r s1 (dy i pins) K
  | .cons j r' Xj=>gh G ops s i o pins fun s1=>cn G ops r s1 (dy i pins) fun sf=>K sf/\(bD ops[j]? fun o=>gh G ops s j o pins fun s2=>cn G ops r' s2 (dy j pins) fun x_=>x_=sf)/\e8 G ops Xj s pins sf
  | .sub j r' Xj=>gh G ops s i o pins fun s1=>cn G ops r s1 (dy i pins) fun sf=>∃ DT,Sub G sf DT/\K DT/\(bD ops[j]? fun o=>gh G ops s j o pins fun s2=>cn G ops r' s2 (dy j pins) fun x_=>Sub G x_ DT)/\gj G ops Xj s pins DT
  | .alt j r' Xj=>(gh G ops s i o pins fun s1=>cn G ops r s1 (dy i pins) K)/\(bD ops[j]? fun o=>gh G ops s j o pins fun s2=>cn G ops r' s2 (dy j pins) K)/\ji G ops Xj s pins K
def e8 (G:Gx) (ops:List Oper):lJ->aV->List tX->aV->Prop
 | .nil,_,_,_=>True
 | .cons j r ms,s,pins,sf=>(bD ops[j]? fun o=>gh G ops s j o pins fun s2=>cn G ops r s2 (dy j pins) fun x_=>x_=sf)/\e8 G ops ms s pins sf
 | .alt _ _ _,_,_,_=>False
 | .sub _ _ _,_,_,_=>False
def gj (G:Gx) (ops:List Oper):lJ->aV->List tX->aV->Prop
 | .nil,_,_,_=>True
 | .sub j r ms,s,pins,sf=>(bD ops[j]? fun o=>gh G ops s j o pins fun s2=>cn G ops r s2 (dy j pins) fun x_=>Sub G x_ sf)/\gj G ops ms s pins sf
 | .cons _ _ _,_,_,_=>False
 | .alt _ _ _,_,_,_=>False
def ji (G:Gx) (ops:List Oper):lJ->aV->List tX->(aV->Prop)->Prop
 | .nil,_,_,_=>True
 | .alt j r ms,s,pins,K=>(bD ops[j]? fun o=>gh G ops s j o pins fun s2=>cn G ops r s2 (dy j pins) K)/\ji G ops ms s pins K
 | .cons _ _ _,_,_,_=>False
 | .sub _ _ _,_,_,_=>False
end
section
variable {w w':World} {I I':Nat->Prop} {β aN:ay} {G:Gx} {s:aV} {a:Act} {st dY:List au} {ops:Array Oper}
theorem r_ {Az:Nat->aG->Bool}:∀ {l:List Nat} {ms:lJ},iR Az l ms=true->∀ {pins:List tX} {sf:aV},e8 G ops.toList ms s pins sf->∀ j∈l,∃ r,Az j r=true/\bD ops.toList[j]? fun o=>gh G ops.toList s j o pins fun s2=>cn G ops.toList r s2 (dy j pins) fun x_=>x_=sf
 | [],_,_,_,_,_,_,hj=>by cases hj
 | i::l,.nil,h,_,_,_,_,_=>by cases h
 | i::l,.alt k r ms,h,pins,sf,hr,j,hj=>by unfold e8 at hr; exact hr.elim
 | i::l,.sub k r ms,h,pins,sf,hr,j,hj=>by unfold e8 at hr; exact hr.elim
 | i::l,.cons k r ms,h,pins,sf,hr,j,hj=>by
  simp only[iR,Bool.and_eq_true] at h
  obtain⟨⟨h1,h2⟩,h3⟩:=h
  obtain rfl:=Nat.eq_of_beq_eq_true h1
  unfold e8 at hr
  rcases List.mem_cons.1 hj with rfl|hj
  ·exact⟨r,h2,hr.1⟩
  ·exact r_ h3 hr.2 j hj
theorem qc {Az:Nat->aG->Bool}:∀ {l:List Nat} {ms:lJ},iR Az l ms=true->∀ {pins:List tX} {K:aV->Prop},ji G ops.toList ms s pins K->∀ j∈l,∃ r,Az j r=true/\bD ops.toList[j]? fun o=>gh G ops.toList s j o pins fun s2=>cn G ops.toList r s2 (dy j pins) K
 | [],_,_,_,_,_,_,hj=>by cases hj
 | i::l,.nil,h,_,_,_,_,_=>by cases h
 | i::l,.cons k r ms,h,pins,K,hr,j,hj=>by unfold ji at hr; exact hr.elim
 | i::l,.sub k r ms,h,pins,K,hr,j,hj=>by unfold ji at hr; exact hr.elim
 | i::l,.alt k r ms,h,pins,K,hr,j,hj=>by
  simp only[iR,Bool.and_eq_true] at h
  obtain⟨⟨h1,h2⟩,h3⟩:=h
  obtain rfl:=Nat.eq_of_beq_eq_true h1
  unfold ji at hr
  rcases List.mem_cons.1 hj with rfl|hj
  ·exact⟨r,h2,hr.1⟩
  ·exact qc h3 hr.2 j hj
theorem qd {Az:Nat->aG->Bool}:∀ {l:List Nat} {ms:lJ},iR Az l ms=true->∀ {pins:List tX} {sf:aV},gj G ops.toList ms s pins sf->∀ j∈l,∃ r,Az j r=true/\bD ops.toList[j]? fun o=>gh G ops.toList s j o pins fun s2=>cn G ops.toList r s2 (dy j pins) fun x_=>Sub G x_ sf
 | [],_,_,_,_,_,_,hj=>by cases hj
 | i::l,.nil,h,_,_,_,_,_=>by cases h
 | i::l,.cons k r ms,h,pins,sf,hr,j,hj=>by unfold gj at hr; exact hr.elim
 | i::l,.alt k r ms,h,pins,sf,hr,j,hj=>by unfold gj at hr; exact hr.elim
 | i::l,.sub k r ms,h,pins,sf,hr,j,hj=>by
  simp only[iR,Bool.and_eq_true] at h
  obtain⟨⟨h1,h2⟩,h3⟩:=h
  obtain rfl:=Nat.eq_of_beq_eq_true h1
  unfold gj at hr
  rcases List.mem_cons.1 hj with rfl|hj
  ·exact⟨r,h2,hr.1⟩
  ·exact qd h3 hr.2 j hj
theorem ov {i:Nat} {o:Oper} (ho:ops[i]?=some o) (h:B' ops i=true):bA o.op=true:=by unfold B' at h; rw[ho] at h; exact h
theorem AA (hG:nA G) (Aw:Region.noSelect ops=true):∀ (fuel:Nat) (p:aG) (Q:Exit->Act->World->Prop) (l:Array Bool) (s:aV) (a:Act) (I:Nat->Prop) (β:ay) (w:World) (pins:List tX) (ys:List m0) (K:aV->Prop),
  iu ops fuel l p=true->cn G ops.toList p s pins K->Rel G I β s a w->pz pins ys I β s.st w->(∀ s' I' aN a' w',K s'->Rel G I' aN s' a' w'->bU I β s w I' aN s' w'->Q .normal a' w')->dI G.cx.P ops Q fuel l a (fun w2=>w2=w) ys:=by
 intro fuel
 have fin:∀ (fuel:Nat) (Q:Exit->Act->World->Prop) (l:Array Bool) (s:aV) (a:Act) (I:Nat->Prop) (β:ay) (w:World) (ys:List m0) (K:aV->Prop),(Region.ready .any ops l).isEmpty=true->K s->Rel G I β s a w->(∀ s' I' aN a' w',K s'->Rel G I' aN s' a' w'->bU I β s w I' aN s' w'->Q .normal a' w')->dI G.cx.P ops Q fuel l a (fun w2=>w2=w) ys:=by
  intro fuel Q l s a I β w ys K hr h hR hQ
  have p6:Region.ready .any ops l = []:=by simpa using hr
  cases fuel with
  | zero=>exact⟨p6,fun w2 hw=>by subst hw; exact hQ s I β a w2 h hR (bU.same ⟨rfl,rfl,rfl,rfl⟩)⟩
  | succ fuel=>exact⟨fun _ w2 hw=>by subst hw; exact hQ s I β a w2 h hR (bU.same ⟨rfl,rfl,rfl,rfl⟩),fun i hi=>by rw[p6] at hi; cases hi⟩
 induction fuel with
 | zero =>
  intro p Q l s a I β w pins ys K hp h hR _ hQ
  cases p with
  | done=>exact fin 0 Q l s a I β w ys K (by simpa only [iu] using hp) (by simpa only [cn] using h) hR hQ
  | pure=>simp[iu] at hp
  | load=>simp[iu] at hp
  | bA=>simp[iu] at hp
 | succ fuel ih =>
  intro p Q l s a I β w pins ys K hp h hR J9 hQ
  cases p with
  | done=>exact fin (fuel+1) Q l s a I β w ys K (by simpa only [iu] using hp) (by simpa only [cn] using h) hR hQ
  | pure i r =>
   simp only[iu] at hp
   split at hp
   ·rename_i k AB
    simp only[Bool.and_eq_true] at hp
    obtain⟨hk,hp⟩:=hp
    obtain rfl:=Nat.eq_of_beq_eq_true hk
    obtain⟨km,iQ⟩:=Ev.kk AB
    unfold cn at h
    replace h:=az h
    obtain⟨o,ho,h⟩:=h
    rw[Array.getElem?_toList] at ho
    unfold x7 at iQ
    rw[ho] at iQ
    simp only[Bool.and_eq_true] at iQ
    have he:bA o.op=false:=by unfold bA; rw[iQ.1]; rfl
    rcases iK hR h with ⟨gY,s1,h1,mZ,gX⟩|⟨gY,s1,h1,mZ,gX⟩
    ·obtain⟨x,v,h1,hx,ck⟩:=xS hG.ok gX h1
     obtain⟨s3,h3,nS,tW⟩:=aV.bT (G:=G) h1
     refine dI.first (v:=v) (D:=[]) (Y:=fun _=>True) ho he Aw fuel l a _ ys (Region.free_spec ho iQ.2) (fun j hj=>by cases hj) (.inl ⟨gY,fun w2 _=>ck w2⟩) (fun _ _=>trivial) km (dI.ou _ _ _ _ _ ?_)
     exact ih r Q _ s3 _ I β w pins ys K hp h3 (tW _ _ _ _ _ gX hx) (by rw[nS.st,mZ.st]; exact J9) (fun s' I' aN a' w' hk dp hg=>hQ s' I' aN a' w' hk dp (((bU.same mZ).trans (bU.same nS)).trans hg))
    ·obtain⟨s3,h3,nS,tW⟩:=aV.bT (G:=G) h1
     refine dI.first (v:=undef) (D:=[]) (Y:=fun _=>True) ho he Aw fuel l a _ ys (Region.free_spec ho iQ.2) (fun j hj=>by cases hj) (.inr ⟨gY,rfl⟩) (fun _ _=>trivial) km (dI.ou _ _ _ _ _ ?_)
     exact ih r Q _ s3 _ I β w pins ys K hp h3 (tW _ _ _ _ _ gX Is.undef) (by rw[nS.st,mZ.st]; exact J9) (fun s' I' aN a' w' hk dp hg=>hQ s' I' aN a' w' hk dp (((bU.same mZ).trans (bU.same nS)).trans hg))
   ·cases hp
  | load i D r =>
   simp only[iu] at hp
   split at hp
   ·rename_i k AB
    simp only[Bool.and_eq_true] at hp
    obtain⟨⟨⟨hk,hDe⟩,hD⟩,hp⟩:=hp
    obtain rfl:=Nat.eq_of_beq_eq_true hk
    obtain⟨km,iQ⟩:=Ev.kk AB
    unfold cn at h
    replace h:=az h
    obtain⟨o,ho,h⟩:=h
    rw[Array.getElem?_toList] at ho
    unfold x8 at iQ
    rw[ho] at iQ
    simp only[Bool.and_eq_true] at iQ
    have he:bA o.op=false:=by unfold bA; rw[iQ.1,Bool.or_true]; rfl
    rcases iK hR h with ⟨gY,s1,h1,mZ,gX⟩|⟨gY,s1,h1,mZ,gX⟩
    ·split at h1
     ·rename_i t ad vR
      replace h1:=aV.cN gX h1
      obtain⟨x,h1,hx⟩:=h1
      obtain⟨z,v,g,h1,hz,hg,ck⟩:=rT hG.ok gX.heap gX.av h1 hx
      obtain⟨s3,h3,nS,tW⟩:=aV.bT (G:=G) h1
      have Xk:∀ w2:World,w2.heap[g]?=w.heap[g]?->(execOp a.eval o).run G.cx.P w2 = .ok (.value v) w2:=fun w2 vK=>by
       unfold execOp
       rw[vR]
       simp only[Sem.run_bind,ck w2 vK,Result.andThen_ok,Sem.run_pure]
      have GP:g < w.heap.size:=by
       rcases hg with hg|⟨l',b,p,o',_,hb,aH,o_,Qg⟩
       ·exact hR.av.av g hg
       ·exact gX.heap.dH ⟨l',b,p,o',hb,aH,o_,Qg⟩
      refine dI.first (v:=v) (D:=D) (Y:=fun w2=>w2.heap[g]?=w.heap[g]?) ho he Aw fuel l a _ ys (Region.free_spec ho iQ.2) (Qh hD) (.inl ⟨gY,Xk⟩) (fun w2 vK=>by rw[vK]) km ?_
      refine ih r Q _ s3 _ I β w (vT D x pins) _ K hp h3 (tW _ _ _ _ _ gX hz) ?_ (fun s' I' aN a' w' hk dp hg=>hQ s' I' aN a' w' hk dp (((bU.same mZ).trans (bU.same nS)).trans hg))
      rw[nS.st,mZ.st]
      intro y hy
      rcases List.mem_cons.1 hy with rfl|hy
      ·refine .inr ⟨g,fun _=>Iff.rfl,GP,?_⟩
       rcases hg with hg|⟨l',b,p,o',oh,hb,aH,o_,Qg⟩
       ·exact .inl hg
       ·refine .inr ⟨⟨D,l'⟩,by unfold vT; rw[oh]; exact List.mem_cons_self,rfl,b,p,o',by rw[← mZ.st]; exact hb,aH,o_,Qg⟩
      ·rcases J9 y hy with h|⟨g',k1,k2,k3⟩
       ·exact .inl h
       ·refine .inr ⟨g',k1,k2,k3.imp id fun ⟨p,FQ,k4⟩=>⟨p,?_,k4⟩⟩
        unfold vT
        split
        ·exact List.mem_cons_of_mem _ FQ
        ·exact FQ
     ·exact h1.elim
    ·obtain⟨s3,h3,nS,tW⟩:=aV.bT (G:=G) h1
     refine dI.first (v:=undef) (D:=[]) (Y:=fun _=>True) ho he Aw fuel l a _ ys (Region.free_spec ho iQ.2) (fun j hj=>by cases hj) (.inr ⟨gY,rfl⟩) (fun _ _=>trivial) km (dI.ou _ _ _ _ _ ?_)
     exact ih r Q _ s3 _ I β w pins ys K hp h3 (tW _ _ _ _ _ gX Is.undef) (by rw[nS.st,mZ.st]; exact J9) (fun s' I' aN a' w' hk dp hg=>hQ s' I' aN a' w' hk dp (((bU.same mZ).trans (bU.same nS)).trans hg))
   ·cases hp
  | bA i r ms =>
   simp only[iu] at hp
   split at hp
   ·rename_i i0 more GV
    simp only[Bool.and_eq_true] at hp
    obtain⟨⟨⟨⟨hk,hei⟩,hem⟩,V5⟩,FQ⟩:=hp
    obtain rfl:=Nat.eq_of_beq_eq_true hk
    rw[List.all_eq_true] at hem
    unfold cn at h
    replace h:=az h
    obtain⟨o,ho,h⟩:=h
    rw[Array.getElem?_toList] at ho
    have he:=ov ho hei
    have dt:Region.ready .any ops l≠[]:=by rw[GV]; simp
    
    have go:∀ {j:Nat} {oj:Oper} {rj:aG} {K':aV->Prop},iu ops fuel (l.setIfInBounds j true) rj=true->ops[j]?=some oj->bA oj.op=true->(gh G ops.toList s j oj pins fun s1=>cn G ops.toList rj s1 (dy j pins) K')->(∀ sf,K' sf->K sf) ->
      (bA oj.op=false->∃ v,Yields G.cx.P ops (fun w2=>w2=w) oj v a/\dI G.cx.P ops Q fuel (l.setIfInBounds j true) (a.put oj.dst v) (fun w2=>w2=w) (dj j ys)) /\
      (bA oj.op=true->∀ w2,w2=w->Ev.qA G.cx.P ops oj a w2 fun v w'=>∃ S':World->Prop,(∀ p∈dj j ys,∀ w,S' w->p.Y w)/\S' w'/\dI G.cx.P ops Q fuel (l.setIfInBounds j true) (a.put oj.dst v) S' (dj j ys)):=by
     intro j oj rj K' GW nT hej h' hK
     refine⟨(fun e=>by rw[hej] at e; cases e),fun _ w2 vK=>?_⟩
     subst vK
     refine mq ?_ (ot hG h' hR J9)
     rintro v w' ⟨s',I',aN,hk,dp,hg,hY,dA⟩
     refine⟨fun w2=>w2=w',fun p hp w2 vK=>by rw[vK]; exact hY p hp,rfl,?_⟩
     exact ih rj Q _ s' _ I' aN w' _ _ K' GW hk dp dA fun s2 I2 fU a2 w3 vW kP xB=>hQ s2 I2 fU a2 w3 (hK s2 vW) kP (hg.trans xB)
    have goS:∀ {j:Nat} {oj:Oper} {rj:aG} {K':aV->Prop},iu ops fuel (l.setIfInBounds j true) rj=true->ops[j]?=some oj->bA oj.op=true->(gh G ops.toList s j oj pins fun s1=>cn G ops.toList rj s1 (dy j pins) K')->(∀ sf,K' sf->∃ DT,Sub G sf DT/\K DT) ->
      (bA oj.op=false->∃ v,Yields G.cx.P ops (fun w2=>w2=w) oj v a/\dI G.cx.P ops Q fuel (l.setIfInBounds j true) (a.put oj.dst v) (fun w2=>w2=w) (dj j ys)) /\
      (bA oj.op=true->∀ w2,w2=w->Ev.qA G.cx.P ops oj a w2 fun v w'=>∃ S':World->Prop,(∀ p∈dj j ys,∀ w,S' w->p.Y w)/\S' w'/\dI G.cx.P ops Q fuel (l.setIfInBounds j true) (a.put oj.dst v) S' (dj j ys)):=by
     intro j oj rj K' GW nT hej h' hK
     refine⟨(fun e=>by rw[hej] at e; cases e),fun _ w2 vK=>?_⟩
     subst vK
     refine mq ?_ (ot hG h' hR J9)
     rintro v w' ⟨s',I',aN,hk,dp,hg,hY,dA⟩
     refine⟨fun w2=>w2=w',fun p hp w2 vK=>by rw[vK]; exact hY p hp,rfl,?_⟩
     exact ih rj Q _ s' _ I' aN w' _ _ K' GW hk dp dA fun s2 I2 fU a2 w3 vW kP xB=>by
      obtain⟨DT,hs,xC⟩:=hK s2 vW
      obtain⟨I3,FT,vV,OA⟩:=hs I2 fU a2 w3 kP
      exact hQ DT I3 FT a2 w3 xC vV ((hg.trans xB).trans OA)
    cases ms with
    | nil =>
     cases more with
     | cons=>simp[iR] at FQ
     | nil =>
      refine⟨fun e=>absurd e dt,fun j hj oj nT=>?_⟩
      rw[GV,List.mem_singleton] at hj
      subst hj
      rw[ho] at nT
      cases nT
      exact go V5 ho he h fun _ hk=>hk
    | cons j0 r0 ow =>
     have du:∀ sf,((bD ops.toList[j0]? fun o=>gh G ops.toList s j0 o pins fun s2=>cn G ops.toList r0 s2 (dy j0 pins) fun x_=>x_=sf)/\e8 G ops.toList ow s pins sf)->e8 G ops.toList (.cons j0 r0 ow) s pins sf:=fun sf h=>by unfold e8; exact h
     
     obtain⟨sf,hKf,oz⟩:∃ sf,K sf/\e8 G ops.toList (.cons j0 r0 ow) s pins sf:=by
      obtain⟨v,w',s',I',aN,hk,dp,hg,hY,dA⟩:=lI (ot hG h hR J9)
      have hA:=ih r (fun _ _ _=>∃ sf,K sf/\e8 G ops.toList (.cons j0 r0 ow) s pins sf) _ s' (a.put o.dst v) I' aN w' _ _ _ V5 hk dp dA fun s2 I2 fU a2 w3 vW _ _=>⟨s2,vW.1,du _ vW.2⟩
      obtain⟨_,_,h3⟩:=dI.ends _ _ _ _ _ w' hA rfl
      exact h3
     refine⟨fun e=>absurd e dt,fun j hj oj nT=>?_⟩
     rw[GV] at hj
     rcases List.mem_cons.1 hj with rfl|hj
     ·rw[ho] at nT
      cases nT
      exact go V5 ho he h fun _ hk=>hk.1
     ·obtain⟨rj,Xl,h2⟩:=r_ FQ oz j hj
      replace h2:=az h2
      obtain⟨oj',rZ,h2⟩:=h2
      rw[Array.getElem?_toList,nT] at rZ
      cases rZ
      exact go Xl nT (ov nT (hem j hj)) h2 fun x_ e=>by rw[e]; exact hKf
    | sub j0 r0 ow =>
     have du:∀ sf,((bD ops.toList[j0]? fun o=>gh G ops.toList s j0 o pins fun s2=>cn G ops.toList r0 s2 (dy j0 pins) fun x_=>Sub G x_ sf)/\gj G ops.toList ow s pins sf)->gj G ops.toList (.sub j0 r0 ow) s pins sf:=fun sf h=>by unfold gj; exact h
     obtain⟨sf,hKf,oz⟩:∃ sf,K sf/\gj G ops.toList (.sub j0 r0 ow) s pins sf:=by
      obtain⟨v,w',s',I',aN,hk,dp,hg,hY,dA⟩:=lI (ot hG h hR J9)
      have hA:=ih r (fun _ _ _=>∃ sf,K sf/\gj G ops.toList (.sub j0 r0 ow) s pins sf) _ s' (a.put o.dst v) I' aN w' _ _ _ V5 hk dp dA fun s2 I2 fU a2 w3 vW _ _=>let ⟨DT,_,h2,h3⟩:=vW; ⟨DT,h2,du _ h3⟩
      obtain⟨_,_,h3⟩:=dI.ends _ _ _ _ _ w' hA rfl
      exact h3
     refine⟨fun e=>absurd e dt,fun j hj oj nT=>?_⟩
     rw[GV] at hj
     rcases List.mem_cons.1 hj with rfl|hj
     ·rw[ho] at nT
      cases nT
      exact goS V5 ho he h fun _ hk=>let ⟨DT,h1,h2,_⟩:=hk; ⟨DT,h1,h2⟩
     ·obtain⟨rj,Xl,h2⟩:=qd FQ oz j hj
      replace h2:=az h2
      obtain⟨oj',rZ,h2⟩:=h2
      rw[Array.getElem?_toList,nT] at rZ
      cases rZ
      exact goS Xl nT (ov nT (hem j hj)) h2 fun x_ e=>⟨sf,e,hKf⟩
    | alt j0 r0 ow =>
     obtain⟨h,oz⟩:=h
     have du:ji G ops.toList (.alt j0 r0 ow) s pins K:=by unfold ji; exact oz
     refine⟨fun e=>absurd e dt,fun j hj oj nT=>?_⟩
     rw[GV] at hj
     rcases List.mem_cons.1 hj with rfl|hj
     ·rw[ho] at nT
      cases nT
      exact go V5 ho he h fun _ hk=>hk
     ·obtain⟨rj,Xl,h2⟩:=qc FQ du j hj
      replace h2:=az h2
      obtain⟨oj',rZ,h2⟩:=h2
      rw[Array.getElem?_toList,nT] at rZ
      cases rZ
      exact go Xl nT (ov nT (hem j hj)) h2 fun _ hk=>hk
   ·cases hp
end
def seqK (k:aV->Prop) (Q:X->aV->Prop) (x:X) (s:aV):Prop:=match x with
 | .fL=>k s
 | x=>Q x s
def sa (id:Nat) (Q:X->aV->Prop) (x:X) (s:aV):Prop:=match x with
 | .exit j=>bif Nat.beq j id then Q .fL s else Q (.exit j) s
 | x=>Q x s
def GX (s:aV) (c:Operand) (t e:aV->Prop):Prop:=s.ev c fun x=>match x with
 | .tt=>t s
 | .ff=>e s
 | .bool p=>(match c with
  | .tmp i=>(p->s.put (some i) .tt t)/\(¬ p->s.put (some i) .ff e)
  | _=>(p->t s)/\(¬ p->e s))
 | _=>False
def cp (R:List (Nat × aG)):Code->Bool
 | .region id ops true=>(match Ev.FM id R with
  | some p=>Region.noSelect ops && iu ops ops.size (Array.replicate ops.size false) p
  | none=>true)
 | .seq a b=>cp R a && cp R b
 | .cond _ a b=>cp R a && cp R b
 | .block _ c=>cp R c
 | .scope c=>cp R c
 | .loop c=>cp R c
 | _=>true
def pw (G:Gx) (R:List (Nat × aG)):Nat->Code->(X->aV->Prop)->aV->Prop
 | 0,_,_,_=>False
 | n+1,c,Q,s=>match c with
  | .skip|.label _=>Q .fL s
  | .ret=>Q .ret s
  | .exit id=>Q (.exit id) s
  | .seq a b=>pw G R n a (seqK (pw G R n b Q) Q) s
  | .cond c a b=>GX s c (pw G R n a Q) (pw G R n b Q)
  | .block id c=>pw G R n c (sa id Q) s
  | .scope c=>pw G R n c Q s
  | .loop c=>SW G (.loop c) Q s
  | .rangeFunc f ps a b=>SW G (.rangeFunc f ps a b) Q s
  | .region id ops draw=>(match draw with
   | true=>bD (Ev.FM id R) fun p=>cn G ops.toList p s [] (Q .fL)
   | false=>xN G ops.toList Q ops.toList s)
  | _=>False
section
variable {w w':World} {I I':Nat->Prop} {β aN:ay} {G:Gx} {s:aV} {a:Act} {st dY:List au}
theorem dC.of {Q:X->aV->Prop} {x:X} {s':aV} {w0:World} (hq:Q x s') {a':Act} (hR:Rel G I' aN s' a' w') (hg:bU I β s w0 I' aN s' w'):dC G s I β w0 Q (X.e x) a' w' :=
 ⟨x,s',I',aN,rfl,hq,hR,hg.ext,hg.base,hg.rl,hg.n,hg.low⟩
theorem dC.goes {Q:X->aV->Prop} {e:Exit} {a':Act} (h:dC G s I β w Q e a' w'):∃ x s' I' aN,e=X.e x/\Q x s'/\Rel G I' aN s' a' w'/\bU I β s w I' aN s' w' :=
 let ⟨x,s',I',aN,he,hq,hR,h1,h2,h3,h4,h5⟩:=h; ⟨x,s',I',aN,he,hq,hR,h1,h2,h3,h4,h5⟩
theorem SW.intro {c:Code} {Q:X->aV->Prop} (h:∀ I β a w,Rel G I β s a w->c.wp G.cx.P (dC G s I β w Q) a w):SW G c Q s:=by unfold SW; exact h
theorem SW.run {c:Code} {Q:X->aV->Prop} (h:SW G c Q s) (hR:Rel G I β s a w):c.wp G.cx.P (dC G s I β w Q) a w:=by unfold SW at h; exact h I β a w hR
theorem SW.from {c:Code} {Q:X->aV->Prop} {s0:aV} {I0:Nat->Prop} {fO:ay} {w0:World} (h:SW G c Q s) (hR:Rel G I β s a w) (hg:bU I0 fO s0 w0 I β s w):c.wp G.cx.P (dC G s0 I0 fO w0 Q) a w :=
 wp_mono (h.run hR) fun e a' w' hp=>by
  obtain⟨x,s',I',aN,rfl,hq,dp,xD⟩:=hp.goes
  exact dC.of hq dp (hg.trans xD)
theorem Ext.pA (hh:w'.heap=w.heap) (h1:w'.os=w.os) (h2:w'.tape=w.tape) (h3:w'.output=w.output):Ext I β st w I β st w' :=
 ⟨h1,h2,h3,by rw[hh]; exact Nat.le_refl _,fun g _ _=>by rw[hh],fun _ _ h=>h,fun _ h=>h,fun _ _ h=>.inl h⟩
theorem aE.pA (h:aE I β st w) (hh:w'.heap=w.heap):aE I β st w' :=
 ⟨h.qS,fun l b hl aH=>(h.gA l b hl aH).mono (fun _ h=>h) (fun _ _=>by rw[hh]) (fun _ _ h=>h) fun p g o hp ha=>⟨by rw[hh],fun hr=>by
  obtain⟨_,_,fr,_,ho⟩:=(h.gA l b hl aH).place hp ha
  exact⟨(ho.1 hr).2.1,(ho.1 hr).2.2⟩⟩⟩
theorem sc (s:aV):s.store s.st=s:=by cases s; rfl
theorem Rel.pA (hR:Rel G I β s a w) (hh:w'.heap=w.heap) (h1:w'.os=w.os) (h2:w'.tape=w.tape) (h3:w'.output=w.output):Rel G I β s a w':=by
 have:=hR.grow (hR.heap.pA hh) (Ext.pA hh h1 h2 h3) (fun _ _ h=>h) (Nat.le_refl _) (fun g hg=>by rw[hh]; exact hR.av.av g hg)
 rwa [sc] at this
theorem ya {c:Operand} {t e:aV->Prop} (hR:Rel G I β s a w) (h:GX s c t e):∃ b s',a.eval c = .bool b/\(if b then t s' else e s')/\jh s s'/\Rel G I β s' a w:=by
 have same:jh s s:=⟨rfl,rfl,rfl,rfl⟩
 unfold GX at h
 cases c with
 | tmp i =>
  replace h:=az h
  obtain⟨x,hx,h⟩:=h
  obtain⟨v,hv,hi⟩:=hR.get i x hx
  have he:a.eval (.tmp i)=v:=by simp only[Act.eval,Array.getD_eq_getD_getElem?,hv,Option.getD_some]
  rw[he]
  split at h<;>try simp only[PV.Is] at hi
  ·exact⟨true,s,hi,h,same,hR⟩
  ·exact⟨false,s,hi,h,same,hR⟩
  ·rename_i p
   by_cases hp:p
   ·obtain⟨s',hk,hs,hr⟩:=aV.fq hR hv (x:=.tt) (by rw[hi,ct hp]; exact Is.tt) (h.1 hp)
    exact⟨true,s',by rw[hi,ct hp],hk,hs,hr⟩
   ·obtain⟨s',hk,hs,hr⟩:=aV.fq hR hv (x:=.ff) (by rw[hi,b_ hp]; exact Is.ff) (h.2 hp)
    exact⟨false,s',by rw[hi,b_ hp],hk,hs,hr⟩
  ·exact h.elim
 | _ =>
  replace h:=aV.cN hR h
  obtain⟨x,h,hx⟩:=h
  split at h<;>try simp only[PV.Is] at hx
  ·exact⟨true,s,hx,h,same,hR⟩
  ·exact⟨false,s,hx,h,same,hR⟩
  ·rename_i p
   by_cases hp:p
   ·exact⟨true,s,by rw[hx,ct hp],h.1 hp,same,hR⟩
   ·exact⟨false,s,by rw[hx,b_ hp],h.2 hp,same,hR⟩
  ·exact h.elim
theorem gk (hG:nA G) {R:List (Nat × aG)}:∀ (n:Nat) (c:Code) (Q:X->aV->Prop) (s:aV),cp R c=true->pw G R n c Q s->SW G c Q s
 | 0,_,_,_,_,h=>h.elim
 | n+1,c,Q,s,hc,h=>by
  cases c with
  | skip=>exact SW.intro fun I β a w hR=>wp_skip (dC.of (x:=.fL) h hR (bU.same ⟨rfl,rfl,rfl,rfl⟩))
  | label l=>exact SW.intro fun I β a w hR=>wp_label (dC.of (x:=.fL) h hR (bU.same ⟨rfl,rfl,rfl,rfl⟩))
  | ret=>exact SW.intro fun I β a w hR=>wp_ret (dC.of (x:=.ret) h hR (bU.same ⟨rfl,rfl,rfl,rfl⟩))
  | exit id=>exact SW.intro fun I β a w hR=>wp_exit (dC.of (x:=.exit id) h hR (bU.same ⟨rfl,rfl,rfl,rfl⟩))
  | seq x y =>
   simp only[cp,Bool.and_eq_true] at hc
   have h1:=gk hG n x _ s hc.1 h
   refine SW.intro fun I β a w hR=>wp_seq (wp_mono (h1.run hR) fun e a' w' hp=>?_)
   obtain⟨x',s',I',aN,rfl,hq,dp,hg⟩:=hp.goes
   cases x' with
   | fL=>exact (gk hG n y Q s' hc.2 hq).from dp hg
   | exit id=>exact dC.of (Q:=Q) (x:=.exit id) hq dp hg
   | ret=>exact dC.of (Q:=Q) (x:=.ret) hq dp hg
  | cond c x y =>
   simp only[cp,Bool.and_eq_true] at hc
   refine SW.intro fun I β a w hR=>?_
   obtain⟨b,s',he,hk,hs,dp⟩:=ya hR h
   refine wp_cond he ?_
   cases b with
   | true=>exact (gk hG n x Q s' hc.1 hk).from dp (bU.same hs)
   | false=>exact (gk hG n y Q s' hc.2 hk).from dp (bU.same hs)
  | block id c =>
   have h1:=gk hG n c _ s hc h
   refine SW.intro fun I β a w hR=>wp_block (wp_mono (h1.run hR) fun e a' w' hp=>?_)
   obtain⟨x',s',I',aN,rfl,hq,dp,hg⟩:=hp.goes
   cases x' with
   | fL=>exact dC.of (Q:=Q) (x:=.fL) hq dp hg
   | exit j =>
    show Exit.inBlock id _ (.exit j) a' w'
    simp only[Exit.inBlock]
    by_cases hj:j=id
    ·subst hj
     rw[if_pos rfl]
     have vN:Q .fL s':=by simpa [sa,Nat.beq_refl] using hq
     exact dC.of (x:=.fL) vN dp hg
    ·have di:Nat.beq j id=false:=by rw[Bool.eq_false_iff]; exact fun e=>hj (Nat.eq_of_beq_eq_true e)
     rw[if_neg hj]
     have vN:Q (.exit j) s':=by simpa [sa,di] using hq
     exact dC.of (x:=.exit j) vN dp hg
   | ret=>exact dC.of (Q:=Q) (x:=.ret) hq dp hg
  | scope c =>
   have h1:=gk hG n c _ s hc h
   refine SW.intro fun I β a w hR=>wp_scope_straight (wp_mono (h1.run hR) fun e a' w' hp=>?_)
   obtain⟨x',s',I',aN,rfl,hq,dp,hg⟩:=hp.goes
   cases x' with
   | fL=>exact dC.of (Q:=Q) (x:=.fL) hq dp hg
   | exit j=>exact dC.of (Q:=Q) (x:=.exit j) hq dp hg
   | ret=>exact dC.of (Q:=Q) (x:=.ret) hq dp hg
  | loop c=>exact h
  | rangeFunc f ps a b=>exact h
  | region id ops draw =>
   refine SW.intro fun I β a w hR=>?_
   cases draw with
   | true =>
    obtain⟨p,hp,h⟩:=az h
    unfold cp at hc
    rw[hp] at hc
    simp only[Bool.and_eq_true] at hc
    have dp:Rel G I β s a { w with drawn:=w.drawn+1 }:=hR.pA rfl rfl rfl rfl
    have hd:bU I β s w I β s { w with drawn:=w.drawn+1 }:=⟨Ext.pA rfl rfl rfl rfl,rfl,rfl,rfl,fun _ _ _=>rfl⟩
    have hA:=AA hG hc.1 ops.size p (dC G s I β w Q) _ s a I β _ [] [] _ hc.2 h dp (fun y hy=>by cases hy) fun s' I' aN a' w' hk kP hg=>dC.of (Q:=Q) (x:=.fL) hk kP (hd.trans hg)
    exact wp_region_any hG.ok.mix (dI.sound _ _ _ _ _ _ hA rfl)
   | false=>exact wp_region_list (vS hG _ h hR fun x s' I' aN a' w' hq dp hg=>dC.of hq dp hg)
  | _=>exact h.elim
def sd (k:aV->Prop) (Q:X->aV->Prop) (x:X) (s:aV):Prop:=match x with
 | .fL=>k s
 | x=>Q x s
def rnd (G:Gx) (R:List (Nat × aG)) (N:Nat) (c:Code) (Q:X->aV->Prop):Nat->aV->Prop
 | 0,_=>False
 | n+1,s=>pw G R N c (sd (rnd G R N c Q n) Q) s
theorem SW.rounds (hG:nA G) (R:List (Nat × aG)) {N:Nat} {c:Code} {Q:X->aV->Prop} (hc:cp R c=true) (n:Nat) (h:rnd G R N c Q n s):SW G (.loop c) Q s:=by
 have key:∀ (n:Nat) (s0 s:aV) (I0 I:Nat->Prop) (fO β:ay) (w0 w:World) (a:Act),rnd G R N c Q n s->Rel G I β s a w->bU I0 fO s0 w0 I β s w->Code.rounds G.cx.P c (dC G s0 I0 fO w0 Q) n a w:=by
  intro n
  induction n with
  | zero=>intro s0 s I0 I fO β w0 w a h _ _; exact h.elim
  | succ n ih =>
   intro s0 s I0 I fO β w0 w a h hR hg
   rw[rounds_succ]
   refine wp_mono ((gk hG N c _ s hc h).run hR) fun e a' w' hp=>?_
   obtain⟨x',s',I',aN,rfl,hq,dp,xD⟩:=hp.goes
   cases x' with
   | fL=>exact ih s0 s' I0 I' fO aN w0 w' a' hq dp (hg.trans xD)
   | exit id=>exact dC.of (Q:=Q) (x:=.exit id) hq dp (hg.trans xD)
   | ret=>exact dC.of (Q:=Q) (x:=.ret) hq dp (hg.trans xD)
 exact SW.intro fun I β a w hR=>wp_loop_rounds n (key n s s I I β β w w a h hR (bU.same ⟨rfl,rfl,rfl,rfl⟩))
theorem Sub.refl:Sub G s s:=fun I β _ _ hR=>⟨I,β,hR,bU.same ⟨rfl,rfl,rfl,rfl⟩⟩
theorem SW.inv (hG:nA G) {R:List (Nat × aG)} {α:Type} (inv:α->aV) (μ:α->Nat) {N:Nat} {c:Code} {Q:X->aV->Prop} (hc:cp R c=true) (x0:α) (h0:Sub G s (inv x0)) (K:α->aV->Prop) (hK:∀ x s',K x s'->∃ y,μ y < μ x/\Sub G s' (inv y))
  (h:∀ x,pw G R N c (sd (K x) Q) (inv x)):SW G (.loop c) Q s:=by
 refine SW.intro fun I0 fO a w hR=>?_
 obtain⟨I,β,gX,nE⟩:=h0 I0 fO a w hR
 let J:Nat->Act->World->Prop:=fun m a w'=>∃ x I β,μ x=m/\Rel G I β (inv x) a w'/\bU I0 fO s w I β (inv x) w'
 have key:∀ (m:Nat) (a:Act) (w':World),J m a w'->∀ (b:Frame) (k:List Item) (cs:List Frame),∃ e a' xz,dC G s I0 fO w Q e a' xz/\Arrives G.cx.P (lone (b.at a (.code c::.inLoop c::k)) cs w') b k cs e a' xz:=by
  intro m
  induction m using Nat.strongRecOn with
  | _ m ih =>
   rintro a w' ⟨x,I,β,hx,hR,hg⟩ b k cs
   obtain⟨e,KM,KN,hp,Aq⟩:=(gk hG N c _ _ hc (h x)).run hR b (.inLoop c::k) cs
   obtain⟨x',s',I',aN,rfl,hq,dp,xD⟩:=hp.goes
   cases x' with
   | fL =>
    obtain⟨y,hy,hs⟩:=hK x s' hq
    obtain⟨I2,fU,kP,xB⟩:=hs I' aN KM KN dp
    obtain⟨e₂,a₂,w₂,Xm,KO⟩:=ih (μ y) (by omega) KM KN ⟨y,I2,fU,rfl,kP,(hg.trans xD).trans xB⟩ b k cs
    exact⟨e₂,a₂,w₂,Xm,.of_steps (Steps.trans Aq (.one step_inLoop)) KO⟩
   | exit id=>exact⟨_,KM,KN,dC.of (Q:=Q) (x:=.exit id) hq dp (hg.trans xD),.pass (x:=.inLoop c) rfl (fun _ _=>.inl (by simp[X.e])) Aq⟩
   | ret=>exact⟨_,KM,KN,dC.of (Q:=Q) (x:=.ret) hq dp (hg.trans xD),.pass (x:=.inLoop c) rfl (fun _ _=>.inl (by simp[X.e])) Aq⟩
 intro b k cs
 obtain⟨e,a',w',hq,Aq⟩:=key (μ x0) a w ⟨x0,I,β,rfl,gX,nE⟩ b k cs
 exact⟨e,a',w',hq,.of_steps (.one step_loop) Aq⟩
end
end Go.Proofs.YtnbngokbamifbaaGreatDoor.Pw

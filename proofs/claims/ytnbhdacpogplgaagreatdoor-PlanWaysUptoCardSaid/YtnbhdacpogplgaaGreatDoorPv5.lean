/- What this claim is proved with: no condition. -/
import Derived.Test.YtnbhdacpogplgaaGreatDoorPv4
import Derived.Scope
set_option linter.unusedVariables false
set_option linter.unusedSimpArgs false
namespace Go.Proofs.YtnbhdacpogplgaaGreatDoor.Pw
open Go Go.RowKit
structure vy where
 D:List Nat
 l:Nat
def kS (i:Nat) (l:List Nat):Bool:=l.any (Nat.beq i)
def Eo (listed:Array Bool) (i:Nat):List Oper->Nat->List Nat->List Nat
 | [],_,acc=>acc
 | o::r,j,acc=>bif !(listed.getD j true) && o.after.toList.any (fun e=>Region.binds .any e && (Nat.beq e.on i || kS e.on acc)) then Eo listed i r (j+1) (j::acc) else Eo listed i r (j+1) acc
def T1 (ops:List Oper) (listed:Array Bool) (i:Nat) (D:List Nat):Bool :=
 D.all fun j=>!(listed.getD j false) && (match ops[j]? with
  | some o=>o.after.toList.any fun e=>Region.binds .any e && (Nat.beq e.on i || kS e.on D)
  | none=>false)
def pinned (i:Nat):List vy->List Nat
 | []=>[]
 | p::r=>bif kS i p.D then pinned i r else p.l::pinned i r
def cP (i:Nat) (pins:List vy):List vy:=pins.filter fun p=>!kS i p.D
def Md.isW:Md->Bool
 | .w=>true
 | _=>false
def vz (b:Bool) (m:Md):Md:=match b,m with
 | true,.w=>.p
 | _,m=>m
def jD (b:Bool) (m:Md):Md:=match b,m with
 | true,.p=>.w
 | _,m=>m
def mapM (f:Bool->Md->Md) (us:List Nat):Nat->List an->List an
 | _,[]=>[]
 | j,⟨k,ty,n,m,live,cs⟩::st=>⟨k,ty,n,f (kS j us) m,live,cs⟩::mapM f us (j+1) st
def Sx:List an->(List an->Prop)->Prop
 | [],q=>q []
 | ⟨k,ty,n,m,live,cs⟩::st,q=>match m with
  | .w=>Sx st fun st=>q (⟨k,ty,n,.w,live,cs⟩::st)
  | .p=>Sx st fun st=>q (⟨k,ty,n,.p,live,cs⟩::st)
  | .r=>Sx st fun st=>q (⟨k,ty,n,.r,live,cs⟩::st)
def jU (st:List an) (ls:List Nat):List Nat:=ls.filter fun j=>match st[j]? with
 | some b=>b.live && b.m.isW
 | none=>false
def okP (st:List an) (ls:List Nat):Bool:=ls.all fun j=>match st[j]? with
 | some b=>b.live
 | none=>false
def gi (G:Gx) (ops:List Oper) (s:aN) (i:Nat) (o:Oper) (pins:List vy) (K:aN->Prop):Prop :=
 lg ops s o (fun s=>match pinned i pins with
  | []=>pop G s o fun v s2=>s2.put o.dst v K
  | ls=>Sx (mapM vz (jU s.st ls) 0 s.st) fun st=>pop G (s.store st) o fun v s2=>bif okP s2.st ls then Sx (mapM jD (jU s.st ls) 0 s2.st) fun st2=>(s2.store st2).put o.dst v K else False)
  (fun s=>s.put o.dst (.tup []) K)
def lL (ops:Array Oper) (listed:Array Bool) (i:Nat):Bool:=match ops[i]? with
 | some o=>Ev.pV o.op && Region.free .any ops listed i
 | none=>false
def lM (ops:Array Oper) (listed:Array Bool) (i:Nat):Bool:=match ops[i]? with
 | some o=>my o.op && Region.free .any ops listed i
 | none=>false
def nF (D:List Nat) (x:PV) (pins:List vy):List vy:=match x.iI with
 | some l=>⟨D,l⟩::pins
 | none=>pins
section
variable {w w':World} {I I':Nat->Prop} {β aM:ax} {G:Gx} {s:aN} {a:Act} {st eP:List an} {ops:Array Oper}
theorem zR:∀ {st:List an} {q:List an->Prop},Sx st q->q st
 | [],_,h=>h
 | ⟨k,ty,n,m,live,cs⟩::st,q,h=>by
  unfold Sx at h
  cases m<;>exact zR (st:=st) h
theorem gj (f:Bool->Md->Md) (us:List Nat):∀ (st:List an) (j l:Nat),(mapM f us j st)[l]?=(st[l]?).map fun b=>{ b with m:=f (kS (j+l) us) b.m }
 | [],j,l=>by simp[mapM]
 | ⟨k,ty,n,m,live,cs⟩::st,j,0=>by simp[mapM]
 | ⟨k,ty,n,m,live,cs⟩::st,j,l+1=>by
  simp only[mapM,List.getElem?_cons_succ]
  rw[gj f us st (j+1) l,show j+1+l=j+(l+1) by omega]
theorem gk (f:Bool->Md->Md) (us:List Nat):∀ (st:List an) (j:Nat),(mapM f us j st).length=st.length
 | [],_=>rfl
 | ⟨_,_,_,_,_,_⟩::st,j=>by simp[mapM,gk f us st]
theorem T2 {b:Bool} {m:Md}:vz b m = .r↔m = .r:=by cases b<;>cases m<;>simp[vz]
theorem T3 {b:Bool} {m:Md} (h:vz b m = .w):m = .w:=by cases b<;>cases m<;>simp_all [vz]
theorem Lg {b:Bool} {m:Md}:jD b m = .r↔m = .r:=by cases b<;>cases m<;>simp[jD]
theorem aL.Sy (h:aL I β st w) {f:Bool->Md->Md} {us:List Nat} (hf:∀ b m,f b m = .r↔m = .r):aL I β (mapM f us 0 st) w:=by
 refine⟨fun l hl=>h.py l (by rw[gk] at hl; exact hl),fun l b' hl aF=>?_⟩
 rw[gj,Option.map_eq_some_iff] at hl
 obtain⟨b,hb,rfl⟩:=hl
 have jL:=h.iI l b hb aF
 obtain⟨p,hp,hk⟩:=jL
 have own:∀ {g:Nat} {fr:Nat × Nat},Own I β st l g fr b->Own I β (mapM f us 0 st) l g fr { b with m:=f (kS (0+l) us) b.m }:=fun ho=>by
  refine⟨fun hr=>?_,fun hr=>ho.2 ((hf _ _).1 hr)⟩
  obtain⟨h1,h2,h3⟩:=ho.1 fun e=>hr ((hf _ _).2 e)
  refine⟨h1,h2,fun l' b' cH kf gF=>?_⟩
  rw[gj,Option.map_eq_some_iff] at kf
  obtain⟨b2,eG,rfl⟩:=kf
  exact h3 l' b2 cH eG gF
 refine⟨p,hp,?_⟩
 simp only
 split at hk
 ·rename_i cQ
  obtain⟨g,o,arr,ty,fr,h1,h2,h3,ho⟩:=hk
  rw[cQ]
  exact⟨g,o,arr,ty,fr,h1,h2,h3,own ho⟩
 ·rename_i cQ
  obtain⟨g,arr,fr,h1,h2,h3,ho,h4⟩:=hk
  rw[cQ]
  exact⟨g,arr,fr,h1,h2,h3,own ho,h4⟩
 ·rename_i cQ
  obtain⟨h1,hk⟩:=hk
  rw[cQ]
  refine⟨h1,?_⟩
  rcases hk with h|⟨g,arr,fr,h2,h3,h4,ho,h5⟩
  ·exact .inl h
  ·exact .inr ⟨g,arr,fr,h2,h3,h4,own ho,h5⟩
 ·rename_i cQ
  obtain⟨g,h1,h2,ho⟩:=hk
  rw[cQ]
  exact⟨g,h1,h2,own ho⟩
theorem dx {i:Nat} {l:List Nat}:kS i l=true↔i∈l:=by
 unfold kS
 rw[List.any_eq_true]
 exact⟨fun ⟨x,hx,e⟩=>by rw[Nat.eq_of_beq_eq_true e]; exact hx,fun h=>⟨i,h,Nat.beq_refl i⟩⟩
def p_ (pins:List vy) (ys:List nh) (I:Nat->Prop) (β:ax) (st:List an) (w:World):Prop :=
 ∀ y∈ys,(∀ w2,y.Y w2)\/∃ g,(∀ w2,y.Y w2↔w2.heap[g]?=w.heap[g]?)/\g < w.heap.size/\(I g\/∃ p∈pins,p.D=y.D/\∃ b pl o,st[p.l]?=some b/\b.live=true/\β p.l=some pl/\pl.a=some (g,o))
theorem mz {i:Nat} {p:vy}:∀ {pins:List vy},p∈pins->kS i p.D=false->p.l∈pinned i pins
 | q::pins,h,hd=>by
  unfold pinned
  rcases List.mem_cons.1 h with rfl|h
  ·rw[hd]; exact List.mem_cons_self
  ·cases kS i q.D
   ·exact List.mem_cons_of_mem _ (mz h hd)
   ·exact mz h hd
theorem vA {i:Nat} {p:vy} {pins:List vy} (h:p∈pins) (hd:kS i p.D=false):p∈cP i pins:=by
 unfold cP; rw[List.mem_filter]; exact⟨h,by simp[hd]⟩
theorem oG {i:Nat} {y:nh} {ys:List nh} (h:y∈cR i ys):y∈ys/\kS i y.D=false:=by
 unfold cR at h; rw[List.mem_filter] at h; exact⟨h.1,by simpa [kS] using h.2⟩
theorem p_.cR {i:Nat} {pins:List vy} {ys:List nh} (h:p_ pins ys I β st w):p_ (cP i pins) (cR i ys) I β st w:=fun y hy=>by
 obtain⟨hy,hd⟩:=oG hy
 rcases h y hy with h|⟨g,h1,h2,h3⟩
 ·exact .inl h
 ·exact .inr ⟨g,h1,h2,h3.imp id fun ⟨p,hp,he,h4⟩=>⟨p,vA hp (by rw[he]; exact hd),he,h4⟩⟩
theorem lN (hG:nC G) {i:Nat} {o:Oper} {pins:List vy} {ys:List nh} {K:aN->Prop} (h:gi G ops.toList s i o pins K) (hR:Rel G I β s a w) (hp:p_ pins ys I β s.st w) :
  Ev.ug G.cx.P ops o a w fun v w'=>∃ s' I' aM,K s'/\Rel G I' aM s' (a.put o.dst v) w'/\bJ I β s w I' aM s' w'/\(∀ y∈cR i ys,y.Y w')/\p_ (cP i pins) (cR i ys) I' aM s'.st w':=by
 unfold gi at h
 rcases gR hR h with ⟨hw,s1,h1,j5,iL⟩|⟨hw,s1,h1,j5,iL⟩
 ·refine .inl ⟨hw,?_⟩
  
  split at h1
  ·rename_i hls
   refine Ev.oA ?_ (zP hG iL h1)
   rintro v w' ⟨x,s2,I2,jm,h2,kh,hx,hE,e1,e2,e3,gh,_⟩
   obtain⟨s3,h3,j6,pn⟩:=aN.fq (G:=G) h2
   have Kh:bJ I β s w I2 jm s3 w':=((bJ.same j5).trans ⟨hE,e1,e2,e3,gh⟩).trans (bJ.same j6)
   have vu:∀ y∈cR i ys,y.Y w'/\((∀ w2,y.Y w2)\/∃ g,(∀ w2,y.Y w2↔w2.heap[g]?=w'.heap[g]?)/\g < w'.heap.size/\I2 g):=fun y hy=>by
    obtain⟨hy,hd⟩:=oG hy
    rcases hp y hy with h|⟨g,h1,h2,h3⟩
    ·exact⟨h _,.inl h⟩
    ·rcases h3 with h3|⟨p,Ep,he,_⟩
     ·have hs:=Kh.ext.keeps hR.heap hR.aC.aC g h3
      exact⟨(h1 w').2 hs,.inr ⟨g,fun w2=>by rw[h1,hs],Nat.lt_of_lt_of_le h2 Kh.ext.size,Kh.ext.aC g h3⟩⟩
     ·have:=mz (i:=i) Ep (by rw[he]; exact hd)
      rw[hls] at this
      cases this
   exact⟨s3,I2,jm,h3,pn _ _ _ _ v kh hx,Kh,fun y hy=>(vu y hy).1,fun y hy=>(vu y hy).2.imp id fun ⟨g,a1,a2,a3⟩=>⟨g,a1,a2,.inl a3⟩⟩
  ·rename_i ls hls
   replace h1:=zR h1
   have Ga:=iL.heap.Sy (f:=vz) (us:=jU s1.st (pinned i pins)) (fun b m=>T2)
   have hEp:Ext I β s1.st w I β (mapM vz (jU s1.st (pinned i pins)) 0 s1.st) w:=⟨rfl,rfl,rfl,Nat.le_refl _,fun _ _ _=>rfl,fun g hg ⟨l,b',p,o',g1,g2,g3,g4,g5⟩=>by
    rw[gj,Option.map_eq_some_iff] at g1
    obtain⟨b,hb,rfl⟩:=g1
    refine⟨l,b,p,o',hb,g2,?_,g4,g5⟩
    simp only at g3
    exact T3 g3,fun _ h=>h,fun _ _ h=>.inl h⟩
   have hRp:=iL.grow Ga hEp (fun _ _ h=>h) (by rw[gk]; exact Nat.le_refl _) iL.aC.aC
   refine Ev.oA ?_ (zP hG hRp h1)
   rintro v w' ⟨x,s2,I2,jm,h2,kh,hx,hE,e1,e2,e3,gh,hpn⟩
   obtain⟨c1,c2,c3,c4,c5⟩:=aN.lI s1 (mapM vz (jU s1.st (pinned i pins)) 0 s1.st)
   rw[c3] at hE hpn
   rw[c4] at e1 gh
   rw[c5] at e2 gh
   rw[c1] at e3
   replace h2:=aZ h2
   obtain⟨T4,h2⟩:=h2
   replace h2:=zR h2
   have hmu:=kh.heap.Sy (f:=jD) (us:=jU s1.st (pinned i pins)) (fun b m=>Lg)
   
   have hus:∀ l∈jU s1.st (pinned i pins),∃ b,s1.st[l]?=some b/\b.m = .w/\b.live=true:=fun l hl=>by
    unfold jU at hl
    rw[List.mem_filter] at hl
    have:=hl.2
    cases hb:s1.st[l]? with
    | none=>rw[hb] at this; cases this
    | some b =>
     rw[hb] at this
     simp only[Bool.and_eq_true] at this
     refine⟨b,rfl,?_,this.1⟩
     have:=this.2
     cases hm:b.m<;>simp only[hm,Md.isW] at this<;>first|rfl|cases this
   have hfix:∀ l b,s1.st[l]?=some b->b.m = .w->l∈jU s1.st (pinned i pins)->jm l=β l:=fun l b hb hm hl=>by
    refine hpn l { b with m:=.p } ?_ rfl
    rw[gj,hb,Nat.zero_add,dx.2 hl,Option.map_some,hm]; rfl
   have Z_:Ext I β s1.st w I2 jm (mapM jD (jU s1.st (pinned i pins)) 0 s2.st) w':=by
    have Gb:=hEp.trans hE
    refine⟨Gb.os,Gb.tape,Gb.output,Gb.size,Gb.block,fun g hg ⟨l,b',p,o',g1,g2,g3,g4,g5⟩=>?_,Gb.aC,Gb.new⟩
    rw[gj,Option.map_eq_some_iff] at g1
    obtain⟨b,hb,rfl⟩:=g1
    simp only[Nat.zero_add] at g3
    cases K9:kS l (jU s1.st (pinned i pins)) with
    | false =>
     rw[K9] at g3
     refine Gb.wr g hg ⟨l,b,p,o',hb,g2,?_,g4,g5⟩
     cases hm:b.m<;>rw[hm] at g3<;>first|rfl|cases g3
    | true =>
     have hl:=dx.1 K9
     obtain⟨b0,jL,sq,T5⟩:=hus l hl
     exact⟨l,b0,p,o',jL,T5,sq,by rw[← hfix l b0 jL sq hl]; exact g4,g5⟩
   have vu:∀ y∈cR i ys,y.Y w'/\((∀ w2,y.Y w2)\/∃ g,(∀ w2,y.Y w2↔w2.heap[g]?=w'.heap[g]?)/\g < w'.heap.size/\(I2 g\/∃ p∈cP i pins,p.D=y.D/\∃ b pl o,(mapM jD (jU s1.st (pinned i pins)) 0 s2.st)[p.l]?=some b/\b.live=true/\jm p.l=some pl/\pl.a=some (g,o))):=fun y hy=>by
    obtain⟨hy,hd⟩:=oG hy
    rcases hp y hy with h|⟨g,g1,g2,g3⟩
    ·exact⟨h _,.inl h⟩
    ·have byI:I g->y.Y w'/\((∀ w2,y.Y w2)\/∃ g,(∀ w2,y.Y w2↔w2.heap[g]?=w'.heap[g]?)/\g < w'.heap.size/\(I2 g\/∃ p∈cP i pins,p.D=y.D/\∃ b pl o,(mapM jD (jU s1.st (pinned i pins)) 0 s2.st)[p.l]?=some b/\b.live=true/\jm p.l=some pl/\pl.a=some (g,o))):=fun hI=>by
      have hs:=Z_.keeps iL.heap iL.aC.aC g hI
      exact⟨(g1 w').2 hs,.inr ⟨g,fun w2=>by rw[g1,hs],Nat.lt_of_lt_of_le g2 Z_.size,.inl (Z_.aC g hI)⟩⟩
     rcases g3 with g3|⟨p,Ep,he,b,pl,o',hb,aF,lD,Lh⟩
     ·exact byI g3
     ·rw[← j5.st] at hb
      have jL:=iL.heap.iI _ b hb aF
      obtain⟨arr,ty,fr,hh,ho⟩:=jL.place lD Lh
      by_cases hmr:b.m = .r
      ·exact byI (ho.2 hmr)
      ·have hlm:=mz (i:=i) Ep (by rw[he]; exact hd)
       
       have hpin:∃ b',(mapM vz (jU s1.st (pinned i pins)) 0 s1.st)[p.l]?=some b'/\b'.m = .p/\b'.live=true:=by
        refine⟨{ b with m:=vz (kS (0+p.l) (jU s1.st (pinned i pins))) b.m },by rw[gj,hb]; rfl,?_,aF⟩
        simp only[Nat.zero_add]
        cases hm:b.m with
        | r=>exact absurd hm hmr
        | p=>cases kS p.l (jU s1.st (pinned i pins))<;>rfl
        | w =>
         have:p.l∈jU s1.st (pinned i pins):=by unfold jU; rw[List.mem_filter,hb]; exact⟨hlm,by simp only[hm,aF]; rfl⟩
         rw[dx.2 this]; rfl
       obtain⟨b',dw,pW,gF⟩:=hpin
       have hb'0:=Ga.iI _ b' dw gF
       obtain⟨_,_,fr',_,ho'⟩:=hb'0.place lD Lh
       have tO:¬ Wr β (mapM vz (jU s1.st (pinned i pins)) 0 s1.st) g:=fun ⟨l2,b2,p2,o2,k1,k2,k3,k4,k5⟩=>by
        by_cases cH:l2=p.l
        ·subst cH
         rw[dw] at k1; cases k1; rw[pW] at k3; cases k3
        ·exact (ho'.1 (by rw[pW]; decide)).2.2 l2 b2 cH k1 k2 p2 g o2 k4 k5 rfl
       have hs:w'.heap[g]?=w.heap[g]?:=hE.block g g2 tO
       have hβ2:jm p.l=some pl:=(hpn _ b' dw pW).trans lD
       have O2:∃ b2,s2.st[p.l]?=some b2/\b2.live=true:=by
        unfold okP at T4
        rw[List.all_eq_true] at T4
        have:=T4 _ hlm
        cases eG:s2.st[p.l]? with
        | none=>rw[eG] at this; cases this
        | some b2=>rw[eG] at this; exact⟨b2,rfl,this⟩
       obtain⟨b2,eG,bH⟩:=O2
       refine⟨(g1 w').2 hs,.inr ⟨g,fun w2=>by rw[g1,hs],Nat.lt_of_lt_of_le g2 Z_.size,.inr ⟨p,vA Ep (by rw[he]; exact hd),he,{ b2 with m:=jD (kS (0+p.l) (jU s1.st (pinned i pins))) b2.m },pl,o',by rw[gj,eG]; rfl,bH,hβ2,Lh⟩⟩⟩
   have hEu:Ext I2 jm s2.st w' I2 jm (mapM jD (jU s1.st (pinned i pins)) 0 s2.st) w'->True:=fun _=>trivial
   clear hEu
   have hR3:Rel G I2 jm (s2.store (mapM jD (jU s1.st (pinned i pins)) 0 s2.st)) a w':=by
    obtain⟨d1,d2,d3,d4,d5⟩:=aN.lI s2 (mapM jD (jU s1.st (pinned i pins)) 0 s2.st)
    exact⟨by rw[d1]; exact kh.small,kh.defers,by rw[d1]; exact kh.size,by rw[d4,d3,gk]; exact kh.base,by rw[d2]; exact kh.get,by rw[d3]; exact hmu,kh.aC⟩
   obtain⟨s3,h3,j6,pn⟩:=aN.fq (G:=G) h2
   obtain⟨d1,d2,d3,d4,d5⟩:=aN.lI s2 (mapM jD (jU s1.st (pinned i pins)) 0 s2.st)
   refine⟨s3,I2,jm,h3,pn _ _ _ _ v hR3 hx,(bJ.same j5).trans ⟨by rw[j6.st,d3]; exact Z_,by rw[j6.base,d4]; exact e1,by rw[j6.rl,d5]; exact e2,by rw[j6.n,d1]; exact e3,gh⟩,fun y hy=>(vu y hy).1,fun y hy=>?_⟩
   rw[j6.st,d3]
   exact (vu y hy).2
 ·obtain⟨s3,h3,j6,pn⟩:=aN.fq (G:=G) h1
  refine .inr ⟨hw,s3,I,β,h3,pn _ _ _ _ _ iL Is.undef,(bJ.same j5).trans (bJ.same j6),fun y hy=>?_,?_⟩
  ·obtain⟨hy,_⟩:=oG hy
   rcases hp y hy with h|⟨g,h1,_⟩
   ·exact h w
   ·exact (h1 w).2 rfl
  ·rw[j6.st,j5.st]; exact hp.cR
theorem cU.kT {P:Program} {Q:Exit->Act->World->Prop} {i:Nat}:∀ (f:Nat) (l:Array Bool) (a:Act) (S:World->Prop) (pins:List nh),cU P ops Q f l a S pins->cU P ops Q f l a S (⟨i,[],fun _=>True⟩::pins)
 | 0,_,_,_,_,h=>h
 | f+1,l,a,S,pins,h=>by
  have Z':∀ j,cR j (⟨i,[],fun _=>True⟩::pins)=⟨i,[],fun _=>True⟩::cR j pins:=fun j=>by
   unfold cR; rw[List.filter_cons,if_pos (by simp)]
  refine⟨h.1,fun j hj o ho=>?_⟩
  obtain⟨h0,h1⟩:=h.2 j hj o ho
  rw[Z']
  refine⟨fun hl=>?_,fun hl w hw=>j7 (fun v w' ⟨S',h2,h3,h4⟩=>⟨S',fun p hp=>?_,h3,cU.kT f _ _ _ _ h4⟩) (h1 hl w hw)⟩
  ·obtain⟨v,hy,hn⟩:=h0 hl
   exact⟨v,hy,cU.kT f _ _ _ _ hn⟩
  ·rcases List.mem_cons.1 hp with rfl|hp
   ·exact fun _ _=>trivial
   ·exact h2 p hp
theorem Bv {P:Program} {K:Value->World->Prop} {r:Result Next} (h:Ev.sv P K r):∃ v w,K v w:=by
 cases r with
 | ok n w =>
  cases n<;>simp only[Ev.sv] at h
  case value u=>exact⟨_,_,h⟩
  case skip=>exact⟨_,_,h⟩
  case enter f args =>
   obtain⟨e,w',fr,⟨u,_,hu⟩,_⟩:=h []
   exact⟨_,_,hu⟩
 | halt x w=>exact h.elim
theorem nG {P:Program} {o:Oper} {K:Value->World->Prop} (h:Ev.ug P ops o a w K):∃ v w',K v w':=by
 rcases h with ⟨_,h⟩|⟨_,h⟩
 ·exact Bv h
 ·exact⟨_,_,h⟩
theorem cU.ends {P:Program} {Q:Exit->Act->World->Prop}:∀ (f:Nat) (l:Array Bool) (a:Act) (S:World->Prop) (pins:List nh) (w:World),cU P ops Q f l a S pins->S w->∃ a' w',Q .normal a' w'
 | 0,l,a,S,_,w,h,hw=>⟨a,w,h.2 w hw⟩
 | f+1,l,a,S,pins,w,h,hw=>by
  cases hr:Region.ready .any ops l with
  | nil=>exact⟨a,w,h.1 hr w hw⟩
  | cons i r =>
   have hi:i∈Region.ready .any ops l:=by rw[hr]; exact List.mem_cons_self
   obtain⟨o,ho⟩:=Ev.Bb hi
   obtain⟨h0,h1⟩:=h.2 i hi o ho
   cases he:aR o.op with
   | false =>
    obtain⟨v,_,hn⟩:=h0 he
    exact cU.ends f _ _ S _ w hn hw
   | true =>
    obtain⟨v,w',S',_,Kg,hn⟩:=nG (h1 he w hw)
    exact cU.ends f _ _ S' _ w' hn Kg
theorem Li {listed:Array Bool} {i:Nat} {D:List Nat} (h:T1 ops.toList listed i D=true):∀ j∈D,listed.getD j false=false/\∃ oj,ops[j]?=some oj/\∃ e∈oj.after,Region.binds .any e=true/\(e.on=i\/e.on∈D):=by
 intro j hj
 unfold T1 at h
 rw[List.all_eq_true] at h
 have:=h j hj
 simp only[Bool.and_eq_true,Bool.not_eq_true'] at this
 refine⟨this.1,?_⟩
 have h2:=this.2
 cases ho:ops.toList[j]? with
 | none=>rw[ho] at h2; cases h2
 | some oj =>
  rw[ho] at h2
  simp only[List.any_eq_true,Bool.and_eq_true,Bool.or_eq_true] at h2
  obtain⟨e,he,hb,h3⟩:=h2
  exact⟨oj,by simpa using ho,e,by simpa using he,hb,h3.imp Nat.eq_of_beq_eq_true dx.1⟩
end
mutual
inductive aJ where
 | done
 | pure (i:Nat) (r:aJ)
 | load (i:Nat) (D:List Nat) (r:aJ)
 | aR (i:Nat) (r:aJ) (more:lO)
inductive lO where
 | nil
 | cons (j:Nat) (r:aJ) (more:lO)
 | alt (j:Nat) (r:aJ) (more:lO)
 | sub (j:Nat) (r:aJ) (more:lO)
end
def yz:List Nat->List Nat->Bool
 | [],[]=>true
 | a::l,b::m=>Nat.beq a b && yz l m
 | _,_=>false
theorem vB:∀ {l m:List Nat},yz l m=true->l=m
 | [],[],_=>rfl
 | a::l,b::m,h=>by
  simp only[yz,Bool.and_eq_true] at h
  rw[Nat.eq_of_beq_eq_true h.1,vB h.2]
 | [],_::_,h=>by cases h
 | _::_,[],h=>by cases h
def pE (ops:Array Oper) (i:Nat):Bool:=match ops[i]? with
 | some o=>aR o.op
 | none=>false
def mC (xz:Nat->aJ->Bool):List Nat->lO->Bool
 | [],.nil=>true
 | j::l,.cons k r ms=>Nat.beq j k && xz j r && mC xz l ms
 | j::l,.alt k r ms=>Nat.beq j k && xz j r && mC xz l ms
 | j::l,.sub k r ms=>Nat.beq j k && xz j r && mC xz l ms
 | _,_=>false
def Gc (ops:Array Oper):Nat->Array Bool->aJ->Bool
 | _,listed,.done=>(Region.ready .any ops listed).isEmpty
 | 0,_,_=>false
 | fuel+1,listed,.pure i r=>(match Ev.zB (lL ops listed) (Region.ready .any ops listed) with
  | some k=>Nat.beq k i && Gc ops fuel (listed.setIfInBounds i true) r
  | none=>false)
 | fuel+1,listed,.load i D r=>(match Ev.zB (lM ops listed) (Region.ready .any ops listed) with
  | some k=>Nat.beq k i && yz D (Eo listed i ops.toList 0 []) && T1 ops.toList listed i D && Gc ops fuel (listed.setIfInBounds i true) r
  | none=>false)
 | fuel+1,listed,.aR i r ms=>(match Region.ready .any ops listed with
  | i0::more=>Nat.beq i0 i && pE ops i && more.all (pE ops) && Gc ops fuel (listed.setIfInBounds i true) r && mC (fun j r=>Gc ops fuel (listed.setIfInBounds j true) r) more ms
  | []=>false)
def nH (xz:Nat->aJ->Prop):List Nat->lO->Prop
 | [],.nil=>True
 | j::l,.cons k r ms=>j=k/\xz j r/\nH xz l ms
 | j::l,.alt k r ms=>j=k/\xz j r/\nH xz l ms
 | j::l,.sub k r ms=>j=k/\xz j r/\nH xz l ms
 | _,_=>False
def kU (ops:Array Oper):Nat->Array Bool->aJ->Prop
 | _,listed,.done=>Region.ready .any ops listed = []
 | 0,_,_=>False
 | fuel+1,listed,.pure i r=>i∈Region.ready .any ops listed/\lL ops listed i=true/\kU ops fuel (listed.setIfInBounds i true) r
 | fuel+1,listed,.load i D r=>i∈Region.ready .any ops listed/\lM ops listed i=true/\T1 ops.toList listed i D=true/\kU ops fuel (listed.setIfInBounds i true) r
 | fuel+1,listed,.aR i r ms=>(match Region.ready .any ops listed with
  | i0::more=>i0=i/\pE ops i=true/\(∀ j∈more,pE ops j=true)/\kU ops fuel (listed.setIfInBounds i true) r/\nH (fun j r=>kU ops fuel (listed.setIfInBounds j true) r) more ms
  | []=>False)
def Sub (G:Gx) (s s':aN):Prop:=∀ I β a w,Rel G I β s a w->∃ I' aM,Rel G I' aM s' a w/\bJ I β s w I' aM s' w
mutual
def bK (G:Gx) (ops:List Oper):aJ->aN->List vy->(aN->Prop)->Prop
 | .done,s,_,K=>K s
 | .pure i r,s,pins,K=>aP ops[i]? fun o=>lg ops s o (fun s=>qG G.cx s o.op fun v=>s.put o.dst v fun s=>bK G ops r s pins K) (fun s=>s.put o.dst (.tup []) fun s=>bK G ops r s pins K)
 | .load i D r,s,pins,K=>aP ops[i]? fun o=>lg ops s o (fun s=>match o.op with
   | .load t ad=>s.ev ad fun x=>tK G s.st t x fun v=>s.put o.dst v fun s=>bK G ops r s (nF D x pins) K
   | _=>False) (fun s=>s.put o.dst (.tup []) fun s=>bK G ops r s pins K)
 | .aR i r ms,s,pins,K=>aP ops[i]? fun o=>match ms with
  | .nil=>gi G ops s i o pins fun s1=>bK G ops r s1 (cP i pins) K
  | .cons j r' ms'=>gi G ops s i o pins fun s1=>bK G ops r s1 (cP i pins) fun sf=>K sf/\(aP ops[j]? fun o=>gi G ops s j o pins fun s2=>bK G ops r' s2 (cP j pins) fun Bw=>Bw=sf)/\fF G ops ms' s pins sf
  | .sub j r' ms'=>gi G ops s i o pins fun s1=>bK G ops r s1 (cP i pins) fun sf=>∃ Ib,Sub G sf Ib/\K Ib/\(aP ops[j]? fun o=>gi G ops s j o pins fun s2=>bK G ops r' s2 (cP j pins) fun Bw=>Sub G Bw Ib)/\h_ G ops ms' s pins Ib
  | .alt j r' ms'=>(gi G ops s i o pins fun s1=>bK G ops r s1 (cP i pins) K)/\(aP ops[j]? fun o=>gi G ops s j o pins fun s2=>bK G ops r' s2 (cP j pins) K)/\kV G ops ms' s pins K
def fF (G:Gx) (ops:List Oper):lO->aN->List vy->aN->Prop
 | .nil,_,_,_=>True
 | .cons j r ms,s,pins,sf=>(aP ops[j]? fun o=>gi G ops s j o pins fun s2=>bK G ops r s2 (cP j pins) fun Bw=>Bw=sf)/\fF G ops ms s pins sf
 | .alt _ _ _,_,_,_=>False
 | .sub _ _ _,_,_,_=>False
def h_ (G:Gx) (ops:List Oper):lO->aN->List vy->aN->Prop
 | .nil,_,_,_=>True
 | .sub j r ms,s,pins,sf=>(aP ops[j]? fun o=>gi G ops s j o pins fun s2=>bK G ops r s2 (cP j pins) fun Bw=>Sub G Bw sf)/\h_ G ops ms s pins sf
 | .cons _ _ _,_,_,_=>False
 | .alt _ _ _,_,_,_=>False
def kV (G:Gx) (ops:List Oper):lO->aN->List vy->(aN->Prop)->Prop
 | .nil,_,_,_=>True
 | .alt j r ms,s,pins,K=>(aP ops[j]? fun o=>gi G ops s j o pins fun s2=>bK G ops r s2 (cP j pins) K)/\kV G ops ms s pins K
 | .cons _ _ _,_,_,_=>False
 | .sub _ _ _,_,_,_=>False
end
section
variable {w w':World} {I I':Nat->Prop} {β aM:ax} {G:Gx} {s:aN} {a:Act} {st eP:List an} {ops:Array Oper}
theorem vC {xz:Nat->aJ->Prop}:∀ {l:List Nat} {ms:lO},nH xz l ms->∀ {pins:List vy} {sf:aN},fF G ops.toList ms s pins sf->∀ j∈l,∃ r,xz j r/\aP ops.toList[j]? fun o=>gi G ops.toList s j o pins fun s2=>bK G ops.toList r s2 (cP j pins) fun Bw=>Bw=sf
 | [],_,_,_,_,_,_,hj=>by cases hj
 | i::l,.nil,h,_,_,_,_,_=>False.elim h
 | i::l,.alt k r ms,h,pins,sf,hr,j,hj=>by unfold fF at hr; exact hr.elim
 | i::l,.sub k r ms,h,pins,sf,hr,j,hj=>by unfold fF at hr; exact hr.elim
 | i::l,.cons k r ms,h,pins,sf,hr,j,hj=>by
  obtain⟨rfl,h2,h3⟩:=h
  unfold fF at hr
  rcases List.mem_cons.1 hj with rfl|hj
  ·exact⟨r,h2,hr.1⟩
  ·exact vC h3 hr.2 j hj
theorem tP {xz:Nat->aJ->Prop}:∀ {l:List Nat} {ms:lO},nH xz l ms->∀ {pins:List vy} {K:aN->Prop},kV G ops.toList ms s pins K->∀ j∈l,∃ r,xz j r/\aP ops.toList[j]? fun o=>gi G ops.toList s j o pins fun s2=>bK G ops.toList r s2 (cP j pins) K
 | [],_,_,_,_,_,_,hj=>by cases hj
 | i::l,.nil,h,_,_,_,_,_=>False.elim h
 | i::l,.cons k r ms,h,pins,K,hr,j,hj=>by unfold kV at hr; exact hr.elim
 | i::l,.sub k r ms,h,pins,K,hr,j,hj=>by unfold kV at hr; exact hr.elim
 | i::l,.alt k r ms,h,pins,K,hr,j,hj=>by
  obtain⟨rfl,h2,h3⟩:=h
  unfold kV at hr
  rcases List.mem_cons.1 hj with rfl|hj
  ·exact⟨r,h2,hr.1⟩
  ·exact tP h3 hr.2 j hj
theorem tQ {xz:Nat->aJ->Prop}:∀ {l:List Nat} {ms:lO},nH xz l ms->∀ {pins:List vy} {sf:aN},h_ G ops.toList ms s pins sf->∀ j∈l,∃ r,xz j r/\aP ops.toList[j]? fun o=>gi G ops.toList s j o pins fun s2=>bK G ops.toList r s2 (cP j pins) fun Bw=>Sub G Bw sf
 | [],_,_,_,_,_,_,hj=>by cases hj
 | i::l,.nil,h,_,_,_,_,_=>False.elim h
 | i::l,.cons k r ms,h,pins,sf,hr,j,hj=>by unfold h_ at hr; exact hr.elim
 | i::l,.alt k r ms,h,pins,sf,hr,j,hj=>by unfold h_ at hr; exact hr.elim
 | i::l,.sub k r ms,h,pins,sf,hr,j,hj=>by
  obtain⟨rfl,h2,h3⟩:=h
  unfold h_ at hr
  rcases List.mem_cons.1 hj with rfl|hj
  ·exact⟨r,h2,hr.1⟩
  ·exact tQ h3 hr.2 j hj
theorem lP {i:Nat} {o:Oper} (ho:ops[i]?=some o) (h:pE ops i=true):aR o.op=true:=by unfold pE at h; rw[ho] at h; exact h
theorem Er (hG:nC G) (qP:Region.noSelect ops=true):∀ (fuel:Nat) (p:aJ) (Q:Exit->Act->World->Prop) (l:Array Bool) (s:aN) (a:Act) (I:Nat->Prop) (β:ax) (w:World) (pins:List vy) (ys:List nh) (K:aN->Prop),
  kU ops fuel l p->bK G ops.toList p s pins K->Rel G I β s a w->p_ pins ys I β s.st w->(∀ s' I' aM a' w',K s'->Rel G I' aM s' a' w'->bJ I β s w I' aM s' w'->Q .normal a' w')->cU G.cx.P ops Q fuel l a (fun w2=>w2=w) ys:=by
 intro fuel
 have fin:∀ (fuel:Nat) (Q:Exit->Act->World->Prop) (l:Array Bool) (s:aN) (a:Act) (I:Nat->Prop) (β:ax) (w:World) (ys:List nh) (K:aN->Prop),Region.ready .any ops l = []->K s->Rel G I β s a w->(∀ s' I' aM a' w',K s'->Rel G I' aM s' a' w'->bJ I β s w I' aM s' w'->Q .normal a' w')->cU G.cx.P ops Q fuel l a (fun w2=>w2=w) ys:=by
  intro fuel Q l s a I β w ys K hr h hR hQ
  have xH:Region.ready .any ops l = []:=hr
  cases fuel with
  | zero=>exact⟨xH,fun w2 hw=>by subst hw; exact hQ s I β a w2 h hR (bJ.same ⟨rfl,rfl,rfl,rfl⟩)⟩
  | succ fuel=>exact⟨fun _ w2 hw=>by subst hw; exact hQ s I β a w2 h hR (bJ.same ⟨rfl,rfl,rfl,rfl⟩),fun i hi=>by rw[xH] at hi; cases hi⟩
 induction fuel with
 | zero =>
  intro p Q l s a I β w pins ys K hp h hR _ hQ
  cases p with
  | done=>exact fin 0 Q l s a I β w ys K (by simpa only [kU] using hp) (by simpa only [bK] using h) hR hQ
  | pure=>exact hp.elim
  | load=>exact hp.elim
  | aR=>exact hp.elim
 | succ fuel ih =>
  intro p Q l s a I β w pins ys K hp h hR zS hQ
  cases p with
  | done=>exact fin (fuel+1) Q l s a I β w ys K (by simpa only [kU] using hp) (by simpa only [bK] using h) hR hQ
  | pure i r =>
   simp only[kU] at hp
   ·obtain⟨gG,dm,hp⟩:=hp
    unfold bK at h
    replace h:=au h
    obtain⟨o,ho,h⟩:=h
    rw[Array.getElem?_toList] at ho
    unfold lL at dm
    rw[ho] at dm
    simp only[Bool.and_eq_true] at dm
    have he:aR o.op=false:=by unfold aR; rw[dm.1]; rfl
    rcases gR hR h with ⟨eK,s1,h1,j5,iL⟩|⟨eK,s1,h1,j5,iL⟩
    ·obtain⟨x,v,h1,hx,bI⟩:=vt hG.ok iL h1
     obtain⟨s3,h3,j6,pn⟩:=aN.fq (G:=G) h1
     refine cU.first (v:=v) (D:=[]) (Y:=fun _=>True) ho he qP fuel l a _ ys (Region.free_spec ho dm.2) (fun j hj=>by cases hj) (.inl ⟨eK,fun w2 _=>bI w2⟩) (fun _ _=>trivial) gG (cU.kT _ _ _ _ _ ?_)
     exact ih r Q _ s3 _ I β w pins ys K hp h3 (pn _ _ _ _ _ iL hx) (by rw[j6.st,j5.st]; exact zS) (fun s' I' aM a' w' hk cd hg=>hQ s' I' aM a' w' hk cd (((bJ.same j5).trans (bJ.same j6)).trans hg))
    ·obtain⟨s3,h3,j6,pn⟩:=aN.fq (G:=G) h1
     refine cU.first (v:=undef) (D:=[]) (Y:=fun _=>True) ho he qP fuel l a _ ys (Region.free_spec ho dm.2) (fun j hj=>by cases hj) (.inr ⟨eK,rfl⟩) (fun _ _=>trivial) gG (cU.kT _ _ _ _ _ ?_)
     exact ih r Q _ s3 _ I β w pins ys K hp h3 (pn _ _ _ _ _ iL Is.undef) (by rw[j6.st,j5.st]; exact zS) (fun s' I' aM a' w' hk cd hg=>hQ s' I' aM a' w' hk cd (((bJ.same j5).trans (bJ.same j6)).trans hg))
  | load i D r =>
   simp only[kU] at hp
   ·obtain⟨gG,dm,hD,hp⟩:=hp
    unfold bK at h
    replace h:=au h
    obtain⟨o,ho,h⟩:=h
    rw[Array.getElem?_toList] at ho
    unfold lM at dm
    rw[ho] at dm
    simp only[Bool.and_eq_true] at dm
    have he:aR o.op=false:=by unfold aR; rw[dm.1,Bool.or_true]; rfl
    rcases gR hR h with ⟨eK,s1,h1,j5,iL⟩|⟨eK,s1,h1,j5,iL⟩
    ·split at h1
     ·rename_i t ad p9
      replace h1:=aN.cc iL h1
      obtain⟨x,h1,hx⟩:=h1
      obtain⟨z,v,g,h1,hz,hg,bI⟩:=ny hG.ok iL.heap iL.aC h1 hx
      obtain⟨s3,h3,j6,pn⟩:=aN.fq (G:=G) h1
      have Lj:∀ w2:World,w2.heap[g]?=w.heap[g]?->(execOp a.eval o).run G.cx.P w2 = .ok (.value v) w2:=fun w2 mu=>by
       unfold execOp
       rw[p9]
       simp only[Sem.run_bind,bI w2 mu,Result.andThen_ok,Sem.run_pure]
      have Ek:g < w.heap.size:=by
       rcases hg with hg|⟨l',b,p,o',_,hb,aF,lD,Lh⟩
       ·exact hR.aC.aC g hg
       ·exact iL.heap.dk ⟨l',b,p,o',hb,aF,lD,Lh⟩
      refine cU.first (v:=v) (D:=D) (Y:=fun w2=>w2.heap[g]?=w.heap[g]?) ho he qP fuel l a _ ys (Region.free_spec ho dm.2) (Li hD) (.inl ⟨eK,Lj⟩) (fun w2 mu=>by rw[mu]) gG ?_
      refine ih r Q _ s3 _ I β w (nF D x pins) _ K hp h3 (pn _ _ _ _ _ iL hz) ?_ (fun s' I' aM a' w' hk cd hg=>hQ s' I' aM a' w' hk cd (((bJ.same j5).trans (bJ.same j6)).trans hg))
      rw[j6.st,j5.st]
      intro y hy
      rcases List.mem_cons.1 hy with rfl|hy
      ·refine .inr ⟨g,fun _=>Iff.rfl,Ek,?_⟩
       rcases hg with hg|⟨l',b,p,o',mr,hb,aF,lD,Lh⟩
       ·exact .inl hg
       ·refine .inr ⟨⟨D,l'⟩,by unfold nF; rw[mr]; exact List.mem_cons_self,rfl,b,p,o',by rw[← j5.st]; exact hb,aF,lD,Lh⟩
      ·rcases zS y hy with h|⟨g',k1,k2,k3⟩
       ·exact .inl h
       ·refine .inr ⟨g',k1,k2,k3.imp id fun ⟨p,Ep,k4⟩=>⟨p,?_,k4⟩⟩
        unfold nF
        split
        ·exact List.mem_cons_of_mem _ Ep
        ·exact Ep
     ·exact h1.elim
    ·obtain⟨s3,h3,j6,pn⟩:=aN.fq (G:=G) h1
     refine cU.first (v:=undef) (D:=[]) (Y:=fun _=>True) ho he qP fuel l a _ ys (Region.free_spec ho dm.2) (fun j hj=>by cases hj) (.inr ⟨eK,rfl⟩) (fun _ _=>trivial) gG (cU.kT _ _ _ _ _ ?_)
     exact ih r Q _ s3 _ I β w pins ys K hp h3 (pn _ _ _ _ _ iL Is.undef) (by rw[j6.st,j5.st]; exact zS) (fun s' I' aM a' w' hk cd hg=>hQ s' I' aM a' w' hk cd (((bJ.same j5).trans (bJ.same j6)).trans hg))
  | aR i r ms =>
   simp only[kU] at hp
   split at hp
   ·rename_i i0 more ni
    obtain⟨rfl,hei,hem,hpr,Ep⟩:=hp
    unfold bK at h
    replace h:=au h
    obtain⟨o,ho,h⟩:=h
    rw[Array.getElem?_toList] at ho
    have he:=lP ho hei
    have cH:Region.ready .any ops l≠[]:=by rw[ni]; simp
    
    have go:∀ {j:Nat} {oj:Oper} {rj:aJ} {K':aN->Prop},kU ops fuel (l.setIfInBounds j true) rj->ops[j]?=some oj->aR oj.op=true->(gi G ops.toList s j oj pins fun s1=>bK G ops.toList rj s1 (cP j pins) K')->(∀ sf,K' sf->K sf) ->
      (aR oj.op=false->∃ v,Yields G.cx.P ops (fun w2=>w2=w) oj v a/\cU G.cx.P ops Q fuel (l.setIfInBounds j true) (a.put oj.dst v) (fun w2=>w2=w) (cR j ys)) /\
      (aR oj.op=true->∀ w2,w2=w->Ev.ug G.cx.P ops oj a w2 fun v w'=>∃ S':World->Prop,(∀ p∈cR j ys,∀ w,S' w->p.Y w)/\S' w'/\cU G.cx.P ops Q fuel (l.setIfInBounds j true) (a.put oj.dst v) S' (cR j ys)):=by
     intro j oj rj K' hpj lK hej h' hK
     refine⟨(fun e=>by rw[hej] at e; cases e),fun _ w2 mu=>?_⟩
     subst mu
     refine j7 ?_ (lN hG h' hR zS)
     rintro v w' ⟨s',I',aM,hk,cd,hg,hY,e_⟩
     refine⟨fun w2=>w2=w',fun p hp w2 mu=>by rw[mu]; exact hY p hp,rfl,?_⟩
     exact ih rj Q _ s' _ I' aM w' _ _ K' hpj hk cd e_ fun s2 I2 jm a2 w3 nq kh zT=>hQ s2 I2 jm a2 w3 (hK s2 nq) kh (hg.trans zT)
    have goS:∀ {j:Nat} {oj:Oper} {rj:aJ} {K':aN->Prop},kU ops fuel (l.setIfInBounds j true) rj->ops[j]?=some oj->aR oj.op=true->(gi G ops.toList s j oj pins fun s1=>bK G ops.toList rj s1 (cP j pins) K')->(∀ sf,K' sf->∃ Ib,Sub G sf Ib/\K Ib) ->
      (aR oj.op=false->∃ v,Yields G.cx.P ops (fun w2=>w2=w) oj v a/\cU G.cx.P ops Q fuel (l.setIfInBounds j true) (a.put oj.dst v) (fun w2=>w2=w) (cR j ys)) /\
      (aR oj.op=true->∀ w2,w2=w->Ev.ug G.cx.P ops oj a w2 fun v w'=>∃ S':World->Prop,(∀ p∈cR j ys,∀ w,S' w->p.Y w)/\S' w'/\cU G.cx.P ops Q fuel (l.setIfInBounds j true) (a.put oj.dst v) S' (cR j ys)):=by
     intro j oj rj K' hpj lK hej h' hK
     refine⟨(fun e=>by rw[hej] at e; cases e),fun _ w2 mu=>?_⟩
     subst mu
     refine j7 ?_ (lN hG h' hR zS)
     rintro v w' ⟨s',I',aM,hk,cd,hg,hY,e_⟩
     refine⟨fun w2=>w2=w',fun p hp w2 mu=>by rw[mu]; exact hY p hp,rfl,?_⟩
     exact ih rj Q _ s' _ I' aM w' _ _ K' hpj hk cd e_ fun s2 I2 jm a2 w3 nq kh zT=>by
      obtain⟨Ib,hs,Ki⟩:=hK s2 nq
      obtain⟨I3,β3,hR3,hg3⟩:=hs I2 jm a2 w3 kh
      exact hQ Ib I3 β3 a2 w3 Ki hR3 ((hg.trans zT).trans hg3)
    cases ms with
    | nil =>
     cases more with
     | cons=>exact Ep.elim
     | nil =>
      refine⟨fun e=>absurd e cH,fun j hj oj lK=>?_⟩
      rw[ni,List.mem_singleton] at hj
      subst hj
      rw[ho] at lK
      cases lK
      exact go hpr ho he h fun _ hk=>hk
    | cons j0 r0 Lk =>
     have cA:∀ sf,((aP ops.toList[j0]? fun o=>gi G ops.toList s j0 o pins fun s2=>bK G ops.toList r0 s2 (cP j0 pins) fun Bw=>Bw=sf)/\fF G ops.toList Lk s pins sf)->fF G ops.toList (.cons j0 r0 Lk) s pins sf:=fun sf h=>by unfold fF; exact h
     
     obtain⟨sf,hKf,qQ⟩:∃ sf,K sf/\fF G ops.toList (.cons j0 r0 Lk) s pins sf:=by
      obtain⟨v,w',s',I',aM,hk,cd,hg,hY,e_⟩:=nG (lN hG h hR zS)
      have hA:=ih r (fun _ _ _=>∃ sf,K sf/\fF G ops.toList (.cons j0 r0 Lk) s pins sf) _ s' (a.put o.dst v) I' aM w' _ _ _ hpr hk cd e_ fun s2 I2 jm a2 w3 nq _ _=>⟨s2,nq.1,cA _ nq.2⟩
      obtain⟨_,_,h3⟩:=cU.ends _ _ _ _ _ w' hA rfl
      exact h3
     refine⟨fun e=>absurd e cH,fun j hj oj lK=>?_⟩
     rw[ni] at hj
     rcases List.mem_cons.1 hj with rfl|hj
     ·rw[ho] at lK
      cases lK
      exact go hpr ho he h fun _ hk=>hk.1
     ·obtain⟨rj,hrj,h2⟩:=vC Ep qQ j hj
      replace h2:=au h2
      obtain⟨oj',vx,h2⟩:=h2
      rw[Array.getElem?_toList,lK] at vx
      cases vx
      exact go hrj lK (lP lK (hem j hj)) h2 fun Bw e=>by rw[e]; exact hKf
    | sub j0 r0 Lk =>
     have cA:∀ sf,((aP ops.toList[j0]? fun o=>gi G ops.toList s j0 o pins fun s2=>bK G ops.toList r0 s2 (cP j0 pins) fun Bw=>Sub G Bw sf)/\h_ G ops.toList Lk s pins sf)->h_ G ops.toList (.sub j0 r0 Lk) s pins sf:=fun sf h=>by unfold h_; exact h
     obtain⟨sf,hKf,qQ⟩:∃ sf,K sf/\h_ G ops.toList (.sub j0 r0 Lk) s pins sf:=by
      obtain⟨v,w',s',I',aM,hk,cd,hg,hY,e_⟩:=nG (lN hG h hR zS)
      have hA:=ih r (fun _ _ _=>∃ sf,K sf/\h_ G ops.toList (.sub j0 r0 Lk) s pins sf) _ s' (a.put o.dst v) I' aM w' _ _ _ hpr hk cd e_ fun s2 I2 jm a2 w3 nq _ _=>let ⟨Ib,_,h2,h3⟩:=nq; ⟨Ib,h2,cA _ h3⟩
      obtain⟨_,_,h3⟩:=cU.ends _ _ _ _ _ w' hA rfl
      exact h3
     refine⟨fun e=>absurd e cH,fun j hj oj lK=>?_⟩
     rw[ni] at hj
     rcases List.mem_cons.1 hj with rfl|hj
     ·rw[ho] at lK
      cases lK
      exact goS hpr ho he h fun _ hk=>let ⟨Ib,h1,h2,_⟩:=hk; ⟨Ib,h1,h2⟩
     ·obtain⟨rj,hrj,h2⟩:=tQ Ep qQ j hj
      replace h2:=au h2
      obtain⟨oj',vx,h2⟩:=h2
      rw[Array.getElem?_toList,lK] at vx
      cases vx
      exact goS hrj lK (lP lK (hem j hj)) h2 fun Bw e=>⟨sf,e,hKf⟩
    | alt j0 r0 Lk =>
     obtain⟨h,qQ⟩:=h
     have cA:kV G ops.toList (.alt j0 r0 Lk) s pins K:=by unfold kV; exact qQ
     refine⟨fun e=>absurd e cH,fun j hj oj lK=>?_⟩
     rw[ni] at hj
     rcases List.mem_cons.1 hj with rfl|hj
     ·rw[ho] at lK
      cases lK
      exact go hpr ho he h fun _ hk=>hk
     ·obtain⟨rj,hrj,h2⟩:=tP Ep cA j hj
      replace h2:=au h2
      obtain⟨oj',vx,h2⟩:=h2
      rw[Array.getElem?_toList,lK] at vx
      cases vx
      exact go hrj lK (lP lK (hem j hj)) h2 fun _ hk=>hk
   ·cases hp
end
def tb (m i:Nat):Bool:=Nat.beq (Nat.land (Nat.shiftRight m i) 1) 1
theorem Bx (m i:Nat):tb m i=m.testBit i:=by
 unfold tb
 have h:Nat.land (Nat.shiftRight m i) 1=(m >>> i) % 2:=Nat.and_one_is_mod _
 rw[h,Nat.testBit,Nat.and_comm,Nat.and_one_is_mod]
 rcases Nat.mod_two_eq_zero_or_one (m >>> i) with e|e<;>rw[e]<;>rfl
def eQ (i:Nat):Nat:=Nat.shiftLeft 1 i
theorem qR (i k:Nat):(eQ i).testBit k=decide (i=k):=by
 have h:eQ i=2 ^ i:=by show 1 <<< i=_; rw[Nat.one_shiftLeft]
 rw[h,Nat.testBit_two_pow]
theorem vD (a b k:Nat):(Nat.lor a b).testBit k=(a.testBit k || b.testBit k):=Nat.testBit_or a b k
def sN {α:Type}:Nat->(Nat->α)->α
 | 0,k=>k 0
 | n+1,k=>k (n+1)
theorem mD {α:Type} (n:Nat) (k:Nat->α):sN n k=k n:=by cases n<;>rfl
structure vE where
 w:Nat
 d:Nat
 l:Nat
 k:Nat
def ki:List Edge->Nat
 | []=>0
 | e::r=>bif Region.binds .any e then Nat.lor (ki r) (eQ e.on) else ki r
def By:List Nat->Nat
 | []=>0
 | d::r=>Nat.lor (By r) (eQ (d+1))
def PQ:Option Nat->Nat
 | some d=>d+1
 | none=>0
def qS (o:Oper):Nat:=bif Ev.pV o.op then 0 else bif my o.op then 1 else 2
def rowOf (ops:Array Oper) (o:Oper):vE:=⟨ki o.after.toList,PQ o.dst,By (o.looksAt ops),qS o⟩
def Gd (ops:Array Oper):List Oper->(List vE->Bool)->Bool
 | [],k=>k []
 | o::r,k=>sN (ki o.after.toList) fun w=>sN (PQ o.dst) fun d=>sN (By (o.looksAt ops)) fun l=>sN (qS o) fun q=>Gd ops r fun rs=>k (⟨w,d,l,q⟩::rs)
theorem Bz (ops:Array Oper):∀ (l:List Oper) (k:List vE->Bool),Gd ops l k=k (l.map (rowOf ops))
 | [],_=>rfl
 | o::r,k=>by
  simp only[Gd,mD,Bz ops r]
  rfl
def nI:List vE->Nat->Nat->List Nat
 | [],_,_=>[]
 | x::r,j,m=>bif !tb m j && Nat.beq (Nat.land x.w m) x.w then j::sN (j+1) fun j=>nI r j m else sN (j+1) fun j=>nI r j m
def Es (x y:vE):Bool:=!tb y.l x.d && (Nat.beq x.d 0 || !Nat.beq x.d y.d) && !tb x.l y.d
def BA (i:Nat) (x:vE) (m:Nat):List vE->Nat->Bool
 | [],_=>true
 | y::r,j=>(Nat.beq j i || tb m j || tb y.w i || Es x y) && sN (j+1) fun j=>BA i x m r j
def Ge (T:List vE) (q i m:Nat):Bool:=match T[i]? with
 | some x=>Nat.beq x.k q && !tb m i && Nat.beq (Nat.land x.w m) x.w && BA i x m T 0
 | none=>false
def vG:List Nat->Nat
 | []=>0
 | j::r=>Nat.lor (vG r) (eQ j)
def okM (T:List vE) (m i:Nat) (D:List Nat):Bool:=sN (Nat.lor (eQ i) (vG D)) fun z=>D.all fun j=>!tb m j && (match T[j]? with
  | some y=>!Nat.beq (Nat.land y.w z) 0
  | none=>false)
def PR (T:List vE) (i:Nat):Bool:=match T[i]? with
 | some x=>Nat.beq x.k 2
 | none=>false
def qT (T:List vE):Nat->Nat->aJ->Bool
 | _,m,.done=>(nI T 0 m).isEmpty
 | 0,_,_=>false
 | fuel+1,m,.pure i r=>Ge T 0 i m && sN (Nat.lor m (eQ i)) fun m=>qT T fuel m r
 | fuel+1,m,.load i D r=>Ge T 1 i m && okM T m i D && sN (Nat.lor m (eQ i)) fun m=>qT T fuel m r
 | fuel+1,m,.aR i r ms=>(match nI T 0 m with
  | i0::more=>Nat.beq i0 i && PR T i && more.all (PR T) && (sN (Nat.lor m (eQ i)) fun m=>qT T fuel m r) && mC (fun j r=>sN (Nat.lor m (eQ j)) fun m=>qT T fuel m r) more ms
  | []=>false)
theorem qU (k:Nat):∀ l:List Edge,(ki l).testBit k=l.any fun e=>Region.binds .any e && decide (e.on=k)
 | []=>Nat.zero_testBit k
 | e::r=>by
  rw[List.any_cons,← qU k r,ki]
  cases h:Region.binds .any e with
  | true=>rw[cond_true,vD,qR,Bool.true_and,Bool.or_comm]
  | false=>rw[cond_false,Bool.false_and,Bool.false_or]
theorem BB (k:Nat):∀ l:List Nat,(By l).testBit k=l.any fun d=>decide (d+1=k)
 | []=>Nat.zero_testBit k
 | d::r=>by rw[List.any_cons,← BB k r,By,vD,qR,Bool.or_comm]
theorem BC (k:Nat):∀ l:List Nat,(vG l).testBit k=l.any fun d=>decide (d=k)
 | []=>Nat.zero_testBit k
 | d::r=>by rw[List.any_cons,← BC k r,vG,vD,qR,Bool.or_comm]
theorem T6 (a m:Nat):Nat.beq (Nat.land a m) a=true↔∀ k,a.testBit k=true->m.testBit k=true:=by
 rw[Nat.beq_eq]
 refine⟨fun h k hk=>?_,fun h=>Nat.eq_of_testBit_eq fun k=>?_⟩
 ·have:(Nat.land a m).testBit k=true:=by rw[h]; exact hk
  have e:(Nat.land a m).testBit k=(a.testBit k && m.testBit k):=Nat.testBit_and a m k
  rw[e,hk,Bool.true_and] at this
  exact this
 ·have e:(Nat.land a m).testBit k=(a.testBit k && m.testBit k):=Nat.testBit_and a m k
  rw[e]
  cases ha:a.testBit k with
  | false=>rfl
  | true=>rw[h k ha]; rfl
theorem Ll (l:List Edge) (m:Nat):Nat.beq (Nat.land (ki l) m) (ki l)=l.all fun e=>!Region.binds .any e || m.testBit e.on:=by
 rw[Bool.eq_iff_iff,T6,List.all_eq_true]
 simp only[qU,List.any_eq_true,Bool.and_eq_true,decide_eq_true_eq,Bool.or_eq_true,Bool.not_eq_true']
 refine⟨fun h e he=>?_,fun h k ⟨e,he,hb,hk⟩=>?_⟩
 ·cases hb:Region.binds .any e with
  | false=>exact .inl rfl
  | true=>exact .inr (h e.on ⟨e,he,hb,rfl⟩)
 ·rcases h e he with h|h
  ·rw[h] at hb; cases hb
  ·rw[← hk]; exact h
structure Mk (ops:Array Oper) (l:Array Bool) (m:Nat):Prop where
 size:l.size=ops.size
 is:∀ j,l.getD j false=m.testBit j
theorem Mk.lt {ops:Array Oper} {l:Array Bool} {m:Nat} (h:Mk ops l m) {j:Nat} (hj:j < ops.size) (d:Bool):l.getD j d=m.testBit j:=by
 rw[← h.is]
 rw[Array.getD_eq_getD_getElem?,Array.getD_eq_getD_getElem?,Array.getElem?_eq_getElem (by rw[h.size]; exact hj)]
 rfl
theorem Mk.set {ops:Array Oper} {l:Array Bool} {m:Nat} (h:Mk ops l m) {i:Nat} (hi:i < ops.size):Mk ops (l.setIfInBounds i true) (Nat.lor m (eQ i)):=by
 refine⟨by rw[Array.size_setIfInBounds,h.size],fun j=>?_⟩
 rw[vD,qR,Array.getD_eq_getD_getElem?,Array.getElem?_setIfInBounds]
 by_cases e:i=j
 ·subst e
  rw[if_pos rfl,if_pos (by rw[h.size]; exact hi)]
  simp
 ·rw[if_neg e,← Array.getD_eq_getD_getElem?,h.is,decide_eq_false e,Bool.or_false]
theorem Mk.none (ops:Array Oper):Mk ops (Array.replicate ops.size false) 0:=by
 refine⟨Array.size_replicate ..,fun j=>?_⟩
 rw[Nat.zero_testBit,Array.getD_eq_getD_getElem?,Array.getElem?_replicate]
 split<;>rfl
section
variable {ops:Array Oper} {l:Array Bool} {m:Nat}
theorem BE (h:Mk ops l m) (o:Oper):(o.after.all fun e=>!Region.binds .any e || l.getD e.on false)=Nat.beq (Nat.land (rowOf ops o).w m) (rowOf ops o).w:=by
 show _=Nat.beq (Nat.land (ki o.after.toList) m) (ki o.after.toList)
 rw[Ll,← Array.all_toList]
 congr 1
 funext e
 rw[h.is]
theorem BG (h:Mk ops l m):Region.ready .any ops l=nI (ops.toList.map (rowOf ops)) 0 m:=by
 have key:∀ (L:List Oper) (j:Nat),(∀ k,L[k]?=ops[j+k]?)->j+L.length=ops.size->nI (L.map (rowOf ops)) j m=(List.range' j L.length).filter fun i=>!l.getD i true && ((ops[i]?).map (·.after.all fun e=>!Region.binds .any e || l.getD e.on false)).getD false:=by
  intro L
  induction L with
  | nil=>intro j _ _; rfl
  | cons o r ih =>
   intro j hL hs
   have h0:ops[j]?=some o:=by rw[← Nat.add_zero j,← hL 0]; rfl
   have hj:j < ops.size:=by rw[List.length_cons] at hs; omega
   have T7:=ih (j+1) (fun k=>by rw[show j+1+k=j+(k+1) by omega,← hL (k+1)]; rfl) (by rw[List.length_cons] at hs; omega)
   rw[List.map_cons,List.length_cons,List.range'_succ,nI,mD,T7,List.filter_cons,h0,Option.map_some,Option.getD_some,BE h,h.lt hj,Bx]
   cases (!m.testBit j && Nat.beq (Nat.land (rowOf ops o).w m) (rowOf ops o).w)<;>rfl
 unfold Region.ready
 rw[List.range_eq_range',key ops.toList 0 (fun k=>by rw[Nat.zero_add,Array.getElem?_toList]) (by rw[Nat.zero_add,Array.length_toList]),Array.length_toList]
theorem Lm {x y:Oper} (h:Es (rowOf ops x) (rowOf ops y)=true):x.apart ops y=true:=by
 unfold Es at h
 simp only[rowOf,Bx,BB,Bool.and_eq_true,Bool.not_eq_true',List.any_eq_false,decide_eq_true_eq,Bool.or_eq_true,Nat.beq_eq] at h
 obtain⟨⟨h1,h2⟩,h3⟩:=h
 unfold Oper.apart
 rw[Bool.and_eq_true]
 constructor
 ·cases hx:x.dst with
  | none=>rfl
  | some d =>
   rw[hx] at h1 h2
   simp only[PQ] at h1 h2
   simp only[Bool.and_eq_true,Bool.not_eq_true',bne_iff_ne,ne_eq]
   refine⟨?_,fun e=>?_⟩
   ·rw[Bool.eq_false_iff]
    intro hc
    exact h1 d (List.contains_iff_mem.1 hc) rfl
   ·rw[e] at h2
    rcases h2 with h2|h2
    ·cases h2
    ·rw[Bool.eq_false_iff] at h2
     exact h2 (Nat.beq_refl _)
 ·cases hy:y.dst with
  | none=>rfl
  | some d =>
   rw[hy] at h3
   simp only[PQ] at h3
   simp only[Bool.not_eq_true']
   rw[Bool.eq_false_iff]
   intro hc
   exact h3 d (List.contains_iff_mem.1 hc) rfl
theorem PS (h:Mk ops l m) {i:Nat} {oi:Oper} (hi:ops[i]?=some oi) (hf:BA i (rowOf ops oi) m (ops.toList.map (rowOf ops)) 0=true):Region.free .any ops l i=true:=by
 have key:∀ (L:List Oper) (j:Nat),BA i (rowOf ops oi) m (L.map (rowOf ops)) j=true->∀ (k:Nat) (o:Oper),L[k]?=some o->(j+k=i\/m.testBit (j+k)=true\/(ki o.after.toList).testBit i=true\/oi.apart ops o=true):=by
  intro L
  induction L with
  | nil=>intro j _ k o hk; cases hk
  | cons y r ih =>
   intro j hj k o hk
   rw[List.map_cons,BA,mD,Bool.and_eq_true] at hj
   cases k with
   | zero =>
    cases hk
    have h1:=hj.1
    simp only[Bool.or_eq_true,Nat.beq_eq,Bx] at h1
    rcases h1 with ((h1|h1)|h1)|h1
    ·exact .inl h1
    ·exact .inr (.inl h1)
    ·exact .inr (.inr (.inl h1))
    ·exact .inr (.inr (.inr (Lm h1)))
   | succ k =>
    have:=ih (j+1) hj.2 k o hk
    rw[show j+1+k=j+(k+1) by omega] at this
    exact this
 unfold Region.free
 rw[hi]
 simp only[List.all_eq_true,List.mem_range]
 intro j hj
 have lK:ops[j]?=some ops[j]:=Array.getElem?_eq_getElem hj
 have:=key ops.toList 0 hf j ops[j] (by rw[Array.getElem?_toList]; exact lK)
 rw[Nat.zero_add] at this
 rw[lK,h.lt hj]
 simp only[Bool.or_eq_true,beq_iff_eq]
 rcases this with e|e|e|e
 ·exact .inl (.inl e)
 ·exact .inl (.inr e)
 ·rw[qU,List.any_eq_true] at e
  obtain⟨x,hx,hb⟩:=e
  refine .inr (.inl ?_)
  rw[← Array.any_toList,List.any_eq_true]
  refine⟨x,hx,?_⟩
  simp only[Bool.and_eq_true,decide_eq_true_eq] at hb
  rw[hb.1,hb.2]
  simp
 ·exact .inr (.inr e)
theorem Et (i:Nat):(ops.toList.map (rowOf ops))[i]?=(ops[i]?).map (rowOf ops):=by
 rw[List.getElem?_map,Array.getElem?_toList]
theorem Gf (h:Mk ops l m) {q i:Nat} (ht:Ge (ops.toList.map (rowOf ops)) q i m=true):∃ o,ops[i]?=some o/\qS o=q/\i∈Region.ready .any ops l/\Region.free .any ops l i=true:=by
 unfold Ge at ht
 rw[Et] at ht
 cases ho:ops[i]? with
 | none=>rw[ho] at ht; cases ht
 | some o =>
  rw[ho] at ht
  simp only[Option.map_some,Bool.and_eq_true,Bool.not_eq_true',Nat.beq_eq,Bx] at ht
  obtain⟨⟨⟨h1,h2⟩,h3⟩,h4⟩:=ht
  have hi:i < ops.size:=(Array.getElem?_eq_some_iff.1 ho).1
  refine⟨o,rfl,h1,?_,PS h ho h4⟩
  unfold Region.ready
  rw[List.mem_filter,List.mem_range]
  refine⟨hi,?_⟩
  rw[ho,Option.map_some,Option.getD_some,BE h,h.lt hi,h2]
  simp only[Bool.not_false,Bool.true_and,Nat.beq_eq]
  exact h3
theorem Ic {o:Oper} (h:qS o=0):Ev.pV o.op=true:=by
 unfold qS at h
 cases hp:Ev.pV o.op with
 | true=>rfl
 | false=>rw[hp,cond_false] at h; cases hl:my o.op<;>rw[hl] at h<;>cases h
theorem Ie {o:Oper} (h:qS o=1):my o.op=true:=by
 unfold qS at h
 cases hp:Ev.pV o.op with
 | true=>rw[hp,cond_true] at h; cases h
 | false=>rw[hp,cond_false] at h; cases hl:my o.op<;>rw[hl] at h<;>first|rfl|cases h
theorem Ln {o:Oper} (h:qS o=2):aR o.op=true:=by
 unfold qS at h
 unfold aR
 cases hp:Ev.pV o.op with
 | true=>rw[hp,cond_true] at h; cases h
 | false=>rw[hp,cond_false] at h; cases hl:my o.op<;>rw[hl] at h<;>first|rfl|cases h
theorem Lo {i:Nat} (h:PR (ops.toList.map (rowOf ops)) i=true):pE ops i=true:=by
 unfold PR at h
 unfold pE
 rw[Et] at h
 cases ho:ops[i]? with
 | none=>rw[ho] at h; cases h
 | some o=>rw[ho] at h; exact Ln (Nat.eq_of_beq_eq_true h)
theorem T8 (h:Mk ops l m) {i:Nat} {D:List Nat} (hk:okM (ops.toList.map (rowOf ops)) m i D=true):T1 ops.toList l i D=true:=by
 unfold okM at hk
 rw[mD,List.all_eq_true] at hk
 unfold T1
 rw[List.all_eq_true]
 intro j hj
 have:=hk j hj
 rw[Et] at this
 cases ho:ops[j]? with
 | none=>rw[ho] at this; simp at this
 | some o =>
  rw[ho] at this
  simp only[Option.map_some,Bool.and_eq_true,Bool.not_eq_true',Bx] at this
  have hz:Nat.land (ki o.after.toList) (Nat.lor (eQ i) (vG D))≠0:=fun e=>by
   have h2:=this.2
   rw[show (rowOf ops o).w=ki o.after.toList from rfl,e] at h2
   cases h2
  obtain⟨k,D4⟩:=Nat.exists_testBit_of_ne_zero hz
  have e:(Nat.land (ki o.after.toList) (Nat.lor (eQ i) (vG D))).testBit k=((ki o.after.toList).testBit k && (Nat.lor (eQ i) (vG D)).testBit k):=Nat.testBit_and ..
  rw[e,Bool.and_eq_true,qU,vD,qR,BC] at D4
  obtain⟨h1,h2⟩:=D4
  rw[List.any_eq_true] at h1
  obtain⟨ed,he,hb⟩:=h1
  simp only[Bool.and_eq_true,decide_eq_true_eq] at hb
  rw[Bool.and_eq_true]
  refine⟨by rw[h.is,this.1]; rfl,?_⟩
  rw[Array.getElem?_toList,ho]
  show o.after.toList.any _=true
  rw[List.any_eq_true]
  refine⟨ed,he,?_⟩
  rw[hb.1,Bool.true_and,hb.2,Bool.or_eq_true]
  rw[Bool.or_eq_true,decide_eq_true_eq,List.any_eq_true] at h2
  rcases h2 with h2|⟨d,hd,h2⟩
  ·exact .inl (by rw[h2]; exact Nat.beq_refl _)
  ·refine .inr ?_
   unfold kS
   rw[List.any_eq_true]
   exact⟨d,hd,by rw[of_decide_eq_true h2]; exact Nat.beq_refl _⟩
theorem oH {f:Nat->aJ->Bool} {g:Nat->aJ->Prop}:∀ {L:List Nat} {ms:lO},(∀ j∈L,∀ r,f j r=true->g j r)->mC f L ms=true->nH g L ms
 | [],.nil,_,_=>trivial
 | j::L,.cons k r ms,h,hp=>by
  simp only[mC,Bool.and_eq_true,Nat.beq_eq] at hp
  exact⟨hp.1.1,h j (List.mem_cons_self ..) r hp.1.2,oH (fun j hj=>h j (List.mem_cons_of_mem _ hj)) hp.2⟩
 | j::L,.alt k r ms,h,hp=>by
  simp only[mC,Bool.and_eq_true,Nat.beq_eq] at hp
  exact⟨hp.1.1,h j (List.mem_cons_self ..) r hp.1.2,oH (fun j hj=>h j (List.mem_cons_of_mem _ hj)) hp.2⟩
 | j::L,.sub k r ms,h,hp=>by
  simp only[mC,Bool.and_eq_true,Nat.beq_eq] at hp
  exact⟨hp.1.1,h j (List.mem_cons_self ..) r hp.1.2,oH (fun j hj=>h j (List.mem_cons_of_mem _ hj)) hp.2⟩
 | [],.cons ..,_,hp=>by cases hp
 | [],.alt ..,_,hp=>by cases hp
 | [],.sub ..,_,hp=>by cases hp
 | _::_,.nil,_,hp=>by cases hp
end
theorem vH {ops:Array Oper} {l:Array Bool} {i:Nat} (h:i∈Region.ready .any ops l):i < ops.size:=by
 unfold Region.ready at h
 exact List.mem_range.1 (List.mem_filter.1 h).1
theorem nJ {ops:Array Oper}:∀ (fuel:Nat) (p:aJ) (l:Array Bool) (m:Nat),Mk ops l m->qT (ops.toList.map (rowOf ops)) fuel m p=true->kU ops fuel l p
 | fuel,.done,l,m,h,hp=>by
  have e:nI (ops.toList.map (rowOf ops)) 0 m = []:=by cases fuel<;>exact List.isEmpty_iff.1 hp
  cases fuel<;>exact (BG h).trans e
 | 0,.pure ..,_,_,_,hp=>by cases hp
 | 0,.load ..,_,_,_,hp=>by cases hp
 | 0,.aR ..,_,_,_,hp=>by cases hp
 | fuel+1,.pure i r,l,m,h,hp=>by
  simp only[qT,mD,Bool.and_eq_true] at hp
  obtain⟨o,ho,hk,hr,hf⟩:=Gf h hp.1
  refine⟨hr,?_,nJ fuel r _ _ (h.set (vH hr)) hp.2⟩
  unfold lL
  rw[ho]
  simp only[Bool.and_eq_true]
  exact⟨Ic hk,hf⟩
 | fuel+1,.load i D r,l,m,h,hp=>by
  simp only[qT,mD,Bool.and_eq_true] at hp
  obtain⟨o,ho,hk,hr,hf⟩:=Gf h hp.1.1
  refine⟨hr,?_,T8 h hp.1.2,nJ fuel r _ _ (h.set (vH hr)) hp.2⟩
  unfold lM
  rw[ho]
  simp only[Bool.and_eq_true]
  exact⟨Ie hk,hf⟩
 | fuel+1,.aR i r ms,l,m,h,hp=>by
  have he:=BG h
  simp only[qT,mD] at hp
  unfold kU
  split at hp
  ·rename_i i0 more ni
   rw[he,ni]
   simp only[Bool.and_eq_true,Nat.beq_eq] at hp
   obtain⟨⟨⟨⟨rfl,h1⟩,h2⟩,h3⟩,h4⟩:=hp
   have ch:∀ j∈i0::more,j < ops.size:=fun j hj=>vH (l:=l) (by rw[he,ni]; exact hj)
   refine⟨rfl,Lo h1,fun j hj=>Lo (List.all_eq_true.1 h2 j hj),nJ fuel r _ _ (h.set (ch _ (List.mem_cons_self ..))) h3,oH (fun j hj r hr=>nJ fuel r _ _ (h.set (ch j (List.mem_cons_of_mem _ hj))) hr) h4⟩
  ·cases hp
def xL (k:aN->Prop) (Q:X->aN->Prop) (x:X) (s:aN):Prop:=match x with
 | .hU=>k s
 | x=>Q x s
def mE (id:Nat) (Q:X->aN->Prop) (x:X) (s:aN):Prop:=match x with
 | .exit j=>bif Nat.beq j id then Q .hU s else Q (.exit j) s
 | x=>Q x s
def BH (s:aN) (c:Operand) (t e:aN->Prop):Prop:=s.ev c fun x=>match x with
 | .tt=>t s
 | .ff=>e s
 | .bool p=>(match c with
  | .tmp i=>(p->s.put (some i) .tt t)/\(¬ p->s.put (some i) .ff e)
  | _=>(p->t s)/\(¬ p->e s))
 | _=>False
def b_ (R:List (Nat × aJ)):Code->Bool
 | .region id ops true=>(match Ev.ye id R with
  | some p=>Region.noSelect ops && Gd ops ops.toList fun T=>qT T ops.size 0 p
  | none=>true)
 | .seq a b=>b_ R a && b_ R b
 | .cond _ a b=>b_ R a && b_ R b
 | .block _ c=>b_ R c
 | .scope c=>b_ R c
 | .loop c=>b_ R c
 | _=>true
def Gg:Code->Option Nat
 | .region id _ _=>some id
 | .seq a _=>Gg a
 | _=>none
def oI (R:List (Nat × aJ)) (c:Code):Bool:=match Gg c with
 | some id=>(Ev.ye (id+100000) R).isSome
 | none=>false
def pw (G:Gx) (R:List (Nat × aJ)):Nat->Code->(X->aN->Prop)->aN->Prop
 | 0,_,_,_=>False
 | n+1,c,Q,s=>match c with
  | .skip|.label _=>Q .hU s
  | .ret=>Q .ret s
  | .exit id=>Q (.exit id) s
  | .seq a b=>bif oI R b then (∃ s0,pw G R n a (xL (fun s'=>Sub G s' s0) Q) s/\pw G R n b Q s0) else pw G R n a (xL (pw G R n b Q) Q) s
  | .cond c a b=>BH s c (pw G R n a Q) (pw G R n b Q)
  | .block id c=>pw G R n c (mE id Q) s
  | .scope c=>pw G R n c Q s
  | .loop c=>SW G (.loop c) Q s
  | .rangeFunc f ps a b=>SW G (.rangeFunc f ps a b) Q s
  | .region id ops draw=>(match draw with
   | true=>aP (Ev.ye id R) fun p=>bK G ops.toList p s [] (Q .hU)
   | false=>KN G ops.toList Q ops.toList s)
  | _=>False
section
variable {w w':World} {I I':Nat->Prop} {β aM:ax} {G:Gx} {s:aN} {a:Act} {st eP:List an}
theorem cm.of {Q:X->aN->Prop} {x:X} {s':aN} {w0:World} (hq:Q x s') {a':Act} (hR:Rel G I' aM s' a' w') (hg:bJ I β s w0 I' aM s' w'):cm G s I β w0 Q (X.e x) a' w' :=
 ⟨x,s',I',aM,rfl,hq,hR,hg.ext,hg.base,hg.rl,hg.n,hg.low⟩
theorem cm.goes {Q:X->aN->Prop} {e:Exit} {a':Act} (h:cm G s I β w Q e a' w'):∃ x s' I' aM,e=X.e x/\Q x s'/\Rel G I' aM s' a' w'/\bJ I β s w I' aM s' w' :=
 let ⟨x,s',I',aM,he,hq,hR,h1,h2,h3,h4,h5⟩:=h; ⟨x,s',I',aM,he,hq,hR,h1,h2,h3,h4,h5⟩
theorem SW.intro {c:Code} {Q:X->aN->Prop} (h:∀ I β a w,Rel G I β s a w->c.wp G.cx.P (cm G s I β w Q) a w):SW G c Q s:=by unfold SW; exact h
theorem SW.run {c:Code} {Q:X->aN->Prop} (h:SW G c Q s) (hR:Rel G I β s a w):c.wp G.cx.P (cm G s I β w Q) a w:=by unfold SW at h; exact h I β a w hR
theorem SW.from {c:Code} {Q:X->aN->Prop} {s0:aN} {I0:Nat->Prop} {jE:ax} {w0:World} (h:SW G c Q s) (hR:Rel G I β s a w) (hg:bJ I0 jE s0 w0 I β s w):c.wp G.cx.P (cm G s0 I0 jE w0 Q) a w :=
 wp_mono (h.run hR) fun e a' w' hp=>by
  obtain⟨x,s',I',aM,rfl,hq,cd,Eu⟩:=hp.goes
  exact cm.of hq cd (hg.trans Eu)
theorem Ext.nK (hh:w'.heap=w.heap) (h1:w'.os=w.os) (h2:w'.tape=w.tape) (h3:w'.output=w.output):Ext I β st w I β st w' :=
 ⟨h1,h2,h3,by rw[hh]; exact Nat.le_refl _,fun g _ _=>by rw[hh],fun _ _ h=>h,fun _ h=>h,fun _ _ h=>.inl h⟩
theorem aL.nK (h:aL I β st w) (hh:w'.heap=w.heap):aL I β st w' :=
 ⟨h.py,fun l b hl aF=>(h.iI l b hl aF).mono (fun _ h=>h) (fun _ _=>by rw[hh]) (fun _ _ h=>h) fun p g o hp ha=>⟨by rw[hh],fun hr=>by
  obtain⟨_,_,fr,_,ho⟩:=(h.iI l b hl aF).place hp ha
  exact⟨(ho.1 hr).2.1,(ho.1 hr).2.2⟩⟩⟩
theorem Ew (s:aN):s.store s.st=s:=by cases s; rfl
theorem Rel.nK (hR:Rel G I β s a w) (hh:w'.heap=w.heap) (h1:w'.os=w.os) (h2:w'.tape=w.tape) (h3:w'.output=w.output):Rel G I β s a w':=by
 have:=hR.grow (hR.heap.nK hh) (Ext.nK hh h1 h2 h3) (fun _ _ h=>h) (Nat.le_refl _) (fun g hg=>by rw[hh]; exact hR.aC.aC g hg)
 rwa [Ew] at this
theorem vI {c:Operand} {t e:aN->Prop} (hR:Rel G I β s a w) (h:BH s c t e):∃ b s',a.eval c = .bool b/\(if b then t s' else e s')/\kR s s'/\Rel G I β s' a w:=by
 have same:kR s s:=⟨rfl,rfl,rfl,rfl⟩
 unfold BH at h
 cases c with
 | tmp i =>
  replace h:=au h
  obtain⟨x,hx,h⟩:=h
  obtain⟨v,hv,hi⟩:=hR.get i x hx
  have he:a.eval (.tmp i)=v:=by simp only[Act.eval,Array.getD_eq_getD_getElem?,hv,Option.getD_some]
  rw[he]
  split at h<;>try simp only[PV.Is] at hi
  ·exact⟨true,s,hi,h,same,hR⟩
  ·exact⟨false,s,hi,h,same,hR⟩
  ·rename_i p
   by_cases hp:p
   ·obtain⟨s',hk,hs,hr⟩:=aN.oF hR hv (x:=.tt) (by rw[hi,cj hp]; exact Is.tt) (h.1 hp)
    exact⟨true,s',by rw[hi,cj hp],hk,hs,hr⟩
   ·obtain⟨s',hk,hs,hr⟩:=aN.oF hR hv (x:=.ff) (by rw[hi,bM hp]; exact Is.ff) (h.2 hp)
    exact⟨false,s',by rw[hi,bM hp],hk,hs,hr⟩
  ·exact h.elim
 | _ =>
  replace h:=aN.cc hR h
  obtain⟨x,h,hx⟩:=h
  split at h<;>try simp only[PV.Is] at hx
  ·exact⟨true,s,hx,h,same,hR⟩
  ·exact⟨false,s,hx,h,same,hR⟩
  ·rename_i p
   by_cases hp:p
   ·exact⟨true,s,by rw[hx,cj hp],h.1 hp,same,hR⟩
   ·exact⟨false,s,by rw[hx,bM hp],h.2 hp,same,hR⟩
  ·exact h.elim
theorem kj (hG:nC G) {R:List (Nat × aJ)}:∀ (n:Nat) (c:Code) (Q:X->aN->Prop) (s:aN),b_ R c=true->pw G R n c Q s->SW G c Q s
 | 0,_,_,_,_,h=>h.elim
 | n+1,c,Q,s,hc,h=>by
  cases c with
  | skip=>exact SW.intro fun I β a w hR=>wp_skip (cm.of (x:=.hU) h hR (bJ.same ⟨rfl,rfl,rfl,rfl⟩))
  | label l=>exact SW.intro fun I β a w hR=>wp_label (cm.of (x:=.hU) h hR (bJ.same ⟨rfl,rfl,rfl,rfl⟩))
  | ret=>exact SW.intro fun I β a w hR=>wp_ret (cm.of (x:=.ret) h hR (bJ.same ⟨rfl,rfl,rfl,rfl⟩))
  | exit id=>exact SW.intro fun I β a w hR=>wp_exit (cm.of (x:=.exit id) h hR (bJ.same ⟨rfl,rfl,rfl,rfl⟩))
  | seq x y =>
   simp only[b_,Bool.and_eq_true] at hc
   replace h:bif oI R y then (∃ s0,pw G R n x (xL (fun s'=>Sub G s' s0) Q) s/\pw G R n y Q s0) else pw G R n x (xL (pw G R n y Q) Q) s:=h
   cases A3:oI R y with
   | true =>
    rw[A3] at h
    obtain⟨s0,h,h2⟩:=h
    have h1:=kj hG n x _ s hc.1 h
    refine SW.intro fun I β a w hR=>wp_seq (wp_mono (h1.run hR) fun e a' w' hp=>?_)
    obtain⟨x',s',I',aM,rfl,hq,cd,hg⟩:=hp.goes
    cases x' with
    | hU =>
     obtain⟨I2,jm,kh,zT⟩:=hq I' aM a' w' cd
     exact (kj hG n y Q s0 hc.2 h2).from kh (hg.trans zT)
    | exit id=>exact cm.of (Q:=Q) (x:=.exit id) hq cd hg
    | ret=>exact cm.of (Q:=Q) (x:=.ret) hq cd hg
   | false =>
   rw[A3] at h
   have h1:=kj hG n x _ s hc.1 h
   refine SW.intro fun I β a w hR=>wp_seq (wp_mono (h1.run hR) fun e a' w' hp=>?_)
   obtain⟨x',s',I',aM,rfl,hq,cd,hg⟩:=hp.goes
   cases x' with
   | hU=>exact (kj hG n y Q s' hc.2 hq).from cd hg
   | exit id=>exact cm.of (Q:=Q) (x:=.exit id) hq cd hg
   | ret=>exact cm.of (Q:=Q) (x:=.ret) hq cd hg
  | cond c x y =>
   simp only[b_,Bool.and_eq_true] at hc
   refine SW.intro fun I β a w hR=>?_
   obtain⟨b,s',he,hk,hs,cd⟩:=vI hR h
   refine wp_cond he ?_
   cases b with
   | true=>exact (kj hG n x Q s' hc.1 hk).from cd (bJ.same hs)
   | false=>exact (kj hG n y Q s' hc.2 hk).from cd (bJ.same hs)
  | block id c =>
   have h1:=kj hG n c _ s hc h
   refine SW.intro fun I β a w hR=>wp_block (wp_mono (h1.run hR) fun e a' w' hp=>?_)
   obtain⟨x',s',I',aM,rfl,hq,cd,hg⟩:=hp.goes
   cases x' with
   | hU=>exact cm.of (Q:=Q) (x:=.hU) hq cd hg
   | exit j =>
    show Exit.inBlock id _ (.exit j) a' w'
    simp only[Exit.inBlock]
    by_cases hj:j=id
    ·subst hj
     rw[if_pos rfl]
     have xy:Q .hU s':=by simpa [mE,Nat.beq_refl] using hq
     exact cm.of (x:=.hU) xy cd hg
    ·have dw:Nat.beq j id=false:=by rw[Bool.eq_false_iff]; exact fun e=>hj (Nat.eq_of_beq_eq_true e)
     rw[if_neg hj]
     have xy:Q (.exit j) s':=by simpa [mE,dw] using hq
     exact cm.of (x:=.exit j) xy cd hg
   | ret=>exact cm.of (Q:=Q) (x:=.ret) hq cd hg
  | scope c =>
   have h1:=kj hG n c _ s hc h
   refine SW.intro fun I β a w hR=>wp_scope_straight (wp_mono (h1.run hR) fun e a' w' hp=>?_)
   obtain⟨x',s',I',aM,rfl,hq,cd,hg⟩:=hp.goes
   cases x' with
   | hU=>exact cm.of (Q:=Q) (x:=.hU) hq cd hg
   | exit j=>exact cm.of (Q:=Q) (x:=.exit j) hq cd hg
   | ret=>exact cm.of (Q:=Q) (x:=.ret) hq cd hg
  | loop c=>exact h
  | rangeFunc f ps a b=>exact h
  | region id ops draw =>
   refine SW.intro fun I β a w hR=>?_
   cases draw with
   | true =>
    obtain⟨p,hp,h⟩:=au h
    unfold b_ at hc
    rw[hp] at hc
    simp only[Bool.and_eq_true,Bz] at hc
    have cd:Rel G I β s a { w with drawn:=w.drawn+1 }:=hR.nK rfl rfl rfl rfl
    have hd:bJ I β s w I β s { w with drawn:=w.drawn+1 }:=⟨Ext.nK rfl rfl rfl rfl,rfl,rfl,rfl,fun _ _ _=>rfl⟩
    have hA:=Er hG hc.1 ops.size p (cm G s I β w Q) _ s a I β _ [] [] _ (nJ _ _ _ _ (Mk.none ops) hc.2) h cd (fun y hy=>by cases hy) fun s' I' aM a' w' hk kh hg=>cm.of (Q:=Q) (x:=.hU) hk kh (hd.trans hg)
    exact wp_region_any hG.ok.mix (cU.sound _ _ _ _ _ _ hA rfl)
   | false=>exact wp_region_list (zQ hG _ h hR fun x s' I' aM a' w' hq cd hg=>cm.of hq cd hg)
  | _=>exact h.elim
def qV (k:aN->Prop) (Q:X->aN->Prop) (x:X) (s:aN):Prop:=match x with
 | .hU=>k s
 | x=>Q x s
def rnd (G:Gx) (R:List (Nat × aJ)) (N:Nat) (c:Code) (Q:X->aN->Prop):Nat->aN->Prop
 | 0,_=>False
 | n+1,s=>pw G R N c (qV (rnd G R N c Q n) Q) s
theorem SW.rounds (hG:nC G) (R:List (Nat × aJ)) {N:Nat} {c:Code} {Q:X->aN->Prop} (hc:b_ R c=true) (n:Nat) (h:rnd G R N c Q n s):SW G (.loop c) Q s:=by
 have key:∀ (n:Nat) (s0 s:aN) (I0 I:Nat->Prop) (jE β:ax) (w0 w:World) (a:Act),rnd G R N c Q n s->Rel G I β s a w->bJ I0 jE s0 w0 I β s w->Code.rounds G.cx.P c (cm G s0 I0 jE w0 Q) n a w:=by
  intro n
  induction n with
  | zero=>intro s0 s I0 I jE β w0 w a h _ _; exact h.elim
  | succ n ih =>
   intro s0 s I0 I jE β w0 w a h hR hg
   rw[rounds_succ]
   refine wp_mono ((kj hG N c _ s hc h).run hR) fun e a' w' hp=>?_
   obtain⟨x',s',I',aM,rfl,hq,cd,Eu⟩:=hp.goes
   cases x' with
   | hU=>exact ih s0 s' I0 I' jE aM w0 w' a' hq cd (hg.trans Eu)
   | exit id=>exact cm.of (Q:=Q) (x:=.exit id) hq cd (hg.trans Eu)
   | ret=>exact cm.of (Q:=Q) (x:=.ret) hq cd (hg.trans Eu)
 exact SW.intro fun I β a w hR=>wp_loop_rounds n (key n s s I I β β w w a h hR (bJ.same ⟨rfl,rfl,rfl,rfl⟩))
theorem Sub.refl:Sub G s s:=fun I β _ _ hR=>⟨I,β,hR,bJ.same ⟨rfl,rfl,rfl,rfl⟩⟩
theorem SW.inv (hG:nC G) {R:List (Nat × aJ)} {α:Type} (inv:α->aN) (μ:α->Nat) {N:Nat} {c:Code} {Q:X->aN->Prop} (hc:b_ R c=true) (x0:α) (h0:Sub G s (inv x0)) (K:α->aN->Prop) (hK:∀ x s',K x s'->∃ y,μ y < μ x/\Sub G s' (inv y))
  (h:∀ x,pw G R N c (qV (K x) Q) (inv x)):SW G (.loop c) Q s:=by
 refine SW.intro fun I0 jE a w hR=>?_
 obtain⟨I,β,iL,D3⟩:=h0 I0 jE a w hR
 let J:Nat->Act->World->Prop:=fun m a w'=>∃ x I β,μ x=m/\Rel G I β (inv x) a w'/\bJ I0 jE s w I β (inv x) w'
 have key:∀ (m:Nat) (a:Act) (w':World),J m a w'->∀ (b:Frame) (k:List Item) (cs:List Frame),∃ e a' xD,cm G s I0 jE w Q e a' xD/\Arrives G.cx.P (lone (b.at a (.code c::.inLoop c::k)) cs w') b k cs e a' xD:=by
  intro m
  induction m using Nat.strongRecOn with
  | _ m ih =>
   rintro a w' ⟨x,I,β,hx,hR,hg⟩ b k cs
   obtain⟨e,zU,zV,hp,sC⟩:=(kj hG N c _ _ hc (h x)).run hR b (.inLoop c::k) cs
   obtain⟨x',s',I',aM,rfl,hq,cd,Eu⟩:=hp.goes
   cases x' with
   | hU =>
    obtain⟨y,hy,hs⟩:=hK x s' hq
    obtain⟨I2,jm,kh,zT⟩:=hs I' aM zU zV cd
    obtain⟨T9,T',T_,Lp,zW⟩:=ih (μ y) (by omega) zU zV ⟨y,I2,jm,rfl,kh,(hg.trans Eu).trans zT⟩ b k cs
    exact⟨T9,T',T_,Lp,.of_steps (Steps.trans sC (.one step_inLoop)) zW⟩
   | exit id=>exact⟨_,zU,zV,cm.of (Q:=Q) (x:=.exit id) hq cd (hg.trans Eu),.pass (x:=.inLoop c) rfl (fun _ _=>.inl (by simp[X.e])) sC⟩
   | ret=>exact⟨_,zU,zV,cm.of (Q:=Q) (x:=.ret) hq cd (hg.trans Eu),.pass (x:=.inLoop c) rfl (fun _ _=>.inl (by simp[X.e])) sC⟩
 intro b k cs
 obtain⟨e,a',w',hq,sC⟩:=key (μ x0) a w ⟨x0,I,β,rfl,iL,D3⟩ b k cs
 exact⟨e,a',w',hq,.of_steps (.one step_loop) sC⟩
end
def tR (x y:PV):Prop:=match x,y with
 | .lit k a,.lit l b=>if decide (k=l) then a=b else False
 | .lit k a,.int l b=>if decide (k=l) then a=b else False
 | .int k a,.lit l b=>if decide (k=l) then a=b else False
 | .int k a,.int l b=>if decide (k=l) then a=b else False
 | .tt,.tt=>True|.ff,.ff=>True
 | .tt,.bool p=>p|.ff,.bool p=>¬ p
 | .bool p,.tt=>p|.bool p,.ff=>¬ p
 | .bool p,.bool q=>p↔q
 | .val v,.val u=>v=u
 | .nil,.nil=>True
 | .nil,.sl _ es=>es = []
 | .sl n es,.sl m fs=>if Nat.beq n m then es=fs else False
 | .wref l,.wref m=>if Nat.beq l m then True else False
 | .mref l,.mref m=>if Nat.beq l m then True else False
 | .ref l o n,.ref l' o' n'=>if Nat.beq l l' && Nat.beq o o' && Nat.beq n n' then True else False
 | .ptr l o,.ptr l' o'=>if Nat.beq l l' && Nat.beq o o' then True else False
 | .pti l o i n,.pti l' o' i' n'=>if Nat.beq l l' && Nat.beq o o' && Nat.beq n n' then i=i' else False
 | .dpt l i n o,.dpt l' i' n' o'=>if Nat.beq l l' && Nat.beq o o' && Nat.beq n n' then i=i' else False
 | .ep cs o,.ep ds o'=>if Nat.beq o o' then cs=ds else False
 | .gp g o,.gp g' o'=>if Nat.beq g g' && Nat.beq o o' then True else False
 | .gpi g o i n,.gpi g' o' i' n'=>if Nat.beq g g' && Nat.beq o o' && Nat.beq n n' then i=i' else False
 | _,_=>False
def na (r:PV->PV->Prop):List PV->List PV->Prop
 | [],[]=>True
 | x::xs,y::ys=>r x y/\na r xs ys
 | _,_=>False
def leA (x y:PV):Prop:=match x,y with
 | .agg cs,.agg ds=>na tR cs ds
 | .clo f cs,.clo g ds=>if Nat.beq f g then na tR cs ds else False
 | x,y=>tR x y
def qC (x y:PV):Prop:=match x,y with
 | .tup cs,.tup ds=>na leA cs ds
 | x,y=>leA x y
def yA (x y:PV):Prop:=∀ w I β v,x.Is w I β v->y.Is w I β v
theorem yA.refl (x:PV):yA x x:=fun _ _ _ _ h=>h
section
variable {w w':World} {I I':Nat->Prop} {β aM:ax} {G:Gx} {s:aN} {a:Act} {st eP:List an}
theorem kW {c p:Prop} [Decidable c] (h:if c then p else False):c/\p:=by
 split at h
 ·exact⟨‹_›,h⟩
 ·exact h.elim
theorem sO {x y:PV} (h:tR x y):yA x y:=by
 intro w I β v hx
 unfold tR at h
 split at h<;>first|exact h.elim|(simp only[PV.Is] at hx ⊢)
 ·obtain⟨hk,h⟩:=kW h; rw[hx,of_decide_eq_true hk,h]
 ·obtain⟨hk,h⟩:=kW h; rw[hx,of_decide_eq_true hk,h]
 ·obtain⟨hk,h⟩:=kW h; rw[hx,of_decide_eq_true hk,h]
 ·obtain⟨hk,h⟩:=kW h; rw[hx,of_decide_eq_true hk,h]
 ·exact hx
 ·exact hx
 ·rw[hx,cj h]
 ·rw[hx,bM h]
 ·rw[hx,cj h]
 ·rw[hx,bM h]
 ·rw[hx,show pb _=pb _ from congrArg pb (propext h)]
 ·rw[← h]; exact hx
 ·exact hx
 ·subst h; exact⟨none,0,hx,Nat.le_refl _,Nat.zero_le _,(fun _ _ e=>by cases e),fun hn=>absurd rfl hn⟩
 ·obtain⟨hb,h⟩:=kW h; rw[← h,← Nat.eq_of_beq_eq_true hb]; exact hx
 ·obtain⟨hb,h⟩:=kW h; rw[← Nat.eq_of_beq_eq_true hb]; exact hx
 ·obtain⟨hb,h⟩:=kW h; rw[← Nat.eq_of_beq_eq_true hb]; exact hx
 ·obtain⟨hb,h⟩:=kW h
  simp only[Bool.and_eq_true] at hb
  rw[← Nat.eq_of_beq_eq_true hb.1.1,← Nat.eq_of_beq_eq_true hb.1.2,← Nat.eq_of_beq_eq_true hb.2]; exact hx
 ·obtain⟨hb,h⟩:=kW h
  simp only[Bool.and_eq_true] at hb
  rw[← Nat.eq_of_beq_eq_true hb.1,← Nat.eq_of_beq_eq_true hb.2]; exact hx
 ·obtain⟨hb,h⟩:=kW h
  simp only[Bool.and_eq_true] at hb
  rw[← Nat.eq_of_beq_eq_true hb.1.1,← Nat.eq_of_beq_eq_true hb.1.2,← Nat.eq_of_beq_eq_true hb.2,← h]; exact hx
 ·obtain⟨hb,h⟩:=kW h
  simp only[Bool.and_eq_true] at hb
  rw[← Nat.eq_of_beq_eq_true hb.1.1,← Nat.eq_of_beq_eq_true hb.1.2,← Nat.eq_of_beq_eq_true hb.2,← h]; exact hx
 ·obtain⟨hb,h⟩:=kW h; rw[← Nat.eq_of_beq_eq_true hb,← h]; exact hx
 ·obtain⟨hb,h⟩:=kW h
  simp only[Bool.and_eq_true] at hb
  rw[← Nat.eq_of_beq_eq_true hb.1,← Nat.eq_of_beq_eq_true hb.2]; exact hx
 ·obtain⟨hb,h⟩:=kW h
  simp only[Bool.and_eq_true] at hb
  rw[← Nat.eq_of_beq_eq_true hb.1.1,← Nat.eq_of_beq_eq_true hb.1.2,← Nat.eq_of_beq_eq_true hb.2,← h]; exact hx
theorem kl {r:PV->PV->Prop} (hr:∀ x y,r x y->yA x y):∀ {xs ys:List PV} {vs:List Value},na r xs ys->bp w I xs β vs->bp w I ys β vs
 | [],[],_,_,h=>h
 | x::xs,y::ys,v::vs,h,hx=>by
  simp only[bp] at hx ⊢
  exact⟨hr x y h.1 w I β v hx.1,kl hr h.2 hx.2⟩
 | x::xs,y::ys,[],h,hx=>by simp only[bp] at hx
 | [],_::_,_,h,_=>h.elim
 | _::_,[],_,h,_=>h.elim
theorem Lq {x y:PV} (h:leA x y):yA x y:=by
 unfold leA at h
 split at h
 ·intro w I β v hx
  simp only[PV.Is] at hx ⊢
  obtain⟨vs,rfl,hx⟩:=hx
  exact⟨vs,rfl,kl (fun _ _=>sO) h hx⟩
 ·intro w I β v hx
  split at h
  ·rename_i hb
   simp only[PV.Is] at hx ⊢
   obtain⟨vs,rfl,hx⟩:=hx
   exact⟨vs,by rw[Nat.eq_of_beq_eq_true hb],kl (fun _ _=>sO) h hx⟩
  ·exact h.elim
 ·exact sO h
theorem fZ {x y:PV} (h:qC x y):yA x y:=by
 unfold qC at h
 split at h
 ·intro w I β v hx
  simp only[PV.Is] at hx ⊢
  obtain⟨vs,rfl,hx⟩:=hx
  exact⟨vs,rfl,kl (fun _ _=>Lq) h hx⟩
 ·exact Lq h
abbrev iM:=List (Option Nat)
def PV.BI (π:iM) (x:PV):Option PV:=match x with
 | .wref l=>(match π[l]? with
  | some (some m)=>some (.wref m)
  | some none=>some .nil
  | none=>none)
 | .mref l=>(match π[l]? with
  | some (some m)=>some (.mref m)
  | _=>none)
 | .ref l o n=>(match π[l]? with
  | some (some m)=>some (.ref m o n)
  | _=>none)
 | .ptr l o=>(match π[l]? with
  | some (some m)=>some (.ptr m o)
  | _=>none)
 | .pti l o i n=>(match π[l]? with
  | some (some m)=>some (.pti m o i n)
  | _=>none)
 | .dpt l i n o=>(match π[l]? with
  | some (some m)=>some (.dpt m i n o)
  | _=>none)
 | .agg _|.tup _|.clo ..=>none
 | x=>some x
def ib (π:iM):List PV->Option (List PV)
 | []=>some []
 | c::cs=>(match c.BI π,ib π cs with
  | some x,some l=>some (x::l)
  | _,_=>none)
def PV.O3 (π:iM) (x:PV):Option PV:=match x with
 | .agg cs=>(ib π cs).map .agg
 | .clo f cs=>(ib π cs).map (.clo f)
 | .tup _=>none
 | x=>x.BI π
def km (β:ax) (π:iM):ax:=fun l=>match π[l]? with
 | some (some m)=>β m
 | some none=>some ⟨none,0,0⟩
 | none=>none
theorem ct {π:iM} {l m:Nat} (h:π[l]?=some (some m)):km β π l=β m:=by unfold km; rw[h]
theorem lQ {π:iM} {l:Nat} (h:π[l]?=some none):km β π l=some ⟨none,0,0⟩:=by unfold km; rw[h]
theorem uN {π:iM} {x y:PV} {v:Value} (h:x.BI π=some y) (hy:y.Is w I β v):x.Is w I (km β π) v:=by
 unfold PV.BI at h
 split at h
 ·split at h
  ·rename_i m hm
   cases h
   simp only[PV.Is] at hy ⊢
   rw[ct hm]; exact hy
  ·rename_i hm
   cases h
   simp only[PV.Is] at hy ⊢
   exact⟨_,lQ hm,hy⟩
  ·cases h
 ·split at h
  ·rename_i m hm
   cases h
   simp only[PV.Is] at hy ⊢
   rw[ct hm]; exact hy
  ·cases h
 ·split at h
  ·rename_i m hm
   cases h
   simp only[PV.Is] at hy ⊢
   rw[ct hm]; exact hy
  ·cases h
 ·split at h
  ·rename_i m hm
   cases h
   simp only[PV.Is] at hy ⊢
   rw[ct hm]; exact hy
  ·cases h
 ·split at h
  ·rename_i m hm
   cases h
   simp only[PV.Is] at hy ⊢
   rw[ct hm]; exact hy
  ·cases h
 ·split at h
  ·rename_i m hm
   cases h
   simp only[PV.Is] at hy ⊢
   rw[ct hm]; exact hy
  ·cases h
 ·cases h
 ·cases h
 ·cases h
 ·cases h
  refine PV.Is.mono (fun _ h=>h) (fun _ _=>rfl) x β _ v (fun l p hl=>?_) hy
  cases x<;>first|(simp_all [PV.c9]; done)|(rename_i a1 a2 a3 a4 a5 a6 a7 a8 a9; first|exact (a4 _ _ _ _ rfl).elim|exact (a5 _ _ _ _ rfl).elim|exact (a6 _ _ _ _ rfl).elim)
theorem zX {π:iM}:∀ {xs ys:List PV} {vs:List Value},ib π xs=some ys->bp w I ys β vs->bp w I xs (km β π) vs
 | [],ys,vs,h,hy=>by
  simp only[ib,Option.some.injEq] at h
  subst h
  cases vs with
  | nil=>simp only[bp]
  | cons v vs=>simp only[bp] at hy
 | x::xs,ys,vs,h,hy=>by
  simp only[ib] at h
  split at h
  ·rename_i y l h1 h2
   cases h
   cases vs with
   | nil=>simp only[bp] at hy
   | cons v vs =>
    simp only[bp] at hy ⊢
    exact⟨uN h1 hy.1,zX h2 hy.2⟩
  ·cases h
theorem Lr {π:iM} {x y:PV} {v:Value} (h:x.O3 π=some y) (hy:y.Is w I β v):x.Is w I (km β π) v:=by
 unfold PV.O3 at h
 split at h
 ·rw[Option.map_eq_some_iff] at h
  obtain⟨l,hl,rfl⟩:=h
  simp only[PV.Is] at hy ⊢
  obtain⟨vs,rfl,hy⟩:=hy
  exact⟨vs,rfl,zX hl hy⟩
 ·rw[Option.map_eq_some_iff] at h
  obtain⟨l,hl,rfl⟩:=h
  simp only[PV.Is] at hy ⊢
  obtain⟨vs,rfl,hy⟩:=hy
  exact⟨vs,rfl,zX hl hy⟩
 ·cases h
 ·exact uN h hy
def TM.qC (π:iM):TM->TM->Prop
 | _,.nil=>True
 | .nil,.node v l r=>(match v with
  | none=>True
  | some _=>False)/\TM.qC π .nil l/\TM.qC π .nil r
 | .node v l r,.node v' l' r'=>(match v' with
  | none=>True
  | some y=>aP v fun x=>aP (y.O3 π) fun y=>Pw.qC x y)/\TM.qC π l l'/\TM.qC π r r'
def Md.beq:Md->Md->Bool
 | .w,.w=>true|.p,.p=>true|.r,.r=>true
 | _,_=>false
def BK.beq:BK->BK->Bool
 | .loc,.loc=>true|.arr,.arr=>true|.dyn,.dyn=>true|.mp,.mp=>true
 | _,_=>false
def blkK (cx:Ev.Cx) (π:iM) (b b':an):Prop:=bif Nat.beq b.ty b'.ty && Nat.beq b.size b'.size && Md.beq b.m b'.m && b.live then (match b.k,b'.k with
 | .loc,.loc=>aP (ib π b'.cs) fun cs=>na tR b.cs cs
 | .arr,.arr=>aP (ib π b'.cs) fun cs=>na tR b.cs cs
 | .dyn,.dyn=>b.cs=b'.cs
 | .mp,.mp=>b.cs=b'.cs
 | .arr,.dyn=>aP (Ev.gD cx b.ty) fun ag=>bif ag || Nat.beq b.size 1 then b.szK fun n=>aP (fw ag n (.stat b.cs)) fun es=>es=b'.cs else False
 | _,_=>False) else False
def stK (cx:Ev.Cx) (π:iM) (st:List an):List an->iM->Prop
 | [],[]=>True
 | b'::r,some m::π'=>(match b'.live with
  | true=>aP st[m]? fun b=>blkK cx π b b'
  | false=>True)/\stK cx π st r π'
 | b'::r,none::π'=>(match b'.k,b'.cs with
  | .dyn,[]=>bif Nat.blt 0 b'.size then True else False
  | _,_=>False)/\stK cx π st r π'
 | _,_=>False
def vJ:iM->Bool
 | []=>true
 | none::π=>vJ π
 | some m::π=>!(π.any fun x=>match x with
  | some k=>Nat.beq m k
  | none=>false) && vJ π
def qW (rl:List Nat):Nat->Nat->iM->Bool
 | 0,_,_=>true
 | n+1,l,some m::π=>(Nat.beq l m || kS l rl) && qW rl n (l+1) π
 | n+1,l,none::π=>kS l rl && qW rl n (l+1) π
 | _+1,_,[]=>false
def lj (cx:Ev.Cx) (π:iM) (s s':aN):Prop :=
 s'.n=s.n/\s'.base=s.base/\s'.rl=s.rl/\(bif vJ π && qW s.rl s.base 0 π then True else False)/\stK cx π s.st s'.st π/\TM.qC π s.t s'.t
theorem TM.fZ {π:iM}:∀ {t t':TM} {n:Nat} {y:PV},TM.qC π t t'->t'.get n=some y->∃ x z,t.get n=some x/\y.O3 π=some z/\Pw.qC x z
 | _,.nil,n,y,_,hy=>by cases hy
 | .nil,.node v l r,n,y,h,hy=>by
  exfalso
  have key:∀ (t':TM),TM.qC π .nil t'->∀ n y,t'.get n=some y->False:=by
   intro t'
   induction t' with
   | nil=>intro _ n y hy; cases hy
   | node v l r ihl ihr =>
    intro h n y hy
    obtain⟨h1,h2,h3⟩:=h
    cases v with
    | some _=>exact h1.elim
    | none =>
     simp only[TM.get] at hy
     cases h0:Nat.beq n 0<;>rw[h0] at hy
     ·cases h1:Nat.beq (n % 2) 1<;>rw[h1] at hy
      ·exact ihr h3 _ _ hy
      ·exact ihl h2 _ _ hy
     ·cases hy
  exact key _ h n y hy
 | .node v l r,.node v' l' r',n,y,h,hy=>by
  obtain⟨h1,h2,h3⟩:=h
  simp only[TM.get] at hy ⊢
  cases h0:Nat.beq n 0<;>rw[h0] at hy
  ·cases hp:Nat.beq (n % 2) 1<;>rw[hp] at hy
   ·exact TM.fZ h3 hy
   ·exact TM.fZ h2 hy
  ·cases v' with
   | none=>cases hy
   | some y' =>
    cases hy
    obtain⟨x,hx,h1⟩:=au h1
    obtain⟨z,hz,h1⟩:=au h1
    exact⟨x,z,hx,hz,h1⟩
theorem Md.qa {m n:Md} (h:Md.beq m n=true):m=n:=by cases m<;>cases n<;>first|rfl|cases h
theorem Ex {cx:Ev.Cx} {O4:iM} {st:List an}:∀ {eP:List an} {π:iM},stK cx O4 st eP π->π.length=eP.length/\∀ (l:Nat) (b':an),eP[l]?=some b'->b'.live=true->(∃ (m:Nat) (b:an),π[l]?=some (some m)/\st[m]?=some b/\blkK cx O4 b b')\/(π[l]?=some none/\b'.k = .dyn/\b'.cs = []/\0 < b'.size)
 | [],[],_=>⟨rfl,fun l b' hl=>by simp at hl⟩
 | b0::r,some m::π,h=>by
  obtain⟨h1,h2⟩:=h
  obtain⟨uG,tG⟩:=Ex h2
  refine⟨by simp[uG],fun l b' hl aF=>?_⟩
  cases l with
  | zero =>
   simp at hl; subst hl
   rw[aF] at h1
   obtain⟨b,hb,h1⟩:=au h1
   exact .inl ⟨m,b,rfl,hb,h1⟩
  | succ l=>simpa using tG l b' (by simpa using hl) aF
 | b0::r,none::π,h=>by
  obtain⟨h1,h2⟩:=h
  obtain⟨uG,tG⟩:=Ex h2
  refine⟨by simp[uG],fun l b' hl aF=>?_⟩
  cases l with
  | zero =>
   simp at hl; subst hl
   split at h1
   ·rename_i hk hc
    obtain⟨hb,_⟩:=aZ h1
    exact .inr ⟨rfl,hk,hc,Nat.le_of_ble_eq_true hb⟩
   ·exact h1.elim
  | succ l=>simpa using tG l b' (by simpa using hl) aF
 | [],_::_,h=>h.elim
 | _::_,[],h=>h.elim
theorem sP:∀ {π:iM},vJ π=true->∀ (l l' m:Nat),π[l]?=some (some m)->π[l']?=some (some m)->l=l'
 | [],_,l,_,_,h,_=>by simp at h
 | none::π,hn,l,l',m,h,h'=>by
  cases l with
  | zero=>simp at h
  | succ l=>cases l' with
   | zero=>simp at h'
   | succ l'=>rw[sP (π:=π) hn l l' m (by simpa using h) (by simpa using h')]
 | some k::π,hn,l,l',m,h,h'=>by
  simp only[vJ,Bool.and_eq_true,Bool.not_eq_true',List.any_eq_false] at hn
  have no:∀ l,π[l]?=some (some k)->False:=fun l hl=>by
   have:=hn.1 _ (List.mem_of_getElem? hl)
   simp at this
  cases l with
  | zero =>
   simp at h; subst h
   cases l' with
   | zero=>rfl
   | succ l'=>exact (no l' (by simpa using h')).elim
  | succ l =>
   cases l' with
   | zero=>simp at h'; subst h'; exact (no l (by simpa using h)).elim
   | succ l'=>rw[sP (π:=π) hn.2 l l' m (by simpa using h) (by simpa using h')]
theorem sQ {rl:List Nat}:∀ {n l:Nat} {π:iM},qW rl n l π=true->n<=π.length
 | 0,_,_,_=>Nat.zero_le _
 | n+1,l,some m::π,h=>by
  simp only[qW,Bool.and_eq_true] at h
  simpa using sQ h.2
 | n+1,l,none::π,h=>by
  simp only[qW,Bool.and_eq_true] at h
  simpa using sQ h.2
 | _+1,_,[],h=>by cases h
theorem vK {rl:List Nat}:∀ {n l:Nat} {π:iM},qW rl n l π=true->∀ i,i < n->(π[i]?=some (some (l+i))\/(l+i)∈rl)
 | 0,_,_,_,i,hi=>by omega
 | n+1,l,some m::π,h,i,hi=>by
  simp only[qW,Bool.and_eq_true,Bool.or_eq_true] at h
  cases i with
  | zero=>exact h.1.imp (fun e=>by rw[← Nat.eq_of_beq_eq_true e]; rfl) dx.1
  | succ i =>
   have:=vK h.2 i (by omega)
   rw[show l+1+i=l+(i+1) by omega] at this
   simpa using this
 | n+1,l,none::π,h,i,hi=>by
  simp only[qW,Bool.and_eq_true] at h
  cases i with
  | zero=>exact .inr (dx.1 h.1)
  | succ i =>
   have:=vK h.2 i (by omega)
   rw[show l+1+i=l+(i+1) by omega] at this
   simpa using this
 | _+1,_,[],h,_,_=>by cases h
end
end Go.Proofs.YtnbhdacpogplgaaGreatDoor.Pw

/- What this claim is proved with: no condition. -/
import Derived.Test.YtlgkljpgagfndaaGreatDoorNs6
import Derived.Scope
set_option linter.unusedVariables false
set_option linter.unusedSimpArgs false
namespace Go.Proofs.YtlgkljpgagfndaaGreatDoor.Pw
open Go Go.RowKit
structure pR where
 D:List Nat
 l:Nat
def iL (i:Nat) (l:List Nat):Bool:=l.any (Nat.beq i)
def vJ (listed:Array Bool) (i:Nat):List Oper->Nat->List Nat->List Nat
 | [],_,acc=>acc
 | o::r,j,acc=>bif !(listed.getD j true) && o.after.toList.any (fun e=>Region.binds .any e && (Nat.beq e.on i || iL e.on acc)) then vJ listed i r (j+1) (j::acc) else vJ listed i r (j+1) acc
def WA (ops:List Oper) (listed:Array Bool) (i:Nat) (D:List Nat):Bool :=
 D.all fun j=>!(listed.getD j false) && (match ops[j]? with
  | some o=>o.after.toList.any fun e=>Region.binds .any e && (Nat.beq e.on i || iL e.on D)
  | none=>false)
def pinned (i:Nat):List pR->List Nat
 | []=>[]
 | p::r=>bif iL i p.D then pinned i r else p.l::pinned i r
def c9 (i:Nat) (pins:List pR):List pR:=pins.filter fun p=>!iL i p.D
def Md.Y':Md->Bool
 | .w=>true
 | _=>false
def oJ (b:Bool) (m:Md):Md:=match b,m with
 | true,.w=>.p
 | _,m=>m
def fV (b:Bool) (m:Md):Md:=match b,m with
 | true,.p=>.w
 | _,m=>m
def mapM (f:Bool->Md->Md) (us:List Nat):Nat->List ak->List ak
 | _,[]=>[]
 | j,⟨k,ty,n,m,live,cs⟩::st=>⟨k,ty,n,f (iL j us) m,live,cs⟩::mapM f us (j+1) st
def Jv:List ak->(List ak->Prop)->Prop
 | [],q=>q []
 | ⟨k,ty,n,m,live,cs⟩::st,q=>match m with
  | .w=>Jv st fun st=>q (⟨k,ty,n,.w,live,cs⟩::st)
  | .p=>Jv st fun st=>q (⟨k,ty,n,.p,live,cs⟩::st)
  | .r=>Jv st fun st=>q (⟨k,ty,n,.r,live,cs⟩::st)
def gf (st:List ak) (ls:List Nat):List Nat:=ls.filter fun j=>match st[j]? with
 | some b=>b.live && b.m.Y'
 | none=>false
def Y_ (st:List ak) (ls:List Nat):Bool:=ls.all fun j=>match st[j]? with
 | some b=>b.live
 | none=>false
def fk (G:Gx) (ops:List Oper) (s:ba) (i:Nat) (o:Oper) (pins:List pR) (K:ba->Prop):Prop :=
 mB ops s o (fun s=>match pinned i pins with
  | []=>pop G s o fun v s2=>s2.put o.dst v K
  | ls=>Jv (mapM oJ (gf s.st ls) 0 s.st) fun st=>pop G (s.store st) o fun v s2=>bif Y_ s2.st ls then Jv (mapM fV (gf s.st ls) 0 s2.st) fun vg=>(s2.store vg).put o.dst v K else False)
  (fun s=>s.put o.dst (.tup []) K)
def tx (ops:Array Oper) (listed:Array Bool) (i:Nat):Bool:=match ops[i]? with
 | some o=>Ev.Bl o.op && Region.free .any ops listed i
 | none=>false
def tz (ops:Array Oper) (listed:Array Bool) (i:Nat):Bool:=match ops[i]? with
 | some o=>BX o.op && Region.free .any ops listed i
 | none=>false
def rI (D:List Nat) (x:PV) (pins:List pR):List pR:=match x.fR with
 | some l=>⟨D,l⟩::pins
 | none=>pins
section
variable {w w':World} {I I':Nat->Prop} {β aV:aB} {G:Gx} {s:ba} {a:Act} {st dM:List ak} {ops:Array Oper}
theorem rJ:∀ {st:List ak} {q:List ak->Prop},Jv st q->q st
 | [],_,h=>h
 | ⟨k,ty,n,m,live,cs⟩::st,q,h=>by
  unfold Jv at h
  cases m<;>exact rJ (st:=st) h
theorem eM (f:Bool->Md->Md) (us:List Nat):∀ (st:List ak) (j l:Nat),(mapM f us j st)[l]?=(st[l]?).map fun b=>{ b with m:=f (iL (j+l) us) b.m }
 | [],j,l=>by simp[mapM]
 | ⟨k,ty,n,m,live,cs⟩::st,j,0=>by simp[mapM]
 | ⟨k,ty,n,m,live,cs⟩::st,j,l+1=>by
  simp only[mapM,List.getElem?_cons_succ]
  rw[eM f us st (j+1) l,show j+1+l=j+(l+1) by omega]
theorem fm (f:Bool->Md->Md) (us:List Nat):∀ (st:List ak) (j:Nat),(mapM f us j st).length=st.length
 | [],_=>rfl
 | ⟨_,_,_,_,_,_⟩::st,j=>by simp[mapM,fm f us st]
theorem Ky {b:Bool} {m:Md}:oJ b m = .r↔m = .r:=by cases b<;>cases m<;>simp[oJ]
theorem Kz {b:Bool} {m:Md} (h:oJ b m = .w):m = .w:=by cases b<;>cases m<;>simp_all [oJ]
theorem BZ {b:Bool} {m:Md}:fV b m = .r↔m = .r:=by cases b<;>cases m<;>simp[fV]
theorem aN.Jw (h:aN I β st w) {f:Bool->Md->Md} {us:List Nat} (hf:∀ b m,f b m = .r↔m = .r):aN I β (mapM f us 0 st) w:=by
 refine⟨fun l hl=>h.pM l (by rw[fm] at hl; exact hl),fun l b' hl aL=>?_⟩
 rw[eM,Option.map_eq_some_iff] at hl
 obtain⟨b,hb,rfl⟩:=hl
 have fw:=h.fR l b hb aL
 obtain⟨p,hp,hk⟩:=fw
 have own:∀ {g:Nat} {fr:Nat × Nat},Own I β st l g fr b->Own I β (mapM f us 0 st) l g fr { b with m:=f (iL (0+l) us) b.m }:=fun ho=>by
  refine⟨fun hr=>?_,fun hr=>ho.2 ((hf _ _).1 hr)⟩
  obtain⟨h1,h2,h3⟩:=ho.1 fun e=>hr ((hf _ _).2 e)
  refine⟨h1,h2,fun l' b' cZ ig eV=>?_⟩
  rw[eM,Option.map_eq_some_iff] at ig
  obtain⟨b2,dD,rfl⟩:=ig
  exact h3 l' b2 cZ dD eV
 refine⟨p,hp,?_⟩
 simp only
 split at hk
 ·rename_i cI
  obtain⟨g,o,arr,ty,fr,h1,h2,h3,ho⟩:=hk
  rw[cI]
  exact⟨g,o,arr,ty,fr,h1,h2,h3,own ho⟩
 ·rename_i cI
  obtain⟨g,arr,fr,h1,h2,h3,ho,h4⟩:=hk
  rw[cI]
  exact⟨g,arr,fr,h1,h2,h3,own ho,h4⟩
 ·rename_i cI
  obtain⟨h1,hk⟩:=hk
  rw[cI]
  refine⟨h1,?_⟩
  rcases hk with h|⟨g,arr,fr,h2,h3,h4,ho,h5⟩
  ·exact .inl h
  ·exact .inr ⟨g,arr,fr,h2,h3,h4,own ho,h5⟩
 ·rename_i cI
  obtain⟨g,h1,h2,ho⟩:=hk
  rw[cI]
  exact⟨g,h1,h2,own ho⟩
theorem dn {i:Nat} {l:List Nat}:iL i l=true↔i∈l:=by
 unfold iL
 rw[List.any_eq_true]
 exact⟨fun ⟨x,hx,e⟩=>by rw[Nat.eq_of_beq_eq_true e]; exact hx,fun h=>⟨i,h,Nat.beq_refl i⟩⟩
def mI (pins:List pR) (ys:List km) (I:Nat->Prop) (β:aB) (st:List ak) (w:World):Prop :=
 ∀ y∈ys,(∀ w2,y.Y w2)\/∃ g,(∀ w2,y.Y w2↔w2.heap[g]?=w.heap[g]?)/\g < w.heap.size/\(I g\/∃ p∈pins,p.D=y.D/\∃ b pl o,st[p.l]?=some b/\b.live=true/\β p.l=some pl/\pl.a=some (g,o))
theorem iN {i:Nat} {p:pR}:∀ {pins:List pR},p∈pins->iL i p.D=false->p.l∈pinned i pins
 | q::pins,h,hd=>by
  unfold pinned
  rcases List.mem_cons.1 h with rfl|h
  ·rw[hd]; exact List.mem_cons_self
  ·cases iL i q.D
   ·exact List.mem_cons_of_mem _ (iN h hd)
   ·exact iN h hd
theorem oK {i:Nat} {p:pR} {pins:List pR} (h:p∈pins) (hd:iL i p.D=false):p∈c9 i pins:=by
 unfold c9; rw[List.mem_filter]; exact⟨h,by simp[hd]⟩
theorem j6 {i:Nat} {y:km} {ys:List km} (h:y∈cK i ys):y∈ys/\iL i y.D=false:=by
 unfold cK at h; rw[List.mem_filter] at h; exact⟨h.1,by simpa [iL] using h.2⟩
theorem mI.cK {i:Nat} {pins:List pR} {ys:List km} (h:mI pins ys I β st w):mI (c9 i pins) (cK i ys) I β st w:=fun y hy=>by
 obtain⟨hy,hd⟩:=j6 hy
 rcases h y hy with h|⟨g,h1,h2,h3⟩
 ·exact .inl h
 ·exact .inr ⟨g,h1,h2,h3.imp id fun ⟨p,hp,he,h4⟩=>⟨p,oK hp (by rw[he]; exact hd),he,h4⟩⟩
theorem lJ (hG:nS G) {i:Nat} {o:Oper} {pins:List pR} {ys:List km} {K:ba->Prop} (h:fk G ops.toList s i o pins K) (hR:Rel G I β s a w) (hp:mI pins ys I β s.st w) :
  Ev.nA G.cx.P ops o a w fun v w'=>∃ s' I' aV,K s'/\Rel G I' aV s' (a.put o.dst v) w'/\cU I β s w I' aV s' w'/\(∀ y∈cK i ys,y.Y w')/\mI (c9 i pins) (cK i ys) I' aV s'.st w':=by
 unfold fk at h
 rcases j4 hR h with ⟨hw,s1,h1,lF,mv⟩|⟨hw,s1,h1,lF,mv⟩
 ·refine .inl ⟨hw,?_⟩
  
  split at h1
  ·rename_i Za
   refine Ev.jV ?_ (vH hG mv h1)
   rintro v w' ⟨x,s2,I2,iu,h2,oH,hx,hE,e1,e2,e3,gd,_⟩
   obtain⟨s3,h3,ni,tv⟩:=ba.bU (G:=G) h2
   have Vn:cU I β s w I2 iu s3 w':=((cU.same lF).trans ⟨hE,e1,e2,e3,gd⟩).trans (cU.same ni)
   have oD:∀ y∈cK i ys,y.Y w'/\((∀ w2,y.Y w2)\/∃ g,(∀ w2,y.Y w2↔w2.heap[g]?=w'.heap[g]?)/\g < w'.heap.size/\I2 g):=fun y hy=>by
    obtain⟨hy,hd⟩:=j6 hy
    rcases hp y hy with h|⟨g,h1,h2,h3⟩
    ·exact⟨h _,.inl h⟩
    ·rcases h3 with h3|⟨p,A8,he,_⟩
     ·have hs:=Vn.ext.keeps hR.heap hR.az.az g h3
      exact⟨(h1 w').2 hs,.inr ⟨g,fun w2=>by rw[h1,hs],Nat.lt_of_lt_of_le h2 Vn.ext.size,Vn.ext.az g h3⟩⟩
     ·have:=iN (i:=i) A8 (by rw[he]; exact hd)
      rw[Za] at this
      cases this
   exact⟨s3,I2,iu,h3,tv _ _ _ _ v oH hx,Vn,fun y hy=>(oD y hy).1,fun y hy=>(oD y hy).2.imp id fun ⟨g,a1,a2,a3⟩=>⟨g,a1,a2,.inl a3⟩⟩
  ·rename_i ls Za
   replace h1:=rJ h1
   have FT:=mv.heap.Jw (f:=oJ) (us:=gf s1.st (pinned i pins)) (fun b m=>Ky)
   have Zb:Ext I β s1.st w I β (mapM oJ (gf s1.st (pinned i pins)) 0 s1.st) w:=⟨rfl,rfl,rfl,Nat.le_refl _,fun _ _ _=>rfl,fun g hg ⟨l,b',p,o',g1,g2,g3,g4,g5⟩=>by
    rw[eM,Option.map_eq_some_iff] at g1
    obtain⟨b,hb,rfl⟩:=g1
    refine⟨l,b,p,o',hb,g2,?_,g4,g5⟩
    simp only at g3
    exact Kz g3,fun _ h=>h,fun _ _ h=>.inl h⟩
   have hRp:=mv.grow FT Zb (fun _ _ h=>h) (by rw[fm]; exact Nat.le_refl _) mv.az.az
   refine Ev.jV ?_ (vH hG hRp h1)
   rintro v w' ⟨x,s2,I2,iu,h2,oH,hx,hE,e1,e2,e3,gd,WB⟩
   obtain⟨c1,c2,c3,c4,c5⟩:=ba.ir s1 (mapM oJ (gf s1.st (pinned i pins)) 0 s1.st)
   rw[c3] at hE WB
   rw[c4] at e1 gd
   rw[c5] at e2 gd
   rw[c1] at e3
   replace h2:=bf h2
   obtain⟨KA,h2⟩:=h2
   replace h2:=rJ h2
   have hmu:=oH.heap.Jw (f:=fV) (us:=gf s1.st (pinned i pins)) (fun b m=>BZ)
   
   have Rb:∀ l∈gf s1.st (pinned i pins),∃ b,s1.st[l]?=some b/\b.m = .w/\b.live=true:=fun l hl=>by
    unfold gf at hl
    rw[List.mem_filter] at hl
    have:=hl.2
    cases hb:s1.st[l]? with
    | none=>rw[hb] at this; cases this
    | some b =>
     rw[hb] at this
     simp only[Bool.and_eq_true] at this
     refine⟨b,rfl,?_,this.1⟩
     have:=this.2
     cases hm:b.m<;>simp only[hm,Md.Y'] at this<;>first|rfl|cases this
   have WC:∀ l b,s1.st[l]?=some b->b.m = .w->l∈gf s1.st (pinned i pins)->iu l=β l:=fun l b hb hm hl=>by
    refine WB l { b with m:=.p } ?_ rfl
    rw[eM,hb,Nat.zero_add,dn.2 hl,Option.map_some,hm]; rfl
   have RA:Ext I β s1.st w I2 iu (mapM fV (gf s1.st (pinned i pins)) 0 s2.st) w':=by
    have Jx:=Zb.trans hE
    refine⟨Jx.os,Jx.tape,Jx.output,Jx.size,Jx.block,fun g hg ⟨l,b',p,o',g1,g2,g3,g4,g5⟩=>?_,Jx.az,Jx.new⟩
    rw[eM,Option.map_eq_some_iff] at g1
    obtain⟨b,hb,rfl⟩:=g1
    simp only[Nat.zero_add] at g3
    cases xu:iL l (gf s1.st (pinned i pins)) with
    | false =>
     rw[xu] at g3
     refine Jx.wr g hg ⟨l,b,p,o',hb,g2,?_,g4,g5⟩
     cases hm:b.m<;>rw[hm] at g3<;>first|rfl|cases g3
    | true =>
     have hl:=dn.1 xu
     obtain⟨b0,fw,lG,KB⟩:=Rb l hl
     exact⟨l,b0,p,o',fw,KB,lG,by rw[← WC l b0 fw lG hl]; exact g4,g5⟩
   have oD:∀ y∈cK i ys,y.Y w'/\((∀ w2,y.Y w2)\/∃ g,(∀ w2,y.Y w2↔w2.heap[g]?=w'.heap[g]?)/\g < w'.heap.size/\(I2 g\/∃ p∈c9 i pins,p.D=y.D/\∃ b pl o,(mapM fV (gf s1.st (pinned i pins)) 0 s2.st)[p.l]?=some b/\b.live=true/\iu p.l=some pl/\pl.a=some (g,o))):=fun y hy=>by
    obtain⟨hy,hd⟩:=j6 hy
    rcases hp y hy with h|⟨g,g1,g2,g3⟩
    ·exact⟨h _,.inl h⟩
    ·have Zc:I g->y.Y w'/\((∀ w2,y.Y w2)\/∃ g,(∀ w2,y.Y w2↔w2.heap[g]?=w'.heap[g]?)/\g < w'.heap.size/\(I2 g\/∃ p∈c9 i pins,p.D=y.D/\∃ b pl o,(mapM fV (gf s1.st (pinned i pins)) 0 s2.st)[p.l]?=some b/\b.live=true/\iu p.l=some pl/\pl.a=some (g,o))):=fun hI=>by
      have hs:=RA.keeps mv.heap mv.az.az g hI
      exact⟨(g1 w').2 hs,.inr ⟨g,fun w2=>by rw[g1,hs],Nat.lt_of_lt_of_le g2 RA.size,.inl (RA.az g hI)⟩⟩
     rcases g3 with g3|⟨p,A8,he,b,pl,o',hb,aL,ov,KC⟩
     ·exact Zc g3
     ·rw[← lF.st] at hb
      have fw:=mv.heap.fR _ b hb aL
      obtain⟨arr,ty,fr,hh,ho⟩:=fw.place ov KC
      by_cases Zd:b.m = .r
      ·exact Zc (ho.2 Zd)
      ·have Ze:=iN (i:=i) A8 (by rw[he]; exact hd)
       
       have WD:∃ b',(mapM oJ (gf s1.st (pinned i pins)) 0 s1.st)[p.l]?=some b'/\b'.m = .p/\b'.live=true:=by
        refine⟨{ b with m:=oJ (iL (0+p.l) (gf s1.st (pinned i pins))) b.m },by rw[eM,hb]; rfl,?_,aL⟩
        simp only[Nat.zero_add]
        cases hm:b.m with
        | r=>exact absurd hm Zd
        | p=>cases iL p.l (gf s1.st (pinned i pins))<;>rfl
        | w =>
         have:p.l∈gf s1.st (pinned i pins):=by unfold gf; rw[List.mem_filter,hb]; exact⟨Ze,by simp only[hm,aL]; rfl⟩
         rw[dn.2 this]; rfl
       obtain⟨b',db,mw,eV⟩:=WD
       have WE:=FT.fR _ b' db eV
       obtain⟨_,_,YX,_,ho'⟩:=WE.place ov KC
       have A9:¬ Wr β (mapM oJ (gf s1.st (pinned i pins)) 0 s1.st) g:=fun ⟨l2,b2,p2,o2,k1,k2,k3,k4,k5⟩=>by
        by_cases cZ:l2=p.l
        ·subst cZ
         rw[db] at k1; cases k1; rw[mw] at k3; cases k3
        ·exact (ho'.1 (by rw[mw]; decide)).2.2 l2 b2 cZ k1 k2 p2 g o2 k4 k5 rfl
       have hs:w'.heap[g]?=w.heap[g]?:=hE.block g g2 A9
       have WG:iu p.l=some pl:=(WB _ b' db mw).trans ov
       have Jy:∃ b2,s2.st[p.l]?=some b2/\b2.live=true:=by
        unfold Y_ at KA
        rw[List.all_eq_true] at KA
        have:=KA _ Ze
        cases dD:s2.st[p.l]? with
        | none=>rw[dD] at this; cases this
        | some b2=>rw[dD] at this; exact⟨b2,rfl,this⟩
       obtain⟨b2,dD,bN⟩:=Jy
       refine⟨(g1 w').2 hs,.inr ⟨g,fun w2=>by rw[g1,hs],Nat.lt_of_lt_of_le g2 RA.size,.inr ⟨p,oK A8 (by rw[he]; exact hd),he,{ b2 with m:=fV (iL (0+p.l) (gf s1.st (pinned i pins))) b2.m },pl,o',by rw[eM,dD]; rfl,bN,WG,KC⟩⟩⟩
   have hEu:Ext I2 iu s2.st w' I2 iu (mapM fV (gf s1.st (pinned i pins)) 0 s2.st) w'->True:=fun _=>trivial
   clear hEu
   have WH:Rel G I2 iu (s2.store (mapM fV (gf s1.st (pinned i pins)) 0 s2.st)) a w':=by
    obtain⟨d1,d2,d3,d4,d5⟩:=ba.ir s2 (mapM fV (gf s1.st (pinned i pins)) 0 s2.st)
    exact⟨by rw[d1]; exact oH.small,oH.defers,by rw[d1]; exact oH.size,by rw[d4,d3,fm]; exact oH.base,by rw[d2]; exact oH.get,by rw[d3]; exact hmu,oH.az⟩
   obtain⟨s3,h3,ni,tv⟩:=ba.bU (G:=G) h2
   obtain⟨d1,d2,d3,d4,d5⟩:=ba.ir s2 (mapM fV (gf s1.st (pinned i pins)) 0 s2.st)
   refine⟨s3,I2,iu,h3,tv _ _ _ _ v WH hx,(cU.same lF).trans ⟨by rw[ni.st,d3]; exact RA,by rw[ni.base,d4]; exact e1,by rw[ni.rl,d5]; exact e2,by rw[ni.n,d1]; exact e3,gd⟩,fun y hy=>(oD y hy).1,fun y hy=>?_⟩
   rw[ni.st,d3]
   exact (oD y hy).2
 ·obtain⟨s3,h3,ni,tv⟩:=ba.bU (G:=G) h1
  refine .inr ⟨hw,s3,I,β,h3,tv _ _ _ _ _ mv Is.undef,(cU.same lF).trans (cU.same ni),fun y hy=>?_,?_⟩
  ·obtain⟨hy,_⟩:=j6 hy
   rcases hp y hy with h|⟨g,h1,_⟩
   ·exact h w
   ·exact (h1 w).2 rfl
  ·rw[ni.st,lF.st]; exact hp.cK
theorem dm.lK {P:Program} {Q:Exit->Act->World->Prop} {i:Nat}:∀ (f:Nat) (l:Array Bool) (a:Act) (S:World->Prop) (pins:List km),dm P ops Q f l a S pins->dm P ops Q f l a S (⟨i,[],fun _=>True⟩::pins)
 | 0,_,_,_,_,h=>h
 | f+1,l,a,S,pins,h=>by
  have QF:∀ j,cK j (⟨i,[],fun _=>True⟩::pins)=⟨i,[],fun _=>True⟩::cK j pins:=fun j=>by
   unfold cK; rw[List.filter_cons,if_pos (by simp)]
  refine⟨h.1,fun j hj o ho=>?_⟩
  obtain⟨h0,h1⟩:=h.2 j hj o ho
  rw[QF]
  refine⟨fun hl=>?_,fun hl w hw=>j5 (fun v w' ⟨S',h2,h3,h4⟩=>⟨S',fun p hp=>?_,h3,dm.lK f _ _ _ _ h4⟩) (h1 hl w hw)⟩
  ·obtain⟨v,hy,hn⟩:=h0 hl
   exact⟨v,hy,dm.lK f _ _ _ _ hn⟩
  ·rcases List.mem_cons.1 hp with rfl|hp
   ·exact fun _ _=>trivial
   ·exact h2 p hp
theorem tA {P:Program} {K:Value->World->Prop} {r:Result Next} (h:Ev.nz P K r):∃ v w,K v w:=by
 cases r with
 | ok n w =>
  cases n<;>simp only[Ev.nz] at h
  case value u=>exact⟨_,_,h⟩
  case skip=>exact⟨_,_,h⟩
  case enter f args =>
   obtain⟨e,w',fr,⟨u,_,hu⟩,_⟩:=h []
   exact⟨_,_,hu⟩
 | halt x w=>exact h.elim
theorem js {P:Program} {o:Oper} {K:Value->World->Prop} (h:Ev.nA P ops o a w K):∃ v w',K v w':=by
 rcases h with ⟨_,h⟩|⟨_,h⟩
 ·exact tA h
 ·exact⟨_,_,h⟩
theorem dm.ends {P:Program} {Q:Exit->Act->World->Prop}:∀ (f:Nat) (l:Array Bool) (a:Act) (S:World->Prop) (pins:List km) (w:World),dm P ops Q f l a S pins->S w->∃ a' w',Q .normal a' w'
 | 0,l,a,S,_,w,h,hw=>⟨a,w,h.2 w hw⟩
 | f+1,l,a,S,pins,w,h,hw=>by
  cases hr:Region.ready .any ops l with
  | nil=>exact⟨a,w,h.1 hr w hw⟩
  | cons i r =>
   have hi:i∈Region.ready .any ops l:=by rw[hr]; exact List.mem_cons_self
   obtain⟨o,ho⟩:=Ev.sY hi
   obtain⟨h0,h1⟩:=h.2 i hi o ho
   cases he:bP o.op with
   | false =>
    obtain⟨v,_,hn⟩:=h0 he
    exact dm.ends f _ _ S _ w hn hw
   | true =>
    obtain⟨v,w',S',_,Fe,hn⟩:=js (h1 he w hw)
    exact dm.ends f _ _ S' _ w' hn Fe
theorem KD {listed:Array Bool} {i:Nat} {D:List Nat} (h:WA ops.toList listed i D=true):∀ j∈D,listed.getD j false=false/\∃ oj,ops[j]?=some oj/\∃ e∈oj.after,Region.binds .any e=true/\(e.on=i\/e.on∈D):=by
 intro j hj
 unfold WA at h
 rw[List.all_eq_true] at h
 have:=h j hj
 simp only[Bool.and_eq_true,Bool.not_eq_true'] at this
 refine⟨this.1,?_⟩
 have h2:=this.2
 cases ho:ops.toList[j]? with
 | none=>rw[ho] at h2; cases h2
 | some oj =>
  rw[ho] at h2
  simp only[List.any_eq_true,Bool.and_eq_true,Bool.or_eq_true] at h2
  obtain⟨e,he,hb,h3⟩:=h2
  exact⟨oj,by simpa using ho,e,by simpa using he,hb,h3.imp Nat.eq_of_beq_eq_true dn.1⟩
end
mutual
inductive aS where
 | done
 | pure (i:Nat) (r:aS)
 | load (i:Nat) (D:List Nat) (r:aS)
 | bP (i:Nat) (r:aS) (more:ju)
inductive ju where
 | nil
 | cons (j:Nat) (r:aS) (more:ju)
 | alt (j:Nat) (r:aS) (more:ju)
 | sub (j:Nat) (r:aS) (more:ju)
end
def Jz:List Nat->List Nat->Bool
 | [],[]=>true
 | a::l,b::m=>Nat.beq a b && Jz l m
 | _,_=>false
def xy (ops:Array Oper) (i:Nat):Bool:=match ops[i]? with
 | some o=>bP o.op
 | none=>false
def gx (vK:Nat->aS->Bool):List Nat->ju->Bool
 | [],.nil=>true
 | j::l,.cons k r ms=>Nat.beq j k && vK j r && gx vK l ms
 | j::l,.alt k r ms=>Nat.beq j k && vK j r && gx vK l ms
 | j::l,.sub k r ms=>Nat.beq j k && vK j r && gx vK l ms
 | _,_=>false
def fZ (ops:Array Oper):Nat->Array Bool->aS->Bool
 | _,listed,.done=>(Region.ready .any ops listed).isEmpty
 | 0,_,_=>false
 | fuel+1,listed,.pure i r=>(match Ev.jU (tx ops listed) (Region.ready .any ops listed) with
  | some k=>Nat.beq k i && fZ ops fuel (listed.setIfInBounds i true) r
  | none=>false)
 | fuel+1,listed,.load i D r=>(match Ev.jU (tz ops listed) (Region.ready .any ops listed) with
  | some k=>Nat.beq k i && Jz D (vJ listed i ops.toList 0 []) && WA ops.toList listed i D && fZ ops fuel (listed.setIfInBounds i true) r
  | none=>false)
 | fuel+1,listed,.bP i r ms=>(match Region.ready .any ops listed with
  | i0::more=>Nat.beq i0 i && xy ops i && more.all (xy ops) && fZ ops fuel (listed.setIfInBounds i true) r && gx (fun j r=>fZ ops fuel (listed.setIfInBounds j true) r) more ms
  | []=>false)
def Sub (G:Gx) (s s':ba):Prop:=∀ I β a w,Rel G I β s a w->∃ I' aV,Rel G I' aV s' a w/\cU I β s w I' aV s' w
mutual
def cb (G:Gx) (ops:List Oper):aS->ba->List pR->(ba->Prop)->Prop
 | .done,s,_,K=>K s
 | .pure i r,s,pins,K=>bq ops[i]? fun o=>mB ops s o (fun s=>nd G.cx s o.op fun v=>s.put o.dst v fun s=>cb G ops r s pins K) (fun s=>s.put o.dst (.tup []) fun s=>cb G ops r s pins K)
 | .load i D r,s,pins,K=>bq ops[i]? fun o=>mB ops s o (fun s=>match o.op with
   | .load t ad=>s.ev ad fun x=>qi G s.st t x fun v=>s.put o.dst v fun s=>cb G ops r s (rI D x pins) K
   | _=>False) (fun s=>s.put o.dst (.tup []) fun s=>cb G ops r s pins K)
 | .bP i r ms,s,pins,K=>bq ops[i]? fun o=>match ms with
  | .nil=>fk G ops s i o pins fun s1=>cb G ops r s1 (c9 i pins) K
  | .cons j r' RB=>fk G ops s i o pins fun s1=>cb G ops r s1 (c9 i pins) fun sf=>K sf/\(bq ops[j]? fun o=>fk G ops s j o pins fun s2=>cb G ops r' s2 (c9 j pins) fun tB=>tB=sf)/\eh G ops RB s pins sf
  | .sub j r' RB=>fk G ops s i o pins fun s1=>cb G ops r s1 (c9 i pins) fun sf=>∃ yS,Sub G sf yS/\K yS/\(bq ops[j]? fun o=>fk G ops s j o pins fun s2=>cb G ops r' s2 (c9 j pins) fun tB=>Sub G tB yS)/\fo G ops RB s pins yS
  | .alt j r' RB=>(fk G ops s i o pins fun s1=>cb G ops r s1 (c9 i pins) K)/\(bq ops[j]? fun o=>fk G ops s j o pins fun s2=>cb G ops r' s2 (c9 j pins) K)/\gS G ops RB s pins K
def eh (G:Gx) (ops:List Oper):ju->ba->List pR->ba->Prop
 | .nil,_,_,_=>True
 | .cons j r ms,s,pins,sf=>(bq ops[j]? fun o=>fk G ops s j o pins fun s2=>cb G ops r s2 (c9 j pins) fun tB=>tB=sf)/\eh G ops ms s pins sf
 | .alt _ _ _,_,_,_=>False
 | .sub _ _ _,_,_,_=>False
def fo (G:Gx) (ops:List Oper):ju->ba->List pR->ba->Prop
 | .nil,_,_,_=>True
 | .sub j r ms,s,pins,sf=>(bq ops[j]? fun o=>fk G ops s j o pins fun s2=>cb G ops r s2 (c9 j pins) fun tB=>Sub G tB sf)/\fo G ops ms s pins sf
 | .cons _ _ _,_,_,_=>False
 | .alt _ _ _,_,_,_=>False
def gS (G:Gx) (ops:List Oper):ju->ba->List pR->(ba->Prop)->Prop
 | .nil,_,_,_=>True
 | .alt j r ms,s,pins,K=>(bq ops[j]? fun o=>fk G ops s j o pins fun s2=>cb G ops r s2 (c9 j pins) K)/\gS G ops ms s pins K
 | .cons _ _ _,_,_,_=>False
 | .sub _ _ _,_,_,_=>False
end
section
variable {w w':World} {I I':Nat->Prop} {β aV:aB} {G:Gx} {s:ba} {a:Act} {st dM:List ak} {ops:Array Oper}
theorem oL {vK:Nat->aS->Bool}:∀ {l:List Nat} {ms:ju},gx vK l ms=true->∀ {pins:List pR} {sf:ba},eh G ops.toList ms s pins sf->∀ j∈l,∃ r,vK j r=true/\bq ops.toList[j]? fun o=>fk G ops.toList s j o pins fun s2=>cb G ops.toList r s2 (c9 j pins) fun tB=>tB=sf
 | [],_,_,_,_,_,_,hj=>by cases hj
 | i::l,.nil,h,_,_,_,_,_=>by cases h
 | i::l,.alt k r ms,h,pins,sf,hr,j,hj=>by unfold eh at hr; exact hr.elim
 | i::l,.sub k r ms,h,pins,sf,hr,j,hj=>by unfold eh at hr; exact hr.elim
 | i::l,.cons k r ms,h,pins,sf,hr,j,hj=>by
  simp only[gx,Bool.and_eq_true] at h
  obtain⟨⟨h1,h2⟩,h3⟩:=h
  obtain rfl:=Nat.eq_of_beq_eq_true h1
  unfold eh at hr
  rcases List.mem_cons.1 hj with rfl|hj
  ·exact⟨r,h2,hr.1⟩
  ·exact oL h3 hr.2 j hj
theorem nj {vK:Nat->aS->Bool}:∀ {l:List Nat} {ms:ju},gx vK l ms=true->∀ {pins:List pR} {K:ba->Prop},gS G ops.toList ms s pins K->∀ j∈l,∃ r,vK j r=true/\bq ops.toList[j]? fun o=>fk G ops.toList s j o pins fun s2=>cb G ops.toList r s2 (c9 j pins) K
 | [],_,_,_,_,_,_,hj=>by cases hj
 | i::l,.nil,h,_,_,_,_,_=>by cases h
 | i::l,.cons k r ms,h,pins,K,hr,j,hj=>by unfold gS at hr; exact hr.elim
 | i::l,.sub k r ms,h,pins,K,hr,j,hj=>by unfold gS at hr; exact hr.elim
 | i::l,.alt k r ms,h,pins,K,hr,j,hj=>by
  simp only[gx,Bool.and_eq_true] at h
  obtain⟨⟨h1,h2⟩,h3⟩:=h
  obtain rfl:=Nat.eq_of_beq_eq_true h1
  unfold gS at hr
  rcases List.mem_cons.1 hj with rfl|hj
  ·exact⟨r,h2,hr.1⟩
  ·exact nj h3 hr.2 j hj
theorem nk {vK:Nat->aS->Bool}:∀ {l:List Nat} {ms:ju},gx vK l ms=true->∀ {pins:List pR} {sf:ba},fo G ops.toList ms s pins sf->∀ j∈l,∃ r,vK j r=true/\bq ops.toList[j]? fun o=>fk G ops.toList s j o pins fun s2=>cb G ops.toList r s2 (c9 j pins) fun tB=>Sub G tB sf
 | [],_,_,_,_,_,_,hj=>by cases hj
 | i::l,.nil,h,_,_,_,_,_=>by cases h
 | i::l,.cons k r ms,h,pins,sf,hr,j,hj=>by unfold fo at hr; exact hr.elim
 | i::l,.alt k r ms,h,pins,sf,hr,j,hj=>by unfold fo at hr; exact hr.elim
 | i::l,.sub k r ms,h,pins,sf,hr,j,hj=>by
  simp only[gx,Bool.and_eq_true] at h
  obtain⟨⟨h1,h2⟩,h3⟩:=h
  obtain rfl:=Nat.eq_of_beq_eq_true h1
  unfold fo at hr
  rcases List.mem_cons.1 hj with rfl|hj
  ·exact⟨r,h2,hr.1⟩
  ·exact nk h3 hr.2 j hj
theorem lL {i:Nat} {o:Oper} (ho:ops[i]?=some o) (h:xy ops i=true):bP o.op=true:=by unfold xy at h; rw[ho] at h; exact h
theorem vL (hG:nS G) (vI:Region.noSelect ops=true):∀ (fuel:Nat) (p:aS) (Q:Exit->Act->World->Prop) (l:Array Bool) (s:ba) (a:Act) (I:Nat->Prop) (β:aB) (w:World) (pins:List pR) (ys:List km) (K:ba->Prop),
  fZ ops fuel l p=true->cb G ops.toList p s pins K->Rel G I β s a w->mI pins ys I β s.st w->(∀ s' I' aV a' w',K s'->Rel G I' aV s' a' w'->cU I β s w I' aV s' w'->Q .normal a' w')->dm G.cx.P ops Q fuel l a (fun w2=>w2=w) ys:=by
 intro fuel
 have fin:∀ (fuel:Nat) (Q:Exit->Act->World->Prop) (l:Array Bool) (s:ba) (a:Act) (I:Nat->Prop) (β:aB) (w:World) (ys:List km) (K:ba->Prop),(Region.ready .any ops l).isEmpty=true->K s->Rel G I β s a w->(∀ s' I' aV a' w',K s'->Rel G I' aV s' a' w'->cU I β s w I' aV s' w'->Q .normal a' w')->dm G.cx.P ops Q fuel l a (fun w2=>w2=w) ys:=by
  intro fuel Q l s a I β w ys K hr h hR hQ
  have sS:Region.ready .any ops l = []:=by simpa using hr
  cases fuel with
  | zero=>exact⟨sS,fun w2 hw=>by subst hw; exact hQ s I β a w2 h hR (cU.same ⟨rfl,rfl,rfl,rfl⟩)⟩
  | succ fuel=>exact⟨fun _ w2 hw=>by subst hw; exact hQ s I β a w2 h hR (cU.same ⟨rfl,rfl,rfl,rfl⟩),fun i hi=>by rw[sS] at hi; cases hi⟩
 induction fuel with
 | zero =>
  intro p Q l s a I β w pins ys K hp h hR _ hQ
  cases p with
  | done=>exact fin 0 Q l s a I β w ys K (by simpa only [fZ] using hp) (by simpa only [cb] using h) hR hQ
  | pure=>simp[fZ] at hp
  | load=>simp[fZ] at hp
  | bP=>simp[fZ] at hp
 | succ fuel ih =>
  intro p Q l s a I β w pins ys K hp h hR Ff hQ
  cases p with
  | done=>exact fin (fuel+1) Q l s a I β w ys K (by simpa only [fZ] using hp) (by simpa only [cb] using h) hR hQ
  | pure i r =>
   simp only[fZ] at hp
   split at hp
   ·rename_i k vM
    simp only[Bool.and_eq_true] at hp
    obtain⟨hk,hp⟩:=hp
    obtain rfl:=Nat.eq_of_beq_eq_true hk
    obtain⟨gu,gv⟩:=Ev.iK vM
    unfold cb at h
    replace h:=ay h
    obtain⟨o,ho,h⟩:=h
    rw[Array.getElem?_toList] at ho
    unfold tx at gv
    rw[ho] at gv
    simp only[Bool.and_eq_true] at gv
    have he:bP o.op=false:=by unfold bP; rw[gv.1]; rfl
    rcases j4 hR h with ⟨gw,s1,h1,lF,mv⟩|⟨gw,s1,h1,lF,mv⟩
    ·obtain⟨x,v,h1,hx,cf⟩:=s_ hG.ok mv h1
     obtain⟨s3,h3,ni,tv⟩:=ba.bU (G:=G) h1
     refine dm.first (v:=v) (D:=[]) (Y:=fun _=>True) ho he vI fuel l a _ ys (Region.free_spec ho gv.2) (fun j hj=>by cases hj) (.inl ⟨gw,fun w2 _=>cf w2⟩) (fun _ _=>trivial) gu (dm.lK _ _ _ _ _ ?_)
     exact ih r Q _ s3 _ I β w pins ys K hp h3 (tv _ _ _ _ _ mv hx) (by rw[ni.st,lF.st]; exact Ff) (fun s' I' aV a' w' hk eC hg=>hQ s' I' aV a' w' hk eC (((cU.same lF).trans (cU.same ni)).trans hg))
    ·obtain⟨s3,h3,ni,tv⟩:=ba.bU (G:=G) h1
     refine dm.first (v:=undef) (D:=[]) (Y:=fun _=>True) ho he vI fuel l a _ ys (Region.free_spec ho gv.2) (fun j hj=>by cases hj) (.inr ⟨gw,rfl⟩) (fun _ _=>trivial) gu (dm.lK _ _ _ _ _ ?_)
     exact ih r Q _ s3 _ I β w pins ys K hp h3 (tv _ _ _ _ _ mv Is.undef) (by rw[ni.st,lF.st]; exact Ff) (fun s' I' aV a' w' hk eC hg=>hQ s' I' aV a' w' hk eC (((cU.same lF).trans (cU.same ni)).trans hg))
   ·cases hp
  | load i D r =>
   simp only[fZ] at hp
   split at hp
   ·rename_i k vM
    simp only[Bool.and_eq_true] at hp
    obtain⟨⟨⟨hk,hDe⟩,hD⟩,hp⟩:=hp
    obtain rfl:=Nat.eq_of_beq_eq_true hk
    obtain⟨gu,gv⟩:=Ev.iK vM
    unfold cb at h
    replace h:=ay h
    obtain⟨o,ho,h⟩:=h
    rw[Array.getElem?_toList] at ho
    unfold tz at gv
    rw[ho] at gv
    simp only[Bool.and_eq_true] at gv
    have he:bP o.op=false:=by unfold bP; rw[gv.1,Bool.or_true]; rfl
    rcases j4 hR h with ⟨gw,s1,h1,lF,mv⟩|⟨gw,s1,h1,lF,mv⟩
    ·split at h1
     ·rename_i t ad rG
      replace h1:=ba.cq mv h1
      obtain⟨x,h1,hx⟩:=h1
      obtain⟨z,v,g,h1,hz,hg,cf⟩:=oA hG.ok mv.heap mv.az h1 hx
      obtain⟨s3,h3,ni,tv⟩:=ba.bU (G:=G) h1
      have RC:∀ w2:World,w2.heap[g]?=w.heap[g]?->(execOp a.eval o).run G.cx.P w2 = .ok (.value v) w2:=fun w2 rD=>by
       unfold execOp
       rw[rG]
       simp only[Sem.run_bind,cf w2 rD,Result.andThen_ok,Sem.run_pure]
      have BV:g < w.heap.size:=by
       rcases hg with hg|⟨l',b,p,o',_,hb,aL,ov,KC⟩
       ·exact hR.az.az g hg
       ·exact mv.heap.dk ⟨l',b,p,o',hb,aL,ov,KC⟩
      refine dm.first (v:=v) (D:=D) (Y:=fun w2=>w2.heap[g]?=w.heap[g]?) ho he vI fuel l a _ ys (Region.free_spec ho gv.2) (KD hD) (.inl ⟨gw,RC⟩) (fun w2 rD=>by rw[rD]) gu ?_
      refine ih r Q _ s3 _ I β w (rI D x pins) _ K hp h3 (tv _ _ _ _ _ mv hz) ?_ (fun s' I' aV a' w' hk eC hg=>hQ s' I' aV a' w' hk eC (((cU.same lF).trans (cU.same ni)).trans hg))
      rw[ni.st,lF.st]
      intro y hy
      rcases List.mem_cons.1 hy with rfl|hy
      ·refine .inr ⟨g,fun _=>Iff.rfl,BV,?_⟩
       rcases hg with hg|⟨l',b,p,o',lH,hb,aL,ov,KC⟩
       ·exact .inl hg
       ·refine .inr ⟨⟨D,l'⟩,by unfold rI; rw[lH]; exact List.mem_cons_self,rfl,b,p,o',by rw[← lF.st]; exact hb,aL,ov,KC⟩
      ·rcases Ff y hy with h|⟨g',k1,k2,k3⟩
       ·exact .inl h
       ·refine .inr ⟨g',k1,k2,k3.imp id fun ⟨p,A8,k4⟩=>⟨p,?_,k4⟩⟩
        unfold rI
        split
        ·exact List.mem_cons_of_mem _ A8
        ·exact A8
     ·exact h1.elim
    ·obtain⟨s3,h3,ni,tv⟩:=ba.bU (G:=G) h1
     refine dm.first (v:=undef) (D:=[]) (Y:=fun _=>True) ho he vI fuel l a _ ys (Region.free_spec ho gv.2) (fun j hj=>by cases hj) (.inr ⟨gw,rfl⟩) (fun _ _=>trivial) gu (dm.lK _ _ _ _ _ ?_)
     exact ih r Q _ s3 _ I β w pins ys K hp h3 (tv _ _ _ _ _ mv Is.undef) (by rw[ni.st,lF.st]; exact Ff) (fun s' I' aV a' w' hk eC hg=>hQ s' I' aV a' w' hk eC (((cU.same lF).trans (cU.same ni)).trans hg))
   ·cases hp
  | bP i r ms =>
   simp only[fZ] at hp
   split at hp
   ·rename_i i0 more B0
    simp only[Bool.and_eq_true] at hp
    obtain⟨⟨⟨⟨hk,hei⟩,Vo⟩,QG⟩,A8⟩:=hp
    obtain rfl:=Nat.eq_of_beq_eq_true hk
    rw[List.all_eq_true] at Vo
    unfold cb at h
    replace h:=ay h
    obtain⟨o,ho,h⟩:=h
    rw[Array.getElem?_toList] at ho
    have he:=lL ho hei
    have cZ:Region.ready .any ops l≠[]:=by rw[B0]; simp
    
    have go:∀ {j:Nat} {oj:Oper} {rj:aS} {K':ba->Prop},fZ ops fuel (l.setIfInBounds j true) rj=true->ops[j]?=some oj->bP oj.op=true->(fk G ops.toList s j oj pins fun s1=>cb G ops.toList rj s1 (c9 j pins) K')->(∀ sf,K' sf->K sf) ->
      (bP oj.op=false->∃ v,Yields G.cx.P ops (fun w2=>w2=w) oj v a/\dm G.cx.P ops Q fuel (l.setIfInBounds j true) (a.put oj.dst v) (fun w2=>w2=w) (cK j ys)) /\
      (bP oj.op=true->∀ w2,w2=w->Ev.nA G.cx.P ops oj a w2 fun v w'=>∃ S':World->Prop,(∀ p∈cK j ys,∀ w,S' w->p.Y w)/\S' w'/\dm G.cx.P ops Q fuel (l.setIfInBounds j true) (a.put oj.dst v) S' (cK j ys)):=by
     intro j oj rj K' WI ln WJ h' hK
     refine⟨(fun e=>by rw[WJ] at e; cases e),fun _ w2 rD=>?_⟩
     subst rD
     refine j5 ?_ (lJ hG h' hR Ff)
     rintro v w' ⟨s',I',aV,hk,eC,hg,hY,eE⟩
     refine⟨fun w2=>w2=w',fun p hp w2 rD=>by rw[rD]; exact hY p hp,rfl,?_⟩
     exact ih rj Q _ s' _ I' aV w' _ _ K' WI hk eC eE fun s2 I2 iu a2 w3 vh oH FU=>hQ s2 I2 iu a2 w3 (hK s2 vh) oH (hg.trans FU)
    have Zf:∀ {j:Nat} {oj:Oper} {rj:aS} {K':ba->Prop},fZ ops fuel (l.setIfInBounds j true) rj=true->ops[j]?=some oj->bP oj.op=true->(fk G ops.toList s j oj pins fun s1=>cb G ops.toList rj s1 (c9 j pins) K')->(∀ sf,K' sf->∃ yS,Sub G sf yS/\K yS) ->
      (bP oj.op=false->∃ v,Yields G.cx.P ops (fun w2=>w2=w) oj v a/\dm G.cx.P ops Q fuel (l.setIfInBounds j true) (a.put oj.dst v) (fun w2=>w2=w) (cK j ys)) /\
      (bP oj.op=true->∀ w2,w2=w->Ev.nA G.cx.P ops oj a w2 fun v w'=>∃ S':World->Prop,(∀ p∈cK j ys,∀ w,S' w->p.Y w)/\S' w'/\dm G.cx.P ops Q fuel (l.setIfInBounds j true) (a.put oj.dst v) S' (cK j ys)):=by
     intro j oj rj K' WI ln WJ h' hK
     refine⟨(fun e=>by rw[WJ] at e; cases e),fun _ w2 rD=>?_⟩
     subst rD
     refine j5 ?_ (lJ hG h' hR Ff)
     rintro v w' ⟨s',I',aV,hk,eC,hg,hY,eE⟩
     refine⟨fun w2=>w2=w',fun p hp w2 rD=>by rw[rD]; exact hY p hp,rfl,?_⟩
     exact ih rj Q _ s' _ I' aV w' _ _ K' WI hk eC eE fun s2 I2 iu a2 w3 vh oH FU=>by
      obtain⟨yS,hs,xz⟩:=hK s2 vh
      obtain⟨I3,β3,WH,hg3⟩:=hs I2 iu a2 w3 oH
      exact hQ yS I3 β3 a2 w3 xz WH ((hg.trans FU).trans hg3)
    cases ms with
    | nil =>
     cases more with
     | cons=>simp[gx] at A8
     | nil =>
      refine⟨fun e=>absurd e cZ,fun j hj oj ln=>?_⟩
      rw[B0,List.mem_singleton] at hj
      subst hj
      rw[ho] at ln
      cases ln
      exact go QG ho he h fun _ hk=>hk
    | cons j0 r0 rK =>
     have dE:∀ sf,((bq ops.toList[j0]? fun o=>fk G ops.toList s j0 o pins fun s2=>cb G ops.toList r0 s2 (c9 j0 pins) fun tB=>tB=sf)/\eh G ops.toList rK s pins sf)->eh G ops.toList (.cons j0 r0 rK) s pins sf:=fun sf h=>by unfold eh; exact h
     
     obtain⟨sf,WK,lM⟩:∃ sf,K sf/\eh G ops.toList (.cons j0 r0 rK) s pins sf:=by
      obtain⟨v,w',s',I',aV,hk,eC,hg,hY,eE⟩:=js (lJ hG h hR Ff)
      have hA:=ih r (fun _ _ _=>∃ sf,K sf/\eh G ops.toList (.cons j0 r0 rK) s pins sf) _ s' (a.put o.dst v) I' aV w' _ _ _ QG hk eC eE fun s2 I2 iu a2 w3 vh _ _=>⟨s2,vh.1,dE _ vh.2⟩
      obtain⟨_,_,h3⟩:=dm.ends _ _ _ _ _ w' hA rfl
      exact h3
     refine⟨fun e=>absurd e cZ,fun j hj oj ln=>?_⟩
     rw[B0] at hj
     rcases List.mem_cons.1 hj with rfl|hj
     ·rw[ho] at ln
      cases ln
      exact go QG ho he h fun _ hk=>hk.1
     ·obtain⟨rj,RD,h2⟩:=oL A8 lM j hj
      replace h2:=ay h2
      obtain⟨Ww,oI,h2⟩:=h2
      rw[Array.getElem?_toList,ln] at oI
      cases oI
      exact go RD ln (lL ln (Vo j hj)) h2 fun tB e=>by rw[e]; exact WK
    | sub j0 r0 rK =>
     have dE:∀ sf,((bq ops.toList[j0]? fun o=>fk G ops.toList s j0 o pins fun s2=>cb G ops.toList r0 s2 (c9 j0 pins) fun tB=>Sub G tB sf)/\fo G ops.toList rK s pins sf)->fo G ops.toList (.sub j0 r0 rK) s pins sf:=fun sf h=>by unfold fo; exact h
     obtain⟨sf,WK,lM⟩:∃ sf,K sf/\fo G ops.toList (.sub j0 r0 rK) s pins sf:=by
      obtain⟨v,w',s',I',aV,hk,eC,hg,hY,eE⟩:=js (lJ hG h hR Ff)
      have hA:=ih r (fun _ _ _=>∃ sf,K sf/\fo G ops.toList (.sub j0 r0 rK) s pins sf) _ s' (a.put o.dst v) I' aV w' _ _ _ QG hk eC eE fun s2 I2 iu a2 w3 vh _ _=>let ⟨yS,_,h2,h3⟩:=vh; ⟨yS,h2,dE _ h3⟩
      obtain⟨_,_,h3⟩:=dm.ends _ _ _ _ _ w' hA rfl
      exact h3
     refine⟨fun e=>absurd e cZ,fun j hj oj ln=>?_⟩
     rw[B0] at hj
     rcases List.mem_cons.1 hj with rfl|hj
     ·rw[ho] at ln
      cases ln
      exact Zf QG ho he h fun _ hk=>let ⟨yS,h1,h2,_⟩:=hk; ⟨yS,h1,h2⟩
     ·obtain⟨rj,RD,h2⟩:=nk A8 lM j hj
      replace h2:=ay h2
      obtain⟨Ww,oI,h2⟩:=h2
      rw[Array.getElem?_toList,ln] at oI
      cases oI
      exact Zf RD ln (lL ln (Vo j hj)) h2 fun tB e=>⟨sf,e,WK⟩
    | alt j0 r0 rK =>
     obtain⟨h,lM⟩:=h
     have dE:gS G ops.toList (.alt j0 r0 rK) s pins K:=by unfold gS; exact lM
     refine⟨fun e=>absurd e cZ,fun j hj oj ln=>?_⟩
     rw[B0] at hj
     rcases List.mem_cons.1 hj with rfl|hj
     ·rw[ho] at ln
      cases ln
      exact go QG ho he h fun _ hk=>hk
     ·obtain⟨rj,RD,h2⟩:=nj A8 dE j hj
      replace h2:=ay h2
      obtain⟨Ww,oI,h2⟩:=h2
      rw[Array.getElem?_toList,ln] at oI
      cases oI
      exact go RD ln (lL ln (Vo j hj)) h2 fun _ hk=>hk
   ·cases hp
end
def WL (k:ba->Prop) (Q:X->ba->Prop) (x:X) (s:ba):Prop:=match x with
 | .nB=>k s
 | x=>Q x s
def vN (id:Nat) (Q:X->ba->Prop) (x:X) (s:ba):Prop:=match x with
 | .exit j=>bif Nat.beq j id then Q .nB s else Q (.exit j) s
 | x=>Q x s
def B1 (s:ba) (c:Operand) (t e:ba->Prop):Prop:=s.ev c fun x=>match x with
 | .tt=>t s
 | .ff=>e s
 | .bool p=>(match c with
  | .tmp i=>(p->s.put (some i) .tt t)/\(¬ p->s.put (some i) .ff e)
  | _=>(p->t s)/\(¬ p->e s))
 | _=>False
def cL (R:List (Nat × aS)):Code->Bool
 | .region id ops true=>(match Ev.A3 id R with
  | some p=>Region.noSelect ops && fZ ops ops.size (Array.replicate ops.size false) p
  | none=>true)
 | .seq a b=>cL R a && cL R b
 | .cond _ a b=>cL R a && cL R b
 | .block _ c=>cL R c
 | .scope c=>cL R c
 | .loop c=>cL R c
 | _=>true
def pw (G:Gx) (R:List (Nat × aS)):Nat->Code->(X->ba->Prop)->ba->Prop
 | 0,_,_,_=>False
 | n+1,c,Q,s=>match c with
  | .skip|.label _=>Q .nB s
  | .ret=>Q .ret s
  | .exit id=>Q (.exit id) s
  | .seq a b=>pw G R n a (WL (pw G R n b Q) Q) s
  | .cond c a b=>B1 s c (pw G R n a Q) (pw G R n b Q)
  | .block id c=>pw G R n c (vN id Q) s
  | .scope c=>pw G R n c Q s
  | .loop c=>SW G (.loop c) Q s
  | .rangeFunc f ps a b=>SW G (.rangeFunc f ps a b) Q s
  | .region id ops draw=>(match draw with
   | true=>bq (Ev.A3 id R) fun p=>cb G ops.toList p s [] (Q .nB)
   | false=>Fy G ops.toList Q ops.toList s)
  | _=>False
section
variable {w w':World} {I I':Nat->Prop} {β aV:aB} {G:Gx} {s:ba} {a:Act} {st dM:List ak}
theorem eU.of {Q:X->ba->Prop} {x:X} {s':ba} {w0:World} (hq:Q x s') {a':Act} (hR:Rel G I' aV s' a' w') (hg:cU I β s w0 I' aV s' w'):eU G s I β w0 Q (X.e x) a' w' :=
 ⟨x,s',I',aV,rfl,hq,hR,hg.ext,hg.base,hg.rl,hg.n,hg.low⟩
theorem eU.goes {Q:X->ba->Prop} {e:Exit} {a':Act} (h:eU G s I β w Q e a' w'):∃ x s' I' aV,e=X.e x/\Q x s'/\Rel G I' aV s' a' w'/\cU I β s w I' aV s' w' :=
 let ⟨x,s',I',aV,he,hq,hR,h1,h2,h3,h4,h5⟩:=h; ⟨x,s',I',aV,he,hq,hR,h1,h2,h3,h4,h5⟩
theorem SW.intro {c:Code} {Q:X->ba->Prop} (h:∀ I β a w,Rel G I β s a w->c.wp G.cx.P (eU G s I β w Q) a w):SW G c Q s:=by unfold SW; exact h
theorem SW.run {c:Code} {Q:X->ba->Prop} (h:SW G c Q s) (hR:Rel G I β s a w):c.wp G.cx.P (eU G s I β w Q) a w:=by unfold SW at h; exact h I β a w hR
theorem SW.from {c:Code} {Q:X->ba->Prop} {s0:ba} {I0:Nat->Prop} {gy:aB} {w0:World} (h:SW G c Q s) (hR:Rel G I β s a w) (hg:cU I0 gy s0 w0 I β s w):c.wp G.cx.P (eU G s0 I0 gy w0 Q) a w :=
 wp_mono (h.run hR) fun e a' w' hp=>by
  obtain⟨x,s',I',aV,rfl,hq,eC,B2⟩:=hp.goes
  exact eU.of hq eC (hg.trans B2)
theorem Ext.jv (hh:w'.heap=w.heap) (h1:w'.os=w.os) (h2:w'.tape=w.tape) (h3:w'.output=w.output):Ext I β st w I β st w' :=
 ⟨h1,h2,h3,by rw[hh]; exact Nat.le_refl _,fun g _ _=>by rw[hh],fun _ _ h=>h,fun _ h=>h,fun _ _ h=>.inl h⟩
theorem aN.jv (h:aN I β st w) (hh:w'.heap=w.heap):aN I β st w' :=
 ⟨h.pM,fun l b hl aL=>(h.fR l b hl aL).mono (fun _ h=>h) (fun _ _=>by rw[hh]) (fun _ _ h=>h) fun p g o hp ha=>⟨by rw[hh],fun hr=>by
  obtain⟨_,_,fr,_,ho⟩:=(h.fR l b hl aL).place hp ha
  exact⟨(ho.1 hr).2.1,(ho.1 hr).2.2⟩⟩⟩
theorem vO (s:ba):s.store s.st=s:=by cases s; rfl
theorem Rel.jv (hR:Rel G I β s a w) (hh:w'.heap=w.heap) (h1:w'.os=w.os) (h2:w'.tape=w.tape) (h3:w'.output=w.output):Rel G I β s a w':=by
 have:=hR.grow (hR.heap.jv hh) (Ext.jv hh h1 h2 h3) (fun _ _ h=>h) (Nat.le_refl _) (fun g hg=>by rw[hh]; exact hR.az.az g hg)
 rwa [vO] at this
theorem B3 {c:Operand} {t e:ba->Prop} (hR:Rel G I β s a w) (h:B1 s c t e):∃ b s',a.eval c = .bool b/\(if b then t s' else e s')/\gR s s'/\Rel G I β s' a w:=by
 have same:gR s s:=⟨rfl,rfl,rfl,rfl⟩
 unfold B1 at h
 cases c with
 | tmp i =>
  replace h:=ay h
  obtain⟨x,hx,h⟩:=h
  obtain⟨v,hv,hi⟩:=hR.get i x hx
  have he:a.eval (.tmp i)=v:=by simp only[Act.eval,Array.getD_eq_getD_getElem?,hv,Option.getD_some]
  rw[he]
  split at h<;>try simp only[PV.Is] at hi
  ·exact⟨true,s,hi,h,same,hR⟩
  ·exact⟨false,s,hi,h,same,hR⟩
  ·rename_i p
   by_cases hp:p
   ·obtain⟨s',hk,hs,hr⟩:=ba.j3 hR hv (x:=.tt) (by rw[hi,cg hp]; exact Is.tt) (h.1 hp)
    exact⟨true,s',by rw[hi,cg hp],hk,hs,hr⟩
   ·obtain⟨s',hk,hs,hr⟩:=ba.j3 hR hv (x:=.ff) (by rw[hi,bT hp]; exact Is.ff) (h.2 hp)
    exact⟨false,s',by rw[hi,bT hp],hk,hs,hr⟩
  ·exact h.elim
 | _ =>
  replace h:=ba.cq hR h
  obtain⟨x,h,hx⟩:=h
  split at h<;>try simp only[PV.Is] at hx
  ·exact⟨true,s,hx,h,same,hR⟩
  ·exact⟨false,s,hx,h,same,hR⟩
  ·rename_i p
   by_cases hp:p
   ·exact⟨true,s,by rw[hx,cg hp],h.1 hp,same,hR⟩
   ·exact⟨false,s,by rw[hx,bT hp],h.2 hp,same,hR⟩
  ·exact h.elim
theorem kt (hG:nS G) {R:List (Nat × aS)}:∀ (n:Nat) (c:Code) (Q:X->ba->Prop) (s:ba),cL R c=true->pw G R n c Q s->SW G c Q s
 | 0,_,_,_,_,h=>h.elim
 | n+1,c,Q,s,hc,h=>by
  cases c with
  | skip=>exact SW.intro fun I β a w hR=>wp_skip (eU.of (x:=.nB) h hR (cU.same ⟨rfl,rfl,rfl,rfl⟩))
  | label l=>exact SW.intro fun I β a w hR=>wp_label (eU.of (x:=.nB) h hR (cU.same ⟨rfl,rfl,rfl,rfl⟩))
  | ret=>exact SW.intro fun I β a w hR=>wp_ret (eU.of (x:=.ret) h hR (cU.same ⟨rfl,rfl,rfl,rfl⟩))
  | exit id=>exact SW.intro fun I β a w hR=>wp_exit (eU.of (x:=.exit id) h hR (cU.same ⟨rfl,rfl,rfl,rfl⟩))
  | seq x y =>
   simp only[cL,Bool.and_eq_true] at hc
   have h1:=kt hG n x _ s hc.1 h
   refine SW.intro fun I β a w hR=>wp_seq (wp_mono (h1.run hR) fun e a' w' hp=>?_)
   obtain⟨x',s',I',aV,rfl,hq,eC,hg⟩:=hp.goes
   cases x' with
   | nB=>exact (kt hG n y Q s' hc.2 hq).from eC hg
   | exit id=>exact eU.of (Q:=Q) (x:=.exit id) hq eC hg
   | ret=>exact eU.of (Q:=Q) (x:=.ret) hq eC hg
  | cond c x y =>
   simp only[cL,Bool.and_eq_true] at hc
   refine SW.intro fun I β a w hR=>?_
   obtain⟨b,s',he,hk,hs,eC⟩:=B3 hR h
   refine wp_cond he ?_
   cases b with
   | true=>exact (kt hG n x Q s' hc.1 hk).from eC (cU.same hs)
   | false=>exact (kt hG n y Q s' hc.2 hk).from eC (cU.same hs)
  | block id c =>
   have h1:=kt hG n c _ s hc h
   refine SW.intro fun I β a w hR=>wp_block (wp_mono (h1.run hR) fun e a' w' hp=>?_)
   obtain⟨x',s',I',aV,rfl,hq,eC,hg⟩:=hp.goes
   cases x' with
   | nB=>exact eU.of (Q:=Q) (x:=.nB) hq eC hg
   | exit j =>
    show Exit.inBlock id _ (.exit j) a' w'
    simp only[Exit.inBlock]
    by_cases hj:j=id
    ·subst hj
     rw[if_pos rfl]
     have FO:Q .nB s':=by simpa [vN,Nat.beq_refl] using hq
     exact eU.of (x:=.nB) FO eC hg
    ·have db:Nat.beq j id=false:=by rw[Bool.eq_false_iff]; exact fun e=>hj (Nat.eq_of_beq_eq_true e)
     rw[if_neg hj]
     have FO:Q (.exit j) s':=by simpa [vN,db] using hq
     exact eU.of (x:=.exit j) FO eC hg
   | ret=>exact eU.of (Q:=Q) (x:=.ret) hq eC hg
  | scope c =>
   have h1:=kt hG n c _ s hc h
   refine SW.intro fun I β a w hR=>wp_scope_straight (wp_mono (h1.run hR) fun e a' w' hp=>?_)
   obtain⟨x',s',I',aV,rfl,hq,eC,hg⟩:=hp.goes
   cases x' with
   | nB=>exact eU.of (Q:=Q) (x:=.nB) hq eC hg
   | exit j=>exact eU.of (Q:=Q) (x:=.exit j) hq eC hg
   | ret=>exact eU.of (Q:=Q) (x:=.ret) hq eC hg
  | loop c=>exact h
  | rangeFunc f ps a b=>exact h
  | region id ops draw =>
   refine SW.intro fun I β a w hR=>?_
   cases draw with
   | true =>
    obtain⟨p,hp,h⟩:=ay h
    unfold cL at hc
    rw[hp] at hc
    simp only[Bool.and_eq_true] at hc
    have eC:Rel G I β s a { w with drawn:=w.drawn+1 }:=hR.jv rfl rfl rfl rfl
    have hd:cU I β s w I β s { w with drawn:=w.drawn+1 }:=⟨Ext.jv rfl rfl rfl rfl,rfl,rfl,rfl,fun _ _ _=>rfl⟩
    have hA:=vL hG hc.1 ops.size p (eU G s I β w Q) _ s a I β _ [] [] _ hc.2 h eC (fun y hy=>by cases hy) fun s' I' aV a' w' hk oH hg=>eU.of (Q:=Q) (x:=.nB) hk oH (hd.trans hg)
    exact wp_region_any hG.ok.mix (dm.sound _ _ _ _ _ _ hA rfl)
   | false=>exact wp_region_list (rH hG _ h hR fun x s' I' aV a' w' hq eC hg=>eU.of hq eC hg)
  | _=>exact h.elim
def oM (k:ba->Prop) (Q:X->ba->Prop) (x:X) (s:ba):Prop:=match x with
 | .nB=>k s
 | x=>Q x s
def WM (G:Gx) (R:List (Nat × aS)) (N:Nat) (c:Code) (Q:X->ba->Prop):Nat->ba->Prop
 | 0,_=>False
 | n+1,s=>pw G R N c (oM (WM G R N c Q n) Q) s
theorem SW.rounds (hG:nS G) (R:List (Nat × aS)) {N:Nat} {c:Code} {Q:X->ba->Prop} (hc:cL R c=true) (n:Nat) (h:WM G R N c Q n s):SW G (.loop c) Q s:=by
 have key:∀ (n:Nat) (s0 s:ba) (I0 I:Nat->Prop) (gy β:aB) (w0 w:World) (a:Act),WM G R N c Q n s->Rel G I β s a w->cU I0 gy s0 w0 I β s w->Code.rounds G.cx.P c (eU G s0 I0 gy w0 Q) n a w:=by
  intro n
  induction n with
  | zero=>intro s0 s I0 I gy β w0 w a h _ _; exact h.elim
  | succ n ih =>
   intro s0 s I0 I gy β w0 w a h hR hg
   rw[rounds_succ]
   refine wp_mono ((kt hG N c _ s hc h).run hR) fun e a' w' hp=>?_
   obtain⟨x',s',I',aV,rfl,hq,eC,B2⟩:=hp.goes
   cases x' with
   | nB=>exact ih s0 s' I0 I' gy aV w0 w' a' hq eC (hg.trans B2)
   | exit id=>exact eU.of (Q:=Q) (x:=.exit id) hq eC (hg.trans B2)
   | ret=>exact eU.of (Q:=Q) (x:=.ret) hq eC (hg.trans B2)
 exact SW.intro fun I β a w hR=>wp_loop_rounds n (key n s s I I β β w w a h hR (cU.same ⟨rfl,rfl,rfl,rfl⟩))
theorem Sub.refl:Sub G s s:=fun I β _ _ hR=>⟨I,β,hR,cU.same ⟨rfl,rfl,rfl,rfl⟩⟩
theorem SW.inv (hG:nS G) {R:List (Nat × aS)} {α:Type} (inv:α->ba) (μ:α->Nat) {N:Nat} {c:Code} {Q:X->ba->Prop} (hc:cL R c=true) (x0:α) (h0:Sub G s (inv x0)) (K:α->ba->Prop) (hK:∀ x s',K x s'->∃ y,μ y < μ x/\Sub G s' (inv y))
  (h:∀ x,pw G R N c (oM (K x) Q) (inv x)):SW G (.loop c) Q s:=by
 refine SW.intro fun I0 gy a w hR=>?_
 obtain⟨I,β,mv,Jr⟩:=h0 I0 gy a w hR
 let J:Nat->Act->World->Prop:=fun m a w'=>∃ x I β,μ x=m/\Rel G I β (inv x) a w'/\cU I0 gy s w I β (inv x) w'
 have key:∀ (m:Nat) (a:Act) (w':World),J m a w'->∀ (b:Frame) (k:List Item) (cs:List Frame),∃ e a' xg,eU G s I0 gy w Q e a' xg/\Arrives G.cx.P (lone (b.at a (.code c::.inLoop c::k)) cs w') b k cs e a' xg:=by
  intro m
  induction m using Nat.strongRecOn with
  | _ m ih =>
   rintro a w' ⟨x,I,β,hx,hR,hg⟩ b k cs
   obtain⟨e,FV,FW,hp,vz⟩:=(kt hG N c _ _ hc (h x)).run hR b (.inLoop c::k) cs
   obtain⟨x',s',I',aV,rfl,hq,eC,B2⟩:=hp.goes
   cases x' with
   | nB =>
    obtain⟨y,hy,hs⟩:=hK x s' hq
    obtain⟨I2,iu,oH,FU⟩:=hs I' aV FV FW eC
    obtain⟨WN,WO,WQ,RE,FX⟩:=ih (μ y) (by omega) FV FW ⟨y,I2,iu,rfl,oH,(hg.trans B2).trans FU⟩ b k cs
    exact⟨WN,WO,WQ,RE,.of_steps (Steps.trans vz (.one step_inLoop)) FX⟩
   | exit id=>exact⟨_,FV,FW,eU.of (Q:=Q) (x:=.exit id) hq eC (hg.trans B2),.pass (x:=.inLoop c) rfl (fun _ _=>.inl (by simp[X.e])) vz⟩
   | ret=>exact⟨_,FV,FW,eU.of (Q:=Q) (x:=.ret) hq eC (hg.trans B2),.pass (x:=.inLoop c) rfl (fun _ _=>.inl (by simp[X.e])) vz⟩
 intro b k cs
 obtain⟨e,a',w',hq,vz⟩:=key (μ x0) a w ⟨x0,I,β,rfl,mv,Jr⟩ b k cs
 exact⟨e,a',w',hq,.of_steps (.one step_loop) vz⟩
end
end Go.Proofs.YtlgkljpgagfndaaGreatDoor.Pw

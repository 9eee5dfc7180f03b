/- What this claim is proved with: no condition. -/
import Derived.Test.YtnbhdacpogplgaaGreatDoorPn7
import Derived.Scope
set_option linter.unusedVariables false
set_option linter.unusedSimpArgs false
namespace Go.Proofs.YtnbhdacpogplgaaGreatDoor.Pw
open Go Go.RowKit
def QJ (k:aL->Prop) (Q:X->aL->Prop) (x:X) (s:aL):Prop:=match x with
 | .lF=>k s
 | x=>Q x s
def tO (id:Nat) (Q:X->aL->Prop) (x:X) (s:aL):Prop:=match x with
 | .exit j=>bif Nat.beq j id then Q .lF s else Q (.exit j) s
 | x=>Q x s
def zd (s:aL) (c:Operand) (t e:aL->Prop):Prop:=s.ev c fun x=>match x with
 | .tt=>t s
 | .ff=>e s
 | .bool p=>(match c with
  | .tmp i=>(p->s.put (some i) .tt t)/\(¬ p->s.put (some i) .ff e)
  | _=>(p->t s)/\(¬ p->e s))
 | _=>False
def bL (R:List (Nat × aI)):Code->Bool
 | .region id ops true=>(match Ev.yq id R with
  | some p=>Region.noSelect ops && vd ops ops.toList fun T=>j3 T ops.size 0 p
  | none=>true)
 | .seq a b=>bL R a && bL R b
 | .cond _ a b=>bL R a && bL R b
 | .block _ c=>bL R c
 | .scope c=>bL R c
 | .loop c=>bL R c
 | _=>true
def pw (G:Gx) (R:List (Nat × aI)):Nat->Code->(X->aL->Prop)->aL->Prop
 | 0,_,_,_=>False
 | n+1,c,Q,s=>match c with
  | .skip|.label _=>Q .lF s
  | .ret=>Q .ret s
  | .exit id=>Q (.exit id) s
  | .seq a b=>pw G R n a (QJ (pw G R n b Q) Q) s
  | .cond c a b=>zd s c (pw G R n a Q) (pw G R n b Q)
  | .block id c=>pw G R n c (tO id Q) s
  | .scope c=>pw G R n c Q s
  | .loop c=>SW G (.loop c) Q s
  | .rangeFunc f ps a b=>SW G (.rangeFunc f ps a b) Q s
  | .region id ops draw=>(match draw with
   | true=>aP (Ev.yq id R) fun p=>bn G ops.toList p s [] (Q .lF)
   | false=>B3 G ops.toList Q ops.toList s)
  | _=>False
section
variable {w w':World} {I I':Nat->Prop} {β aG:au} {G:Gx} {s:aL} {a:Act} {st cA:List aj}
theorem df.of {Q:X->aL->Prop} {x:X} {s':aL} {w0:World} (hq:Q x s') {a':Act} (hR:Rel G I' aG s' a' w') (hg:bU I β s w0 I' aG s' w'):df G s I β w0 Q (X.e x) a' w' :=
 ⟨x,s',I',aG,rfl,hq,hR,hg.ext,hg.base,hg.rl,hg.n,hg.low⟩
theorem df.goes {Q:X->aL->Prop} {e:Exit} {a':Act} (h:df G s I β w Q e a' w'):∃ x s' I' aG,e=X.e x/\Q x s'/\Rel G I' aG s' a' w'/\bU I β s w I' aG s' w' :=
 let ⟨x,s',I',aG,he,hq,hR,h1,h2,h3,h4,h5⟩:=h; ⟨x,s',I',aG,he,hq,hR,h1,h2,h3,h4,h5⟩
theorem SW.intro {c:Code} {Q:X->aL->Prop} (h:∀ I β a w,Rel G I β s a w->c.wp G.cx.P (df G s I β w Q) a w):SW G c Q s:=by unfold SW; exact h
theorem SW.run {c:Code} {Q:X->aL->Prop} (h:SW G c Q s) (hR:Rel G I β s a w):c.wp G.cx.P (df G s I β w Q) a w:=by unfold SW at h; exact h I β a w hR
theorem SW.from {c:Code} {Q:X->aL->Prop} {s0:aL} {I0:Nat->Prop} {eQ:au} {w0:World} (h:SW G c Q s) (hR:Rel G I β s a w) (hg:bU I0 eQ s0 w0 I β s w):c.wp G.cx.P (df G s0 I0 eQ w0 Q) a w :=
 wp_mono (h.run hR) fun e a' w' hp=>by
  obtain⟨x,s',I',aG,rfl,hq,cS,ze⟩:=hp.goes
  exact df.of hq cS (hg.trans ze)
theorem Ext.kJ (hh:w'.heap=w.heap) (h1:w'.os=w.os) (h2:w'.tape=w.tape) (h3:w'.output=w.output):Ext I β st w I β st w' :=
 ⟨h1,h2,h3,by rw[hh]; exact Nat.le_refl _,fun g _ _=>by rw[hh],fun _ _ h=>h,fun _ h=>h,fun _ _ h=>.inl h⟩
theorem aB.kJ (h:aB I β st w) (hh:w'.heap=w.heap):aB I β st w' :=
 ⟨h.jE,fun l b hl ax=>(h.dX l b hl ax).mono (fun _ h=>h) (fun _ _=>by rw[hh]) (fun _ _ h=>h) fun p g o hp ha=>⟨by rw[hh],fun hr=>by
  obtain⟨_,_,fr,_,ho⟩:=(h.dX l b hl ax).place hp ha
  exact⟨(ho.1 hr).2.1,(ho.1 hr).2.2⟩⟩⟩
theorem tP (s:aL):s.store s.st=s:=by cases s; rfl
theorem Rel.kJ (hR:Rel G I β s a w) (hh:w'.heap=w.heap) (h1:w'.os=w.os) (h2:w'.tape=w.tape) (h3:w'.output=w.output):Rel G I β s a w':=by
 have:=hR.grow (hR.heap.kJ hh) (Ext.kJ hh h1 h2 h3) (fun _ _ h=>h) (Nat.le_refl _) (fun g hg=>by rw[hh]; exact hR.av.av g hg)
 rwa [tP] at this
theorem zf {c:Operand} {t e:aL->Prop} (hR:Rel G I β s a w) (h:zd s c t e):∃ b s',a.eval c = .bool b/\(if b then t s' else e s')/\fm s s'/\Rel G I β s' a w:=by
 have same:fm s s:=⟨rfl,rfl,rfl,rfl⟩
 unfold zd at h
 cases c with
 | tmp i =>
  replace h:=an h
  obtain⟨x,hx,h⟩:=h
  obtain⟨v,hv,hi⟩:=hR.get i x hx
  have he:a.eval (.tmp i)=v:=by simp only[Act.eval,Array.getD_eq_getD_getElem?,hv,Option.getD_some]
  rw[he]
  split at h<;>try simp only[PV.Is] at hi
  ·exact⟨true,s,hi,h,same,hR⟩
  ·exact⟨false,s,hi,h,same,hR⟩
  ·rename_i p
   by_cases hp:p
   ·obtain⟨s',hk,hs,hr⟩:=aL.iw hR hv (x:=.tt) (by rw[hi,bo hp]; exact Is.tt) (h.1 hp)
    exact⟨true,s',by rw[hi,bo hp],hk,hs,hr⟩
   ·obtain⟨s',hk,hs,hr⟩:=aL.iw hR hv (x:=.ff) (by rw[hi,bg hp]; exact Is.ff) (h.2 hp)
    exact⟨false,s',by rw[hi,bg hp],hk,hs,hr⟩
  ·exact h.elim
 | _ =>
  replace h:=aL.bw hR h
  obtain⟨x,h,hx⟩:=h
  split at h<;>try simp only[PV.Is] at hx
  ·exact⟨true,s,hx,h,same,hR⟩
  ·exact⟨false,s,hx,h,same,hR⟩
  ·rename_i p
   by_cases hp:p
   ·exact⟨true,s,by rw[hx,bo hp],h.1 hp,same,hR⟩
   ·exact⟨false,s,by rw[hx,bg hp],h.2 hp,same,hR⟩
  ·exact h.elim
theorem iU (hG:lX G) {R:List (Nat × aI)}:∀ (n:Nat) (c:Code) (Q:X->aL->Prop) (s:aL),bL R c=true->pw G R n c Q s->SW G c Q s
 | 0,_,_,_,_,h=>h.elim
 | n+1,c,Q,s,hc,h=>by
  cases c with
  | skip=>exact SW.intro fun I β a w hR=>wp_skip (df.of (x:=.lF) h hR (bU.same ⟨rfl,rfl,rfl,rfl⟩))
  | label l=>exact SW.intro fun I β a w hR=>wp_label (df.of (x:=.lF) h hR (bU.same ⟨rfl,rfl,rfl,rfl⟩))
  | ret=>exact SW.intro fun I β a w hR=>wp_ret (df.of (x:=.ret) h hR (bU.same ⟨rfl,rfl,rfl,rfl⟩))
  | exit id=>exact SW.intro fun I β a w hR=>wp_exit (df.of (x:=.exit id) h hR (bU.same ⟨rfl,rfl,rfl,rfl⟩))
  | seq x y =>
   simp only[bL,Bool.and_eq_true] at hc
   have h1:=iU hG n x _ s hc.1 h
   refine SW.intro fun I β a w hR=>wp_seq (wp_mono (h1.run hR) fun e a' w' hp=>?_)
   obtain⟨x',s',I',aG,rfl,hq,cS,hg⟩:=hp.goes
   cases x' with
   | lF=>exact (iU hG n y Q s' hc.2 hq).from cS hg
   | exit id=>exact df.of (Q:=Q) (x:=.exit id) hq cS hg
   | ret=>exact df.of (Q:=Q) (x:=.ret) hq cS hg
  | cond c x y =>
   simp only[bL,Bool.and_eq_true] at hc
   refine SW.intro fun I β a w hR=>?_
   obtain⟨b,s',he,hk,hs,cS⟩:=zf hR h
   refine wp_cond he ?_
   cases b with
   | true=>exact (iU hG n x Q s' hc.1 hk).from cS (bU.same hs)
   | false=>exact (iU hG n y Q s' hc.2 hk).from cS (bU.same hs)
  | block id c =>
   have h1:=iU hG n c _ s hc h
   refine SW.intro fun I β a w hR=>wp_block (wp_mono (h1.run hR) fun e a' w' hp=>?_)
   obtain⟨x',s',I',aG,rfl,hq,cS,hg⟩:=hp.goes
   cases x' with
   | lF=>exact df.of (Q:=Q) (x:=.lF) hq cS hg
   | exit j =>
    show Exit.inBlock id _ (.exit j) a' w'
    simp only[Exit.inBlock]
    by_cases hj:j=id
    ·subst hj
     rw[if_pos rfl]
     have Cg:Q .lF s':=by simpa [tO,Nat.beq_refl] using hq
     exact df.of (x:=.lF) Cg cS hg
    ·have bV:Nat.beq j id=false:=by rw[Bool.eq_false_iff]; exact fun e=>hj (Nat.eq_of_beq_eq_true e)
     rw[if_neg hj]
     have Cg:Q (.exit j) s':=by simpa [tO,bV] using hq
     exact df.of (x:=.exit j) Cg cS hg
   | ret=>exact df.of (Q:=Q) (x:=.ret) hq cS hg
  | scope c =>
   have h1:=iU hG n c _ s hc h
   refine SW.intro fun I β a w hR=>wp_scope_straight (wp_mono (h1.run hR) fun e a' w' hp=>?_)
   obtain⟨x',s',I',aG,rfl,hq,cS,hg⟩:=hp.goes
   cases x' with
   | lF=>exact df.of (Q:=Q) (x:=.lF) hq cS hg
   | exit j=>exact df.of (Q:=Q) (x:=.exit j) hq cS hg
   | ret=>exact df.of (Q:=Q) (x:=.ret) hq cS hg
  | loop c=>exact h
  | rangeFunc f ps a b=>exact h
  | region id ops draw =>
   refine SW.intro fun I β a w hR=>?_
   cases draw with
   | true =>
    obtain⟨p,hp,h⟩:=an h
    unfold bL at hc
    rw[hp] at hc
    simp only[Bool.and_eq_true,ri] at hc
    have cS:Rel G I β s a { w with drawn:=w.drawn+1 }:=hR.kJ rfl rfl rfl rfl
    have hd:bU I β s w I β s { w with drawn:=w.drawn+1 }:=⟨Ext.kJ rfl rfl rfl rfl,rfl,rfl,rfl,fun _ _ _=>rfl⟩
    have hA:=tL hG hc.1 ops.size p (df G s I β w Q) _ s a I β _ [] [] _ (g_ _ _ _ _ (Mk.none ops) hc.2) h cS (fun y hy=>by cases hy) fun s' I' aG a' w' hk kF hg=>df.of (Q:=Q) (x:=.lF) hk kF (hd.trans hg)
    exact wp_region_any hG.ok.mix (cj.sound _ _ _ _ _ _ hA rfl)
   | false=>exact wp_region_list (pN hG _ h hR fun x s' I' aG a' w' hq cS hg=>df.of hq cS hg)
  | _=>exact h.elim
def mJ (k:aL->Prop) (Q:X->aL->Prop) (x:X) (s:aL):Prop:=match x with
 | .lF=>k s
 | x=>Q x s
def QK (G:Gx) (R:List (Nat × aI)) (N:Nat) (c:Code) (Q:X->aL->Prop):Nat->aL->Prop
 | 0,_=>False
 | n+1,s=>pw G R N c (mJ (QK G R N c Q n) Q) s
theorem SW.rounds (hG:lX G) (R:List (Nat × aI)) {N:Nat} {c:Code} {Q:X->aL->Prop} (hc:bL R c=true) (n:Nat) (h:QK G R N c Q n s):SW G (.loop c) Q s:=by
 have key:∀ (n:Nat) (s0 s:aL) (I0 I:Nat->Prop) (eQ β:au) (w0 w:World) (a:Act),QK G R N c Q n s->Rel G I β s a w->bU I0 eQ s0 w0 I β s w->Code.rounds G.cx.P c (df G s0 I0 eQ w0 Q) n a w:=by
  intro n
  induction n with
  | zero=>intro s0 s I0 I eQ β w0 w a h _ _; exact h.elim
  | succ n ih =>
   intro s0 s I0 I eQ β w0 w a h hR hg
   rw[rounds_succ]
   refine wp_mono ((iU hG N c _ s hc h).run hR) fun e a' w' hp=>?_
   obtain⟨x',s',I',aG,rfl,hq,cS,ze⟩:=hp.goes
   cases x' with
   | lF=>exact ih s0 s' I0 I' eQ aG w0 w' a' hq cS (hg.trans ze)
   | exit id=>exact df.of (Q:=Q) (x:=.exit id) hq cS (hg.trans ze)
   | ret=>exact df.of (Q:=Q) (x:=.ret) hq cS (hg.trans ze)
 exact SW.intro fun I β a w hR=>wp_loop_rounds n (key n s s I I β β w w a h hR (bU.same ⟨rfl,rfl,rfl,rfl⟩))
theorem Sub.refl:Sub G s s:=fun I β _ _ hR=>⟨I,β,hR,bU.same ⟨rfl,rfl,rfl,rfl⟩⟩
theorem SW.inv (hG:lX G) {R:List (Nat × aI)} {α:Type} (inv:α->aL) (μ:α->Nat) {N:Nat} {c:Code} {Q:X->aL->Prop} (hc:bL R c=true) (x0:α) (h0:Sub G s (inv x0)) (K:α->aL->Prop) (hK:∀ x s',K x s'->∃ y,μ y < μ x/\Sub G s' (inv y))
  (h:∀ x,pw G R N c (mJ (K x) Q) (inv x)):SW G (.loop c) Q s:=by
 refine SW.intro fun I0 eQ a w hR=>?_
 obtain⟨I,β,kp,Ew⟩:=h0 I0 eQ a w hR
 let J:Nat->Act->World->Prop:=fun m a w'=>∃ x I β,μ x=m/\Rel G I β (inv x) a w'/\bU I0 eQ s w I β (inv x) w'
 have key:∀ (m:Nat) (a:Act) (w':World),J m a w'->∀ (b:Frame) (k:List Item) (cs:List Frame),∃ e a' uX,df G s I0 eQ w Q e a' uX/\Arrives G.cx.P (lone (b.at a (.code c::.inLoop c::k)) cs w') b k cs e a' uX:=by
  intro m
  induction m using Nat.strongRecOn with
  | _ m ih =>
   rintro a w' ⟨x,I,β,hx,hR,hg⟩ b k cs
   obtain⟨e,Cq,Cr,hp,tx⟩:=(iU hG N c _ _ hc (h x)).run hR b (.inLoop c::k) cs
   obtain⟨x',s',I',aG,rfl,hq,cS,ze⟩:=hp.goes
   cases x' with
   | lF =>
    obtain⟨y,hy,hs⟩:=hK x s' hq
    obtain⟨I2,fQ,kF,Cm⟩:=hs I' aG Cq Cr cS
    obtain⟨QL,QM,QN,Mn,Cs⟩:=ih (μ y) (by omega) Cq Cr ⟨y,I2,fQ,rfl,kF,(hg.trans ze).trans Cm⟩ b k cs
    exact⟨QL,QM,QN,Mn,.of_steps (Steps.trans tx (.one step_inLoop)) Cs⟩
   | exit id=>exact⟨_,Cq,Cr,df.of (Q:=Q) (x:=.exit id) hq cS (hg.trans ze),.pass (x:=.inLoop c) rfl (fun _ _=>.inl (by simp[X.e])) tx⟩
   | ret=>exact⟨_,Cq,Cr,df.of (Q:=Q) (x:=.ret) hq cS (hg.trans ze),.pass (x:=.inLoop c) rfl (fun _ _=>.inl (by simp[X.e])) tx⟩
 intro b k cs
 obtain⟨e,a',w',hq,tx⟩:=key (μ x0) a w ⟨x0,I,β,rfl,kp,Ew⟩ b k cs
 exact⟨e,a',w',hq,.of_steps (.one step_loop) tx⟩
end
def pQ (x y:PV):Prop:=match x,y with
 | .lit k a,.lit l b=>if decide (k=l) then a=b else False
 | .lit k a,.int l b=>if decide (k=l) then a=b else False
 | .int k a,.lit l b=>if decide (k=l) then a=b else False
 | .int k a,.int l b=>if decide (k=l) then a=b else False
 | .tt,.tt=>True|.ff,.ff=>True
 | .tt,.bool p=>p|.ff,.bool p=>¬ p
 | .bool p,.tt=>p|.bool p,.ff=>¬ p
 | .bool p,.bool q=>p↔q
 | .val v,.val u=>v=u
 | .nil,.nil=>True
 | .nil,.sl _ es=>es = []
 | .sl n es,.sl m fs=>if Nat.beq n m then es=fs else False
 | .wref l,.wref m=>if Nat.beq l m then True else False
 | .mref l,.mref m=>if Nat.beq l m then True else False
 | .ref l o n,.ref l' o' n'=>if Nat.beq l l' && Nat.beq o o' && Nat.beq n n' then True else False
 | .ptr l o,.ptr l' o'=>if Nat.beq l l' && Nat.beq o o' then True else False
 | .pti l o i n,.pti l' o' i' n'=>if Nat.beq l l' && Nat.beq o o' && Nat.beq n n' then i=i' else False
 | .dpt l i n o,.dpt l' i' n' o'=>if Nat.beq l l' && Nat.beq o o' && Nat.beq n n' then i=i' else False
 | .ep cs o,.ep ds o'=>if Nat.beq o o' then cs=ds else False
 | .gp g o,.gp g' o'=>if Nat.beq g g' && Nat.beq o o' then True else False
 | .gpi g o i n,.gpi g' o' i' n'=>if Nat.beq g g' && Nat.beq o o' && Nat.beq n n' then i=i' else False
 | _,_=>False
def iC (r:PV->PV->Prop):List PV->List PV->Prop
 | [],[]=>True
 | x::xs,y::ys=>r x y/\iC r xs ys
 | _,_=>False
def Po (x y:PV):Prop:=match x,y with
 | .agg cs,.agg ds=>iC pQ cs ds
 | .clo f cs,.clo g ds=>if Nat.beq f g then iC pQ cs ds else False
 | x,y=>pQ x y
def kq (x y:PV):Prop:=match x,y with
 | .tup cs,.tup ds=>iC Po cs ds
 | x,y=>Po x y
def oH (x y:PV):Prop:=∀ w I β v,x.Is w I β v->y.Is w I β v
theorem oH.refl (x:PV):oH x x:=fun _ _ _ _ h=>h
section
variable {w w':World} {I I':Nat->Prop} {β aG:au} {G:Gx} {s:aL} {a:Act} {st cA:List aj}
theorem fq {c p:Prop} [Decidable c] (h:if c then p else False):c/\p:=by
 split at h
 ·exact⟨‹_›,h⟩
 ·exact h.elim
theorem kK {x y:PV} (h:pQ x y):oH x y:=by
 intro w I β v hx
 unfold pQ at h
 split at h<;>first|exact h.elim|(simp only[PV.Is] at hx ⊢)
 ·obtain⟨hk,h⟩:=fq h; rw[hx,of_decide_eq_true hk,h]
 ·obtain⟨hk,h⟩:=fq h; rw[hx,of_decide_eq_true hk,h]
 ·obtain⟨hk,h⟩:=fq h; rw[hx,of_decide_eq_true hk,h]
 ·obtain⟨hk,h⟩:=fq h; rw[hx,of_decide_eq_true hk,h]
 ·exact hx
 ·exact hx
 ·rw[hx,bo h]
 ·rw[hx,bg h]
 ·rw[hx,bo h]
 ·rw[hx,bg h]
 ·rw[hx,show pb _=pb _ from congrArg pb (propext h)]
 ·rw[← h]; exact hx
 ·exact hx
 ·subst h; exact⟨none,0,hx,Nat.le_refl _,Nat.zero_le _,(fun _ _ e=>by cases e),fun hn=>absurd rfl hn⟩
 ·obtain⟨hb,h⟩:=fq h; rw[← h,← Nat.eq_of_beq_eq_true hb]; exact hx
 ·obtain⟨hb,h⟩:=fq h; rw[← Nat.eq_of_beq_eq_true hb]; exact hx
 ·obtain⟨hb,h⟩:=fq h; rw[← Nat.eq_of_beq_eq_true hb]; exact hx
 ·obtain⟨hb,h⟩:=fq h
  simp only[Bool.and_eq_true] at hb
  rw[← Nat.eq_of_beq_eq_true hb.1.1,← Nat.eq_of_beq_eq_true hb.1.2,← Nat.eq_of_beq_eq_true hb.2]; exact hx
 ·obtain⟨hb,h⟩:=fq h
  simp only[Bool.and_eq_true] at hb
  rw[← Nat.eq_of_beq_eq_true hb.1,← Nat.eq_of_beq_eq_true hb.2]; exact hx
 ·obtain⟨hb,h⟩:=fq h
  simp only[Bool.and_eq_true] at hb
  rw[← Nat.eq_of_beq_eq_true hb.1.1,← Nat.eq_of_beq_eq_true hb.1.2,← Nat.eq_of_beq_eq_true hb.2,← h]; exact hx
 ·obtain⟨hb,h⟩:=fq h
  simp only[Bool.and_eq_true] at hb
  rw[← Nat.eq_of_beq_eq_true hb.1.1,← Nat.eq_of_beq_eq_true hb.1.2,← Nat.eq_of_beq_eq_true hb.2,← h]; exact hx
 ·obtain⟨hb,h⟩:=fq h; rw[← Nat.eq_of_beq_eq_true hb,← h]; exact hx
 ·obtain⟨hb,h⟩:=fq h
  simp only[Bool.and_eq_true] at hb
  rw[← Nat.eq_of_beq_eq_true hb.1,← Nat.eq_of_beq_eq_true hb.2]; exact hx
 ·obtain⟨hb,h⟩:=fq h
  simp only[Bool.and_eq_true] at hb
  rw[← Nat.eq_of_beq_eq_true hb.1.1,← Nat.eq_of_beq_eq_true hb.1.2,← Nat.eq_of_beq_eq_true hb.2,← h]; exact hx
theorem eR {r:PV->PV->Prop} (hr:∀ x y,r x y->oH x y):∀ {xs ys:List PV} {vs:List Value},iC r xs ys->aU w I xs β vs->aU w I ys β vs
 | [],[],_,_,h=>h
 | x::xs,y::ys,v::vs,h,hx=>by
  simp only[aU] at hx ⊢
  exact⟨hr x y h.1 w I β v hx.1,eR hr h.2 hx.2⟩
 | x::xs,y::ys,[],h,hx=>by simp only[aU] at hx
 | [],_::_,_,h,_=>h.elim
 | _::_,[],_,h,_=>h.elim
theorem zg {x y:PV} (h:Po x y):oH x y:=by
 unfold Po at h
 split at h
 ·intro w I β v hx
  simp only[PV.Is] at hx ⊢
  obtain⟨vs,rfl,hx⟩:=hx
  exact⟨vs,rfl,eR (fun _ _=>kK) h hx⟩
 ·intro w I β v hx
  split at h
  ·rename_i hb
   simp only[PV.Is] at hx ⊢
   obtain⟨vs,rfl,hx⟩:=hx
   exact⟨vs,by rw[Nat.eq_of_beq_eq_true hb],eR (fun _ _=>kK) h hx⟩
  ·exact h.elim
 ·exact kK h
theorem cX {x y:PV} (h:kq x y):oH x y:=by
 unfold kq at h
 split at h
 ·intro w I β v hx
  simp only[PV.Is] at hx ⊢
  obtain⟨vs,rfl,hx⟩:=hx
  exact⟨vs,rfl,eR (fun _ _=>zg) h hx⟩
 ·exact zg h
abbrev dN:=List (Option Nat)
def PV.rz (π:dN) (x:PV):Option PV:=match x with
 | .wref l=>(match π[l]? with
  | some (some m)=>some (.wref m)
  | some none=>some .nil
  | none=>none)
 | .mref l=>(match π[l]? with
  | some (some m)=>some (.mref m)
  | _=>none)
 | .ref l o n=>(match π[l]? with
  | some (some m)=>some (.ref m o n)
  | _=>none)
 | .ptr l o=>(match π[l]? with
  | some (some m)=>some (.ptr m o)
  | _=>none)
 | .pti l o i n=>(match π[l]? with
  | some (some m)=>some (.pti m o i n)
  | _=>none)
 | .dpt l i n o=>(match π[l]? with
  | some (some m)=>some (.dpt m i n o)
  | _=>none)
 | .agg _|.tup _|.clo ..=>none
 | x=>some x
def dE (π:dN):List PV->Option (List PV)
 | []=>some []
 | c::cs=>(match c.rz π,dE π cs with
  | some x,some l=>some (x::l)
  | _,_=>none)
def PV.BM (π:dN) (x:PV):Option PV:=match x with
 | .agg cs=>(dE π cs).map .agg
 | .clo f cs=>(dE π cs).map (.clo f)
 | .tup _=>none
 | x=>x.rz π
def eS (β:au) (π:dN):au:=fun l=>match π[l]? with
 | some (some m)=>β m
 | some none=>some ⟨none,0,0⟩
 | none=>none
theorem bs {π:dN} {l m:Nat} (h:π[l]?=some (some m)):eS β π l=β m:=by unfold eS; rw[h]
theorem fS {π:dN} {l:Nat} (h:π[l]?=some none):eS β π l=some ⟨none,0,0⟩:=by unfold eS; rw[h]
theorem l5 {π:dN} {x y:PV} {v:Value} (h:x.rz π=some y) (hy:y.Is w I β v):x.Is w I (eS β π) v:=by
 unfold PV.rz at h
 split at h
 ·split at h
  ·rename_i m hm
   cases h
   simp only[PV.Is] at hy ⊢
   rw[bs hm]; exact hy
  ·rename_i hm
   cases h
   simp only[PV.Is] at hy ⊢
   exact⟨_,fS hm,hy⟩
  ·cases h
 ·split at h
  ·rename_i m hm
   cases h
   simp only[PV.Is] at hy ⊢
   rw[bs hm]; exact hy
  ·cases h
 ·split at h
  ·rename_i m hm
   cases h
   simp only[PV.Is] at hy ⊢
   rw[bs hm]; exact hy
  ·cases h
 ·split at h
  ·rename_i m hm
   cases h
   simp only[PV.Is] at hy ⊢
   rw[bs hm]; exact hy
  ·cases h
 ·split at h
  ·rename_i m hm
   cases h
   simp only[PV.Is] at hy ⊢
   rw[bs hm]; exact hy
  ·cases h
 ·split at h
  ·rename_i m hm
   cases h
   simp only[PV.Is] at hy ⊢
   rw[bs hm]; exact hy
  ·cases h
 ·cases h
 ·cases h
 ·cases h
 ·cases h
  refine PV.Is.mono (fun _ h=>h) (fun _ _=>rfl) x β _ v (fun l p hl=>?_) hy
  cases x<;>first|(simp_all [PV.bW]; done)|(rename_i a1 a2 a3 a4 a5 a6 a7 a8 a9; first|exact (a4 _ _ _ _ rfl).elim|exact (a5 _ _ _ _ rfl).elim|exact (a6 _ _ _ _ rfl).elim)
theorem pR {π:dN}:∀ {xs ys:List PV} {vs:List Value},dE π xs=some ys->aU w I ys β vs->aU w I xs (eS β π) vs
 | [],ys,vs,h,hy=>by
  simp only[dE,Option.some.injEq] at h
  subst h
  cases vs with
  | nil=>simp only[aU]
  | cons v vs=>simp only[aU] at hy
 | x::xs,ys,vs,h,hy=>by
  simp only[dE] at h
  split at h
  ·rename_i y l h1 h2
   cases h
   cases vs with
   | nil=>simp only[aU] at hy
   | cons v vs =>
    simp only[aU] at hy ⊢
    exact⟨l5 h1 hy.1,pR h2 hy.2⟩
  ·cases h
theorem zh {π:dN} {x y:PV} {v:Value} (h:x.BM π=some y) (hy:y.Is w I β v):x.Is w I (eS β π) v:=by
 unfold PV.BM at h
 split at h
 ·rw[Option.map_eq_some_iff] at h
  obtain⟨l,hl,rfl⟩:=h
  simp only[PV.Is] at hy ⊢
  obtain⟨vs,rfl,hy⟩:=hy
  exact⟨vs,rfl,pR hl hy⟩
 ·rw[Option.map_eq_some_iff] at h
  obtain⟨l,hl,rfl⟩:=h
  simp only[PV.Is] at hy ⊢
  obtain⟨vs,rfl,hy⟩:=hy
  exact⟨vs,rfl,pR hl hy⟩
 ·cases h
 ·exact l5 h hy
def TM.kq (π:dN):TM->TM->Prop
 | _,.nil=>True
 | .nil,.node v l r=>(match v with
  | none=>True
  | some _=>False)/\TM.kq π .nil l/\TM.kq π .nil r
 | .node v l r,.node v' l' r'=>(match v' with
  | none=>True
  | some y=>aP v fun x=>aP (y.BM π) fun y=>Pw.kq x y)/\TM.kq π l l'/\TM.kq π r r'
def Md.beq:Md->Md->Bool
 | .w,.w=>true|.p,.p=>true|.r,.r=>true
 | _,_=>false
def BK.beq:BK->BK->Bool
 | .loc,.loc=>true|.arr,.arr=>true|.dyn,.dyn=>true|.mp,.mp=>true
 | _,_=>false
def Mo (cx:Ev.Cx) (π:dN) (b b':aj):Prop:=bif Nat.beq b.ty b'.ty && Nat.beq b.size b'.size && Md.beq b.m b'.m && b.live then (match b.k,b'.k with
 | .loc,.loc=>aP (dE π b'.cs) fun cs=>iC pQ b.cs cs
 | .arr,.arr=>aP (dE π b'.cs) fun cs=>iC pQ b.cs cs
 | .dyn,.dyn=>b.cs=b'.cs
 | .mp,.mp=>b.cs=b'.cs
 | .arr,.dyn=>aP (Ev.dv cx b.ty) fun ag=>bif ag || Nat.beq b.size 1 then b.Pe fun n=>aP (dc ag n (.stat b.cs)) fun es=>es=b'.cs else False
 | _,_=>False) else False
def Pp (cx:Ev.Cx) (π:dN) (st:List aj):List aj->dN->Prop
 | [],[]=>True
 | b'::r,some m::QO=>(match b'.live with
  | true=>aP st[m]? fun b=>Mo cx π b b'
  | false=>True)/\Pp cx π st r QO
 | b'::r,none::QO=>(match b'.k,b'.cs with
  | .dyn,[]=>bif Nat.blt 0 b'.size then True else False
  | _,_=>False)/\Pp cx π st r QO
 | _,_=>False
def mK:dN->Bool
 | []=>true
 | none::π=>mK π
 | some m::π=>!(π.any fun x=>match x with
  | some k=>Nat.beq m k
  | none=>false) && mK π
def j5 (rl:List Nat):Nat->Nat->dN->Bool
 | 0,_,_=>true
 | n+1,l,some m::π=>(Nat.beq l m || gg l rl) && j5 rl n (l+1) π
 | n+1,l,none::π=>gg l rl && j5 rl n (l+1) π
 | _+1,_,[]=>false
def gG (cx:Ev.Cx) (π:dN) (s s':aL):Prop :=
 s'.n=s.n/\s'.base=s.base/\s'.rl=s.rl/\(bif mK π && j5 s.rl s.base 0 π then True else False)/\Pp cx π s.st s'.st π/\TM.kq π s.t s'.t
theorem TM.cX {π:dN}:∀ {t t':TM} {n:Nat} {y:PV},TM.kq π t t'->t'.get n=some y->∃ x z,t.get n=some x/\y.BM π=some z/\Pw.kq x z
 | _,.nil,n,y,_,hy=>by cases hy
 | .nil,.node v l r,n,y,h,hy=>by
  exfalso
  have key:∀ (t':TM),TM.kq π .nil t'->∀ n y,t'.get n=some y->False:=by
   intro t'
   induction t' with
   | nil=>intro _ n y hy; cases hy
   | node v l r UT UU =>
    intro h n y hy
    obtain⟨h1,h2,h3⟩:=h
    cases v with
    | some _=>exact h1.elim
    | none =>
     simp only[TM.get] at hy
     cases h0:Nat.beq n 0<;>rw[h0] at hy
     ·cases h1:Nat.beq (n % 2) 1<;>rw[h1] at hy
      ·exact UU h3 _ _ hy
      ·exact UT h2 _ _ hy
     ·cases hy
  exact key _ h n y hy
 | .node v l r,.node v' l' r',n,y,h,hy=>by
  obtain⟨h1,h2,h3⟩:=h
  simp only[TM.get] at hy ⊢
  cases h0:Nat.beq n 0<;>rw[h0] at hy
  ·cases hp:Nat.beq (n % 2) 1<;>rw[hp] at hy
   ·exact TM.cX h3 hy
   ·exact TM.cX h2 hy
  ·cases v' with
   | none=>cases hy
   | some y' =>
    cases hy
    obtain⟨x,hx,h1⟩:=an h1
    obtain⟨z,hz,h1⟩:=an h1
    exact⟨x,z,hx,hz,h1⟩
theorem Md.jr {m n:Md} (h:Md.beq m n=true):m=n:=by cases m<;>cases n<;>first|rfl|cases h
theorem tQ {cx:Ev.Cx} {EH:dN} {st:List aj}:∀ {cA:List aj} {π:dN},Pp cx EH st cA π->π.length=cA.length/\∀ (l:Nat) (b':aj),cA[l]?=some b'->b'.live=true->(∃ (m:Nat) (b:aj),π[l]?=some (some m)/\st[m]?=some b/\Mo cx EH b b')\/(π[l]?=some none/\b'.k = .dyn/\b'.cs = []/\0 < b'.size)
 | [],[],_=>⟨rfl,fun l b' hl=>by simp at hl⟩
 | b0::r,some m::π,h=>by
  obtain⟨h1,h2⟩:=h
  obtain⟨BC,BR⟩:=tQ h2
  refine⟨by simp[BC],fun l b' hl ax=>?_⟩
  cases l with
  | zero =>
   simp at hl; subst hl
   rw[ax] at h1
   obtain⟨b,hb,h1⟩:=an h1
   exact .inl ⟨m,b,rfl,hb,h1⟩
  | succ l=>simpa using BR l b' (by simpa using hl) ax
 | b0::r,none::π,h=>by
  obtain⟨h1,h2⟩:=h
  obtain⟨BC,BR⟩:=tQ h2
  refine⟨by simp[BC],fun l b' hl ax=>?_⟩
  cases l with
  | zero =>
   simp at hl; subst hl
   split at h1
   ·rename_i hk hc
    obtain⟨hb,_⟩:=aK h1
    exact .inr ⟨rfl,hk,hc,Nat.le_of_ble_eq_true hb⟩
   ·exact h1.elim
  | succ l=>simpa using BR l b' (by simpa using hl) ax
 | [],_::_,h=>h.elim
 | _::_,[],h=>h.elim
theorem kL:∀ {π:dN},mK π=true->∀ (l l' m:Nat),π[l]?=some (some m)->π[l']?=some (some m)->l=l'
 | [],_,l,_,_,h,_=>by simp at h
 | none::π,hn,l,l',m,h,h'=>by
  cases l with
  | zero=>simp at h
  | succ l=>cases l' with
   | zero=>simp at h'
   | succ l'=>rw[kL (π:=π) hn l l' m (by simpa using h) (by simpa using h')]
 | some k::π,hn,l,l',m,h,h'=>by
  simp only[mK,Bool.and_eq_true,Bool.not_eq_true',List.any_eq_false] at hn
  have no:∀ l,π[l]?=some (some k)->False:=fun l hl=>by
   have:=hn.1 _ (List.mem_of_getElem? hl)
   simp at this
  cases l with
  | zero =>
   simp at h; subst h
   cases l' with
   | zero=>rfl
   | succ l'=>exact (no l' (by simpa using h')).elim
  | succ l =>
   cases l' with
   | zero=>simp at h'; subst h'; exact (no l (by simpa using h)).elim
   | succ l'=>rw[kL (π:=π) hn.2 l l' m (by simpa using h) (by simpa using h')]
theorem kM {rl:List Nat}:∀ {n l:Nat} {π:dN},j5 rl n l π=true->n<=π.length
 | 0,_,_,_=>Nat.zero_le _
 | n+1,l,some m::π,h=>by
  simp only[j5,Bool.and_eq_true] at h
  simpa using kM h.2
 | n+1,l,none::π,h=>by
  simp only[j5,Bool.and_eq_true] at h
  simpa using kM h.2
 | _+1,_,[],h=>by cases h
theorem mL {rl:List Nat}:∀ {n l:Nat} {π:dN},j5 rl n l π=true->∀ i,i < n->(π[i]?=some (some (l+i))\/(l+i)∈rl)
 | 0,_,_,_,i,hi=>by omega
 | n+1,l,some m::π,h,i,hi=>by
  simp only[j5,Bool.and_eq_true,Bool.or_eq_true] at h
  cases i with
  | zero=>exact h.1.imp (fun e=>by rw[← Nat.eq_of_beq_eq_true e]; rfl) ck.1
  | succ i =>
   have:=mL h.2 i (by omega)
   rw[show l+1+i=l+(i+1) by omega] at this
   simpa using this
 | n+1,l,none::π,h,i,hi=>by
  simp only[j5,Bool.and_eq_true] at h
  cases i with
  | zero=>exact .inr (ck.1 h.1)
  | succ i =>
   have:=mL h.2 i (by omega)
   rw[show l+1+i=l+(i+1) by omega] at this
   simpa using this
 | _+1,_,[],h,_,_=>by cases h
end
section
variable {w w':World} {I I':Nat->Prop} {β aG:au} {G:Gx} {s:aL} {a:Act} {st cA:List aj}
theorem eG {cs ds:List PV} {arr:Array Value} {o:Nat} (h:iC pQ cs ds) (hc:aO w I β cs arr o):aO w I β ds arr o:=by
 have key:∀ (cs ds:List PV) (o:Nat),iC pQ cs ds->aO w I β cs arr o->aO w I β ds arr o:=by
  intro cs
  induction cs with
  | nil=>intro ds o h hc; cases ds with
   | nil=>exact hc
   | cons _ _=>exact h.elim
  | cons c cs ih =>
   intro ds o h hc
   cases ds with
   | nil=>exact h.elim
   | cons d ds =>
    intro i x hx
    cases i with
    | zero =>
     simp at hx; subst hx
     obtain⟨v,hv,hi,h1⟩:=hc 0 c rfl
     exact⟨v,hv,kK h.1 w I β v hi,h1⟩
    | succ i =>
     have:=ih ds (o+1) h.2 (fun j y hy=>by
      obtain⟨v,hv,h1⟩:=hc (j+1) y (by simpa using hy)
      exact⟨v,by rw[show o+1+j=o+(j+1) by omega]; exact hv,h1⟩) i x (by simpa using hx)
     obtain⟨v,hv,h1⟩:=this
     exact⟨v,by rw[show o+(i+1)=o+1+i by omega]; exact hv,h1⟩
 exact key cs ds o h hc
theorem mM {π:dN} {cs ds:List PV} {arr:Array Value} {o:Nat} (h:dE π ds=some cs) (hc:aO w I β cs arr o):aO w I (eS β π) ds arr o:=by
 have key:∀ (ds cs:List PV) (o:Nat),dE π ds=some cs->aO w I β cs arr o->aO w I (eS β π) ds arr o:=by
  intro ds
  induction ds with
  | nil=>intro cs o _ _ i c hc; simp at hc
  | cons d ds ih =>
   intro cs o h hc
   simp only[dE] at h
   split at h
   ·rename_i y l h1 h2
    cases h
    intro i x hx
    cases i with
    | zero =>
     simp at hx; subst hx
     obtain⟨v,hv,hi,h3⟩:=hc 0 y rfl
     exact⟨v,hv,l5 h1 hi,h3⟩
    | succ i =>
     have:=ih l (o+1) h2 (fun j y hy=>by
      obtain⟨v,hv,h1⟩:=hc (j+1) y (by simpa using hy)
      exact⟨v,by rw[show o+1+j=o+(j+1) by omega]; exact hv,h1⟩) i x (by simpa using hx)
     obtain⟨v,hv,h1⟩:=this
     exact⟨v,by rw[show o+(i+1)=o+1+i by omega]; exact hv,h1⟩
   ·cases h
 exact key ds cs o h hc
theorem iD {r:PV->PV->Prop}:∀ {cs ds:List PV},iC r cs ds->cs.length=ds.length
 | [],[],_=>rfl
 | _::_,_::_,h=>by simp[iD h.2]
 | [],_::_,h=>h.elim
 | _::_,[],h=>h.elim
theorem rB {π:dN}:∀ {ds cs:List PV},dE π ds=some cs->ds.length=cs.length
 | [],cs,h=>by simp only[dE,Option.some.injEq] at h; subst h; rfl
 | d::ds,cs,h=>by
  simp only[dE] at h
  split at h
  ·rename_i y l h1 h2
   cases h; simp[rB h2]
  ·cases h
theorem dd (hO:Ev.dw G.cx) {π:dN} {s s':aL} (h:gG G.cx π s s'):Sub G s s':=by
 obtain⟨hn,iV,Ey,FU,x9,ht⟩:=h
 obtain⟨FU,_⟩:=aK FU
 simp only[Bool.and_eq_true] at FU
 obtain⟨FU,Ct⟩:=FU
 obtain⟨QP,jO⟩:=tQ x9
 have QQ:=kL FU
 have UW:=kM Ct
 have Ct:=mL Ct
 intro I β a w hR
 have hH:aB I (eS β π) s'.st w:=by
  refine⟨fun l hl=>by unfold eS; rw[List.getElem?_eq_none (by omega)],fun l b' hl ax=>?_⟩
  rcases jO l b' hl ax with ⟨m,b,BN,hb,hk⟩|⟨BN,hk,hc,dK⟩
  ·obtain⟨hc,hk⟩:=aK hk
   simp only[Bool.and_eq_true] at hc
   obtain⟨⟨⟨y3,dK⟩,hm⟩,zi⟩:=hc
   have y3:=Nat.eq_of_beq_eq_true y3
   have dK:=Nat.eq_of_beq_eq_true dK
   have hm:=Md.jr hm
   obtain⟨p,hp,hB⟩:=hR.heap.dX m b hb zi
   have own:∀ {g:Nat} {fr:Nat × Nat},Own I β s.st m g fr b->Own I (eS β π) s'.st l g fr b':=fun ho=>by
    refine⟨fun hr=>?_,fun hr=>ho.2 (by rw[hm]; exact hr)⟩
    obtain⟨h1,h2,h3⟩:=ho.1 (by rw[hm]; exact hr)
    refine⟨h1,h2,fun l2 b2 bR du aY p2 g2 o2 eg ef=>?_⟩
    rcases jO l2 b2 du aY with ⟨m2,b3,Cu,gL,UX⟩|⟨Cu,_⟩
    ·rw[bs Cu] at eg
     obtain⟨Pk,_⟩:=aK UX
     simp only[Bool.and_eq_true] at Pk
     exact h3 m2 b3 (fun e=>bR (by subst e; exact QQ l2 l _ Cu BN)) gL Pk.2 p2 g2 o2 eg ef
    ·rw[fS Cu] at eg
     cases eg; cases ef
   refine⟨p,by rw[bs BN]; exact hp,?_⟩
   split at hk
   ·rename_i yd pS
    rw[yd] at hB
    rw[pS]
    obtain⟨g,o,arr,ty,fr,h1,h2,h3,ho⟩:=hB
    obtain⟨cs,fi,hk⟩:=an hk
    exact⟨g,o,arr,ty,fr,h1,h2,mM fi (eG hk h3),own ho⟩
   ·rename_i yd pS
    rw[yd] at hB
    rw[pS]
    obtain⟨g,arr,fr,h1,h2,h3,ho,h4,h5,h6,h7,h8⟩:=hB
    obtain⟨cs,fi,hk⟩:=an hk
    exact⟨g,arr,fr,h1,by rw[← y3]; exact h2,mM fi (eG hk h3),own ho,by rw[rB fi,← iD hk,← dK]; exact h4,h5,h6,by rw[← dK]; exact h7,by rw[← dK]; exact h8⟩
   ·rename_i yd pS
    rw[yd] at hB
    rw[pS]
    obtain⟨⟨h1,h2,h3,h4⟩,hB⟩:=hB
    refine⟨⟨by rw[← dK]; exact h1,by rw[← hk]; exact h2,h3,h4⟩,?_⟩
    rcases hB with h|⟨g,arr,fr,h5,h6,h7,ho,h8⟩
    ·exact .inl h
    ·exact .inr ⟨g,arr,fr,h5,by rw[← y3]; exact h6,by rw[← hk,← dK]; exact h7,own ho,by rw[← dK]; exact h8⟩
   ·rename_i yd pS
    rw[yd] at hB
    rw[pS]
    obtain⟨g,h1,h2,ho⟩:=hB
    exact⟨g,h1,by rw[← hk]; exact h2,own ho⟩
   ·rename_i yd pS
    rw[yd] at hB
    rw[pS]
    obtain⟨g,arr,fr,h1,h2,h3,ho,h4,h5,h6,h7,h8⟩:=hB
    obtain⟨ag,BH,hk⟩:=an hk
    obtain⟨zj,hk⟩:=aK hk
    rw[aj.th] at hk
    obtain⟨es,jM,hk⟩:=an hk
    simp only[Bool.or_eq_true] at zj
    have nU:(arr.toList.take (p.len*b.size)).length=p.len*b.size:=by
     rw[List.length_take,Array.length_toList,h7]
     have:=Nat.mul_le_mul_right b.size h5
     omega
    have kC:jQ w I β b.size (.stat b.cs) (arr.toList.take (p.len*b.size)):=by
     refine⟨by rw[nU,h4],fun j c hj=>?_⟩
     obtain⟨u,hu,h9⟩:=h3 j c hj
     have tF:j < p.len*b.size:=by rw[← h4]; exact (List.getElem?_eq_some_iff.1 hj).1
     exact⟨u,by rw[List.getElem?_take,if_pos tF]; simpa using hu,h9⟩
    obtain⟨e1,e2⟩:=dj h8 (zj.imp id Nat.eq_of_beq_eq_true) jM kC nU
    refine⟨⟨by rw[← dK]; exact h8,by rw[← hk]; exact e1,h5,h6⟩,.inr ⟨g,arr,fr,h1,by rw[← y3]; exact h2,?_,own ho,by rw[← dK]; exact h7⟩⟩
    rw[← hk,← dK]
    refine e2.at (fun j v hj=>?_) (fun _ h=>h) (fun _ _=>rfl)
    have:=jR h2 0 (p.len*b.size) j v (by simpa using hj)
    simpa using this
   ·exact hk.elim
  ·refine⟨_,fS BN,?_⟩
   rw[hk]
   exact⟨⟨dK,by rw[hc]; rfl,Nat.le_refl _,Nat.zero_le _⟩,.inl ⟨rfl,rfl⟩⟩
 refine⟨I,eS β π,⟨by rw[hn]; exact hR.small,hR.defers,by rw[hn]; exact hR.size,?_,fun t y hy=>?_,hH,hR.av⟩,⟨⟨rfl,rfl,rfl,Nat.le_refl _,fun _ _ _=>rfl,fun g hg ⟨l,b',p,o,h1,h2,h3,h4,h5⟩=>?_,fun _ h=>h,fun _ _ h=>.inl h⟩,iV,Ey,hn,fun l hl UY=>?_⟩⟩
 ·rw[iV]
  rw[← QP]; exact UW
 ·obtain⟨x,z,hx,hz,hle⟩:=TM.cX ht hy
  obtain⟨v,hv,hi⟩:=hR.get t x hx
  exact⟨v,hv,zh hz (cX hle w I β v hi)⟩
 ·rcases jO l b' h1 h2 with ⟨m,b,BN,hb,hk⟩|⟨BN,_⟩
  ·obtain⟨hc,_⟩:=aK hk
   simp only[Bool.and_eq_true] at hc
   rw[bs BN] at h4
   exact⟨m,b,p,o,hb,hc.2,by rw[Md.jr hc.1.2]; exact h3,h4,h5⟩
  ·rw[fS BN] at h4
   cases h4; cases h5
 ·rcases Ct l hl with h|h
  ·rw[Nat.zero_add] at h
   exact bs h
  ·rw[Nat.zero_add] at h; exact absurd h UY
def UZ (v:Option PV) (q:Option PV->Prop):Prop:=match v with
 | none=>q none
 | some x=>fc x fun x=>q (some x)
def EI:TM->(TM->Prop)->Prop
 | .nil,q=>q .nil
 | .node v l r,q=>UZ v fun v=>EI l fun l=>EI r fun r=>q (.node v l r)
def Mp (b:aj) (q:aj->Prop):Prop:=match b with
 | ⟨.loc,ty,n,m,live,cs⟩=>cL cs fun cs=>q ⟨.loc,ty,n,m,live,cs⟩
 | ⟨.arr,ty,n,m,live,cs⟩=>cL cs fun cs=>q ⟨.arr,ty,n,m,live,cs⟩
 | ⟨.dyn,ty,n,m,live,cs⟩=>q ⟨.dyn,ty,n,m,live,cs⟩
 | ⟨.mp,ty,n,m,live,cs⟩=>q ⟨.mp,ty,n,m,live,cs⟩
def rC:List aj->(List aj->Prop)->Prop
 | [],q=>q []
 | b::st,q=>Mp b fun b=>rC st fun st=>q (b::st)
def Lp (s:aL) (q:aL->Prop):Prop:=match s with
 | ⟨n,t,st,b,rl⟩=>EI t fun t=>rC st fun st=>q ⟨n,t,st,b,rl⟩
theorem tR:∀ {t:TM} {q:TM->Prop},EI t q->q t
 | .nil,_,h=>h
 | .node v l r,q,h=>by
  have h1:EI l fun l=>EI r fun r=>q (.node v l r):=by
   cases v with
   | none=>exact h
   | some x=>exact yL (x:=x) (q:=fun x=>EI l fun l=>EI r fun r=>q (.node (some x) l r)) h
  have h2:=tR h1
  exact tR (q:=fun r=>q (.node v l r)) h2
theorem tS {b:aj} {q:aj->Prop} (h:Mp b q):q b:=by
 obtain⟨k,ty,n,m,live,cs⟩:=b
 cases k
 ·exact bz (q:=fun cs=>q ⟨.loc,ty,n,m,live,cs⟩) h
 ·exact bz (q:=fun cs=>q ⟨.arr,ty,n,m,live,cs⟩) h
 ·exact h
 ·exact h
theorem j6:∀ {st:List aj} {q:List aj->Prop},rC st q->q st
 | [],_,h=>h
 | b::st,q,h=>j6 (q:=fun st=>q (b::st)) (tS h)
theorem mN {q:aL->Prop} (h:Lp s q):q s:=by
 obtain⟨n,t,st,b,rl⟩:=s
 have h1:=tR h
 exact j6 (q:=fun st=>q ⟨n,t,st,b,rl⟩) h1
def TM.wC (v:Option PV):Nat->TM->Nat->TM
 | 0,t,_=>t
 | f+1,.nil,n=>bif Nat.beq n 0 then .node v .nil .nil else bif Nat.beq (n % 2) 1 then .node none (TM.wC v f .nil ((n - 1) / 2)) .nil else .node none .nil (TM.wC v f .nil ((n - 1) / 2))
 | f+1,.node u l r,n=>bif Nat.beq n 0 then .node v l r else bif Nat.beq (n % 2) 1 then .node u (TM.wC v f l ((n - 1) / 2)) r else .node u l (TM.wC v f r ((n - 1) / 2))
def EJ:List Oper->List Nat
 | []=>[]
 | o::r=>(match o.dst with
  | some d=>[d]
  | none=>[])++EJ r
def mO:Code->List Nat
 | .region _ ops _=>EJ ops.toList
 | .seq a b=>mO a++mO b
 | .cond _ a b=>mO a++mO b
 | .block _ c=>mO c
 | .loop c=>mO c
 | .scope c=>mO c
 | _=>[]
def mP:List Nat->TM->TM
 | [],t=>t
 | d::ds,t=>mP ds (t.wC none 24 d)
def rD:List (Nat × PV)->TM->TM
 | [],t=>t
 | (d,x)::r,t=>rD r (t.wC (some x) 24 d)
def aL.head (s:aL) (c:Code) (vs:List (Nat × PV)) (st:List aj):aL:=match s with
 | ⟨n,t,_,b,rl⟩=>⟨n,rD vs (mP (mO c) t),st,b,rl⟩
def FV:Nat->List aj->dN
 | _,[]=>[]
 | n,_::r=>some n::FV (n+1) r
theorem SW.loop (hG:lX G) (R:List (Nat × aI)) {α:Type} {c:Code} {Q:X->aL->Prop} (hc:bL R c=true) (vs:α->List (Nat × PV)) (st:α->List aj) (μ:α->Nat) (x0:α) (N:Nat) (EH:dN) (h0:gG G.cx EH s (s.head c (vs x0) (st x0)))
  (h:∀ x,Lp (s.head c (vs x) (st x)) (pw G R N c (mJ (fun s'=>∃ y π,μ y < μ x/\gG G.cx π s' (s.head c (vs y) (st y))) Q))):SW G (.loop c) Q s :=
 SW.inv hG (fun x=>s.head c (vs x) (st x)) μ (N:=N) hc x0 (dd hG.ok h0) (fun x s'=>∃ y π,μ y < μ x/\gG G.cx π s' (s.head c (vs y) (st y))) (fun x s' ⟨y,π,hy,hs⟩=>⟨y,hy,dd hG.ok hs⟩) fun x=>mN (h x)
def Cv:List PV->Nat->TM->(TM->Prop)->Prop
 | [],_,t,k=>k t
 | x::xs,i,t,k=>fc x fun x=>t.pC (some x) 24 i fun t=>Cv xs (i+1) t k
def EK (G:Gx) (s:aL) (r:ResultVar) (q:PV->Prop):Prop:=match r with
 | .tmp t=>aP (s.t.get t) fun x=>(match x with
  | .tup _=>False
  | x=>q x)
 | .cell a t=>aP (s.t.get a) fun x=>ow G s.st t x q
def vg (G:Gx) (s:aL):List ResultVar->(List PV->Prop)->Prop
 | [],q=>q []
 | r::rs,q=>EK G s r fun x=>vg G s rs fun xs=>q (x::xs)
def Cw (G:Gx) (s:aL) (rs:List ResultVar) (q:PV->Prop):Prop:=match rs with
 | [.tmp t]=>aP (s.t.get t) q
 | rs=>vg G s rs fun l=>(match l with
  | [x]=>q x
  | l=>q (.tup l))
def wD:Md->Bool
 | .p=>false
 | _=>true
def wE (r:PV->(PV->Prop)->Prop):List PV->(List PV->Prop)->Prop
 | [],q=>q []
 | c::cs,q=>r c fun c=>wE r cs fun cs=>q (c::cs)
def ye (cx:Ev.Cx) (st:List aj) (base:Nat):Nat->PV->(PV->Prop)->Prop
 | 0,_,_=>False
 | n+1,x,q=>match x with
  | .wref l=>bif Nat.blt l base then q (.wref l) else aP st[l]? fun b=>bif b.live && wD b.m then (match b.k with
   | .arr=>wE (ye cx st base n) b.cs fun cs=>aP (Ev.dv cx b.ty) fun ag=>bif ag || Nat.beq b.size 1 then b.Pe fun n=>aP (dc ag n (.stat cs)) fun es=>q (.sl n es) else False
   | .dyn=>q (.sl b.size b.cs)
   | _=>False) else False
  | .agg cs=>wE (ye cx st base n) cs fun cs=>q (.agg cs)
  | .tup cs=>wE (ye cx st base n) cs fun cs=>q (.tup cs)
  | .clo f cs=>wE (ye cx st base n) cs fun cs=>q (.clo f cs)
  | x=>bif x.bW.all (fun l=>Nat.blt l base) then q x else False
def rE (base:Nat) (b:aj):Bool:=match b.k with
 | .dyn=>true
 | .mp=>true
 | _=>b.cs.all fun c=>c.bW.all fun l=>Nat.blt l base
def FW (G:Gx) (rs:List ResultVar) (base:Nat) (K:PV->List aj->Prop) (x:X) (s:aL):Prop:=match x with
 | .exit _=>False
 | _=>Cw G s rs fun r=>ye G.cx s.st base 8 r fun r=>bif (s.st.take base).all (rE base) then rC (s.st.take base) fun S=>∃ r',oH r r'/\K r' S else False
def FX (G:Gx) (R:List (Nat × aI)) (N:Nat) (fn:Func) (c:Code) (args:List PV) (S:List aj) (rl:List Nat) (K:PV->List aj->Prop):Prop :=
 bif Nat.ble args.length fn.ntmps && Nat.ble fn.ntmps 16777215 && !(fn.name == "runtime.NumGoroutine") then
  jk S 0 fun b=>Cv args 0 .nil fun t=>pw G R N c (FW G fn.results.toList b K) ⟨fn.ntmps,t,S,b,rl⟩ else False
section
variable {w w':World} {I I':Nat->Prop} {β aG:au} {G:Gx} {s:aL} {a:Act} {st cA:List aj}
theorem pT:∀ {xs:List PV} {i:Nat} {t:TM} {k:TM->Prop},Cv xs i t k->∃ t',k t'/\∀ n x,t'.get n=some x->(∃ j,n=i+j/\xs[j]?=some x)\/t.get n=some x
 | [],i,t,k,h=>⟨t,h,fun n x hx=>.inr hx⟩
 | x::xs,i,t,k,h=>by
  obtain⟨t1,h1,U0⟩:=TM.lZ (yL h)
  obtain⟨t',hk,s7⟩:=pT h1
  refine⟨t',hk,fun n y hy=>?_⟩
  rcases s7 n y hy with ⟨j,hj,hx⟩|hy
  ·exact .inl ⟨j+1,by omega,by simpa using hx⟩
  ·rw[U0] at hy
   split at hy
   ·rename_i hn
    cases hy
    exact .inl ⟨0,by omega,rfl⟩
   ·exact .inr hy
def Cy (a:Act) (rv:ResultVar):Sem Value:=match rv with
 | .tmp t=>pure (a.tmps.getD t Go.undef)
 | .cell b t=>do loadVar t (← asAddr (a.tmps.getD b Go.undef))
theorem zk (hG:lX G) (hR:Rel G I β s a w) {r:ResultVar} {q:PV->Prop} (h:EK G s r q):∃ x v,q x/\x.Is w I β v/\(Cy a r).run G.cx.P w = .ok v w:=by
 cases r with
 | tmp t =>
  obtain⟨x,hx,h⟩:=an h
  obtain⟨v,hv,hi⟩:=hR.get t x hx
  have hq:q x:=by
   split at h
   ·exact h.elim
   ·exact h
  exact⟨x,v,hq,hi,by simp[Cy,hv]⟩
 | cell b t =>
  obtain⟨x,hx,h⟩:=an h
  obtain⟨v,hv,hi⟩:=hR.get b x hx
  obtain⟨z,r,g,hz,FB,_,bm⟩:=mu hG.ok hR.heap hR.av h hi
  have bm:=bm w rfl
  refine⟨z,r,hz,FB,?_⟩
  have QR:∃ ad,v = .pointer (some ad):=by
   unfold ow at h
   split at h<;>try simp only[PV.Is] at hi
   ·obtain⟨_,_,_,_,_,rfl⟩:=hi; exact⟨_,rfl⟩
   ·obtain⟨_,_,_,_,_,rfl⟩:=hi; exact⟨_,rfl⟩
   ·obtain⟨_,_,_,_,_,rfl⟩:=hi; exact⟨_,rfl⟩
   ·obtain⟨_,_,rfl,_⟩:=hi; exact⟨_,rfl⟩
   ·exact⟨_,hi⟩
   ·exact⟨_,hi⟩
   ·exact h.elim
  obtain⟨ad,rfl⟩:=QR
  simp only[Instr.loadAt,Instr.sureAddr,Sem.run_bind,Sem.run_pure,Result.andThen_ok] at bm
  simp[Cy,hv,asAddr,bm]
theorem rF (hG:lX G) (hR:Rel G I β s a w):∀ {rs:List ResultVar} {q:List PV->Prop},vg G s rs q->∃ xs vs,q xs/\aU w I xs β vs/\(rs.mapM (Cy a)).run G.cx.P w = .ok vs w
 | [],q,h=>⟨[],[],h,by simp only[aU],rfl⟩
 | r::rs,q,h=>by
  obtain⟨x,v,h,hx,hr⟩:=zk hG hR h
  obtain⟨xs,vs,h,kx,U1⟩:=rF hG hR h
  exact⟨x::xs,v::vs,h,by simp only[aU]; exact⟨hx,kx⟩,by simp[List.mapM_cons,hr,U1]⟩
theorem vh (hG:lX G) (hR:Rel G I β s a w) {fn:Func} {q:PV->Prop} (h:Cw G s fn.results.toList q):∃ x v,q x/\x.Is w I β v/\(results fn a.tmps).run G.cx.P w = .ok v w:=by
 have key:∀ {q':List PV->Prop},vg G s fn.results.toList q'->(∀ l,q' l->match l with
   | [x]=>q x
   | l=>q (.tup l))->∃ x v,q x/\x.Is w I β v/\(results fn a.tmps).run G.cx.P w = .ok v w:=by
  intro q' h hq
  obtain⟨xs,vs,h,kx,bm⟩:=rF hG hR h
  have pU:(results fn a.tmps).run G.cx.P w = .ok (if h:vs.toArray.size=1 then vs.toArray[0] else .tuple vs.toArray) w:=by
   unfold results
   rw[Array.mapM_eq_mapM_toList]
   simp only[Sem.run_bind,Sem.run_map]
   erw [bm]
   rfl
  have hq:=hq xs h
  match xs,vs,kx,hq,pU with
  | [],[],_,hq,pU=>exact⟨_,_,hq,by simp only[PV.Is]; exact⟨#[],rfl,by simp only[aU]⟩,pU⟩
  | [x],[v],kx,hq,pU=>exact⟨x,v,hq,by simp only[aU] at kx; exact kx.1,pU⟩
  | x::x'::xs,v::v'::vs,kx,hq,pU=>exact⟨_,_,hq,by simp only[PV.Is]; exact⟨_,rfl,by simpa using kx⟩,by rw[pU,dif_neg (by simp)]⟩
  | [],_::_,kx,_,_=>simp only[aU] at kx
  | _::_,[],kx,_,_=>simp only[aU] at kx
  | [_],_::_::_,kx,_,_=>simp[aU] at kx
  | _::_::_,[_],kx,_,_=>simp[aU] at kx
 unfold Cw at h
 split at h
 ·rename_i t heq
  obtain⟨x,hx,h⟩:=an h
  obtain⟨v,hv,hi⟩:=hR.get t x hx
  refine⟨x,v,h,hi,?_⟩
  have wx:fn.results = #[.tmp t]:=by rw[← Array.toList_inj]; simpa using heq
  simp[results,wx,hv]
 ·refine key h fun l hl=>?_
  split
  ·exact hl
  ·rename_i bR
   split at hl
   ·rename_i x; exact absurd rfl (bR x)
   ·exact hl
end
end
section
variable {w w':World} {I I':Nat->Prop} {β aG:au} {G:Gx} {s:aL} {a:Act} {st cA:List aj}
def mQ (I:Nat->Prop) (β:au) (st:List aj) (base:Nat) (g:Nat):Prop:=I g\/∃ l b p o,base<=l/\st[l]?=some b/\b.live=true/\b.m = .w/\β l=some p/\p.a=some (g,o)
def lK (β:au) (base:Nat):au:=fun l=>if l < base then β l else none
theorem mR {x:PV} {base:Nat} {v:Value} (h:x.bW.all (fun l=>Nat.blt l base)=true) (hx:x.Is w I β v) (hI:∀ g,I g->I' g):x.Is w I' (lK β base) v :=
 PV.Is.mono hI (fun _ _=>rfl) x β _ v (fun l p hl hp=>by
  rw[List.all_eq_true] at h
  unfold lK
  rw[if_pos (show l < base from Nat.le_of_ble_eq_true (h l hl))]; exact hp) hx
theorem j7 {r:PV->(PV->Prop)->Prop} (hr:∀ x q v,r x q->x.Is w I β v->∃ y,q y/\y.Is w I' aG v):∀ {cs:List PV} {vs:List Value} {q:List PV->Prop},wE r cs q->aU w I cs β vs->∃ ds,q ds/\aU w I' ds aG vs
 | [],[],q,h,_=>⟨[],h,by simp only[aU]⟩
 | c::cs,v::vs,q,h,hx=>by
  simp only[aU] at hx
  obtain⟨y,h,hy⟩:=hr c _ v h hx.1
  obtain⟨ds,h,hd⟩:=j7 hr h hx.2
  exact⟨y::ds,h,by simp only[aU]; exact⟨hy,hd⟩⟩
 | [],_::_,_,_,hx=>by simp only[aU] at hx
 | _::_,[],_,_,hx=>by simp only[aU] at hx
theorem zl {cx:Ev.Cx} (hh:aB I β st w) {base:Nat}:∀ (n:Nat) (x:PV) (q:PV->Prop) (v:Value),ye cx st base n x q->x.Is w I β v->∃ y,q y/\y.Is w (mQ I β st base) (lK β base) v
 | 0,_,_,_,h,_=>h.elim
 | n+1,x,q,v,h,hx=>by
  have ih:=zl (cx:=cx) hh (base:=base) n
  have hI:∀ g,I g->mQ I β st base g:=fun g h=>.inl h
  unfold ye at h
  split at h
  ·rename_i l
   cases hl:Nat.blt l base
   case true =>
    rw[hl] at h
    exact⟨_,h,mR (by simp only[PV.bW,List.all_cons,List.all_nil,hl,Bool.and_true]) hx hI⟩
   case false =>
    rw[hl] at h
    have zi:base<=l:=by
     rcases Nat.lt_or_ge l base with h'|h'
     ·have:Nat.blt l base=true:=by unfold Nat.blt; exact Nat.ble_eq_true_of_le h'
      rw[this] at hl; cases hl
     ·exact h'
    obtain⟨b,hb,h⟩:=an h
    obtain⟨hc,h⟩:=aK h
    simp only[Bool.and_eq_true] at hc
    simp only[PV.Is] at hx
    obtain⟨p,hp,rfl⟩:=hx
    have qz:∀ {g o:Nat} {fr:Nat × Nat},p.a=some (g,o)->Own I β st l g fr b->mQ I β st base g:=fun {g o fr} ha ho=>by
     cases hm:b.m with
     | w=>exact .inr ⟨l,b,p,o,zi,hb,hc.1,hm,hp,ha⟩
     | p=>rw[hm] at hc; cases hc.2
     | r=>exact .inl (ho.2 hm)
    split at h
    ·rename_i hk
     obtain⟨g,arr,fr,ha,hw,eh,lY,cB,hlen,hle,mr,has,gC⟩:=dk hh hb hc.1 hk hp
     have dK:p.len*b.size<=arr.size:=by rw[has]; exact Nat.mul_le_mul_right _ hle
     have nU:(arr.toList.take (p.len*b.size)).length=p.len*b.size:=by rw[List.length_take,Array.length_toList]; omega
     have jo:aU w I b.cs β (arr.toList.take (p.len*b.size)):=aU.of (by rw[nU,hlen]) fun i c hc=>by
      obtain⟨u,hu,hi,_⟩:=lY i c hc
      have tF:i < p.len*b.size:=by rw[← hlen]; exact (List.getElem?_eq_some_iff.1 hc).1
      exact⟨u,by rw[List.getElem?_take,if_pos tF]; simpa using hu,hi⟩
     obtain⟨ds,h,QS⟩:=j7 (fun x q v=>ih x q v) h jo
     obtain⟨ag,BH,h⟩:=an h
     obtain⟨zj,h⟩:=aK h
     rw[aj.th] at h
     obtain⟨es,jM,h⟩:=an h
     simp only[Bool.or_eq_true] at zj
     have kC:jQ w (mQ I β st base) (lK β base) b.size (.stat ds) (arr.toList.take (p.len*b.size)):=by
      refine⟨by rw[QS.length],fun j c hj=>?_⟩
      obtain⟨u,hu,hi⟩:=QS.get hj
      refine⟨u,hu,hi,?_⟩
      have tF:j < b.cs.length:=by rw[jo.length,← QS.length]; exact (List.getElem?_eq_some_iff.1 hj).1
      obtain⟨u2,S5,_,h1⟩:=lY j _ (List.getElem?_eq_getElem tF)
      rw[List.getElem?_take] at hu
      split at hu
      ·have:arr[0+j]?=some u:=by simpa using hu
       rw[this] at S5; cases S5; exact h1
      ·cases hu
     obtain⟨e1,e2⟩:=dj gC (zj.imp id Nat.eq_of_beq_eq_true) jM kC nU
     have Cz:bp w (mQ I β st base) es b.size g 0:=e2.at (fun j v hj=>by
      have:=jR eh 0 (p.len*b.size) j v (by simpa using hj)
      simpa using this) (fun _ h=>h) (fun _ _=>rfl)
     refine⟨_,h,?_⟩
     simp only[PV.Is]
     refine⟨some ⟨g,0,none⟩,p.cap,by rw[hw,e1],by omega,by omega,fun g' o' e=>by cases e; exact Cz,fun _=>⟨g,0,rfl,qz ha cB,gC⟩⟩
    ·rename_i hk
     obtain⟨gC,hlen,hle,mr,jm⟩:=bT hh hb hc.1 hk hp
     refine⟨_,h,?_⟩
     simp only[PV.Is]
     rcases jm with ⟨ha,qN,hw⟩|⟨g,arr,fr,ha,hw,eh,jM,cB,has⟩
     ·have:b.cs = []:=List.eq_nil_of_length_eq_zero (by omega)
      rw[this,hw]
      exact⟨none,0,rfl,Nat.le_refl _,Nat.zero_le _,(fun _ _ e=>by cases e),fun hn=>absurd rfl hn⟩
     ·exact⟨some ⟨g,0,none⟩,p.cap,by rw[hw,hlen],by omega,by omega,(fun g' o' e=>by cases e; exact bp.mono hI (fun _ _=>rfl) _ _ _ _ rfl jM),fun _=>⟨g,0,rfl,qz ha cB,gC⟩⟩
    ·exact h.elim
  ·simp only[PV.Is] at hx
   obtain⟨vs,rfl,hx⟩:=hx
   obtain⟨ds,h,hd⟩:=j7 (fun x q v=>ih x q v) h hx
   exact⟨_,h,by simp only[PV.Is]; exact⟨vs,rfl,hd⟩⟩
  ·simp only[PV.Is] at hx
   obtain⟨vs,rfl,hx⟩:=hx
   obtain⟨ds,h,hd⟩:=j7 (fun x q v=>ih x q v) h hx
   exact⟨_,h,by simp only[PV.Is]; exact⟨vs,rfl,hd⟩⟩
  ·simp only[PV.Is] at hx
   obtain⟨vs,rfl,hx⟩:=hx
   obtain⟨ds,h,hd⟩:=j7 (fun x q v=>ih x q v) h hx
   exact⟨_,h,by simp only[PV.Is]; exact⟨vs,rfl,hd⟩⟩
  ·obtain⟨hu,h⟩:=aK h
   exact⟨_,h,mR hu hx hI⟩
theorem Spec.intro {f:FuncId} {args:List PV} {S:List aj} {rl:List Nat} {K:PV->List aj->Prop} (he:Ev.fB G.cx.P f) (h:∀ I β w aS,aB I β S w->cg G I w->aU w I args β aS ->
  Calls G.cx.P f aS.toArray w fun e w'=>∃ v r S' I' aG,e = .returned v/\K r S'/\r.Is w' I' aG v/\aB I' aG S' w'/\cg G I' w'/\Ext I β S w I' aG S' w'/\S.length<=S'.length/\∀ l,l < S.length->l ∉ rl->aG l=β l):Spec G f args S rl K:=by
 unfold Spec; exact⟨he,h⟩
theorem Spec.run {f:FuncId} {args:List PV} {S:List aj} {rl:List Nat} {K:PV->List aj->Prop} (h:Spec G f args S rl K):Ev.fB G.cx.P f/\∀ I β w aS,aB I β S w->cg G I w->aU w I args β aS ->
  Calls G.cx.P f aS.toArray w fun e w'=>∃ v r S' I' aG,e = .returned v/\K r S'/\r.Is w' I' aG v/\aB I' aG S' w'/\cg G I' w'/\Ext I β S w I' aG S' w'/\S.length<=S'.length/\∀ l,l < S.length->l ∉ rl->aG l=β l:=by
 unfold Spec at h; exact h
theorem Spec.mono {f:FuncId} {args:List PV} {S:List aj} {rl:List Nat} {K K':PV->List aj->Prop} (h:Spec G f args S rl K) (hK:∀ r S',K r S'->K' r S'):Spec G f args S rl K' :=
 Spec.intro h.run.1 fun I β w aS h1 h2 h3=>(h.run.2 I β w aS h1 h2 h3).mono fun e w' ⟨v,r,S',I',aG,h1,h2,h3⟩=>⟨v,r,S',I',aG,h1,hK r S' h2,h3⟩
theorem zm (hG:lX G) {fn:Func} {a':Act} {s' s0:aL} {S:List aj} {rl:List Nat} {K:PV->List aj->Prop} (QT:s0.st=S) (ee:s0.base=S.length) (tT:s0.rl=rl) (cS:Rel G I' aG s' a' w') (hg:bU I β s0 w I' aG s' w') (hq:FW G fn.results.toList S.length K .lF s'):∃ v,(results fn a'.tmps).run G.cx.P w' = .ok v w'/\∃ v',∃ r S' I' aG,Ending.returned v = .returned v'/\K r S'/\r.Is w' I' aG v'/\aB I' aG S' w'/\cg G I' w'/\Ext I β S w I' aG S' w'/\S.length<=S'.length/\∀ l,l < S.length->l ∉ rl->aG l=β l:=by
 obtain⟨r,v,hq,hr,bm⟩:=vh hG cS hq
 obtain⟨y,hq,hy⟩:=zl cS.heap 8 r _ v hq hr
 obtain⟨eu,hq⟩:=aK hq
 obtain⟨r',L5,hK⟩:=j6 hq
 rw[List.all_eq_true] at eu
 have iV:s'.base=S.length:=hg.base.trans ee
 have hlen:S.length<=s'.st.length:=by have:=cS.base; rw[iV] at this; exact this
 have hI:∀ g,I' g->mQ I' aG s'.st S.length g:=fun g h=>.inl h
 have tU:∀ (l:Nat) (b:aj),(s'.st.take S.length)[l]?=some b->l < S.length/\s'.st[l]?=some b:=fun l b hb=>by
  rw[List.getElem?_take] at hb
  split at hb
  ·exact⟨‹_›,hb⟩
  ·cases hb
 have U2:aB (mQ I' aG s'.st S.length) (lK aG S.length) (s'.st.take S.length) w':=by
  refine⟨fun l hl=>?_,fun l b hb ax=>?_⟩
  ·unfold lK
   rw[if_neg (by simp at hl; omega)]
  ·obtain⟨hl,bV⟩:=tU l b hb
   have zi:=eu b (List.mem_of_getElem? hb)
   obtain⟨p,hp,hk⟩:=cS.heap.dX l b bV ax
   have own:∀ {g:Nat} {o:Nat} {fr:Nat × Nat},p.a=some (g,o)->Own I' aG s'.st l g fr b->Own (mQ I' aG s'.st S.length) (lK aG S.length) (s'.st.take S.length) l g fr b:=fun {g o fr} ha ho=>by
    refine⟨fun hr=>?_,fun hr=>hI g (ho.2 hr)⟩
    obtain⟨h1,h2,h3⟩:=ho.1 hr
    refine⟨h1,fun hE=>?_,fun l2 b2 bR du aY p2 g2 o2 eg ef=>?_⟩
    ·rcases hE with hE|⟨l2,b2,p2,o2,k1,k2,k3,_,k5,k6⟩
     ·exact h2 hE
     ·exact h3 l2 b2 (by omega) k2 k3 p2 g o2 k5 k6 rfl
    ·obtain⟨QU,cv⟩:=tU l2 b2 du
     unfold lK at eg
     rw[if_pos QU] at eg
     exact h3 l2 b2 bR cv aY p2 g2 o2 eg ef
   have cells:b.k.nM=true->∀ {arr:Array Value} {o:Nat},aO w' I' aG b.cs arr o->aO w' (mQ I' aG s'.st S.length) (lK aG S.length) b.cs arr o:=fun hk {arr o} hc i c hi=>by
    obtain⟨u,hu,FY,h1⟩:=hc i c hi
    refine⟨u,hu,mR ?_ FY hI,h1⟩
    unfold rE at zi
    cases bH:b.k with
    | dyn=>rw[bH] at hk; cases hk
    | mp=>rw[bH] at hk; cases hk
    | loc=>rw[bH] at zi; rw[List.all_eq_true] at zi; exact zi c (List.mem_of_getElem? hi)
    | arr=>rw[bH] at zi; rw[List.all_eq_true] at zi; exact zi c (List.mem_of_getElem? hi)
   refine⟨p,by unfold lK; rw[if_pos hl]; exact hp,?_⟩
   split at hk
   ·rename_i bH
    obtain⟨g,o,arr,ty,fr,h1,h2,h3,ho⟩:=hk
    exact⟨g,o,arr,ty,fr,h1,h2,cells (by rw[bH]; decide) h3,own h1 ho⟩
   ·rename_i bH
    obtain⟨g,arr,fr,h1,h2,h3,ho,h4⟩:=hk
    exact⟨g,arr,fr,h1,h2,cells (by rw[bH]; decide) h3,own h1 ho,h4⟩
   ·obtain⟨h1,hk⟩:=hk
    refine⟨h1,?_⟩
    rcases hk with h|⟨g,arr,fr,h2,h3,h4,ho,h5⟩
    ·exact .inl h
    ·exact .inr ⟨g,arr,fr,h2,h3,bp.mono hI (fun _ _=>rfl) _ _ _ _ rfl h4,own h2 ho,h5⟩
   ·obtain⟨g,h1,h2,ho⟩:=hk
    exact⟨g,h1,h2,own h1 ho⟩
 have bA:∀ g,mQ I' aG s'.st S.length g->g < w'.heap.size:=fun g hg=>by
  rcases hg with hg|⟨l,b,p,o,_,k2,k3,_,k5,k6⟩
  ·exact cS.av.av g hg
  ·exact cS.heap.ch ⟨l,b,p,o,k2,k3,k5,k6⟩
 have U3:cg G (mQ I' aG s'.st S.length) w':=⟨bA,fun g cs U4=>by
  obtain⟨h1,h2⟩:=cS.av.mg g cs U4
  exact⟨hI g h1,bQ.mono hI (fun _ _=>rfl) cs g 0 rfl h2⟩,cS.av.row⟩
 have hE:=hg.ext
 rw[QT] at hE
 refine⟨v,bm,v,r',_,_,_,rfl,hK,L5 _ _ _ _ hy,U2,U3,⟨hE.os,hE.tape,hE.output,hE.size,hE.block,fun g y4 ⟨l,b,p,o,h1,h2,h3,h4,h5⟩=>?_,fun g hg=>hI g (hE.av g hg),fun g y4 qz=>?_⟩,by rw[List.length_take]; omega,fun l hl hr=>?_⟩
 ·obtain⟨hl,hb⟩:=tU l b h1
  unfold lK at h4
  rw[if_pos hl] at h4
  exact hE.wr g y4 ⟨l,b,p,o,hb,h2,h3,h4,h5⟩
 ·rcases qz with qz|⟨l,b,p,o,_,k2,k3,k4,k5,k6⟩
  ·exact hE.new g y4 qz
  ·exact .inr (hE.wr g y4 ⟨l,b,p,o,k2,k3,k4,k5,k6⟩)
 ·unfold lK
  rw[if_pos hl]
  exact hg.low l (by rw[ee]; exact hl) (by rw[tT]; exact hr)
theorem Spec.enter (hG:lX G) (R:List (Nat × aI)) {f:FuncId} {fn:Func} {c:Code} {args:List PV} {S:List aj} {rl:List Nat} {K:PV->List aj->Prop} (N:Nat) (hf:G.cx.P.funcs[f]?=some fn) (hb:fn.body=some c) (mq:bL R c=true) (h:FX G R N fn c args S rl K) (hd:G.Pd = []:=by rfl):Spec G f args S rl K:=by
 obtain⟨hc,h⟩:=aK h
 simp only[Bool.and_eq_true,Bool.not_eq_true'] at hc
 obtain⟨⟨hle,qZ⟩,zn⟩:=hc
 have hle:=Nat.le_of_ble_eq_true hle
 have qZ:=Nat.le_of_ble_eq_true qZ
 replace h:=fk h
 rw[Nat.zero_add] at h
 obtain⟨t,h,ht⟩:=pT h
 refine Spec.intro (Ev.kt hf hb zn) fun I β w aS hH hM hA=>calls_of_wp hf hb ?_
 have QV:=hA.length
 have hR:Rel G I β ⟨fn.ntmps,t,S,S.length,rl⟩ { tmps:=aS.toArray++Array.replicate (fn.ntmps - aS.toArray.size) Go.undef,defers:=[] } w:=by
  refine⟨qZ,hd.symm,by simp; omega,Nat.le_refl _,fun n x hx=>?_,hH,hM⟩
  rcases ht n x hx with ⟨j,hj,hx⟩|hx
  ·rw[Nat.zero_add] at hj
   subst hj
   obtain⟨v,hv,hi⟩:=hA.get hx
   have bA:n < aS.length:=(List.getElem?_eq_some_iff.1 hv).1
   exact⟨v,by rw[Array.getElem?_append_left (by simpa using bA)]; simpa using hv,hi⟩
  ·cases hx
 refine wp_mono ((iU hG N c _ _ mq h).run hR) fun e a' w' hp=>?_
 obtain⟨x,s',I',aG,rfl,hq,cS,hg⟩:=hp.goes
 have lJ:FW G fn.results.toList S.length K .lF s'->_:=fun hq=>And.intro (cS.defers.trans hd) (zm hG rfl rfl rfl cS hg hq)
 cases x with
 | lF=>exact lJ hq
 | ret=>exact lJ hq
 | exit id=>exact hq.elim
end
end Go.Proofs.YtnbhdacpogplgaaGreatDoor.Pw

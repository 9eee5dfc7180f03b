/- What this claim is proved with: no condition. -/
import Derived.Test.YtlgkljpgagfndaaGreatDoorNv7
import Derived.Scope
set_option linter.unusedVariables false
set_option linter.unusedSimpArgs false
namespace Go.Proofs.YtlgkljpgagfndaaGreatDoor.Pw
open Go Go.RowKit
def seqK (k:bb->Prop) (Q:X->bb->Prop) (x:X) (s:bb):Prop:=match x with
 | .iw=>k s
 | x=>Q x s
def qL (id:Nat) (Q:X->bb->Prop) (x:X) (s:bb):Prop:=match x with
 | .exit j=>bif Nat.beq j id then Q .iw s else Q (.exit j) s
 | x=>Q x s
def Fe (s:bb) (c:Operand) (t e:bb->Prop):Prop:=s.ev c fun x=>match x with
 | .tt=>t s
 | .ff=>e s
 | .bool p=>(match c with
  | .tmp i=>(p->s.put (some i) .tt t)/\(¬ p->s.put (some i) .ff e)
  | _=>(p->t s)/\(¬ p->e s))
 | _=>False
def cr (R:List (Nat × aT)):Code->Bool
 | .region id ops true=>(match Ev.D_ id R with
  | some p=>Region.noSelect ops && At ops ops.toList fun T=>nw T ops.size 0 p
  | none=>true)
 | .seq a b=>cr R a && cr R b
 | .cond _ a b=>cr R a && cr R b
 | .block _ c=>cr R c
 | .scope c=>cr R c
 | .loop c=>cr R c
 | _=>true
def pw (G:Gx) (R:List (Nat × aT)):Nat->Code->(X->bb->Prop)->bb->Prop
 | 0,_,_,_=>False
 | n+1,c,Q,s=>match c with
  | .skip|.label _=>Q .iw s
  | .ret=>Q .ret s
  | .exit id=>Q (.exit id) s
  | .seq a b=>pw G R n a (seqK (pw G R n b Q) Q) s
  | .cond c a b=>Fe s c (pw G R n a Q) (pw G R n b Q)
  | .block id c=>pw G R n c (qL id Q) s
  | .scope c=>pw G R n c Q s
  | .loop c=>SW G (.loop c) Q s
  | .rangeFunc f ps a b=>SW G (.rangeFunc f ps a b) Q s
  | .region id ops draw=>(match draw with
   | true=>bu (Ev.D_ id R) fun p=>cp G ops.toList p s [] (Q .iw)
   | false=>BM G ops.toList Q ops.toList s)
  | _=>False
section
variable {w w':World} {I I':Nat->Prop} {β aU:aB} {G:Gx} {s:bb} {a:Act} {st eA:List ak}
theorem dK.of {Q:X->bb->Prop} {x:X} {s':bb} {w0:World} (hq:Q x s') {a':Act} (hR:Rel G I' aU s' a' w') (hg:bW I β s w0 I' aU s' w'):dK G s I β w0 Q (X.e x) a' w' :=
 ⟨x,s',I',aU,rfl,hq,hR,hg.ext,hg.base,hg.rl,hg.n,hg.low⟩
theorem dK.goes {Q:X->bb->Prop} {e:Exit} {a':Act} (h:dK G s I β w Q e a' w'):∃ x s' I' aU,e=X.e x/\Q x s'/\Rel G I' aU s' a' w'/\bW I β s w I' aU s' w' :=
 let ⟨x,s',I',aU,he,hq,hR,h1,h2,h3,h4,h5⟩:=h; ⟨x,s',I',aU,he,hq,hR,h1,h2,h3,h4,h5⟩
theorem SW.intro {c:Code} {Q:X->bb->Prop} (h:∀ I β a w,Rel G I β s a w->c.wp G.cx.P (dK G s I β w Q) a w):SW G c Q s:=by unfold SW; exact h
theorem SW.run {c:Code} {Q:X->bb->Prop} (h:SW G c Q s) (hR:Rel G I β s a w):c.wp G.cx.P (dK G s I β w Q) a w:=by unfold SW at h; exact h I β a w hR
theorem SW.from {c:Code} {Q:X->bb->Prop} {s0:bb} {I0:Nat->Prop} {fX:aB} {w0:World} (h:SW G c Q s) (hR:Rel G I β s a w) (hg:bW I0 fX s0 w0 I β s w):c.wp G.cx.P (dK G s0 I0 fX w0 Q) a w :=
 wp_mono (h.run hR) fun e a' w' hp=>by
  obtain⟨x,s',I',aU,rfl,hq,dt,vP⟩:=hp.goes
  exact dK.of hq dt (hg.trans vP)
theorem Ext.kP (hh:w'.heap=w.heap) (h1:w'.os=w.os) (h2:w'.tape=w.tape) (h3:w'.output=w.output):Ext I β st w I β st w' :=
 ⟨h1,h2,h3,by rw[hh]; exact Nat.le_refl _,fun g _ _=>by rw[hh],fun _ _ h=>h,fun _ h=>h,fun _ _ h=>.inl h⟩
theorem aO.kP (h:aO I β st w) (hh:w'.heap=w.heap):aO I β st w' :=
 ⟨h.qo,fun l b hl aN=>(h.gw l b hl aN).mono (fun _ h=>h) (fun _ _=>by rw[hh]) (fun _ _ h=>h) fun p g o hp ha=>⟨by rw[hh],fun hr=>by
  obtain⟨_,_,fr,_,ho⟩:=(h.gw l b hl aN).place hp ha
  exact⟨(ho.1 hr).2.1,(ho.1 hr).2.2⟩⟩⟩
theorem qM (s:bb):s.store s.st=s:=by cases s; rfl
theorem Rel.kP (hR:Rel G I β s a w) (hh:w'.heap=w.heap) (h1:w'.os=w.os) (h2:w'.tape=w.tape) (h3:w'.output=w.output):Rel G I β s a w':=by
 have:=hR.grow (hR.heap.kP hh) (Ext.kP hh h1 h2 h3) (fun _ _ h=>h) (Nat.le_refl _) (fun g hg=>by rw[hh]; exact hR.az.az g hg)
 rwa [qM] at this
theorem wD {c:Operand} {t e:bb->Prop} (hR:Rel G I β s a w) (h:Fe s c t e):∃ b s',a.eval c = .bool b/\(if b then t s' else e s')/\iX s s'/\Rel G I β s' a w:=by
 have same:iX s s:=⟨rfl,rfl,rfl,rfl⟩
 unfold Fe at h
 cases c with
 | tmp i =>
  replace h:=aA h
  obtain⟨x,hx,h⟩:=h
  obtain⟨v,hv,hi⟩:=hR.get i x hx
  have he:a.eval (.tmp i)=v:=by simp only[Act.eval,Array.getD_eq_getD_getElem?,hv,Option.getD_some]
  rw[he]
  split at h<;>try simp only[PV.Is] at hi
  ·exact⟨true,s,hi,h,same,hR⟩
  ·exact⟨false,s,hi,h,same,hR⟩
  ·rename_i p
   by_cases hp:p
   ·obtain⟨s',hk,hs,hr⟩:=bb.lz hR hv (x:=.tt) (by rw[hi,cv hp]; exact Is.tt) (h.1 hp)
    exact⟨true,s',by rw[hi,cv hp],hk,hs,hr⟩
   ·obtain⟨s',hk,hs,hr⟩:=bb.lz hR hv (x:=.ff) (by rw[hi,b_ hp]; exact Is.ff) (h.2 hp)
    exact⟨false,s',by rw[hi,b_ hp],hk,hs,hr⟩
  ·exact h.elim
 | _ =>
  replace h:=bb.cI hR h
  obtain⟨x,h,hx⟩:=h
  split at h<;>try simp only[PV.Is] at hx
  ·exact⟨true,s,hx,h,same,hR⟩
  ·exact⟨false,s,hx,h,same,hR⟩
  ·rename_i p
   by_cases hp:p
   ·exact⟨true,s,by rw[hx,cv hp],h.1 hp,same,hR⟩
   ·exact⟨false,s,by rw[hx,b_ hp],h.2 hp,same,hR⟩
  ·exact h.elim
theorem jD (hG:ma G) {R:List (Nat × aT)}:∀ (n:Nat) (c:Code) (Q:X->bb->Prop) (s:bb),cr R c=true->pw G R n c Q s->SW G c Q s
 | 0,_,_,_,_,h=>h.elim
 | n+1,c,Q,s,hc,h=>by
  cases c with
  | skip=>exact SW.intro fun I β a w hR=>wp_skip (dK.of (x:=.iw) h hR (bW.same ⟨rfl,rfl,rfl,rfl⟩))
  | label l=>exact SW.intro fun I β a w hR=>wp_label (dK.of (x:=.iw) h hR (bW.same ⟨rfl,rfl,rfl,rfl⟩))
  | ret=>exact SW.intro fun I β a w hR=>wp_ret (dK.of (x:=.ret) h hR (bW.same ⟨rfl,rfl,rfl,rfl⟩))
  | exit id=>exact SW.intro fun I β a w hR=>wp_exit (dK.of (x:=.exit id) h hR (bW.same ⟨rfl,rfl,rfl,rfl⟩))
  | seq x y =>
   simp only[cr,Bool.and_eq_true] at hc
   have h1:=jD hG n x _ s hc.1 h
   refine SW.intro fun I β a w hR=>wp_seq (wp_mono (h1.run hR) fun e a' w' hp=>?_)
   obtain⟨x',s',I',aU,rfl,hq,dt,hg⟩:=hp.goes
   cases x' with
   | iw=>exact (jD hG n y Q s' hc.2 hq).from dt hg
   | exit id=>exact dK.of (Q:=Q) (x:=.exit id) hq dt hg
   | ret=>exact dK.of (Q:=Q) (x:=.ret) hq dt hg
  | cond c x y =>
   simp only[cr,Bool.and_eq_true] at hc
   refine SW.intro fun I β a w hR=>?_
   obtain⟨b,s',he,hk,hs,dt⟩:=wD hR h
   refine wp_cond he ?_
   cases b with
   | true=>exact (jD hG n x Q s' hc.1 hk).from dt (bW.same hs)
   | false=>exact (jD hG n y Q s' hc.2 hk).from dt (bW.same hs)
  | block id c =>
   have h1:=jD hG n c _ s hc h
   refine SW.intro fun I β a w hR=>wp_block (wp_mono (h1.run hR) fun e a' w' hp=>?_)
   obtain⟨x',s',I',aU,rfl,hq,dt,hg⟩:=hp.goes
   cases x' with
   | iw=>exact dK.of (Q:=Q) (x:=.iw) hq dt hg
   | exit j =>
    show Exit.inBlock id _ (.exit j) a' w'
    simp only[Exit.inBlock]
    by_cases hj:j=id
    ·subst hj
     rw[if_pos rfl]
     have pr:Q .iw s':=by simpa [qL,Nat.beq_refl] using hq
     exact dK.of (x:=.iw) pr dt hg
    ·have dq:Nat.beq j id=false:=by rw[Bool.eq_false_iff]; exact fun e=>hj (Nat.eq_of_beq_eq_true e)
     rw[if_neg hj]
     have pr:Q (.exit j) s':=by simpa [qL,dq] using hq
     exact dK.of (x:=.exit j) pr dt hg
   | ret=>exact dK.of (Q:=Q) (x:=.ret) hq dt hg
  | scope c =>
   have h1:=jD hG n c _ s hc h
   refine SW.intro fun I β a w hR=>wp_scope_straight (wp_mono (h1.run hR) fun e a' w' hp=>?_)
   obtain⟨x',s',I',aU,rfl,hq,dt,hg⟩:=hp.goes
   cases x' with
   | iw=>exact dK.of (Q:=Q) (x:=.iw) hq dt hg
   | exit j=>exact dK.of (Q:=Q) (x:=.exit j) hq dt hg
   | ret=>exact dK.of (Q:=Q) (x:=.ret) hq dt hg
  | loop c=>exact h
  | rangeFunc f ps a b=>exact h
  | region id ops draw =>
   refine SW.intro fun I β a w hR=>?_
   cases draw with
   | true =>
    obtain⟨p,hp,h⟩:=aA h
    unfold cr at hc
    rw[hp] at hc
    simp only[Bool.and_eq_true,wx] at hc
    have dt:Rel G I β s a { w with drawn:=w.drawn+1 }:=hR.kP rfl rfl rfl rfl
    have hd:bW I β s w I β s { w with drawn:=w.drawn+1 }:=⟨Ext.kP rfl rfl rfl rfl,rfl,rfl,rfl,fun _ _ _=>rfl⟩
    have hA:=yR hG hc.1 ops.size p (dK G s I β w Q) _ s a I β _ [] [] _ (kO _ _ _ _ (Mk.none ops) hc.2) h dt (fun y hy=>by cases hy) fun s' I' aU a' w' hk nj hg=>dK.of (Q:=Q) (x:=.iw) hk nj (hd.trans hg)
    exact wp_region_any hG.ok.mix (dU.sound _ _ _ _ _ _ hA rfl)
   | false=>exact wp_region_list (uN hG _ h hR fun x s' I' aU a' w' hq dt hg=>dK.of hq dt hg)
  | _=>exact h.elim
def qN (k:bb->Prop) (Q:X->bb->Prop) (x:X) (s:bb):Prop:=match x with
 | .iw=>k s
 | x=>Q x s
def rnd (G:Gx) (R:List (Nat × aT)) (N:Nat) (c:Code) (Q:X->bb->Prop):Nat->bb->Prop
 | 0,_=>False
 | n+1,s=>pw G R N c (qN (rnd G R N c Q n) Q) s
theorem SW.rounds (hG:ma G) (R:List (Nat × aT)) {N:Nat} {c:Code} {Q:X->bb->Prop} (hc:cr R c=true) (n:Nat) (h:rnd G R N c Q n s):SW G (.loop c) Q s:=by
 have key:∀ (n:Nat) (s0 s:bb) (I0 I:Nat->Prop) (fX β:aB) (w0 w:World) (a:Act),rnd G R N c Q n s->Rel G I β s a w->bW I0 fX s0 w0 I β s w->Code.rounds G.cx.P c (dK G s0 I0 fX w0 Q) n a w:=by
  intro n
  induction n with
  | zero=>intro s0 s I0 I fX β w0 w a h _ _; exact h.elim
  | succ n ih =>
   intro s0 s I0 I fX β w0 w a h hR hg
   rw[rounds_succ]
   refine wp_mono ((jD hG N c _ s hc h).run hR) fun e a' w' hp=>?_
   obtain⟨x',s',I',aU,rfl,hq,dt,vP⟩:=hp.goes
   cases x' with
   | iw=>exact ih s0 s' I0 I' fX aU w0 w' a' hq dt (hg.trans vP)
   | exit id=>exact dK.of (Q:=Q) (x:=.exit id) hq dt (hg.trans vP)
   | ret=>exact dK.of (Q:=Q) (x:=.ret) hq dt (hg.trans vP)
 exact SW.intro fun I β a w hR=>wp_loop_rounds n (key n s s I I β β w w a h hR (bW.same ⟨rfl,rfl,rfl,rfl⟩))
theorem Sub.refl:Sub G s s:=fun I β _ _ hR=>⟨I,β,hR,bW.same ⟨rfl,rfl,rfl,rfl⟩⟩
theorem SW.inv (hG:ma G) {R:List (Nat × aT)} {α:Type} (inv:α->bb) (μ:α->Nat) {N:Nat} {c:Code} {Q:X->bb->Prop} (hc:cr R c=true) (x0:α) (h0:Sub G s (inv x0)) (K:α->bb->Prop) (hK:∀ x s',K x s'->∃ y,μ y < μ x/\Sub G s' (inv y))
  (h:∀ x,pw G R N c (qN (K x) Q) (inv x)):SW G (.loop c) Q s:=by
 refine SW.intro fun I0 fX a w hR=>?_
 obtain⟨I,β,iy,pP⟩:=h0 I0 fX a w hR
 let J:Nat->Act->World->Prop:=fun m a w'=>∃ x I β,μ x=m/\Rel G I β (inv x) a w'/\bW I0 fX s w I β (inv x) w'
 have key:∀ (m:Nat) (a:Act) (w':World),J m a w'->∀ (b:Frame) (k:List Item) (cs:List Frame),∃ e a' vN,dK G s I0 fX w Q e a' vN/\Arrives G.cx.P (lone (b.at a (.code c::.inLoop c::k)) cs w') b k cs e a' vN:=by
  intro m
  induction m using Nat.strongRecOn with
  | _ m ih =>
   rintro a w' ⟨x,I,β,hx,hR,hg⟩ b k cs
   obtain⟨e,JW,JX,hp,yI⟩:=(jD hG N c _ _ hc (h x)).run hR b (.inLoop c::k) cs
   obtain⟨x',s',I',aU,rfl,hq,dt,vP⟩:=hp.goes
   cases x' with
   | iw =>
    obtain⟨y,hy,hs⟩:=hK x s' hq
    obtain⟨I2,gx,nj,BX⟩:=hs I' aU JW JX dt
    obtain⟨e₂,a₂,w₂,V3,JY⟩:=ih (μ y) (by omega) JW JX ⟨y,I2,gx,rfl,nj,(hg.trans vP).trans BX⟩ b k cs
    exact⟨e₂,a₂,w₂,V3,.of_steps (Steps.trans yI (.one step_inLoop)) JY⟩
   | exit id=>exact⟨_,JW,JX,dK.of (Q:=Q) (x:=.exit id) hq dt (hg.trans vP),.pass (x:=.inLoop c) rfl (fun _ _=>.inl (by simp[X.e])) yI⟩
   | ret=>exact⟨_,JW,JX,dK.of (Q:=Q) (x:=.ret) hq dt (hg.trans vP),.pass (x:=.inLoop c) rfl (fun _ _=>.inl (by simp[X.e])) yI⟩
 intro b k cs
 obtain⟨e,a',w',hq,yI⟩:=key (μ x0) a w ⟨x0,I,β,rfl,iy,pP⟩ b k cs
 exact⟨e,a',w',hq,.of_steps (.one step_loop) yI⟩
end
def yt (x y:PV):Prop:=match x,y with
 | .lit k a,.lit l b=>if decide (k=l) then a=b else False
 | .lit k a,.int l b=>if decide (k=l) then a=b else False
 | .int k a,.lit l b=>if decide (k=l) then a=b else False
 | .int k a,.int l b=>if decide (k=l) then a=b else False
 | .tt,.tt=>True|.ff,.ff=>True
 | .tt,.bool p=>p|.ff,.bool p=>¬ p
 | .bool p,.tt=>p|.bool p,.ff=>¬ p
 | .bool p,.bool q=>p↔q
 | .val v,.val u=>v=u
 | .nil,.nil=>True
 | .nil,.sl _ es=>es = []
 | .sl n es,.sl m fs=>if Nat.beq n m then es=fs else False
 | .wref l,.wref m=>if Nat.beq l m then True else False
 | .mref l,.mref m=>if Nat.beq l m then True else False
 | .ref l o n,.ref l' o' n'=>if Nat.beq l l' && Nat.beq o o' && Nat.beq n n' then True else False
 | .ptr l o,.ptr l' o'=>if Nat.beq l l' && Nat.beq o o' then True else False
 | .pti l o i n,.pti l' o' i' n'=>if Nat.beq l l' && Nat.beq o o' && Nat.beq n n' then i=i' else False
 | .dpt l i n o,.dpt l' i' n' o'=>if Nat.beq l l' && Nat.beq o o' && Nat.beq n n' then i=i' else False
 | .ep cs o,.ep ds o'=>if Nat.beq o o' then cs=ds else False
 | .gp g o,.gp g' o'=>if Nat.beq g g' && Nat.beq o o' then True else False
 | .gpi g o i n,.gpi g' o' i' n'=>if Nat.beq g g' && Nat.beq o o' && Nat.beq n n' then i=i' else False
 | _,_=>False
def ny (r:PV->PV->Prop):List PV->List PV->Prop
 | [],[]=>True
 | x::xs,y::ys=>r x y/\ny r xs ys
 | _,_=>False
def V4 (x y:PV):Prop:=match x,y with
 | .agg cs,.agg ds=>ny yt cs ds
 | .clo f cs,.clo g ds=>if Nat.beq f g then ny yt cs ds else False
 | x,y=>yt x y
def kt (x y:PV):Prop:=match x,y with
 | .tup cs,.tup ds=>ny V4 cs ds
 | x,y=>V4 x y
def Aw (x y:PV):Prop:=∀ w I β v,x.Is w I β v->y.Is w I β v
theorem Aw.refl (x:PV):Aw x x:=fun _ _ _ _ h=>h
section
variable {w w':World} {I I':Nat->Prop} {β aU:aB} {G:Gx} {s:bb} {a:Act} {st eA:List ak}
theorem ja {c p:Prop} [Decidable c] (h:if c then p else False):c/\p:=by
 split at h
 ·exact⟨‹_›,h⟩
 ·exact h.elim
theorem qO {x y:PV} (h:yt x y):Aw x y:=by
 intro w I β v hx
 unfold yt at h
 split at h<;>first|exact h.elim|(simp only[PV.Is] at hx ⊢)
 ·obtain⟨hk,h⟩:=ja h; rw[hx,of_decide_eq_true hk,h]
 ·obtain⟨hk,h⟩:=ja h; rw[hx,of_decide_eq_true hk,h]
 ·obtain⟨hk,h⟩:=ja h; rw[hx,of_decide_eq_true hk,h]
 ·obtain⟨hk,h⟩:=ja h; rw[hx,of_decide_eq_true hk,h]
 ·exact hx
 ·exact hx
 ·rw[hx,cv h]
 ·rw[hx,b_ h]
 ·rw[hx,cv h]
 ·rw[hx,b_ h]
 ·rw[hx,show pb _=pb _ from congrArg pb (propext h)]
 ·rw[← h]; exact hx
 ·exact hx
 ·subst h; exact⟨none,0,hx,Nat.le_refl _,Nat.zero_le _,(fun _ _ e=>by cases e),fun hn=>absurd rfl hn⟩
 ·obtain⟨hb,h⟩:=ja h; rw[← h,← Nat.eq_of_beq_eq_true hb]; exact hx
 ·obtain⟨hb,h⟩:=ja h; rw[← Nat.eq_of_beq_eq_true hb]; exact hx
 ·obtain⟨hb,h⟩:=ja h; rw[← Nat.eq_of_beq_eq_true hb]; exact hx
 ·obtain⟨hb,h⟩:=ja h
  simp only[Bool.and_eq_true] at hb
  rw[← Nat.eq_of_beq_eq_true hb.1.1,← Nat.eq_of_beq_eq_true hb.1.2,← Nat.eq_of_beq_eq_true hb.2]; exact hx
 ·obtain⟨hb,h⟩:=ja h
  simp only[Bool.and_eq_true] at hb
  rw[← Nat.eq_of_beq_eq_true hb.1,← Nat.eq_of_beq_eq_true hb.2]; exact hx
 ·obtain⟨hb,h⟩:=ja h
  simp only[Bool.and_eq_true] at hb
  rw[← Nat.eq_of_beq_eq_true hb.1.1,← Nat.eq_of_beq_eq_true hb.1.2,← Nat.eq_of_beq_eq_true hb.2,← h]; exact hx
 ·obtain⟨hb,h⟩:=ja h
  simp only[Bool.and_eq_true] at hb
  rw[← Nat.eq_of_beq_eq_true hb.1.1,← Nat.eq_of_beq_eq_true hb.1.2,← Nat.eq_of_beq_eq_true hb.2,← h]; exact hx
 ·obtain⟨hb,h⟩:=ja h; rw[← Nat.eq_of_beq_eq_true hb,← h]; exact hx
 ·obtain⟨hb,h⟩:=ja h
  simp only[Bool.and_eq_true] at hb
  rw[← Nat.eq_of_beq_eq_true hb.1,← Nat.eq_of_beq_eq_true hb.2]; exact hx
 ·obtain⟨hb,h⟩:=ja h
  simp only[Bool.and_eq_true] at hb
  rw[← Nat.eq_of_beq_eq_true hb.1.1,← Nat.eq_of_beq_eq_true hb.1.2,← Nat.eq_of_beq_eq_true hb.2,← h]; exact hx
theorem jg {r:PV->PV->Prop} (hr:∀ x y,r x y->Aw x y):∀ {xs ys:List PV} {vs:List Value},ny r xs ys->bH w I xs β vs->bH w I ys β vs
 | [],[],_,_,h=>h
 | x::xs,y::ys,v::vs,h,hx=>by
  simp only[bH] at hx ⊢
  exact⟨hr x y h.1 w I β v hx.1,jg hr h.2 hx.2⟩
 | x::xs,y::ys,[],h,hx=>by simp only[bH] at hx
 | [],_::_,_,h,_=>h.elim
 | _::_,[],_,h,_=>h.elim
theorem Ff {x y:PV} (h:V4 x y):Aw x y:=by
 unfold V4 at h
 split at h
 ·intro w I β v hx
  simp only[PV.Is] at hx ⊢
  obtain⟨vs,rfl,hx⟩:=hx
  exact⟨vs,rfl,jg (fun _ _=>qO) h hx⟩
 ·intro w I β v hx
  split at h
  ·rename_i hb
   simp only[PV.Is] at hx ⊢
   obtain⟨vs,rfl,hx⟩:=hx
   exact⟨vs,by rw[Nat.eq_of_beq_eq_true hb],jg (fun _ _=>qO) h hx⟩
  ·exact h.elim
 ·exact qO h
theorem fA {x y:PV} (h:kt x y):Aw x y:=by
 unfold kt at h
 split at h
 ·intro w I β v hx
  simp only[PV.Is] at hx ⊢
  obtain⟨vs,rfl,hx⟩:=hx
  exact⟨vs,rfl,jg (fun _ _=>Ff) h hx⟩
 ·exact Ff h
abbrev gH:=List (Option Nat)
def PV.wE (π:gH) (x:PV):Option PV:=match x with
 | .wref l=>(match π[l]? with
  | some (some m)=>some (.wref m)
  | some none=>some .nil
  | none=>none)
 | .mref l=>(match π[l]? with
  | some (some m)=>some (.mref m)
  | _=>none)
 | .ref l o n=>(match π[l]? with
  | some (some m)=>some (.ref m o n)
  | _=>none)
 | .ptr l o=>(match π[l]? with
  | some (some m)=>some (.ptr m o)
  | _=>none)
 | .pti l o i n=>(match π[l]? with
  | some (some m)=>some (.pti m o i n)
  | _=>none)
 | .dpt l i n o=>(match π[l]? with
  | some (some m)=>some (.dpt m i n o)
  | _=>none)
 | .agg _|.tup _|.clo ..=>none
 | x=>some x
def gk (π:gH):List PV->Option (List PV)
 | []=>some []
 | c::cs=>(match c.wE π,gk π cs with
  | some x,some l=>some (x::l)
  | _,_=>none)
def PV.Jl (π:gH) (x:PV):Option PV:=match x with
 | .agg cs=>(gk π cs).map .agg
 | .clo f cs=>(gk π cs).map (.clo f)
 | .tup _=>none
 | x=>x.wE π
def iB (β:aB) (π:gH):aB:=fun l=>match π[l]? with
 | some (some m)=>β m
 | some none=>some ⟨none,0,0⟩
 | none=>none
theorem cF {π:gH} {l m:Nat} (h:π[l]?=some (some m)):iB β π l=β m:=by unfold iB; rw[h]
theorem jE {π:gH} {l:Nat} (h:π[l]?=some none):iB β π l=some ⟨none,0,0⟩:=by unfold iB; rw[h]
theorem p_ {π:gH} {x y:PV} {v:Value} (h:x.wE π=some y) (hy:y.Is w I β v):x.Is w I (iB β π) v:=by
 unfold PV.wE at h
 split at h
 ·split at h
  ·rename_i m hm
   cases h
   simp only[PV.Is] at hy ⊢
   rw[cF hm]; exact hy
  ·rename_i hm
   cases h
   simp only[PV.Is] at hy ⊢
   exact⟨_,jE hm,hy⟩
  ·cases h
 ·split at h
  ·rename_i m hm
   cases h
   simp only[PV.Is] at hy ⊢
   rw[cF hm]; exact hy
  ·cases h
 ·split at h
  ·rename_i m hm
   cases h
   simp only[PV.Is] at hy ⊢
   rw[cF hm]; exact hy
  ·cases h
 ·split at h
  ·rename_i m hm
   cases h
   simp only[PV.Is] at hy ⊢
   rw[cF hm]; exact hy
  ·cases h
 ·split at h
  ·rename_i m hm
   cases h
   simp only[PV.Is] at hy ⊢
   rw[cF hm]; exact hy
  ·cases h
 ·split at h
  ·rename_i m hm
   cases h
   simp only[PV.Is] at hy ⊢
   rw[cF hm]; exact hy
  ·cases h
 ·cases h
 ·cases h
 ·cases h
 ·cases h
  refine PV.Is.mono (fun _ h=>h) (fun _ _=>rfl) x β _ v (fun l p hl=>?_) hy
  cases x<;>first|(simp_all [PV.dk]; done)|(rename_i a1 a2 a3 a4 a5 a6 a7 a8 a9; first|exact (a4 _ _ _ _ rfl).elim|exact (a5 _ _ _ _ rfl).elim|exact (a6 _ _ _ _ rfl).elim)
theorem uR {π:gH}:∀ {xs ys:List PV} {vs:List Value},gk π xs=some ys->bH w I ys β vs->bH w I xs (iB β π) vs
 | [],ys,vs,h,hy=>by
  simp only[gk,Option.some.injEq] at h
  subst h
  cases vs with
  | nil=>simp only[bH]
  | cons v vs=>simp only[bH] at hy
 | x::xs,ys,vs,h,hy=>by
  simp only[gk] at h
  split at h
  ·rename_i y l h1 h2
   cases h
   cases vs with
   | nil=>simp only[bH] at hy
   | cons v vs =>
    simp only[bH] at hy ⊢
    exact⟨p_ h1 hy.1,uR h2 hy.2⟩
  ·cases h
theorem Fg {π:gH} {x y:PV} {v:Value} (h:x.Jl π=some y) (hy:y.Is w I β v):x.Is w I (iB β π) v:=by
 unfold PV.Jl at h
 split at h
 ·rw[Option.map_eq_some_iff] at h
  obtain⟨l,hl,rfl⟩:=h
  simp only[PV.Is] at hy ⊢
  obtain⟨vs,rfl,hy⟩:=hy
  exact⟨vs,rfl,uR hl hy⟩
 ·rw[Option.map_eq_some_iff] at h
  obtain⟨l,hl,rfl⟩:=h
  simp only[PV.Is] at hy ⊢
  obtain⟨vs,rfl,hy⟩:=hy
  exact⟨vs,rfl,uR hl hy⟩
 ·cases h
 ·exact p_ h hy
def TM.kt (π:gH):TM->TM->Prop
 | _,.nil=>True
 | .nil,.node v l r=>(match v with
  | none=>True
  | some _=>False)/\TM.kt π .nil l/\TM.kt π .nil r
 | .node v l r,.node v' l' r'=>(match v' with
  | none=>True
  | some y=>bu v fun x=>bu (y.Jl π) fun y=>Pw.kt x y)/\TM.kt π l l'/\TM.kt π r r'
def Md.beq:Md->Md->Bool
 | .w,.w=>true|.p,.p=>true|.r,.r=>true
 | _,_=>false
def BK.beq:BK->BK->Bool
 | .loc,.loc=>true|.arr,.arr=>true|.dyn,.dyn=>true|.mp,.mp=>true
 | _,_=>false
def V5 (cx:Ev.Cx) (π:gH) (b b':ak):Prop:=bif Nat.beq b.ty b'.ty && Nat.beq b.size b'.size && Md.beq b.m b'.m && b.live then (match b.k,b'.k with
 | .loc,.loc=>bu (gk π b'.cs) fun cs=>ny yt b.cs cs
 | .arr,.arr=>bu (gk π b'.cs) fun cs=>ny yt b.cs cs
 | .dyn,.dyn=>b.cs=b'.cs
 | .mp,.mp=>b.cs=b'.cs
 | .arr,.dyn=>bu (Ev.gA cx b.ty) fun ag=>bif ag || Nat.beq b.size 1 then b.szK fun n=>bu (fL ag n (.stat b.cs)) fun es=>es=b'.cs else False
 | _,_=>False) else False
def stK (cx:Ev.Cx) (π:gH) (st:List ak):List ak->gH->Prop
 | [],[]=>True
 | b'::r,some m::π'=>(match b'.live with
  | true=>bu st[m]? fun b=>V5 cx π b b'
  | false=>True)/\stK cx π st r π'
 | b'::r,none::π'=>(match b'.k,b'.cs with
  | .dyn,[]=>bif Nat.blt 0 b'.size then True else False
  | _,_=>False)/\stK cx π st r π'
 | _,_=>False
def qP:gH->Bool
 | []=>true
 | none::π=>qP π
 | some m::π=>!(π.any fun x=>match x with
  | some k=>Nat.beq m k
  | none=>false) && qP π
def nz (rl:List Nat):Nat->Nat->gH->Bool
 | 0,_,_=>true
 | n+1,l,some m::π=>(Nat.beq l m || jR l rl) && nz rl n (l+1) π
 | n+1,l,none::π=>jR l rl && nz rl n (l+1) π
 | _+1,_,[]=>false
def gC (cx:Ev.Cx) (π:gH) (s s':bb):Prop :=
 s'.n=s.n/\s'.base=s.base/\s'.rl=s.rl/\(bif qP π && nz s.rl s.base 0 π then True else False)/\stK cx π s.st s'.st π/\TM.kt π s.t s'.t
theorem TM.fA {π:gH}:∀ {t t':TM} {n:Nat} {y:PV},TM.kt π t t'->t'.get n=some y->∃ x z,t.get n=some x/\y.Jl π=some z/\Pw.kt x z
 | _,.nil,n,y,_,hy=>by cases hy
 | .nil,.node v l r,n,y,h,hy=>by
  exfalso
  have key:∀ (t':TM),TM.kt π .nil t'->∀ n y,t'.get n=some y->False:=by
   intro t'
   induction t' with
   | nil=>intro _ n y hy; cases hy
   | node v l r ihl ihr =>
    intro h n y hy
    obtain⟨h1,h2,h3⟩:=h
    cases v with
    | some _=>exact h1.elim
    | none =>
     simp only[TM.get] at hy
     cases h0:Nat.beq n 0<;>rw[h0] at hy
     ·cases h1:Nat.beq (n % 2) 1<;>rw[h1] at hy
      ·exact ihr h3 _ _ hy
      ·exact ihl h2 _ _ hy
     ·cases hy
  exact key _ h n y hy
 | .node v l r,.node v' l' r',n,y,h,hy=>by
  obtain⟨h1,h2,h3⟩:=h
  simp only[TM.get] at hy ⊢
  cases h0:Nat.beq n 0<;>rw[h0] at hy
  ·cases hp:Nat.beq (n % 2) 1<;>rw[hp] at hy
   ·exact TM.fA h3 hy
   ·exact TM.fA h2 hy
  ·cases v' with
   | none=>cases hy
   | some y' =>
    cases hy
    obtain⟨x,hx,h1⟩:=aA h1
    obtain⟨z,hz,h1⟩:=aA h1
    exact⟨x,z,hx,hz,h1⟩
theorem Md.mA {m n:Md} (h:Md.beq m n=true):m=n:=by cases m<;>cases n<;>first|rfl|cases h
theorem yU {cx:Ev.Cx} {Nr:gH} {st:List ak}:∀ {eA:List ak} {π:gH},stK cx Nr st eA π->π.length=eA.length/\∀ (l:Nat) (b':ak),eA[l]?=some b'->b'.live=true->(∃ (m:Nat) (b:ak),π[l]?=some (some m)/\st[m]?=some b/\V5 cx Nr b b')\/(π[l]?=some none/\b'.k = .dyn/\b'.cs = []/\0 < b'.size)
 | [],[],_=>⟨rfl,fun l b' hl=>by simp at hl⟩
 | b0::r,some m::π,h=>by
  obtain⟨h1,h2⟩:=h
  obtain⟨Jb,Jp⟩:=yU h2
  refine⟨by simp[Jb],fun l b' hl aN=>?_⟩
  cases l with
  | zero =>
   simp at hl; subst hl
   rw[aN] at h1
   obtain⟨b,hb,h1⟩:=aA h1
   exact .inl ⟨m,b,rfl,hb,h1⟩
  | succ l=>simpa using Jp l b' (by simpa using hl) aN
 | b0::r,none::π,h=>by
  obtain⟨h1,h2⟩:=h
  obtain⟨Jb,Jp⟩:=yU h2
  refine⟨by simp[Jb],fun l b' hl aN=>?_⟩
  cases l with
  | zero =>
   simp at hl; subst hl
   split at h1
   ·rename_i hk hc
    obtain⟨hb,_⟩:=bp h1
    exact .inr ⟨rfl,hk,hc,Nat.le_of_ble_eq_true hb⟩
   ·exact h1.elim
  | succ l=>simpa using Jp l b' (by simpa using hl) aN
 | [],_::_,h=>h.elim
 | _::_,[],h=>h.elim
theorem oM:∀ {π:gH},qP π=true->∀ (l l' m:Nat),π[l]?=some (some m)->π[l']?=some (some m)->l=l'
 | [],_,l,_,_,h,_=>by simp at h
 | none::π,hn,l,l',m,h,h'=>by
  cases l with
  | zero=>simp at h
  | succ l=>cases l' with
   | zero=>simp at h'
   | succ l'=>rw[oM (π:=π) hn l l' m (by simpa using h) (by simpa using h')]
 | some k::π,hn,l,l',m,h,h'=>by
  simp only[qP,Bool.and_eq_true,Bool.not_eq_true',List.any_eq_false] at hn
  have no:∀ l,π[l]?=some (some k)->False:=fun l hl=>by
   have:=hn.1 _ (List.mem_of_getElem? hl)
   simp at this
  cases l with
  | zero =>
   simp at h; subst h
   cases l' with
   | zero=>rfl
   | succ l'=>exact (no l' (by simpa using h')).elim
  | succ l =>
   cases l' with
   | zero=>simp at h'; subst h'; exact (no l (by simpa using h)).elim
   | succ l'=>rw[oM (π:=π) hn.2 l l' m (by simpa using h) (by simpa using h')]
theorem oN {rl:List Nat}:∀ {n l:Nat} {π:gH},nz rl n l π=true->n<=π.length
 | 0,_,_,_=>Nat.zero_le _
 | n+1,l,some m::π,h=>by
  simp only[nz,Bool.and_eq_true] at h
  simpa using oN h.2
 | n+1,l,none::π,h=>by
  simp only[nz,Bool.and_eq_true] at h
  simpa using oN h.2
 | _+1,_,[],h=>by cases h
theorem qQ {rl:List Nat}:∀ {n l:Nat} {π:gH},nz rl n l π=true->∀ i,i < n->(π[i]?=some (some (l+i))\/(l+i)∈rl)
 | 0,_,_,_,i,hi=>by omega
 | n+1,l,some m::π,h,i,hi=>by
  simp only[nz,Bool.and_eq_true,Bool.or_eq_true] at h
  cases i with
  | zero=>exact h.1.imp (fun e=>by rw[← Nat.eq_of_beq_eq_true e]; rfl) dV.1
  | succ i =>
   have:=qQ h.2 i (by omega)
   rw[show l+1+i=l+(i+1) by omega] at this
   simpa using this
 | n+1,l,none::π,h,i,hi=>by
  simp only[nz,Bool.and_eq_true] at h
  cases i with
  | zero=>exact .inr (dV.1 h.1)
  | succ i =>
   have:=qQ h.2 i (by omega)
   rw[show l+1+i=l+(i+1) by omega] at this
   simpa using this
 | _+1,_,[],h,_,_=>by cases h
end
section
variable {w w':World} {I I':Nat->Prop} {β aU:aB} {G:Gx} {s:bb} {a:Act} {st eA:List ak}
theorem ir {cs ds:List PV} {arr:Array Value} {o:Nat} (h:ny yt cs ds) (hc:bB w I β cs arr o):bB w I β ds arr o:=by
 have key:∀ (cs ds:List PV) (o:Nat),ny yt cs ds->bB w I β cs arr o->bB w I β ds arr o:=by
  intro cs
  induction cs with
  | nil=>intro ds o h hc; cases ds with
   | nil=>exact hc
   | cons _ _=>exact h.elim
  | cons c cs ih =>
   intro ds o h hc
   cases ds with
   | nil=>exact h.elim
   | cons d ds =>
    intro i x hx
    cases i with
    | zero =>
     simp at hx; subst hx
     obtain⟨v,hv,hi,h1⟩:=hc 0 c rfl
     exact⟨v,hv,qO h.1 w I β v hi,h1⟩
    | succ i =>
     have:=ih ds (o+1) h.2 (fun j y hy=>by
      obtain⟨v,hv,h1⟩:=hc (j+1) y (by simpa using hy)
      exact⟨v,by rw[show o+1+j=o+(j+1) by omega]; exact hv,h1⟩) i x (by simpa using hx)
     obtain⟨v,hv,h1⟩:=this
     exact⟨v,by rw[show o+(i+1)=o+1+i by omega]; exact hv,h1⟩
 exact key cs ds o h hc
theorem qR {π:gH} {cs ds:List PV} {arr:Array Value} {o:Nat} (h:gk π ds=some cs) (hc:bB w I β cs arr o):bB w I (iB β π) ds arr o:=by
 have key:∀ (ds cs:List PV) (o:Nat),gk π ds=some cs->bB w I β cs arr o->bB w I (iB β π) ds arr o:=by
  intro ds
  induction ds with
  | nil=>intro cs o _ _ i c hc; simp at hc
  | cons d ds ih =>
   intro cs o h hc
   simp only[gk] at h
   split at h
   ·rename_i y l h1 h2
    cases h
    intro i x hx
    cases i with
    | zero =>
     simp at hx; subst hx
     obtain⟨v,hv,hi,h3⟩:=hc 0 y rfl
     exact⟨v,hv,p_ h1 hi,h3⟩
    | succ i =>
     have:=ih l (o+1) h2 (fun j y hy=>by
      obtain⟨v,hv,h1⟩:=hc (j+1) y (by simpa using hy)
      exact⟨v,by rw[show o+1+j=o+(j+1) by omega]; exact hv,h1⟩) i x (by simpa using hx)
     obtain⟨v,hv,h1⟩:=this
     exact⟨v,by rw[show o+(i+1)=o+1+i by omega]; exact hv,h1⟩
   ·cases h
 exact key ds cs o h hc
theorem lD {r:PV->PV->Prop}:∀ {cs ds:List PV},ny r cs ds->cs.length=ds.length
 | [],[],_=>rfl
 | _::_,_::_,h=>by simp[lD h.2]
 | [],_::_,h=>h.elim
 | _::_,[],h=>h.elim
theorem wF {π:gH}:∀ {ds cs:List PV},gk π ds=some cs->ds.length=cs.length
 | [],cs,h=>by simp only[gk,Option.some.injEq] at h; subst h; rfl
 | d::ds,cs,h=>by
  simp only[gk] at h
  split at h
  ·rename_i y l h1 h2
   cases h; simp[wF h2]
  ·cases h
theorem eZ (hO:Ev.f_ G.cx) {π:gH} {s s':bb} (h:gC G.cx π s s'):Sub G s s':=by
 obtain⟨hn,Ay,Nj,OJ,uL,ht⟩:=h
 obtain⟨OJ,_⟩:=bp OJ
 simp only[Bool.and_eq_true] at OJ
 obtain⟨OJ,B0⟩:=OJ
 obtain⟨hπl,nc⟩:=yU uL
 have hinj:=oM OJ
 have hbl:=oN B0
 have B0:=qQ B0
 intro I β a w hR
 have hH:aO I (iB β π) s'.st w:=by
  refine⟨fun l hl=>by unfold iB; rw[List.getElem?_eq_none (by omega)],fun l b' hl aN=>?_⟩
  rcases nc l b' hl aN with ⟨m,b,Jm,hb,hk⟩|⟨Jm,hk,hc,fF⟩
  ·obtain⟨hc,hk⟩:=bp hk
   simp only[Bool.and_eq_true] at hc
   obtain⟨⟨⟨E5,fF⟩,hm⟩,Fh⟩:=hc
   have E5:=Nat.eq_of_beq_eq_true E5
   have fF:=Nat.eq_of_beq_eq_true fF
   have hm:=Md.mA hm
   obtain⟨p,hp,hB⟩:=hR.heap.gw m b hb Fh
   have own:∀ {g:Nat} {fr:Nat × Nat},Own I β s.st m g fr b->Own I (iB β π) s'.st l g fr b':=fun ho=>by
    refine⟨fun hr=>?_,fun hr=>ho.2 (by rw[hm]; exact hr)⟩
    obtain⟨h1,h2,h3⟩:=ho.1 (by rw[hm]; exact hr)
    refine⟨h1,h2,fun l2 b2 de fZ bT p2 g2 o2 hU hJ=>?_⟩
    rcases nc l2 b2 fZ bT with ⟨m2,b3,JZ,ku,hk3⟩|⟨JZ,_⟩
    ·rw[cF JZ] at hU
     obtain⟨hc3,_⟩:=bp hk3
     simp only[Bool.and_eq_true] at hc3
     exact h3 m2 b3 (fun e=>de (by subst e; exact hinj l2 l _ JZ Jm)) ku hc3.2 p2 g2 o2 hU hJ
    ·rw[jE JZ] at hU
     cases hU; cases hJ
   refine⟨p,by rw[cF Jm]; exact hp,?_⟩
   split at hk
   ·rename_i Ef uS
    rw[Ef] at hB
    rw[uS]
    obtain⟨g,o,arr,ty,fr,h1,h2,h3,ho⟩:=hB
    obtain⟨cs,gr,hk⟩:=aA hk
    exact⟨g,o,arr,ty,fr,h1,h2,qR gr (ir hk h3),own ho⟩
   ·rename_i Ef uS
    rw[Ef] at hB
    rw[uS]
    obtain⟨g,arr,fr,h1,h2,h3,ho,h4,h5,h6,h7,h8⟩:=hB
    obtain⟨cs,gr,hk⟩:=aA hk
    exact⟨g,arr,fr,h1,by rw[← E5]; exact h2,qR gr (ir hk h3),own ho,by rw[wF gr,← lD hk,← fF]; exact h4,h5,h6,by rw[← fF]; exact h7,by rw[← fF]; exact h8⟩
   ·rename_i Ef uS
    rw[Ef] at hB
    rw[uS]
    obtain⟨⟨h1,h2,h3,h4⟩,hB⟩:=hB
    refine⟨⟨by rw[← fF]; exact h1,by rw[← hk]; exact h2,h3,h4⟩,?_⟩
    rcases hB with h|⟨g,arr,fr,h5,h6,h7,ho,h8⟩
    ·exact .inl h
    ·exact .inr ⟨g,arr,fr,h5,by rw[← E5]; exact h6,by rw[← hk,← fF]; exact h7,own ho,by rw[← fF]; exact h8⟩
   ·rename_i Ef uS
    rw[Ef] at hB
    rw[uS]
    obtain⟨g,h1,h2,ho⟩:=hB
    exact⟨g,h1,by rw[← hk]; exact h2,own ho⟩
   ·rename_i Ef uS
    rw[Ef] at hB
    rw[uS]
    obtain⟨g,arr,fr,h1,h2,h3,ho,h4,h5,h6,h7,h8⟩:=hB
    obtain⟨ag,JG,hk⟩:=aA hk
    obtain⟨Fi,hk⟩:=bp hk
    rw[ak.yz] at hk
    obtain⟨es,po,hk⟩:=aA hk
    simp only[Bool.or_eq_true] at Fi
    have sq:(arr.toList.take (p.len*b.size)).length=p.len*b.size:=by
     rw[List.length_take,Array.length_toList,h7]
     have:=Nat.mul_le_mul_right b.size h5
     omega
    have nh:pt w I β b.size (.stat b.cs) (arr.toList.take (p.len*b.size)):=by
     refine⟨by rw[sq,h4],fun j c hj=>?_⟩
     obtain⟨u,hu,h9⟩:=h3 j c hj
     have qz:j < p.len*b.size:=by rw[← h4]; exact (List.getElem?_eq_some_iff.1 hj).1
     exact⟨u,by rw[List.getElem?_take,if_pos qz]; simpa using hu,h9⟩
    obtain⟨e1,e2⟩:=fQ h8 (Fi.imp id Nat.eq_of_beq_eq_true) po nh sq
    refine⟨⟨by rw[← fF]; exact h8,by rw[← hk]; exact e1,h5,h6⟩,.inr ⟨g,arr,fr,h1,by rw[← E5]; exact h2,?_,own ho,by rw[← fF]; exact h7⟩⟩
    rw[← hk,← fF]
    refine e2.at (fun j v hj=>?_) (fun _ h=>h) (fun _ _=>rfl)
    have:=ng h2 0 (p.len*b.size) j v (by simpa using hj)
    simpa using this
   ·exact hk.elim
  ·refine⟨_,jE Jm,?_⟩
   rw[hk]
   exact⟨⟨fF,by rw[hc]; rfl,Nat.le_refl _,Nat.zero_le _⟩,.inl ⟨rfl,rfl⟩⟩
 refine⟨I,iB β π,⟨by rw[hn]; exact hR.small,hR.defers,by rw[hn]; exact hR.size,?_,fun t y hy=>?_,hH,hR.az⟩,⟨⟨rfl,rfl,rfl,Nat.le_refl _,fun _ _ _=>rfl,fun g hg ⟨l,b',p,o,h1,h2,h3,h4,h5⟩=>?_,fun _ h=>h,fun _ _ h=>.inl h⟩,Ay,Nj,hn,fun l hl hnr=>?_⟩⟩
 ·rw[Ay]
  rw[← hπl]; exact hbl
 ·obtain⟨x,z,hx,hz,hle⟩:=TM.fA ht hy
  obtain⟨v,hv,hi⟩:=hR.get t x hx
  exact⟨v,hv,Fg hz (fA hle w I β v hi)⟩
 ·rcases nc l b' h1 h2 with ⟨m,b,Jm,hb,hk⟩|⟨Jm,_⟩
  ·obtain⟨hc,_⟩:=bp hk
   simp only[Bool.and_eq_true] at hc
   rw[cF Jm] at h4
   exact⟨m,b,p,o,hb,hc.2,by rw[Md.mA hc.1.2]; exact h3,h4,h5⟩
  ·rw[jE Jm] at h4
   cases h4; cases h5
 ·rcases B0 l hl with h|h
  ·rw[Nat.zero_add] at h
   exact cF h
  ·rw[Nat.zero_add] at h; exact absurd h hnr
def frO (v:Option PV) (q:Option PV->Prop):Prop:=match v with
 | none=>q none
 | some x=>fc x fun x=>q (some x)
def Ns:TM->(TM->Prop)->Prop
 | .nil,q=>q .nil
 | .node v l r,q=>frO v fun v=>Ns l fun l=>Ns r fun r=>q (.node v l r)
def V6 (b:ak) (q:ak->Prop):Prop:=match b with
 | ⟨.loc,ty,n,m,live,cs⟩=>fk cs fun cs=>q ⟨.loc,ty,n,m,live,cs⟩
 | ⟨.arr,ty,n,m,live,cs⟩=>fk cs fun cs=>q ⟨.arr,ty,n,m,live,cs⟩
 | ⟨.dyn,ty,n,m,live,cs⟩=>q ⟨.dyn,ty,n,m,live,cs⟩
 | ⟨.mp,ty,n,m,live,cs⟩=>q ⟨.mp,ty,n,m,live,cs⟩
def uT:List ak->(List ak->Prop)->Prop
 | [],q=>q []
 | b::st,q=>V6 b fun b=>uT st fun st=>q (b::st)
def U8 (s:bb) (q:bb->Prop):Prop:=match s with
 | ⟨n,t,st,b,rl⟩=>Ns t fun t=>uT st fun st=>q ⟨n,t,st,b,rl⟩
theorem yV:∀ {t:TM} {q:TM->Prop},Ns t q->q t
 | .nil,_,h=>h
 | .node v l r,q,h=>by
  have h1:Ns l fun l=>Ns r fun r=>q (.node v l r):=by
   cases v with
   | none=>exact h
   | some x=>exact EM (x:=x) (q:=fun x=>Ns l fun l=>Ns r fun r=>q (.node (some x) l r)) h
  have h2:=yV h1
  exact yV (q:=fun r=>q (.node v l r)) h2
theorem yW {b:ak} {q:ak->Prop} (h:V6 b q):q b:=by
 obtain⟨k,ty,n,m,live,cs⟩:=b
 cases k
 ·exact cR (q:=fun cs=>q ⟨.loc,ty,n,m,live,cs⟩) h
 ·exact cR (q:=fun cs=>q ⟨.arr,ty,n,m,live,cs⟩) h
 ·exact h
 ·exact h
theorem nA:∀ {st:List ak} {q:List ak->Prop},uT st q->q st
 | [],_,h=>h
 | b::st,q,h=>nA (q:=fun st=>q (b::st)) (yW h)
theorem qS {q:bb->Prop} (h:U8 s q):q s:=by
 obtain⟨n,t,st,b,rl⟩:=s
 have h1:=yV h
 exact nA (q:=fun st=>q ⟨n,t,st,b,rl⟩) h1
def TM.B1 (v:Option PV):Nat->TM->Nat->TM
 | 0,t,_=>t
 | f+1,.nil,n=>bif Nat.beq n 0 then .node v .nil .nil else bif Nat.beq (n % 2) 1 then .node none (TM.B1 v f .nil ((n - 1) / 2)) .nil else .node none .nil (TM.B1 v f .nil ((n - 1) / 2))
 | f+1,.node u l r,n=>bif Nat.beq n 0 then .node v l r else bif Nat.beq (n % 2) 1 then .node u (TM.B1 v f l ((n - 1) / 2)) r else .node u l (TM.B1 v f r ((n - 1) / 2))
def Nt:List Oper->List Nat
 | []=>[]
 | o::r=>(match o.dst with
  | some d=>[d]
  | none=>[])++Nt r
def qT:Code->List Nat
 | .region _ ops _=>Nt ops.toList
 | .seq a b=>qT a++qT b
 | .cond _ a b=>qT a++qT b
 | .block _ c=>qT c
 | .loop c=>qT c
 | .scope c=>qT c
 | _=>[]
def qU:List Nat->TM->TM
 | [],t=>t
 | d::ds,t=>qU ds (t.B1 none 24 d)
def kQ:List (Nat × PV)->TM->TM
 | [],t=>t
 | (d,x)::r,t=>kQ r (t.B1 (some x) 24 d)
def bb.head (s:bb) (c:Code) (vs:List (Nat × PV)) (st:List ak):bb:=match s with
 | ⟨n,t,_,b,rl⟩=>⟨n,kQ vs (qU (qT c) t),st,b,rl⟩
def OK:Nat->List ak->gH
 | _,[]=>[]
 | n,_::r=>some n::OK (n+1) r
theorem SW.loop (hG:ma G) (R:List (Nat × aT)) {α:Type} {c:Code} {Q:X->bb->Prop} (hc:cr R c=true) (vs:α->List (Nat × PV)) (st:α->List ak) (μ:α->Nat) (x0:α) (N:Nat) (Nr:gH) (h0:gC G.cx Nr s (s.head c (vs x0) (st x0)))
  (h:∀ x,U8 (s.head c (vs x) (st x)) (pw G R N c (qN (fun s'=>∃ y π,μ y < μ x/\gC G.cx π s' (s.head c (vs y) (st y))) Q))):SW G (.loop c) Q s :=
 SW.inv hG (fun x=>s.head c (vs x) (st x)) μ (N:=N) hc x0 (eZ hG.ok h0) (fun x s'=>∃ y π,μ y < μ x/\gC G.cx π s' (s.head c (vs y) (st y))) (fun x s' ⟨y,π,hy,hs⟩=>⟨y,hy,eZ hG.ok hs⟩) fun x=>qS (h x)
def Fj:List PV->Nat->TM->(TM->Prop)->Prop
 | [],_,t,k=>k t
 | x::xs,i,t,k=>fc x fun x=>t.uz (some x) 24 i fun t=>Fj xs (i+1) t k
def Nu (G:Gx) (s:bb) (r:ResultVar) (q:PV->Prop):Prop:=match r with
 | .tmp t=>bu (s.t.get t) fun x=>(match x with
  | .tup _=>False
  | x=>q x)
 | .cell a t=>bu (s.t.get a) fun x=>tp G s.st t x q
def Az (G:Gx) (s:bb):List ResultVar->(List PV->Prop)->Prop
 | [],q=>q []
 | r::rs,q=>Nu G s r fun x=>Az G s rs fun xs=>q (x::xs)
def J0 (G:Gx) (s:bb) (rs:List ResultVar) (q:PV->Prop):Prop:=match rs with
 | [.tmp t]=>bu (s.t.get t) q
 | rs=>Az G s rs fun l=>(match l with
  | [x]=>q x
  | l=>q (.tup l))
def B2:Md->Bool
 | .p=>false
 | _=>true
def B3 (r:PV->(PV->Prop)->Prop):List PV->(List PV->Prop)->Prop
 | [],q=>q []
 | c::cs,q=>r c fun c=>B3 r cs fun cs=>q (c::cs)
def Eg (cx:Ev.Cx) (st:List ak) (base:Nat):Nat->PV->(PV->Prop)->Prop
 | 0,_,_=>False
 | n+1,x,q=>match x with
  | .wref l=>bif Nat.blt l base then q (.wref l) else bu st[l]? fun b=>bif b.live && B2 b.m then (match b.k with
   | .arr=>B3 (Eg cx st base n) b.cs fun cs=>bu (Ev.gA cx b.ty) fun ag=>bif ag || Nat.beq b.size 1 then b.szK fun n=>bu (fL ag n (.stat cs)) fun es=>q (.sl n es) else False
   | .dyn=>q (.sl b.size b.cs)
   | _=>False) else False
  | .agg cs=>B3 (Eg cx st base n) cs fun cs=>q (.agg cs)
  | .tup cs=>B3 (Eg cx st base n) cs fun cs=>q (.tup cs)
  | .clo f cs=>B3 (Eg cx st base n) cs fun cs=>q (.clo f cs)
  | x=>bif x.dk.all (fun l=>Nat.blt l base) then q x else False
def wG (base:Nat) (b:ak):Bool:=match b.k with
 | .dyn=>true
 | .mp=>true
 | _=>b.cs.all fun c=>c.dk.all fun l=>Nat.blt l base
def Fk (G:Gx) (rs:List ResultVar) (base:Nat) (K:PV->List ak->Prop) (x:X) (s:bb):Prop:=match x with
 | .exit _=>False
 | _=>J0 G s rs fun r=>Eg G.cx s.st base 8 r fun r=>bif (s.st.take base).all (wG base) then uT (s.st.take base) fun S=>∃ r',Aw r r'/\K r' S else False
def OL (G:Gx) (R:List (Nat × aT)) (N:Nat) (fn:Func) (c:Code) (args:List PV) (S:List ak) (rl:List Nat) (K:PV->List ak->Prop):Prop :=
 bif Nat.ble args.length fn.ntmps && Nat.ble fn.ntmps 16777215 && !(fn.name == "runtime.NumGoroutine") then
  lS S 0 fun b=>Fj args 0 .nil fun t=>pw G R N c (Fk G fn.results.toList b K) ⟨fn.ntmps,t,S,b,rl⟩ else False
section
variable {w w':World} {I I':Nat->Prop} {β aU:aB} {G:Gx} {s:bb} {a:Act} {st eA:List ak}
theorem qa:∀ {xs:List PV} {i:Nat} {t:TM} {k:TM->Prop},Fj xs i t k->∃ t',k t'/\∀ n x,t'.get n=some x->(∃ j,n=i+j/\xs[j]?=some x)\/t.get n=some x
 | [],i,t,k,h=>⟨t,h,fun n x hx=>.inr hx⟩
 | x::xs,i,t,k,h=>by
  obtain⟨t1,h1,ht1⟩:=TM.p7 (EM h)
  obtain⟨t',hk,Ah⟩:=qa h1
  refine⟨t',hk,fun n y hy=>?_⟩
  rcases Ah n y hy with ⟨j,hj,hx⟩|hy
  ·exact .inl ⟨j+1,by omega,by simpa using hx⟩
  ·rw[ht1] at hy
   split at hy
   ·rename_i hn
    cases hy
    exact .inl ⟨0,by omega,rfl⟩
   ·exact .inr hy
def J1 (a:Act) (rv:ResultVar):Sem Value:=match rv with
 | .tmp t=>pure (a.tmps.getD t Go.undef)
 | .cell b t=>do loadVar t (← asAddr (a.tmps.getD b Go.undef))
theorem Fl (hG:ma G) (hR:Rel G I β s a w) {r:ResultVar} {q:PV->Prop} (h:Nu G s r q):∃ x v,q x/\x.Is w I β v/\(J1 a r).run G.cx.P w = .ok v w:=by
 cases r with
 | tmp t =>
  obtain⟨x,hx,h⟩:=aA h
  obtain⟨v,hv,hi⟩:=hR.get t x hx
  have hq:q x:=by
   split at h
   ·exact h.elim
   ·exact h
  exact⟨x,v,hq,hi,by simp[J1,hv]⟩
 | cell b t =>
  obtain⟨x,hx,h⟩:=aA h
  obtain⟨v,hv,hi⟩:=hR.get b x hx
  obtain⟨z,r,g,hz,Ot,_,cg⟩:=qv hG.ok hR.heap hR.az h hi
  have cg:=cg w rfl
  refine⟨z,r,hz,Ot,?_⟩
  have hptr:∃ ad,v = .pointer (some ad):=by
   unfold tp at h
   split at h<;>try simp only[PV.Is] at hi
   ·obtain⟨_,_,_,_,_,rfl⟩:=hi; exact⟨_,rfl⟩
   ·obtain⟨_,_,_,_,_,rfl⟩:=hi; exact⟨_,rfl⟩
   ·obtain⟨_,_,_,_,_,rfl⟩:=hi; exact⟨_,rfl⟩
   ·obtain⟨_,_,rfl,_⟩:=hi; exact⟨_,rfl⟩
   ·exact⟨_,hi⟩
   ·exact⟨_,hi⟩
   ·exact h.elim
  obtain⟨ad,rfl⟩:=hptr
  simp only[Instr.loadAt,Instr.sureAddr,Sem.run_bind,Sem.run_pure,Result.andThen_ok] at cg
  simp[J1,hv,asAddr,cg]
theorem wH (hG:ma G) (hR:Rel G I β s a w):∀ {rs:List ResultVar} {q:List PV->Prop},Az G s rs q->∃ xs vs,q xs/\bH w I xs β vs/\(rs.mapM (J1 a)).run G.cx.P w = .ok vs w
 | [],q,h=>⟨[],[],h,by simp only[bH],rfl⟩
 | r::rs,q,h=>by
  obtain⟨x,v,h,hx,hr⟩:=Fl hG hR h
  obtain⟨xs,vs,h,p5,hrs⟩:=wH hG hR h
  exact⟨x::xs,v::vs,h,by simp only[bH]; exact⟨hx,p5⟩,by simp[List.mapM_cons,hr,hrs]⟩
theorem AA (hG:ma G) (hR:Rel G I β s a w) {fn:Func} {q:PV->Prop} (h:J0 G s fn.results.toList q):∃ x v,q x/\x.Is w I β v/\(results fn a.tmps).run G.cx.P w = .ok v w:=by
 have key:∀ {q':List PV->Prop},Az G s fn.results.toList q'->(∀ l,q' l->match l with
   | [x]=>q x
   | l=>q (.tup l))->∃ x v,q x/\x.Is w I β v/\(results fn a.tmps).run G.cx.P w = .ok v w:=by
  intro q' h hq
  obtain⟨xs,vs,h,p5,cg⟩:=wH hG hR h
  have uU:(results fn a.tmps).run G.cx.P w = .ok (if h:vs.toArray.size=1 then vs.toArray[0] else .tuple vs.toArray) w:=by
   unfold results
   rw[Array.mapM_eq_mapM_toList]
   simp only[Sem.run_bind,Sem.run_map]
   erw [cg]
   rfl
  have hq:=hq xs h
  match xs,vs,p5,hq,uU with
  | [],[],_,hq,uU=>exact⟨_,_,hq,by simp only[PV.Is]; exact⟨#[],rfl,by simp only[bH]⟩,uU⟩
  | [x],[v],p5,hq,uU=>exact⟨x,v,hq,by simp only[bH] at p5; exact p5.1,uU⟩
  | x::x'::xs,v::v'::vs,p5,hq,uU=>exact⟨_,_,hq,by simp only[PV.Is]; exact⟨_,rfl,by simpa using p5⟩,by rw[uU,dif_neg (by simp)]⟩
  | [],_::_,p5,_,_=>simp only[bH] at p5
  | _::_,[],p5,_,_=>simp only[bH] at p5
  | [_],_::_::_,p5,_,_=>simp[bH] at p5
  | _::_::_,[_],p5,_,_=>simp[bH] at p5
 unfold J0 at h
 split at h
 ·rename_i t heq
  obtain⟨x,hx,h⟩:=aA h
  obtain⟨v,hv,hi⟩:=hR.get t x hx
  refine⟨x,v,h,hi,?_⟩
  have yq:fn.results = #[.tmp t]:=by rw[← Array.toList_inj]; simpa using heq
  simp[results,yq,hv]
 ·refine key h fun l hl=>?_
  split
  ·exact hl
  ·rename_i de
   split at hl
   ·rename_i x; exact absurd rfl (de x)
   ·exact hl
end
end
section
variable {w w':World} {I I':Nat->Prop} {β aU:aB} {G:Gx} {s:bb} {a:Act} {st eA:List ak}
def qV (I:Nat->Prop) (β:aB) (st:List ak) (base:Nat) (g:Nat):Prop:=I g\/∃ l b p o,base<=l/\st[l]?=some b/\b.live=true/\b.m = .w/\β l=some p/\p.a=some (g,o)
def pQ (β:aB) (base:Nat):aB:=fun l=>if l < base then β l else none
theorem qW {x:PV} {base:Nat} {v:Value} (h:x.dk.all (fun l=>Nat.blt l base)=true) (hx:x.Is w I β v) (hI:∀ g,I g->I' g):x.Is w I' (pQ β base) v :=
 PV.Is.mono hI (fun _ _=>rfl) x β _ v (fun l p hl hp=>by
  rw[List.all_eq_true] at h
  unfold pQ
  rw[if_pos (show l < base from Nat.le_of_ble_eq_true (h l hl))]; exact hp) hx
theorem nB {r:PV->(PV->Prop)->Prop} (hr:∀ x q v,r x q->x.Is w I β v->∃ y,q y/\y.Is w I' aU v):∀ {cs:List PV} {vs:List Value} {q:List PV->Prop},B3 r cs q->bH w I cs β vs->∃ ds,q ds/\bH w I' ds aU vs
 | [],[],q,h,_=>⟨[],h,by simp only[bH]⟩
 | c::cs,v::vs,q,h,hx=>by
  simp only[bH] at hx
  obtain⟨y,h,hy⟩:=hr c _ v h hx.1
  obtain⟨ds,h,hd⟩:=nB hr h hx.2
  exact⟨y::ds,h,by simp only[bH]; exact⟨hy,hd⟩⟩
 | [],_::_,_,_,hx=>by simp only[bH] at hx
 | _::_,[],_,_,hx=>by simp only[bH] at hx
theorem Fm {cx:Ev.Cx} (hh:aO I β st w) {base:Nat}:∀ (n:Nat) (x:PV) (q:PV->Prop) (v:Value),Eg cx st base n x q->x.Is w I β v->∃ y,q y/\y.Is w (qV I β st base) (pQ β base) v
 | 0,_,_,_,h,_=>h.elim
 | n+1,x,q,v,h,hx=>by
  have ih:=Fm (cx:=cx) hh (base:=base) n
  have hI:∀ g,I g->qV I β st base g:=fun g h=>.inl h
  unfold Eg at h
  split at h
  ·rename_i l
   cases hl:Nat.blt l base
   case true =>
    rw[hl] at h
    exact⟨_,h,qW (by simp only[PV.dk,List.all_cons,List.all_nil,hl,Bool.and_true]) hx hI⟩
   case false =>
    rw[hl] at h
    have Fh:base<=l:=by
     rcases Nat.lt_or_ge l base with h'|h'
     ·have:Nat.blt l base=true:=by unfold Nat.blt; exact Nat.ble_eq_true_of_le h'
      rw[this] at hl; cases hl
     ·exact h'
    obtain⟨b,hb,h⟩:=aA h
    obtain⟨hc,h⟩:=bp h
    simp only[Bool.and_eq_true] at hc
    simp only[PV.Is] at hx
    obtain⟨p,hp,rfl⟩:=hx
    have sJ:∀ {g o:Nat} {fr:Nat × Nat},p.a=some (g,o)->Own I β st l g fr b->qV I β st base g:=fun {g o fr} ha ho=>by
     cases hm:b.m with
     | w=>exact .inr ⟨l,b,p,o,Fh,hb,hc.1,hm,hp,ha⟩
     | p=>rw[hm] at hc; cases hc.2
     | r=>exact .inl (ho.2 hm)
    split at h
    ·rename_i hk
     obtain⟨g,arr,fr,ha,hw,h_,oG,fu,hlen,hle,sC,has,iQ⟩:=fW hh hb hc.1 hk hp
     have fF:p.len*b.size<=arr.size:=by rw[has]; exact Nat.mul_le_mul_right _ hle
     have sq:(arr.toList.take (p.len*b.size)).length=p.len*b.size:=by rw[List.length_take,Array.length_toList]; omega
     have my:bH w I b.cs β (arr.toList.take (p.len*b.size)):=bH.of (by rw[sq,hlen]) fun i c hc=>by
      obtain⟨u,hu,hi,_⟩:=oG i c hc
      have qz:i < p.len*b.size:=by rw[← hlen]; exact (List.getElem?_eq_some_iff.1 hc).1
      exact⟨u,by rw[List.getElem?_take,if_pos qz]; simpa using hu,hi⟩
     obtain⟨ds,h,hds⟩:=nB (fun x q v=>ih x q v) h my
     obtain⟨ag,JG,h⟩:=aA h
     obtain⟨Fi,h⟩:=bp h
     rw[ak.yz] at h
     obtain⟨es,po,h⟩:=aA h
     simp only[Bool.or_eq_true] at Fi
     have nh:pt w (qV I β st base) (pQ β base) b.size (.stat ds) (arr.toList.take (p.len*b.size)):=by
      refine⟨by rw[hds.length],fun j c hj=>?_⟩
      obtain⟨u,hu,hi⟩:=hds.get hj
      refine⟨u,hu,hi,?_⟩
      have qz:j < b.cs.length:=by rw[my.length,← hds.length]; exact (List.getElem?_eq_some_iff.1 hj).1
      obtain⟨u2,hu2,_,h1⟩:=oG j _ (List.getElem?_eq_getElem qz)
      rw[List.getElem?_take] at hu
      split at hu
      ·have:arr[0+j]?=some u:=by simpa using hu
       rw[this] at hu2; cases hu2; exact h1
      ·cases hu
     obtain⟨e1,e2⟩:=fQ iQ (Fi.imp id Nat.eq_of_beq_eq_true) po nh sq
     have Fo:cB w (qV I β st base) es b.size g 0:=e2.at (fun j v hj=>by
      have:=ng h_ 0 (p.len*b.size) j v (by simpa using hj)
      simpa using this) (fun _ h=>h) (fun _ _=>rfl)
     refine⟨_,h,?_⟩
     simp only[PV.Is]
     refine⟨some ⟨g,0,none⟩,p.cap,by rw[hw,e1],by omega,by omega,fun g' o' e=>by cases e; exact Fo,fun _=>⟨g,0,rfl,sJ ha fu,iQ⟩⟩
    ·rename_i hk
     obtain⟨iQ,hlen,hle,sC,na⟩:=dN hh hb hc.1 hk hp
     refine⟨_,h,?_⟩
     simp only[PV.Is]
     rcases na with ⟨ha,qu,hw⟩|⟨g,arr,fr,ha,hw,h_,po,fu,has⟩
     ·have:b.cs = []:=List.eq_nil_of_length_eq_zero (by omega)
      rw[this,hw]
      exact⟨none,0,rfl,Nat.le_refl _,Nat.zero_le _,(fun _ _ e=>by cases e),fun hn=>absurd rfl hn⟩
     ·exact⟨some ⟨g,0,none⟩,p.cap,by rw[hw,hlen],by omega,by omega,(fun g' o' e=>by cases e; exact cB.mono hI (fun _ _=>rfl) _ _ _ _ rfl po),fun _=>⟨g,0,rfl,sJ ha fu,iQ⟩⟩
    ·exact h.elim
  ·simp only[PV.Is] at hx
   obtain⟨vs,rfl,hx⟩:=hx
   obtain⟨ds,h,hd⟩:=nB (fun x q v=>ih x q v) h hx
   exact⟨_,h,by simp only[PV.Is]; exact⟨vs,rfl,hd⟩⟩
  ·simp only[PV.Is] at hx
   obtain⟨vs,rfl,hx⟩:=hx
   obtain⟨ds,h,hd⟩:=nB (fun x q v=>ih x q v) h hx
   exact⟨_,h,by simp only[PV.Is]; exact⟨vs,rfl,hd⟩⟩
  ·simp only[PV.Is] at hx
   obtain⟨vs,rfl,hx⟩:=hx
   obtain⟨ds,h,hd⟩:=nB (fun x q v=>ih x q v) h hx
   exact⟨_,h,by simp only[PV.Is]; exact⟨vs,rfl,hd⟩⟩
  ·obtain⟨hu,h⟩:=bp h
   exact⟨_,h,qW hu hx hI⟩
theorem Spec.intro {f:FuncId} {args:List PV} {S:List ak} {rl:List Nat} {K:PV->List ak->Prop} (he:Ev.gX G.cx.P f) (h:∀ I β w bs,aO I β S w->db G I w->bH w I args β bs ->
  Calls G.cx.P f bs.toArray w fun e w'=>∃ v r S' I' aU,e = .returned v/\K r S'/\r.Is w' I' aU v/\aO I' aU S' w'/\db G I' w'/\Ext I β S w I' aU S' w'/\S.length<=S'.length/\∀ l,l < S.length->l ∉ rl->aU l=β l):Spec G f args S rl K:=by
 unfold Spec; exact⟨he,h⟩
theorem Spec.run {f:FuncId} {args:List PV} {S:List ak} {rl:List Nat} {K:PV->List ak->Prop} (h:Spec G f args S rl K):Ev.gX G.cx.P f/\∀ I β w bs,aO I β S w->db G I w->bH w I args β bs ->
  Calls G.cx.P f bs.toArray w fun e w'=>∃ v r S' I' aU,e = .returned v/\K r S'/\r.Is w' I' aU v/\aO I' aU S' w'/\db G I' w'/\Ext I β S w I' aU S' w'/\S.length<=S'.length/\∀ l,l < S.length->l ∉ rl->aU l=β l:=by
 unfold Spec at h; exact h
theorem Spec.mono {f:FuncId} {args:List PV} {S:List ak} {rl:List Nat} {K K':PV->List ak->Prop} (h:Spec G f args S rl K) (hK:∀ r S',K r S'->K' r S'):Spec G f args S rl K' :=
 Spec.intro h.run.1 fun I β w bs h1 h2 h3=>(h.run.2 I β w bs h1 h2 h3).mono fun e w' ⟨v,r,S',I',aU,h1,h2,h3⟩=>⟨v,r,S',I',aU,h1,hK r S' h2,h3⟩
theorem wI (hG:ma G) {fn:Func} {a':Act} {s' s0:bb} {S:List ak} {rl:List Nat} {K:PV->List ak->Prop} (J2:s0.st=S) (gq:s0.base=S.length) (Fp:s0.rl=rl) (dt:Rel G I' aU s' a' w') (hg:bW I β s0 w I' aU s' w') (hq:Fk G fn.results.toList S.length K .iw s'):∃ v,(results fn a'.tmps).run G.cx.P w' = .ok v w'/\∃ v',∃ r S' I' aU,Ending.returned v = .returned v'/\K r S'/\r.Is w' I' aU v'/\aO I' aU S' w'/\db G I' w'/\Ext I β S w I' aU S' w'/\S.length<=S'.length/\∀ l,l < S.length->l ∉ rl->aU l=β l:=by
 obtain⟨r,v,hq,hr,cg⟩:=AA hG dt hq
 obtain⟨y,hq,hy⟩:=Fm dt.heap 8 r _ v hq hr
 obtain⟨gu,hq⟩:=bp hq
 obtain⟨r',VF,hK⟩:=nA hq
 rw[List.all_eq_true] at gu
 have Ay:s'.base=S.length:=hg.base.trans gq
 have hlen:S.length<=s'.st.length:=by have:=dt.base; rw[Ay] at this; exact this
 have hI:∀ g,I' g->qV I' aU s'.st S.length g:=fun g h=>.inl h
 have yX:∀ (l:Nat) (b:ak),(s'.st.take S.length)[l]?=some b->l < S.length/\s'.st[l]?=some b:=fun l b hb=>by
  rw[List.getElem?_take] at hb
  split at hb
  ·exact⟨‹_›,hb⟩
  ·cases hb
 have hHe:aO (qV I' aU s'.st S.length) (pQ aU S.length) (s'.st.take S.length) w':=by
  refine⟨fun l hl=>?_,fun l b hb aN=>?_⟩
  ·unfold pQ
   rw[if_neg (by simp at hl; omega)]
  ·obtain⟨hl,dq⟩:=yX l b hb
   have Fh:=gu b (List.mem_of_getElem? hb)
   obtain⟨p,hp,hk⟩:=dt.heap.gw l b dq aN
   have own:∀ {g:Nat} {o:Nat} {fr:Nat × Nat},p.a=some (g,o)->Own I' aU s'.st l g fr b->Own (qV I' aU s'.st S.length) (pQ aU S.length) (s'.st.take S.length) l g fr b:=fun {g o fr} ha ho=>by
    refine⟨fun hr=>?_,fun hr=>hI g (ho.2 hr)⟩
    obtain⟨h1,h2,h3⟩:=ho.1 hr
    refine⟨h1,fun hE=>?_,fun l2 b2 de fZ bT p2 g2 o2 hU hJ=>?_⟩
    ·rcases hE with hE|⟨l2,b2,p2,o2,k1,k2,k3,_,k5,k6⟩
     ·exact h2 hE
     ·exact h3 l2 b2 (by omega) k2 k3 p2 g o2 k5 k6 rfl
    ·obtain⟨hl2',eI⟩:=yX l2 b2 fZ
     unfold pQ at hU
     rw[if_pos hl2'] at hU
     exact h3 l2 b2 de eI bT p2 g2 o2 hU hJ
   have cells:b.k.sn=true->∀ {arr:Array Value} {o:Nat},bB w' I' aU b.cs arr o->bB w' (qV I' aU s'.st S.length) (pQ aU S.length) b.cs arr o:=fun hk {arr o} hc i c hi=>by
    obtain⟨u,hu,Nv,h1⟩:=hc i c hi
    refine⟨u,hu,qW ?_ Nv hI,h1⟩
    unfold wG at Fh
    cases cM:b.k with
    | dyn=>rw[cM] at hk; cases hk
    | mp=>rw[cM] at hk; cases hk
    | loc=>rw[cM] at Fh; rw[List.all_eq_true] at Fh; exact Fh c (List.mem_of_getElem? hi)
    | arr=>rw[cM] at Fh; rw[List.all_eq_true] at Fh; exact Fh c (List.mem_of_getElem? hi)
   refine⟨p,by unfold pQ; rw[if_pos hl]; exact hp,?_⟩
   split at hk
   ·rename_i cM
    obtain⟨g,o,arr,ty,fr,h1,h2,h3,ho⟩:=hk
    exact⟨g,o,arr,ty,fr,h1,h2,cells (by rw[cM]; decide) h3,own h1 ho⟩
   ·rename_i cM
    obtain⟨g,arr,fr,h1,h2,h3,ho,h4⟩:=hk
    exact⟨g,arr,fr,h1,h2,cells (by rw[cM]; decide) h3,own h1 ho,h4⟩
   ·obtain⟨h1,hk⟩:=hk
    refine⟨h1,?_⟩
    rcases hk with h|⟨g,arr,fr,h2,h3,h4,ho,h5⟩
    ·exact .inl h
    ·exact .inr ⟨g,arr,fr,h2,h3,cB.mono hI (fun _ _=>rfl) _ _ _ _ rfl h4,own h2 ho,h5⟩
   ·obtain⟨g,h1,h2,ho⟩:=hk
    exact⟨g,h1,h2,own h1 ho⟩
 have cJ:∀ g,qV I' aU s'.st S.length g->g < w'.heap.size:=fun g hg=>by
  rcases hg with hg|⟨l,b,p,o,_,k2,k3,_,k5,k6⟩
  ·exact dt.az.az g hg
  ·exact dt.heap.dS ⟨l,b,p,o,k2,k3,k5,k6⟩
 have hMe:db G (qV I' aU s'.st S.length) w':=⟨cJ,fun g cs hgc=>by
  obtain⟨h1,h2⟩:=dt.az.m0 g cs hgc
  exact⟨hI g h1,dj.mono hI (fun _ _=>rfl) cs g 0 rfl h2⟩,dt.az.row⟩
 have hE:=hg.ext
 rw[J2] at hE
 refine⟨v,cg,v,r',_,_,_,rfl,hK,VF _ _ _ _ hy,hHe,hMe,⟨hE.os,hE.tape,hE.output,hE.size,hE.block,fun g E6 ⟨l,b,p,o,h1,h2,h3,h4,h5⟩=>?_,fun g hg=>hI g (hE.az g hg),fun g E6 sJ=>?_⟩,by rw[List.length_take]; omega,fun l hl hr=>?_⟩
 ·obtain⟨hl,hb⟩:=yX l b h1
  unfold pQ at h4
  rw[if_pos hl] at h4
  exact hE.wr g E6 ⟨l,b,p,o,hb,h2,h3,h4,h5⟩
 ·rcases sJ with sJ|⟨l,b,p,o,_,k2,k3,k4,k5,k6⟩
  ·exact hE.new g E6 sJ
  ·exact .inr (hE.wr g E6 ⟨l,b,p,o,k2,k3,k4,k5,k6⟩)
 ·unfold pQ
  rw[if_pos hl]
  exact hg.low l (by rw[gq]; exact hl) (by rw[Fp]; exact hr)
theorem Spec.enter (hG:ma G) (R:List (Nat × aT)) {f:FuncId} {fn:Func} {c:Code} {args:List PV} {S:List ak} {rl:List Nat} {K:PV->List ak->Prop} (N:Nat) (hf:G.cx.P.funcs[f]?=some fn) (hb:fn.body=some c) (pk:cr R c=true) (h:OL G R N fn c args S rl K) (hd:G.EB = []:=by rfl):Spec G f args S rl K:=by
 obtain⟨hc,h⟩:=bp h
 simp only[Bool.and_eq_true,Bool.not_eq_true'] at hc
 obtain⟨⟨hle,ni⟩,wJ⟩:=hc
 have hle:=Nat.le_of_ble_eq_true hle
 have ni:=Nat.le_of_ble_eq_true ni
 replace h:=gG h
 rw[Nat.zero_add] at h
 obtain⟨t,h,ht⟩:=qa h
 refine Spec.intro (Ev.lq hf hb wJ) fun I β w bs hH hM hA=>calls_of_wp hf hb ?_
 have hal:=hA.length
 have hR:Rel G I β ⟨fn.ntmps,t,S,S.length,rl⟩ { tmps:=bs.toArray++Array.replicate (fn.ntmps - bs.toArray.size) Go.undef,defers:=[] } w:=by
  refine⟨ni,hd.symm,by simp; omega,Nat.le_refl _,fun n x hx=>?_,hH,hM⟩
  rcases ht n x hx with ⟨j,hj,hx⟩|hx
  ·rw[Nat.zero_add] at hj
   subst hj
   obtain⟨v,hv,hi⟩:=hA.get hx
   have cJ:n < bs.length:=(List.getElem?_eq_some_iff.1 hv).1
   exact⟨v,by rw[Array.getElem?_append_left (by simpa using cJ)]; simpa using hv,hi⟩
  ·cases hx
 refine wp_mono ((jD hG N c _ _ pk h).run hR) fun e a' w' hp=>?_
 obtain⟨x,s',I',aU,rfl,hq,dt,hg⟩:=hp.goes
 have qB:Fk G fn.results.toList S.length K .iw s'->_:=fun hq=>And.intro (dt.defers.trans hd) (wI hG rfl rfl rfl dt hg hq)
 cases x with
 | iw=>exact qB hq
 | ret=>exact qB hq
 | exit id=>exact hq.elim
end
end Go.Proofs.YtlgkljpgagfndaaGreatDoor.Pw

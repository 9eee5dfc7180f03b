/- What this claim is proved with: no condition. -/
import Derived.Test.YtlgkljpgagfndaaGreatDoorNu7
import Derived.Scope
set_option linter.unusedVariables false
set_option linter.unusedSimpArgs false
namespace Go.Proofs.YtlgkljpgagfndaaGreatDoor.Pw
open Go Go.RowKit
def seqK (k:ba->Prop) (Q:X->ba->Prop) (x:X) (s:ba):Prop:=match x with
 | .f_=>k s
 | x=>Q x s
def rK (id:Nat) (Q:X->ba->Prop) (x:X) (s:ba):Prop:=match x with
 | .exit j=>bif Nat.beq j id then Q .f_ s else Q (.exit j) s
 | x=>Q x s
def Gw (s:ba) (c:Operand) (t e:ba->Prop):Prop:=s.ev c fun x=>match x with
 | .tt=>t s
 | .ff=>e s
 | .bool p=>(match c with
  | .tmp i=>(p->s.put (some i) .tt t)/\(¬ p->s.put (some i) .ff e)
  | _=>(p->t s)/\(¬ p->e s))
 | _=>False
def cr (R:List (Nat × aS)):Code->Bool
 | .region id ops true=>(match Ev.Fo id R with
  | some p=>Region.noSelect ops && BC ops ops.toList fun T=>n9 T ops.size 0 p
  | none=>true)
 | .seq a b=>cr R a && cr R b
 | .cond _ a b=>cr R a && cr R b
 | .block _ c=>cr R c
 | .scope c=>cr R c
 | .loop c=>cr R c
 | _=>true
def pw (G:Gx) (R:List (Nat × aS)):Nat->Code->(X->ba->Prop)->ba->Prop
 | 0,_,_,_=>False
 | n+1,c,Q,s=>match c with
  | .skip|.label _=>Q .f_ s
  | .ret=>Q .ret s
  | .exit id=>Q (.exit id) s
  | .seq a b=>pw G R n a (seqK (pw G R n b Q) Q) s
  | .cond c a b=>Gw s c (pw G R n a Q) (pw G R n b Q)
  | .block id c=>pw G R n c (rK id Q) s
  | .scope c=>pw G R n c Q s
  | .loop c=>SW G (.loop c) Q s
  | .rangeFunc f ps a b=>SW G (.rangeFunc f ps a b) Q s
  | .region id ops draw=>(match draw with
   | true=>bB (Ev.Fo id R) fun p=>cp G ops.toList p s [] (Q .f_)
   | false=>xk G ops.toList Q ops.toList s)
  | _=>False
section
variable {w w':World} {I I':Nat->Prop} {β aU:aB} {G:Gx} {s:ba} {a:Act} {st eU:List an}
theorem dP.of {Q:X->ba->Prop} {x:X} {s':ba} {w0:World} (hq:Q x s') {a':Act} (hR:Rel G I' aU s' a' w') (hg:bW I β s w0 I' aU s' w'):dP G s I β w0 Q (X.e x) a' w' :=
 ⟨x,s',I',aU,rfl,hq,hR,hg.ext,hg.base,hg.rl,hg.n,hg.low⟩
theorem dP.goes {Q:X->ba->Prop} {e:Exit} {a':Act} (h:dP G s I β w Q e a' w'):∃ x s' I' aU,e=X.e x/\Q x s'/\Rel G I' aU s' a' w'/\bW I β s w I' aU s' w' :=
 let ⟨x,s',I',aU,he,hq,hR,h1,h2,h3,h4,h5⟩:=h; ⟨x,s',I',aU,he,hq,hR,h1,h2,h3,h4,h5⟩
theorem SW.intro {c:Code} {Q:X->ba->Prop} (h:∀ I β a w,Rel G I β s a w->c.wp G.cx.P (dP G s I β w Q) a w):SW G c Q s:=by unfold SW; exact h
theorem SW.run {c:Code} {Q:X->ba->Prop} (h:SW G c Q s) (hR:Rel G I β s a w):c.wp G.cx.P (dP G s I β w Q) a w:=by unfold SW at h; exact h I β a w hR
theorem SW.from {c:Code} {Q:X->ba->Prop} {s0:ba} {I0:Nat->Prop} {gd:aB} {w0:World} (h:SW G c Q s) (hR:Rel G I β s a w) (hg:bW I0 gd s0 w0 I β s w):c.wp G.cx.P (dP G s0 I0 gd w0 Q) a w :=
 wp_mono (h.run hR) fun e a' w' hp=>by
  obtain⟨x,s',I',aU,rfl,hq,dm,xb⟩:=hp.goes
  exact dP.of hq dm (hg.trans xb)
theorem Ext.lH (hh:w'.heap=w.heap) (h1:w'.os=w.os) (h2:w'.tape=w.tape) (h3:w'.output=w.output):Ext I β st w I β st w' :=
 ⟨h1,h2,h3,by rw[hh]; exact Nat.le_refl _,fun g _ _=>by rw[hh],fun _ _ h=>h,fun _ h=>h,fun _ _ h=>.inl h⟩
theorem aN.lH (h:aN I β st w) (hh:w'.heap=w.heap):aN I β st w' :=
 ⟨h.qG,fun l b hl aP=>(h.gM l b hl aP).mono (fun _ h=>h) (fun _ _=>by rw[hh]) (fun _ _ h=>h) fun p g o hp ha=>⟨by rw[hh],fun hr=>by
  obtain⟨_,_,fr,_,ho⟩:=(h.gM l b hl aP).place hp ha
  exact⟨(ho.1 hr).2.1,(ho.1 hr).2.2⟩⟩⟩
theorem rL (s:ba):s.store s.st=s:=by cases s; rfl
theorem Rel.lH (hR:Rel G I β s a w) (hh:w'.heap=w.heap) (h1:w'.os=w.os) (h2:w'.tape=w.tape) (h3:w'.output=w.output):Rel G I β s a w':=by
 have:=hR.grow (hR.heap.lH hh) (Ext.lH hh h1 h2 h3) (fun _ _ h=>h) (Nat.le_refl _) (fun g hg=>by rw[hh]; exact hR.ay.ay g hg)
 rwa [rL] at this
theorem xN {c:Operand} {t e:ba->Prop} (hR:Rel G I β s a w) (h:Gw s c t e):∃ b s',a.eval c = .bool b/\(if b then t s' else e s')/\js s s'/\Rel G I β s' a w:=by
 have same:js s s:=⟨rfl,rfl,rfl,rfl⟩
 unfold Gw at h
 cases c with
 | tmp i =>
  replace h:=aD h
  obtain⟨x,hx,h⟩:=h
  obtain⟨v,hv,hi⟩:=hR.get i x hx
  have he:a.eval (.tmp i)=v:=by simp only[Act.eval,Array.getD_eq_getD_getElem?,hv,Option.getD_some]
  rw[he]
  split at h<;>try simp only[PV.Is] at hi
  ·exact⟨true,s,hi,h,same,hR⟩
  ·exact⟨false,s,hi,h,same,hR⟩
  ·rename_i p
   by_cases hp:p
   ·obtain⟨s',hk,hs,hr⟩:=ba.fI hR hv (x:=.tt) (by rw[hi,cz hp]; exact Is.tt) (h.1 hp)
    exact⟨true,s',by rw[hi,cz hp],hk,hs,hr⟩
   ·obtain⟨s',hk,hs,hr⟩:=ba.fI hR hv (x:=.ff) (by rw[hi,cb hp]; exact Is.ff) (h.2 hp)
    exact⟨false,s',by rw[hi,cb hp],hk,hs,hr⟩
  ·exact h.elim
 | _ =>
  replace h:=ba.cN hR h
  obtain⟨x,h,hx⟩:=h
  split at h<;>try simp only[PV.Is] at hx
  ·exact⟨true,s,hx,h,same,hR⟩
  ·exact⟨false,s,hx,h,same,hR⟩
  ·rename_i p
   by_cases hp:p
   ·exact⟨true,s,by rw[hx,cz hp],h.1 hp,same,hR⟩
   ·exact⟨false,s,by rw[hx,cb hp],h.2 hp,same,hR⟩
  ·exact h.elim
theorem gE (hG:m5 G) {R:List (Nat × aS)}:∀ (n:Nat) (c:Code) (Q:X->ba->Prop) (s:ba),cr R c=true->pw G R n c Q s->SW G c Q s
 | 0,_,_,_,_,h=>h.elim
 | n+1,c,Q,s,hc,h=>by
  cases c with
  | skip=>exact SW.intro fun I β a w hR=>wp_skip (dP.of (x:=.f_) h hR (bW.same ⟨rfl,rfl,rfl,rfl⟩))
  | label l=>exact SW.intro fun I β a w hR=>wp_label (dP.of (x:=.f_) h hR (bW.same ⟨rfl,rfl,rfl,rfl⟩))
  | ret=>exact SW.intro fun I β a w hR=>wp_ret (dP.of (x:=.ret) h hR (bW.same ⟨rfl,rfl,rfl,rfl⟩))
  | exit id=>exact SW.intro fun I β a w hR=>wp_exit (dP.of (x:=.exit id) h hR (bW.same ⟨rfl,rfl,rfl,rfl⟩))
  | seq x y =>
   simp only[cr,Bool.and_eq_true] at hc
   have h1:=gE hG n x _ s hc.1 h
   refine SW.intro fun I β a w hR=>wp_seq (wp_mono (h1.run hR) fun e a' w' hp=>?_)
   obtain⟨x',s',I',aU,rfl,hq,dm,hg⟩:=hp.goes
   cases x' with
   | f_=>exact (gE hG n y Q s' hc.2 hq).from dm hg
   | exit id=>exact dP.of (Q:=Q) (x:=.exit id) hq dm hg
   | ret=>exact dP.of (Q:=Q) (x:=.ret) hq dm hg
  | cond c x y =>
   simp only[cr,Bool.and_eq_true] at hc
   refine SW.intro fun I β a w hR=>?_
   obtain⟨b,s',he,hk,hs,dm⟩:=xN hR h
   refine wp_cond he ?_
   cases b with
   | true=>exact (gE hG n x Q s' hc.1 hk).from dm (bW.same hs)
   | false=>exact (gE hG n y Q s' hc.2 hk).from dm (bW.same hs)
  | block id c =>
   have h1:=gE hG n c _ s hc h
   refine SW.intro fun I β a w hR=>wp_block (wp_mono (h1.run hR) fun e a' w' hp=>?_)
   obtain⟨x',s',I',aU,rfl,hq,dm,hg⟩:=hp.goes
   cases x' with
   | f_=>exact dP.of (Q:=Q) (x:=.f_) hq dm hg
   | exit j =>
    show Exit.inBlock id _ (.exit j) a' w'
    simp only[Exit.inBlock]
    by_cases hj:j=id
    ·subst hj
     rw[if_pos rfl]
     have tJ:Q .f_ s':=by simpa [rK,Nat.beq_refl] using hq
     exact dP.of (x:=.f_) tJ dm hg
    ·have dw:Nat.beq j id=false:=by rw[Bool.eq_false_iff]; exact fun e=>hj (Nat.eq_of_beq_eq_true e)
     rw[if_neg hj]
     have tJ:Q (.exit j) s':=by simpa [rK,dw] using hq
     exact dP.of (x:=.exit j) tJ dm hg
   | ret=>exact dP.of (Q:=Q) (x:=.ret) hq dm hg
  | scope c =>
   have h1:=gE hG n c _ s hc h
   refine SW.intro fun I β a w hR=>wp_scope_straight (wp_mono (h1.run hR) fun e a' w' hp=>?_)
   obtain⟨x',s',I',aU,rfl,hq,dm,hg⟩:=hp.goes
   cases x' with
   | f_=>exact dP.of (Q:=Q) (x:=.f_) hq dm hg
   | exit j=>exact dP.of (Q:=Q) (x:=.exit j) hq dm hg
   | ret=>exact dP.of (Q:=Q) (x:=.ret) hq dm hg
  | loop c=>exact h
  | rangeFunc f ps a b=>exact h
  | region id ops draw =>
   refine SW.intro fun I β a w hR=>?_
   cases draw with
   | true =>
    obtain⟨p,hp,h⟩:=aD h
    unfold cr at hc
    rw[hp] at hc
    simp only[Bool.and_eq_true,xH] at hc
    have dm:Rel G I β s a { w with drawn:=w.drawn+1 }:=hR.lH rfl rfl rfl rfl
    have hd:bW I β s w I β s { w with drawn:=w.drawn+1 }:=⟨Ext.lH rfl rfl rfl rfl,rfl,rfl,rfl,fun _ _ _=>rfl⟩
    have hA:=zT hG hc.1 ops.size p (dP G s I β w Q) _ s a I β _ [] [] _ (lG _ _ _ _ (Mk.none ops) hc.2) h dm (fun y hy=>by cases hy) fun s' I' aU a' w' hk kO hg=>dP.of (Q:=Q) (x:=.f_) hk kO (hd.trans hg)
    exact wp_region_any hG.ok.mix (dX.sound _ _ _ _ _ _ hA rfl)
   | false=>exact wp_region_list (vG hG _ h hR fun x s' I' aU a' w' hq dm hg=>dP.of hq dm hg)
  | _=>exact h.elim
def rM (k:ba->Prop) (Q:X->ba->Prop) (x:X) (s:ba):Prop:=match x with
 | .f_=>k s
 | x=>Q x s
def rnd (G:Gx) (R:List (Nat × aS)) (N:Nat) (c:Code) (Q:X->ba->Prop):Nat->ba->Prop
 | 0,_=>False
 | n+1,s=>pw G R N c (rM (rnd G R N c Q n) Q) s
theorem SW.rounds (hG:m5 G) (R:List (Nat × aS)) {N:Nat} {c:Code} {Q:X->ba->Prop} (hc:cr R c=true) (n:Nat) (h:rnd G R N c Q n s):SW G (.loop c) Q s:=by
 have key:∀ (n:Nat) (s0 s:ba) (I0 I:Nat->Prop) (gd β:aB) (w0 w:World) (a:Act),rnd G R N c Q n s->Rel G I β s a w->bW I0 gd s0 w0 I β s w->Code.rounds G.cx.P c (dP G s0 I0 gd w0 Q) n a w:=by
  intro n
  induction n with
  | zero=>intro s0 s I0 I gd β w0 w a h _ _; exact h.elim
  | succ n ih =>
   intro s0 s I0 I gd β w0 w a h hR hg
   rw[rounds_succ]
   refine wp_mono ((gE hG N c _ s hc h).run hR) fun e a' w' hp=>?_
   obtain⟨x',s',I',aU,rfl,hq,dm,xb⟩:=hp.goes
   cases x' with
   | f_=>exact ih s0 s' I0 I' gd aU w0 w' a' hq dm (hg.trans xb)
   | exit id=>exact dP.of (Q:=Q) (x:=.exit id) hq dm (hg.trans xb)
   | ret=>exact dP.of (Q:=Q) (x:=.ret) hq dm (hg.trans xb)
 exact SW.intro fun I β a w hR=>wp_loop_rounds n (key n s s I I β β w w a h hR (bW.same ⟨rfl,rfl,rfl,rfl⟩))
theorem Sub.refl:Sub G s s:=fun I β _ _ hR=>⟨I,β,hR,bW.same ⟨rfl,rfl,rfl,rfl⟩⟩
theorem SW.inv (hG:m5 G) {R:List (Nat × aS)} {α:Type} (inv:α->ba) (μ:α->Nat) {N:Nat} {c:Code} {Q:X->ba->Prop} (hc:cr R c=true) (x0:α) (h0:Sub G s (inv x0)) (K:α->ba->Prop) (hK:∀ x s',K x s'->∃ y,μ y < μ x/\Sub G s' (inv y))
  (h:∀ x,pw G R N c (rM (K x) Q) (inv x)):SW G (.loop c) Q s:=by
 refine SW.intro fun I0 gd a w hR=>?_
 obtain⟨I,β,ib,m8⟩:=h0 I0 gd a w hR
 let J:Nat->Act->World->Prop:=fun m a w'=>∃ x I β,μ x=m/\Rel G I β (inv x) a w'/\bW I0 gd s w I β (inv x) w'
 have key:∀ (m:Nat) (a:Act) (w':World),J m a w'->∀ (b:Frame) (k:List Item) (cs:List Frame),∃ e a' w9,dP G s I0 gd w Q e a' w9/\Arrives G.cx.P (lone (b.at a (.code c::.inLoop c::k)) cs w') b k cs e a' w9:=by
  intro m
  induction m using Nat.strongRecOn with
  | _ m ih =>
   rintro a w' ⟨x,I,β,hx,hR,hg⟩ b k cs
   obtain⟨e,La,Lb,hp,zL⟩:=(gE hG N c _ _ hc (h x)).run hR b (.inLoop c::k) cs
   obtain⟨x',s',I',aU,rfl,hq,dm,xb⟩:=hp.goes
   cases x' with
   | f_ =>
    obtain⟨y,hy,hs⟩:=hK x s' hq
    obtain⟨I2,gl,kO,xa⟩:=hs I' aU La Lb dm
    obtain⟨e₂,a₂,w₂,X3,Lc⟩:=ih (μ y) (by omega) La Lb ⟨y,I2,gl,rfl,kO,(hg.trans xb).trans xa⟩ b k cs
    exact⟨e₂,a₂,w₂,X3,.of_steps (Steps.trans zL (.one step_inLoop)) Lc⟩
   | exit id=>exact⟨_,La,Lb,dP.of (Q:=Q) (x:=.exit id) hq dm (hg.trans xb),.pass (x:=.inLoop c) rfl (fun _ _=>.inl (by simp[X.e])) zL⟩
   | ret=>exact⟨_,La,Lb,dP.of (Q:=Q) (x:=.ret) hq dm (hg.trans xb),.pass (x:=.inLoop c) rfl (fun _ _=>.inl (by simp[X.e])) zL⟩
 intro b k cs
 obtain⟨e,a',w',hq,zL⟩:=key (μ x0) a w ⟨x0,I,β,rfl,ib,m8⟩ b k cs
 exact⟨e,a',w',hq,.of_steps (.one step_loop) zL⟩
end
def zw (x y:PV):Prop:=match x,y with
 | .lit k a,.lit l b=>if decide (k=l) then a=b else False
 | .lit k a,.int l b=>if decide (k=l) then a=b else False
 | .int k a,.lit l b=>if decide (k=l) then a=b else False
 | .int k a,.int l b=>if decide (k=l) then a=b else False
 | .tt,.tt=>True|.ff,.ff=>True
 | .tt,.bool p=>p|.ff,.bool p=>¬ p
 | .bool p,.tt=>p|.bool p,.ff=>¬ p
 | .bool p,.bool q=>p↔q
 | .val v,.val u=>v=u
 | .nil,.nil=>True
 | .nil,.sl _ es=>es = []
 | .sl n es,.sl m fs=>if Nat.beq n m then es=fs else False
 | .wref l,.wref m=>if Nat.beq l m then True else False
 | .mref l,.mref m=>if Nat.beq l m then True else False
 | .ref l o n,.ref l' o' n'=>if Nat.beq l l' && Nat.beq o o' && Nat.beq n n' then True else False
 | .ptr l o,.ptr l' o'=>if Nat.beq l l' && Nat.beq o o' then True else False
 | .pti l o i n,.pti l' o' i' n'=>if Nat.beq l l' && Nat.beq o o' && Nat.beq n n' then i=i' else False
 | .dpt l i n o,.dpt l' i' n' o'=>if Nat.beq l l' && Nat.beq o o' && Nat.beq n n' then i=i' else False
 | .ep cs o,.ep ds o'=>if Nat.beq o o' then cs=ds else False
 | .gp g o,.gp g' o'=>if Nat.beq g g' && Nat.beq o o' then True else False
 | .gpi g o i n,.gpi g' o' i' n'=>if Nat.beq g g' && Nat.beq o o' && Nat.beq n n' then i=i' else False
 | _,_=>False
def oa (r:PV->PV->Prop):List PV->List PV->Prop
 | [],[]=>True
 | x::xs,y::ys=>r x y/\oa r xs ys
 | _,_=>False
def leA (x y:PV):Prop:=match x,y with
 | .agg cs,.agg ds=>oa zw cs ds
 | .clo f cs,.clo g ds=>if Nat.beq f g then oa zw cs ds else False
 | x,y=>zw x y
def kZ (x y:PV):Prop:=match x,y with
 | .tup cs,.tup ds=>oa leA cs ds
 | x,y=>leA x y
def zx (x y:PV):Prop:=∀ w I β v,x.Is w I β v->y.Is w I β v
theorem zx.refl (x:PV):zx x x:=fun _ _ _ _ h=>h
section
variable {w w':World} {I I':Nat->Prop} {β aU:aB} {G:Gx} {s:ba} {a:Act} {st eU:List an}
theorem jx {c p:Prop} [Decidable c] (h:if c then p else False):c/\p:=by
 split at h
 ·exact⟨‹_›,h⟩
 ·exact h.elim
theorem rN {x y:PV} (h:zw x y):zx x y:=by
 intro w I β v hx
 unfold zw at h
 split at h<;>first|exact h.elim|(simp only[PV.Is] at hx ⊢)
 ·obtain⟨hk,h⟩:=jx h; rw[hx,of_decide_eq_true hk,h]
 ·obtain⟨hk,h⟩:=jx h; rw[hx,of_decide_eq_true hk,h]
 ·obtain⟨hk,h⟩:=jx h; rw[hx,of_decide_eq_true hk,h]
 ·obtain⟨hk,h⟩:=jx h; rw[hx,of_decide_eq_true hk,h]
 ·exact hx
 ·exact hx
 ·rw[hx,cz h]
 ·rw[hx,cb h]
 ·rw[hx,cz h]
 ·rw[hx,cb h]
 ·rw[hx,show pb _=pb _ from congrArg pb (propext h)]
 ·rw[← h]; exact hx
 ·exact hx
 ·subst h; exact⟨none,0,hx,Nat.le_refl _,Nat.zero_le _,(fun _ _ e=>by cases e),fun hn=>absurd rfl hn⟩
 ·obtain⟨hb,h⟩:=jx h; rw[← h,← Nat.eq_of_beq_eq_true hb]; exact hx
 ·obtain⟨hb,h⟩:=jx h; rw[← Nat.eq_of_beq_eq_true hb]; exact hx
 ·obtain⟨hb,h⟩:=jx h; rw[← Nat.eq_of_beq_eq_true hb]; exact hx
 ·obtain⟨hb,h⟩:=jx h
  simp only[Bool.and_eq_true] at hb
  rw[← Nat.eq_of_beq_eq_true hb.1.1,← Nat.eq_of_beq_eq_true hb.1.2,← Nat.eq_of_beq_eq_true hb.2]; exact hx
 ·obtain⟨hb,h⟩:=jx h
  simp only[Bool.and_eq_true] at hb
  rw[← Nat.eq_of_beq_eq_true hb.1,← Nat.eq_of_beq_eq_true hb.2]; exact hx
 ·obtain⟨hb,h⟩:=jx h
  simp only[Bool.and_eq_true] at hb
  rw[← Nat.eq_of_beq_eq_true hb.1.1,← Nat.eq_of_beq_eq_true hb.1.2,← Nat.eq_of_beq_eq_true hb.2,← h]; exact hx
 ·obtain⟨hb,h⟩:=jx h
  simp only[Bool.and_eq_true] at hb
  rw[← Nat.eq_of_beq_eq_true hb.1.1,← Nat.eq_of_beq_eq_true hb.1.2,← Nat.eq_of_beq_eq_true hb.2,← h]; exact hx
 ·obtain⟨hb,h⟩:=jx h; rw[← Nat.eq_of_beq_eq_true hb,← h]; exact hx
 ·obtain⟨hb,h⟩:=jx h
  simp only[Bool.and_eq_true] at hb
  rw[← Nat.eq_of_beq_eq_true hb.1,← Nat.eq_of_beq_eq_true hb.2]; exact hx
 ·obtain⟨hb,h⟩:=jx h
  simp only[Bool.and_eq_true] at hb
  rw[← Nat.eq_of_beq_eq_true hb.1.1,← Nat.eq_of_beq_eq_true hb.1.2,← Nat.eq_of_beq_eq_true hb.2,← h]; exact hx
theorem jG {r:PV->PV->Prop} (hr:∀ x y,r x y->zx x y):∀ {xs ys:List PV} {vs:List Value},oa r xs ys->bG w I xs β vs->bG w I ys β vs
 | [],[],_,_,h=>h
 | x::xs,y::ys,v::vs,h,hx=>by
  simp only[bG] at hx ⊢
  exact⟨hr x y h.1 w I β v hx.1,jG hr h.2 hx.2⟩
 | x::xs,y::ys,[],h,hx=>by simp only[bG] at hx
 | [],_::_,_,h,_=>h.elim
 | _::_,[],_,h,_=>h.elim
theorem Gy {x y:PV} (h:leA x y):zx x y:=by
 unfold leA at h
 split at h
 ·intro w I β v hx
  simp only[PV.Is] at hx ⊢
  obtain⟨vs,rfl,hx⟩:=hx
  exact⟨vs,rfl,jG (fun _ _=>rN) h hx⟩
 ·intro w I β v hx
  split at h
  ·rename_i hb
   simp only[PV.Is] at hx ⊢
   obtain⟨vs,rfl,hx⟩:=hx
   exact⟨vs,by rw[Nat.eq_of_beq_eq_true hb],jG (fun _ _=>rN) h hx⟩
  ·exact h.elim
 ·exact rN h
theorem fO {x y:PV} (h:kZ x y):zx x y:=by
 unfold kZ at h
 split at h
 ·intro w I β v hx
  simp only[PV.Is] at hx ⊢
  obtain⟨vs,rfl,hx⟩:=hx
  exact⟨vs,rfl,jG (fun _ _=>Gy) h hx⟩
 ·exact Gy h
abbrev gZ:=List (Option Nat)
def PV.xO (π:gZ) (x:PV):Option PV:=match x with
 | .wref l=>(match π[l]? with
  | some (some m)=>some (.wref m)
  | some none=>some .nil
  | none=>none)
 | .mref l=>(match π[l]? with
  | some (some m)=>some (.mref m)
  | _=>none)
 | .ref l o n=>(match π[l]? with
  | some (some m)=>some (.ref m o n)
  | _=>none)
 | .ptr l o=>(match π[l]? with
  | some (some m)=>some (.ptr m o)
  | _=>none)
 | .pti l o i n=>(match π[l]? with
  | some (some m)=>some (.pti m o i n)
  | _=>none)
 | .dpt l i n o=>(match π[l]? with
  | some (some m)=>some (.dpt m i n o)
  | _=>none)
 | .agg _|.tup _|.clo ..=>none
 | x=>some x
def gF (π:gZ):List PV->Option (List PV)
 | []=>some []
 | c::cs=>(match c.xO π,gF π cs with
  | some x,some l=>some (x::l)
  | _,_=>none)
def PV.Kv (π:gZ) (x:PV):Option PV:=match x with
 | .agg cs=>(gF π cs).map .agg
 | .clo f cs=>(gF π cs).map (.clo f)
 | .tup _=>none
 | x=>x.xO π
def iW (β:aB) (π:gZ):aB:=fun l=>match π[l]? with
 | some (some m)=>β m
 | some none=>some ⟨none,0,0⟩
 | none=>none
theorem cH {π:gZ} {l m:Nat} (h:π[l]?=some (some m)):iW β π l=β m:=by unfold iW; rw[h]
theorem j3 {π:gZ} {l:Nat} (h:π[l]?=some none):iW β π l=some ⟨none,0,0⟩:=by unfold iW; rw[h]
theorem qM {π:gZ} {x y:PV} {v:Value} (h:x.xO π=some y) (hy:y.Is w I β v):x.Is w I (iW β π) v:=by
 unfold PV.xO at h
 split at h
 ·split at h
  ·rename_i m hm
   cases h
   simp only[PV.Is] at hy ⊢
   rw[cH hm]; exact hy
  ·rename_i hm
   cases h
   simp only[PV.Is] at hy ⊢
   exact⟨_,j3 hm,hy⟩
  ·cases h
 ·split at h
  ·rename_i m hm
   cases h
   simp only[PV.Is] at hy ⊢
   rw[cH hm]; exact hy
  ·cases h
 ·split at h
  ·rename_i m hm
   cases h
   simp only[PV.Is] at hy ⊢
   rw[cH hm]; exact hy
  ·cases h
 ·split at h
  ·rename_i m hm
   cases h
   simp only[PV.Is] at hy ⊢
   rw[cH hm]; exact hy
  ·cases h
 ·split at h
  ·rename_i m hm
   cases h
   simp only[PV.Is] at hy ⊢
   rw[cH hm]; exact hy
  ·cases h
 ·split at h
  ·rename_i m hm
   cases h
   simp only[PV.Is] at hy ⊢
   rw[cH hm]; exact hy
  ·cases h
 ·cases h
 ·cases h
 ·cases h
 ·cases h
  refine PV.Is.mono (fun _ h=>h) (fun _ _=>rfl) x β _ v (fun l p hl=>?_) hy
  cases x<;>first|(simp_all [PV.dv]; done)|(rename_i a1 a2 a3 a4 a5 a6 a7 a8 a9; first|exact (a4 _ _ _ _ rfl).elim|exact (a5 _ _ _ _ rfl).elim|exact (a6 _ _ _ _ rfl).elim)
theorem vL {π:gZ}:∀ {xs ys:List PV} {vs:List Value},gF π xs=some ys->bG w I ys β vs->bG w I xs (iW β π) vs
 | [],ys,vs,h,hy=>by
  simp only[gF,Option.some.injEq] at h
  subst h
  cases vs with
  | nil=>simp only[bG]
  | cons v vs=>simp only[bG] at hy
 | x::xs,ys,vs,h,hy=>by
  simp only[gF] at h
  split at h
  ·rename_i y l h1 h2
   cases h
   cases vs with
   | nil=>simp only[bG] at hy
   | cons v vs =>
    simp only[bG] at hy ⊢
    exact⟨qM h1 hy.1,vL h2 hy.2⟩
  ·cases h
theorem Gz {π:gZ} {x y:PV} {v:Value} (h:x.Kv π=some y) (hy:y.Is w I β v):x.Is w I (iW β π) v:=by
 unfold PV.Kv at h
 split at h
 ·rw[Option.map_eq_some_iff] at h
  obtain⟨l,hl,rfl⟩:=h
  simp only[PV.Is] at hy ⊢
  obtain⟨vs,rfl,hy⟩:=hy
  exact⟨vs,rfl,vL hl hy⟩
 ·rw[Option.map_eq_some_iff] at h
  obtain⟨l,hl,rfl⟩:=h
  simp only[PV.Is] at hy ⊢
  obtain⟨vs,rfl,hy⟩:=hy
  exact⟨vs,rfl,vL hl hy⟩
 ·cases h
 ·exact qM h hy
def TM.kZ (π:gZ):TM->TM->Prop
 | _,.nil=>True
 | .nil,.node v l r=>(match v with
  | none=>True
  | some _=>False)/\TM.kZ π .nil l/\TM.kZ π .nil r
 | .node v l r,.node v' l' r'=>(match v' with
  | none=>True
  | some y=>bB v fun x=>bB (y.Kv π) fun y=>Pw.kZ x y)/\TM.kZ π l l'/\TM.kZ π r r'
def Md.beq:Md->Md->Bool
 | .w,.w=>true|.p,.p=>true|.r,.r=>true
 | _,_=>false
def BK.beq:BK->BK->Bool
 | .loc,.loc=>true|.arr,.arr=>true|.dyn,.dyn=>true|.mp,.mp=>true
 | _,_=>false
def X4 (cx:Ev.Cx) (π:gZ) (b b':an):Prop:=bif Nat.beq b.ty b'.ty && Nat.beq b.size b'.size && Md.beq b.m b'.m && b.live then (match b.k,b'.k with
 | .loc,.loc=>bB (gF π b'.cs) fun cs=>oa zw b.cs cs
 | .arr,.arr=>bB (gF π b'.cs) fun cs=>oa zw b.cs cs
 | .dyn,.dyn=>b.cs=b'.cs
 | .mp,.mp=>b.cs=b'.cs
 | .arr,.dyn=>bB (Ev.gO cx b.ty) fun ag=>bif ag || Nat.beq b.size 1 then b.szK fun n=>bB (gA ag n (.stat b.cs)) fun es=>es=b'.cs else False
 | _,_=>False) else False
def stK (cx:Ev.Cx) (π:gZ) (st:List an):List an->gZ->Prop
 | [],[]=>True
 | b'::r,some m::π'=>(match b'.live with
  | true=>bB st[m]? fun b=>X4 cx π b b'
  | false=>True)/\stK cx π st r π'
 | b'::r,none::π'=>(match b'.k,b'.cs with
  | .dyn,[]=>bif Nat.blt 0 b'.size then True else False
  | _,_=>False)/\stK cx π st r π'
 | _,_=>False
def rO:gZ->Bool
 | []=>true
 | none::π=>rO π
 | some m::π=>!(π.any fun x=>match x with
  | some k=>Nat.beq m k
  | none=>false) && rO π
def oc (rl:List Nat):Nat->Nat->gZ->Bool
 | 0,_,_=>true
 | n+1,l,some m::π=>(Nat.beq l m || ko l rl) && oc rl n (l+1) π
 | n+1,l,none::π=>ko l rl && oc rl n (l+1) π
 | _+1,_,[]=>false
def fD (cx:Ev.Cx) (π:gZ) (s s':ba):Prop :=
 s'.n=s.n/\s'.base=s.base/\s'.rl=s.rl/\(bif rO π && oc s.rl s.base 0 π then True else False)/\stK cx π s.st s'.st π/\TM.kZ π s.t s'.t
theorem TM.fO {π:gZ}:∀ {t t':TM} {n:Nat} {y:PV},TM.kZ π t t'->t'.get n=some y->∃ x z,t.get n=some x/\y.Kv π=some z/\Pw.kZ x z
 | _,.nil,n,y,_,hy=>by cases hy
 | .nil,.node v l r,n,y,h,hy=>by
  exfalso
  have key:∀ (t':TM),TM.kZ π .nil t'->∀ n y,t'.get n=some y->False:=by
   intro t'
   induction t' with
   | nil=>intro _ n y hy; cases hy
   | node v l r ihl ihr =>
    intro h n y hy
    obtain⟨h1,h2,h3⟩:=h
    cases v with
    | some _=>exact h1.elim
    | none =>
     simp only[TM.get] at hy
     cases h0:Nat.beq n 0<;>rw[h0] at hy
     ·cases h1:Nat.beq (n % 2) 1<;>rw[h1] at hy
      ·exact ihr h3 _ _ hy
      ·exact ihl h2 _ _ hy
     ·cases hy
  exact key _ h n y hy
 | .node v l r,.node v' l' r',n,y,h,hy=>by
  obtain⟨h1,h2,h3⟩:=h
  simp only[TM.get] at hy ⊢
  cases h0:Nat.beq n 0<;>rw[h0] at hy
  ·cases hp:Nat.beq (n % 2) 1<;>rw[hp] at hy
   ·exact TM.fO h3 hy
   ·exact TM.fO h2 hy
  ·cases v' with
   | none=>cases hy
   | some y' =>
    cases hy
    obtain⟨x,hx,h1⟩:=aD h1
    obtain⟨z,hz,h1⟩:=aD h1
    exact⟨x,z,hx,hz,h1⟩
theorem Md.m_ {m n:Md} (h:Md.beq m n=true):m=n:=by cases m<;>cases n<;>first|rfl|cases h
theorem zW {cx:Ev.Cx} {OW:gZ} {st:List an}:∀ {eU:List an} {π:gZ},stK cx OW st eU π->π.length=eU.length/\∀ (l:Nat) (b':an),eU[l]?=some b'->b'.live=true->(∃ (m:Nat) (b:an),π[l]?=some (some m)/\st[m]?=some b/\X4 cx OW b b')\/(π[l]?=some none/\b'.k = .dyn/\b'.cs = []/\0 < b'.size)
 | [],[],_=>⟨rfl,fun l b' hl=>by simp at hl⟩
 | b0::r,some m::π,h=>by
  obtain⟨h1,h2⟩:=h
  obtain⟨Kk,KF⟩:=zW h2
  refine⟨by simp[Kk],fun l b' hl aP=>?_⟩
  cases l with
  | zero =>
   simp at hl; subst hl
   rw[aP] at h1
   obtain⟨b,hb,h1⟩:=aD h1
   exact .inl ⟨m,b,rfl,hb,h1⟩
  | succ l=>simpa using KF l b' (by simpa using hl) aP
 | b0::r,none::π,h=>by
  obtain⟨h1,h2⟩:=h
  obtain⟨Kk,KF⟩:=zW h2
  refine⟨by simp[Kk],fun l b' hl aP=>?_⟩
  cases l with
  | zero =>
   simp at hl; subst hl
   split at h1
   ·rename_i hk hc
    obtain⟨hb,_⟩:=bs h1
    exact .inr ⟨rfl,hk,hc,Nat.le_of_ble_eq_true hb⟩
   ·exact h1.elim
  | succ l=>simpa using KF l b' (by simpa using hl) aP
 | [],_::_,h=>h.elim
 | _::_,[],h=>h.elim
theorem pn:∀ {π:gZ},rO π=true->∀ (l l' m:Nat),π[l]?=some (some m)->π[l']?=some (some m)->l=l'
 | [],_,l,_,_,h,_=>by simp at h
 | none::π,hn,l,l',m,h,h'=>by
  cases l with
  | zero=>simp at h
  | succ l=>cases l' with
   | zero=>simp at h'
   | succ l'=>rw[pn (π:=π) hn l l' m (by simpa using h) (by simpa using h')]
 | some k::π,hn,l,l',m,h,h'=>by
  simp only[rO,Bool.and_eq_true,Bool.not_eq_true',List.any_eq_false] at hn
  have no:∀ l,π[l]?=some (some k)->False:=fun l hl=>by
   have:=hn.1 _ (List.mem_of_getElem? hl)
   simp at this
  cases l with
  | zero =>
   simp at h; subst h
   cases l' with
   | zero=>rfl
   | succ l'=>exact (no l' (by simpa using h')).elim
  | succ l =>
   cases l' with
   | zero=>simp at h'; subst h'; exact (no l (by simpa using h)).elim
   | succ l'=>rw[pn (π:=π) hn.2 l l' m (by simpa using h) (by simpa using h')]
theorem po {rl:List Nat}:∀ {n l:Nat} {π:gZ},oc rl n l π=true->n<=π.length
 | 0,_,_,_=>Nat.zero_le _
 | n+1,l,some m::π,h=>by
  simp only[oc,Bool.and_eq_true] at h
  simpa using po h.2
 | n+1,l,none::π,h=>by
  simp only[oc,Bool.and_eq_true] at h
  simpa using po h.2
 | _+1,_,[],h=>by cases h
theorem rP {rl:List Nat}:∀ {n l:Nat} {π:gZ},oc rl n l π=true->∀ i,i < n->(π[i]?=some (some (l+i))\/(l+i)∈rl)
 | 0,_,_,_,i,hi=>by omega
 | n+1,l,some m::π,h,i,hi=>by
  simp only[oc,Bool.and_eq_true,Bool.or_eq_true] at h
  cases i with
  | zero=>exact h.1.imp (fun e=>by rw[← Nat.eq_of_beq_eq_true e]; rfl) dY.1
  | succ i =>
   have:=rP h.2 i (by omega)
   rw[show l+1+i=l+(i+1) by omega] at this
   simpa using this
 | n+1,l,none::π,h,i,hi=>by
  simp only[oc,Bool.and_eq_true] at h
  cases i with
  | zero=>exact .inr (dY.1 h.1)
  | succ i =>
   have:=rP h.2 i (by omega)
   rw[show l+1+i=l+(i+1) by omega] at this
   simpa using this
 | _+1,_,[],h,_,_=>by cases h
end
section
variable {w w':World} {I I':Nat->Prop} {β aU:aB} {G:Gx} {s:ba} {a:Act} {st eU:List an}
theorem iR {cs ds:List PV} {arr:Array Value} {o:Nat} (h:oa zw cs ds) (hc:bA w I β cs arr o):bA w I β ds arr o:=by
 have key:∀ (cs ds:List PV) (o:Nat),oa zw cs ds->bA w I β cs arr o->bA w I β ds arr o:=by
  intro cs
  induction cs with
  | nil=>intro ds o h hc; cases ds with
   | nil=>exact hc
   | cons _ _=>exact h.elim
  | cons c cs ih =>
   intro ds o h hc
   cases ds with
   | nil=>exact h.elim
   | cons d ds =>
    intro i x hx
    cases i with
    | zero =>
     simp at hx; subst hx
     obtain⟨v,hv,hi,h1⟩:=hc 0 c rfl
     exact⟨v,hv,rN h.1 w I β v hi,h1⟩
    | succ i =>
     have:=ih ds (o+1) h.2 (fun j y hy=>by
      obtain⟨v,hv,h1⟩:=hc (j+1) y (by simpa using hy)
      exact⟨v,by rw[show o+1+j=o+(j+1) by omega]; exact hv,h1⟩) i x (by simpa using hx)
     obtain⟨v,hv,h1⟩:=this
     exact⟨v,by rw[show o+(i+1)=o+1+i by omega]; exact hv,h1⟩
 exact key cs ds o h hc
theorem rQ {π:gZ} {cs ds:List PV} {arr:Array Value} {o:Nat} (h:gF π ds=some cs) (hc:bA w I β cs arr o):bA w I (iW β π) ds arr o:=by
 have key:∀ (ds cs:List PV) (o:Nat),gF π ds=some cs->bA w I β cs arr o->bA w I (iW β π) ds arr o:=by
  intro ds
  induction ds with
  | nil=>intro cs o _ _ i c hc; simp at hc
  | cons d ds ih =>
   intro cs o h hc
   simp only[gF] at h
   split at h
   ·rename_i y l h1 h2
    cases h
    intro i x hx
    cases i with
    | zero =>
     simp at hx; subst hx
     obtain⟨v,hv,hi,h3⟩:=hc 0 y rfl
     exact⟨v,hv,qM h1 hi,h3⟩
    | succ i =>
     have:=ih l (o+1) h2 (fun j y hy=>by
      obtain⟨v,hv,h1⟩:=hc (j+1) y (by simpa using hy)
      exact⟨v,by rw[show o+1+j=o+(j+1) by omega]; exact hv,h1⟩) i x (by simpa using hx)
     obtain⟨v,hv,h1⟩:=this
     exact⟨v,by rw[show o+(i+1)=o+1+i by omega]; exact hv,h1⟩
   ·cases h
 exact key ds cs o h hc
theorem mg {r:PV->PV->Prop}:∀ {cs ds:List PV},oa r cs ds->cs.length=ds.length
 | [],[],_=>rfl
 | _::_,_::_,h=>by simp[mg h.2]
 | [],_::_,h=>h.elim
 | _::_,[],h=>h.elim
theorem xP {π:gZ}:∀ {ds cs:List PV},gF π ds=some cs->ds.length=cs.length
 | [],cs,h=>by simp only[gF,Option.some.injEq] at h; subst h; rfl
 | d::ds,cs,h=>by
  simp only[gF] at h
  split at h
  ·rename_i y l h1 h2
   cases h; simp[xP h2]
  ·cases h
theorem cL (hO:Ev.gw G.cx) {π:gZ} {s s':ba} (h:fD G.cx π s s'):Sub G s s':=by
 obtain⟨hn,BF,ON,GA,zu,ht⟩:=h
 obtain⟨GA,_⟩:=bs GA
 simp only[Bool.and_eq_true] at GA
 obtain⟨GA,CZ⟩:=GA
 obtain⟨hπl,nQ⟩:=zW zu
 have hinj:=pn GA
 have hbl:=po CZ
 have CZ:=rP CZ
 intro I β a w hR
 have hH:aN I (iW β π) s'.st w:=by
  refine⟨fun l hl=>by unfold iW; rw[List.getElem?_eq_none (by omega)],fun l b' hl aP=>?_⟩
  rcases nQ l b' hl aP with ⟨m,b,Kw,hb,hk⟩|⟨Kw,hk,hc,ga⟩
  ·obtain⟨hc,hk⟩:=bs hk
   simp only[Bool.and_eq_true] at hc
   obtain⟨⟨⟨Gl,ga⟩,hm⟩,GB⟩:=hc
   have Gl:=Nat.eq_of_beq_eq_true Gl
   have ga:=Nat.eq_of_beq_eq_true ga
   have hm:=Md.m_ hm
   obtain⟨p,hp,hB⟩:=hR.heap.gM m b hb GB
   have own:∀ {g:Nat} {fr:Nat × Nat},Own I β s.st m g fr b->Own I (iW β π) s'.st l g fr b':=fun ho=>by
    refine⟨fun hr=>?_,fun hr=>ho.2 (by rw[hm]; exact hr)⟩
    obtain⟨h1,h2,h3⟩:=ho.1 (by rw[hm]; exact hr)
    refine⟨h1,h2,fun l2 b2 dk gn bU p2 g2 o2 iB iA=>?_⟩
    rcases nQ l2 b2 gn bU with ⟨m2,b3,Ld,kv,hk3⟩|⟨Ld,_⟩
    ·rw[cH Ld] at iB
     obtain⟨hc3,_⟩:=bs hk3
     simp only[Bool.and_eq_true] at hc3
     exact h3 m2 b3 (fun e=>dk (by subst e; exact hinj l2 l _ Ld Kw)) kv hc3.2 p2 g2 o2 iB iA
    ·rw[j3 Ld] at iB
     cases iB; cases iA
   refine⟨p,by rw[cH Kw]; exact hp,?_⟩
   split at hk
   ·rename_i Fx vM
    rw[Fx] at hB
    rw[vM]
    obtain⟨g,o,arr,ty,fr,h1,h2,h3,ho⟩:=hB
    obtain⟨cs,iD,hk⟩:=aD hk
    exact⟨g,o,arr,ty,fr,h1,h2,rQ iD (iR hk h3),own ho⟩
   ·rename_i Fx vM
    rw[Fx] at hB
    rw[vM]
    obtain⟨g,arr,fr,h1,h2,h3,ho,h4,h5,h6,h7,h8⟩:=hB
    obtain⟨cs,iD,hk⟩:=aD hk
    exact⟨g,arr,fr,h1,by rw[← Gl]; exact h2,rQ iD (iR hk h3),own ho,by rw[xP iD,← mg hk,← ga]; exact h4,h5,h6,by rw[← ga]; exact h7,by rw[← ga]; exact h8⟩
   ·rename_i Fx vM
    rw[Fx] at hB
    rw[vM]
    obtain⟨⟨h1,h2,h3,h4⟩,hB⟩:=hB
    refine⟨⟨by rw[← ga]; exact h1,by rw[← hk]; exact h2,h3,h4⟩,?_⟩
    rcases hB with h|⟨g,arr,fr,h5,h6,h7,ho,h8⟩
    ·exact .inl h
    ·exact .inr ⟨g,arr,fr,h5,by rw[← Gl]; exact h6,by rw[← hk,← ga]; exact h7,own ho,by rw[← ga]; exact h8⟩
   ·rename_i Fx vM
    rw[Fx] at hB
    rw[vM]
    obtain⟨g,h1,h2,ho⟩:=hB
    exact⟨g,h1,by rw[← hk]; exact h2,own ho⟩
   ·rename_i Fx vM
    rw[Fx] at hB
    rw[vM]
    obtain⟨g,arr,fr,h1,h2,h3,ho,h4,h5,h6,h7,h8⟩:=hB
    obtain⟨ag,KV,hk⟩:=aD hk
    obtain⟨GC,hk⟩:=bs hk
    rw[an.zC] at hk
    obtain⟨es,pW,hk⟩:=aD hk
    simp only[Bool.or_eq_true] at GC
    have rr:(arr.toList.take (p.len*b.size)).length=p.len*b.size:=by
     rw[List.length_take,Array.length_toList,h7]
     have:=Nat.mul_le_mul_right b.size h5
     omega
    have rz:pY w I β b.size (.stat b.cs) (arr.toList.take (p.len*b.size)):=by
     refine⟨by rw[rr,h4],fun j c hj=>?_⟩
     obtain⟨u,hu,h9⟩:=h3 j c hj
     have vz:j < p.len*b.size:=by rw[← h4]; exact (List.getElem?_eq_some_iff.1 hj).1
     exact⟨u,by rw[List.getElem?_take,if_pos vz]; simpa using hu,h9⟩
    obtain⟨e1,e2⟩:=gQ h8 (GC.imp id Nat.eq_of_beq_eq_true) pW rz rr
    refine⟨⟨by rw[← ga]; exact h8,by rw[← hk]; exact e1,h5,h6⟩,.inr ⟨g,arr,fr,h1,by rw[← Gl]; exact h2,?_,own ho,by rw[← ga]; exact h7⟩⟩
    rw[← hk,← ga]
    refine e2.at (fun j v hj=>?_) (fun _ h=>h) (fun _ _=>rfl)
    have:=nR h2 0 (p.len*b.size) j v (by simpa using hj)
    simpa using this
   ·exact hk.elim
  ·refine⟨_,j3 Kw,?_⟩
   rw[hk]
   exact⟨⟨ga,by rw[hc]; rfl,Nat.le_refl _,Nat.zero_le _⟩,.inl ⟨rfl,rfl⟩⟩
 refine⟨I,iW β π,⟨by rw[hn]; exact hR.small,hR.defers,by rw[hn]; exact hR.size,?_,fun t y hy=>?_,hH,hR.ay⟩,⟨⟨rfl,rfl,rfl,Nat.le_refl _,fun _ _ _=>rfl,fun g hg ⟨l,b',p,o,h1,h2,h3,h4,h5⟩=>?_,fun _ h=>h,fun _ _ h=>.inl h⟩,BF,ON,hn,fun l hl hnr=>?_⟩⟩
 ·rw[BF]
  rw[← hπl]; exact hbl
 ·obtain⟨x,z,hx,hz,hle⟩:=TM.fO ht hy
  obtain⟨v,hv,hi⟩:=hR.get t x hx
  exact⟨v,hv,Gz hz (fO hle w I β v hi)⟩
 ·rcases nQ l b' h1 h2 with ⟨m,b,Kw,hb,hk⟩|⟨Kw,_⟩
  ·obtain⟨hc,_⟩:=bs hk
   simp only[Bool.and_eq_true] at hc
   rw[cH Kw] at h4
   exact⟨m,b,p,o,hb,hc.2,by rw[Md.m_ hc.1.2]; exact h3,h4,h5⟩
  ·rw[j3 Kw] at h4
   cases h4; cases h5
 ·rcases CZ l hl with h|h
  ·rw[Nat.zero_add] at h
   exact cH h
  ·rw[Nat.zero_add] at h; exact absurd h hnr
def frO (v:Option PV) (q:Option PV->Prop):Prop:=match v with
 | none=>q none
 | some x=>fc x fun x=>q (some x)
def OX:TM->(TM->Prop)->Prop
 | .nil,q=>q .nil
 | .node v l r,q=>frO v fun v=>OX l fun l=>OX r fun r=>q (.node v l r)
def X5 (b:an) (q:an->Prop):Prop:=match b with
 | ⟨.loc,ty,n,m,live,cs⟩=>fy cs fun cs=>q ⟨.loc,ty,n,m,live,cs⟩
 | ⟨.arr,ty,n,m,live,cs⟩=>fy cs fun cs=>q ⟨.arr,ty,n,m,live,cs⟩
 | ⟨.dyn,ty,n,m,live,cs⟩=>q ⟨.dyn,ty,n,m,live,cs⟩
 | ⟨.mp,ty,n,m,live,cs⟩=>q ⟨.mp,ty,n,m,live,cs⟩
def vN:List an->(List an->Prop)->Prop
 | [],q=>q []
 | b::st,q=>X5 b fun b=>vN st fun st=>q (b::st)
def WM (s:ba) (q:ba->Prop):Prop:=match s with
 | ⟨n,t,st,b,rl⟩=>OX t fun t=>vN st fun st=>q ⟨n,t,st,b,rl⟩
theorem zX:∀ {t:TM} {q:TM->Prop},OX t q->q t
 | .nil,_,h=>h
 | .node v l r,q,h=>by
  have h1:OX l fun l=>OX r fun r=>q (.node v l r):=by
   cases v with
   | none=>exact h
   | some x=>exact F5 (x:=x) (q:=fun x=>OX l fun l=>OX r fun r=>q (.node (some x) l r)) h
  have h2:=zX h1
  exact zX (q:=fun r=>q (.node v l r)) h2
theorem zY {b:an} {q:an->Prop} (h:X5 b q):q b:=by
 obtain⟨k,ty,n,m,live,cs⟩:=b
 cases k
 ·exact cS (q:=fun cs=>q ⟨.loc,ty,n,m,live,cs⟩) h
 ·exact cS (q:=fun cs=>q ⟨.arr,ty,n,m,live,cs⟩) h
 ·exact h
 ·exact h
theorem oe:∀ {st:List an} {q:List an->Prop},vN st q->q st
 | [],_,h=>h
 | b::st,q,h=>oe (q:=fun st=>q (b::st)) (zY h)
theorem rR {q:ba->Prop} (h:WM s q):q s:=by
 obtain⟨n,t,st,b,rl⟩:=s
 have h1:=zX h
 exact oe (q:=fun st=>q ⟨n,t,st,b,rl⟩) h1
def TM.C0 (v:Option PV):Nat->TM->Nat->TM
 | 0,t,_=>t
 | f+1,.nil,n=>bif Nat.beq n 0 then .node v .nil .nil else bif Nat.beq (n % 2) 1 then .node none (TM.C0 v f .nil ((n - 1) / 2)) .nil else .node none .nil (TM.C0 v f .nil ((n - 1) / 2))
 | f+1,.node u l r,n=>bif Nat.beq n 0 then .node v l r else bif Nat.beq (n % 2) 1 then .node u (TM.C0 v f l ((n - 1) / 2)) r else .node u l (TM.C0 v f r ((n - 1) / 2))
def OY:List Oper->List Nat
 | []=>[]
 | o::r=>(match o.dst with
  | some d=>[d]
  | none=>[])++OY r
def rT:Code->List Nat
 | .region _ ops _=>OY ops.toList
 | .seq a b=>rT a++rT b
 | .cond _ a b=>rT a++rT b
 | .block _ c=>rT c
 | .loop c=>rT c
 | .scope c=>rT c
 | _=>[]
def rU:List Nat->TM->TM
 | [],t=>t
 | d::ds,t=>rU ds (t.C0 none 24 d)
def ig:List (Nat × PV)->TM->TM
 | [],t=>t
 | (d,x)::r,t=>ig r (t.C0 (some x) 24 d)
def ba.head (s:ba) (c:Code) (vs:List (Nat × PV)) (st:List an):ba:=match s with
 | ⟨n,t,_,b,rl⟩=>⟨n,ig vs (rU (rT c) t),st,b,rl⟩
def Qj:Nat->List an->gZ
 | _,[]=>[]
 | n,_::r=>some n::Qj (n+1) r
theorem SW.loop (hG:m5 G) (R:List (Nat × aS)) {α:Type} {c:Code} {Q:X->ba->Prop} (hc:cr R c=true) (vs:α->List (Nat × PV)) (st:α->List an) (μ:α->Nat) (x0:α) (N:Nat) (OW:gZ) (h0:fD G.cx OW s (s.head c (vs x0) (st x0)))
  (h:∀ x,WM (s.head c (vs x) (st x)) (pw G R N c (rM (fun s'=>∃ y π,μ y < μ x/\fD G.cx π s' (s.head c (vs y) (st y))) Q))):SW G (.loop c) Q s :=
 SW.inv hG (fun x=>s.head c (vs x) (st x)) μ (N:=N) hc x0 (cL hG.ok h0) (fun x s'=>∃ y π,μ y < μ x/\fD G.cx π s' (s.head c (vs y) (st y))) (fun x s' ⟨y,π,hy,hs⟩=>⟨y,hy,cL hG.ok hs⟩) fun x=>rR (h x)
def zZ:List PV->Nat->TM->(TM->Prop)->Prop
 | [],_,t,k=>k t
 | x::xs,i,t,k=>fc x fun x=>t.vn (some x) 24 i fun t=>zZ xs (i+1) t k
def OZ (G:Gx) (s:ba) (r:ResultVar) (q:PV->Prop):Prop:=match r with
 | .tmp t=>bB (s.t.get t) fun x=>(match x with
  | .tup _=>False
  | x=>q x)
 | .cell a t=>bB (s.t.get a) fun x=>um G s.st t x q
def BG (G:Gx) (s:ba):List ResultVar->(List PV->Prop)->Prop
 | [],q=>q []
 | r::rs,q=>OZ G s r fun x=>BG G s rs fun xs=>q (x::xs)
def Le (G:Gx) (s:ba) (rs:List ResultVar) (q:PV->Prop):Prop:=match rs with
 | [.tmp t]=>bB (s.t.get t) q
 | rs=>BG G s rs fun l=>(match l with
  | [x]=>q x
  | l=>q (.tup l))
def C1:Md->Bool
 | .p=>false
 | _=>true
def C2 (r:PV->(PV->Prop)->Prop):List PV->(List PV->Prop)->Prop
 | [],q=>q []
 | c::cs,q=>r c fun c=>C2 r cs fun cs=>q (c::cs)
def Fy (cx:Ev.Cx) (st:List an) (base:Nat):Nat->PV->(PV->Prop)->Prop
 | 0,_,_=>False
 | n+1,x,q=>match x with
  | .wref l=>bif Nat.blt l base then q (.wref l) else bB st[l]? fun b=>bif b.live && C1 b.m then (match b.k with
   | .arr=>C2 (Fy cx st base n) b.cs fun cs=>bB (Ev.gO cx b.ty) fun ag=>bif ag || Nat.beq b.size 1 then b.szK fun n=>bB (gA ag n (.stat cs)) fun es=>q (.sl n es) else False
   | .dyn=>q (.sl b.size b.cs)
   | _=>False) else False
  | .agg cs=>C2 (Fy cx st base n) cs fun cs=>q (.agg cs)
  | .tup cs=>C2 (Fy cx st base n) cs fun cs=>q (.tup cs)
  | .clo f cs=>C2 (Fy cx st base n) cs fun cs=>q (.clo f cs)
  | x=>bif x.dv.all (fun l=>Nat.blt l base) then q x else False
def xQ (base:Nat) (b:an):Bool:=match b.k with
 | .dyn=>true
 | .mp=>true
 | _=>b.cs.all fun c=>c.dv.all fun l=>Nat.blt l base
def C3 (G:Gx) (rs:List ResultVar) (base:Nat) (K:PV->List an->Prop) (x:X) (s:ba):Prop:=match x with
 | .exit _=>False
 | _=>Le G s rs fun r=>Fy G.cx s.st base 8 r fun r=>bif (s.st.take base).all (xQ base) then vN (s.st.take base) fun S=>∃ r',zx r r'/\K r' S else False
def Qk (G:Gx) (R:List (Nat × aS)) (N:Nat) (fn:Func) (c:Code) (args:List PV) (S:List an) (rl:List Nat) (K:PV->List an->Prop):Prop :=
 bif Nat.ble args.length fn.ntmps && Nat.ble fn.ntmps 16777215 && !(fn.name == "runtime.NumGoroutine") then
  lz S 0 fun b=>zZ args 0 .nil fun t=>pw G R N c (C3 G fn.results.toList b K) ⟨fn.ntmps,t,S,b,rl⟩ else False
section
variable {w w':World} {I I':Nat->Prop} {β aU:aB} {G:Gx} {s:ba} {a:Act} {st eU:List an}
theorem og:∀ {xs:List PV} {i:Nat} {t:TM} {k:TM->Prop},zZ xs i t k->∃ t',k t'/\∀ n x,t'.get n=some x->(∃ j,n=i+j/\xs[j]?=some x)\/t.get n=some x
 | [],i,t,k,h=>⟨t,h,fun n x hx=>.inr hx⟩
 | x::xs,i,t,k,h=>by
  obtain⟨t1,h1,ht1⟩:=TM.qL (F5 h)
  obtain⟨t',hk,Bs⟩:=og h1
  refine⟨t',hk,fun n y hy=>?_⟩
  rcases Bs n y hy with ⟨j,hj,hx⟩|hy
  ·exact .inl ⟨j+1,by omega,by simpa using hx⟩
  ·rw[ht1] at hy
   split at hy
   ·rename_i hn
    cases hy
    exact .inl ⟨0,by omega,rfl⟩
   ·exact .inr hy
def Lf (a:Act) (rv:ResultVar):Sem Value:=match rv with
 | .tmp t=>pure (a.tmps.getD t Go.undef)
 | .cell b t=>do loadVar t (← asAddr (a.tmps.getD b Go.undef))
theorem GD (hG:m5 G) (hR:Rel G I β s a w) {r:ResultVar} {q:PV->Prop} (h:OZ G s r q):∃ x v,q x/\x.Is w I β v/\(Lf a r).run G.cx.P w = .ok v w:=by
 cases r with
 | tmp t =>
  obtain⟨x,hx,h⟩:=aD h
  obtain⟨v,hv,hi⟩:=hR.get t x hx
  have hq:q x:=by
   split at h
   ·exact h.elim
   ·exact h
  exact⟨x,v,hq,hi,by simp[Lf,hv]⟩
 | cell b t =>
  obtain⟨x,hx,h⟩:=aD h
  obtain⟨v,hv,hi⟩:=hR.get b x hx
  obtain⟨z,r,g,hz,P3,_,cj⟩:=ri hG.ok hR.heap hR.ay h hi
  have cj:=cj w rfl
  refine⟨z,r,hz,P3,?_⟩
  have hptr:∃ ad,v = .pointer (some ad):=by
   unfold um at h
   split at h<;>try simp only[PV.Is] at hi
   ·obtain⟨_,_,_,_,_,rfl⟩:=hi; exact⟨_,rfl⟩
   ·obtain⟨_,_,_,_,_,rfl⟩:=hi; exact⟨_,rfl⟩
   ·obtain⟨_,_,_,_,_,rfl⟩:=hi; exact⟨_,rfl⟩
   ·obtain⟨_,_,rfl,_⟩:=hi; exact⟨_,rfl⟩
   ·exact⟨_,hi⟩
   ·exact⟨_,hi⟩
   ·exact h.elim
  obtain⟨ad,rfl⟩:=hptr
  simp only[Instr.loadAt,Instr.sureAddr,Sem.run_bind,Sem.run_pure,Result.andThen_ok] at cj
  simp[Lf,hv,asAddr,cj]
theorem xS (hG:m5 G) (hR:Rel G I β s a w):∀ {rs:List ResultVar} {q:List PV->Prop},BG G s rs q->∃ xs vs,q xs/\bG w I xs β vs/\(rs.mapM (Lf a)).run G.cx.P w = .ok vs w
 | [],q,h=>⟨[],[],h,by simp only[bG],rfl⟩
 | r::rs,q,h=>by
  obtain⟨x,v,h,hx,hr⟩:=GD hG hR h
  obtain⟨xs,vs,h,qI,hrs⟩:=xS hG hR h
  exact⟨x::xs,v::vs,h,by simp only[bG]; exact⟨hx,qI⟩,by simp[List.mapM_cons,hr,hrs]⟩
theorem BH (hG:m5 G) (hR:Rel G I β s a w) {fn:Func} {q:PV->Prop} (h:Le G s fn.results.toList q):∃ x v,q x/\x.Is w I β v/\(results fn a.tmps).run G.cx.P w = .ok v w:=by
 have key:∀ {q':List PV->Prop},BG G s fn.results.toList q'->(∀ l,q' l->match l with
   | [x]=>q x
   | l=>q (.tup l))->∃ x v,q x/\x.Is w I β v/\(results fn a.tmps).run G.cx.P w = .ok v w:=by
  intro q' h hq
  obtain⟨xs,vs,h,qI,cj⟩:=xS hG hR h
  have vO:(results fn a.tmps).run G.cx.P w = .ok (if h:vs.toArray.size=1 then vs.toArray[0] else .tuple vs.toArray) w:=by
   unfold results
   rw[Array.mapM_eq_mapM_toList]
   simp only[Sem.run_bind,Sem.run_map]
   erw [cj]
   rfl
  have hq:=hq xs h
  match xs,vs,qI,hq,vO with
  | [],[],_,hq,vO=>exact⟨_,_,hq,by simp only[PV.Is]; exact⟨#[],rfl,by simp only[bG]⟩,vO⟩
  | [x],[v],qI,hq,vO=>exact⟨x,v,hq,by simp only[bG] at qI; exact qI.1,vO⟩
  | x::x'::xs,v::v'::vs,qI,hq,vO=>exact⟨_,_,hq,by simp only[PV.Is]; exact⟨_,rfl,by simpa using qI⟩,by rw[vO,dif_neg (by simp)]⟩
  | [],_::_,qI,_,_=>simp only[bG] at qI
  | _::_,[],qI,_,_=>simp only[bG] at qI
  | [_],_::_::_,qI,_,_=>simp[bG] at qI
  | _::_::_,[_],qI,_,_=>simp[bG] at qI
 unfold Le at h
 split at h
 ·rename_i t heq
  obtain⟨x,hx,h⟩:=aD h
  obtain⟨v,hv,hi⟩:=hR.get t x hx
  refine⟨x,v,h,hi,?_⟩
  have Bv:fn.results = #[.tmp t]:=by rw[← Array.toList_inj]; simpa using heq
  simp[results,Bv,hv]
 ·refine key h fun l hl=>?_
  split
  ·exact hl
  ·rename_i dk
   split at hl
   ·rename_i x; exact absurd rfl (dk x)
   ·exact hl
end
end
section
variable {w w':World} {I I':Nat->Prop} {β aU:aB} {G:Gx} {s:ba} {a:Act} {st eU:List an}
def rV (I:Nat->Prop) (β:aB) (st:List an) (base:Nat) (g:Nat):Prop:=I g\/∃ l b p o,base<=l/\st[l]?=some b/\b.live=true/\b.m = .w/\β l=some p/\p.a=some (g,o)
def qq (β:aB) (base:Nat):aB:=fun l=>if l < base then β l else none
theorem rW {x:PV} {base:Nat} {v:Value} (h:x.dv.all (fun l=>Nat.blt l base)=true) (hx:x.Is w I β v) (hI:∀ g,I g->I' g):x.Is w I' (qq β base) v :=
 PV.Is.mono hI (fun _ _=>rfl) x β _ v (fun l p hl hp=>by
  rw[List.all_eq_true] at h
  unfold qq
  rw[if_pos (show l < base from Nat.le_of_ble_eq_true (h l hl))]; exact hp) hx
theorem oh {r:PV->(PV->Prop)->Prop} (hr:∀ x q v,r x q->x.Is w I β v->∃ y,q y/\y.Is w I' aU v):∀ {cs:List PV} {vs:List Value} {q:List PV->Prop},C2 r cs q->bG w I cs β vs->∃ ds,q ds/\bG w I' ds aU vs
 | [],[],q,h,_=>⟨[],h,by simp only[bG]⟩
 | c::cs,v::vs,q,h,hx=>by
  simp only[bG] at hx
  obtain⟨y,h,hy⟩:=hr c _ v h hx.1
  obtain⟨ds,h,hd⟩:=oh hr h hx.2
  exact⟨y::ds,h,by simp only[bG]; exact⟨hy,hd⟩⟩
 | [],_::_,_,_,hx=>by simp only[bG] at hx
 | _::_,[],_,_,hx=>by simp only[bG] at hx
theorem GF {cx:Ev.Cx} (hh:aN I β st w) {base:Nat}:∀ (n:Nat) (x:PV) (q:PV->Prop) (v:Value),Fy cx st base n x q->x.Is w I β v->∃ y,q y/\y.Is w (rV I β st base) (qq β base) v
 | 0,_,_,_,h,_=>h.elim
 | n+1,x,q,v,h,hx=>by
  have ih:=GF (cx:=cx) hh (base:=base) n
  have hI:∀ g,I g->rV I β st base g:=fun g h=>.inl h
  unfold Fy at h
  split at h
  ·rename_i l
   cases hl:Nat.blt l base
   case true =>
    rw[hl] at h
    exact⟨_,h,rW (by simp only[PV.dv,List.all_cons,List.all_nil,hl,Bool.and_true]) hx hI⟩
   case false =>
    rw[hl] at h
    have GB:base<=l:=by
     rcases Nat.lt_or_ge l base with h'|h'
     ·have:Nat.blt l base=true:=by unfold Nat.blt; exact Nat.ble_eq_true_of_le h'
      rw[this] at hl; cases hl
     ·exact h'
    obtain⟨b,hb,h⟩:=aD h
    obtain⟨hc,h⟩:=bs h
    simp only[Bool.and_eq_true] at hc
    simp only[PV.Is] at hx
    obtain⟨p,hp,rfl⟩:=hx
    have tO:∀ {g o:Nat} {fr:Nat × Nat},p.a=some (g,o)->Own I β st l g fr b->rV I β st base g:=fun {g o fr} ha ho=>by
     cases hm:b.m with
     | w=>exact .inr ⟨l,b,p,o,GB,hb,hc.1,hm,hp,ha⟩
     | p=>rw[hm] at hc; cases hc.2
     | r=>exact .inl (ho.2 hm)
    split at h
    ·rename_i hk
     obtain⟨g,arr,fr,ha,hw,jo,qK,fR,hlen,hle,tE,has,jk⟩:=gk hh hb hc.1 hk hp
     have ga:p.len*b.size<=arr.size:=by rw[has]; exact Nat.mul_le_mul_right _ hle
     have rr:(arr.toList.take (p.len*b.size)).length=p.len*b.size:=by rw[List.length_take,Array.length_toList]; omega
     have m6:bG w I b.cs β (arr.toList.take (p.len*b.size)):=bG.of (by rw[rr,hlen]) fun i c hc=>by
      obtain⟨u,hu,hi,_⟩:=qK i c hc
      have vz:i < p.len*b.size:=by rw[← hlen]; exact (List.getElem?_eq_some_iff.1 hc).1
      exact⟨u,by rw[List.getElem?_take,if_pos vz]; simpa using hu,hi⟩
     obtain⟨ds,h,hds⟩:=oh (fun x q v=>ih x q v) h m6
     obtain⟨ag,KV,h⟩:=aD h
     obtain⟨GC,h⟩:=bs h
     rw[an.zC] at h
     obtain⟨es,pW,h⟩:=aD h
     simp only[Bool.or_eq_true] at GC
     have rz:pY w (rV I β st base) (qq β base) b.size (.stat ds) (arr.toList.take (p.len*b.size)):=by
      refine⟨by rw[hds.length],fun j c hj=>?_⟩
      obtain⟨u,hu,hi⟩:=hds.get hj
      refine⟨u,hu,hi,?_⟩
      have vz:j < b.cs.length:=by rw[m6.length,← hds.length]; exact (List.getElem?_eq_some_iff.1 hj).1
      obtain⟨u2,hu2,_,h1⟩:=qK j _ (List.getElem?_eq_getElem vz)
      rw[List.getElem?_take] at hu
      split at hu
      ·have:arr[0+j]?=some u:=by simpa using hu
       rw[this] at hu2; cases hu2; exact h1
      ·cases hu
     obtain⟨e1,e2⟩:=gQ jk (GC.imp id Nat.eq_of_beq_eq_true) pW rz rr
     have GG:cD w (rV I β st base) es b.size g 0:=e2.at (fun j v hj=>by
      have:=nR jo 0 (p.len*b.size) j v (by simpa using hj)
      simpa using this) (fun _ h=>h) (fun _ _=>rfl)
     refine⟨_,h,?_⟩
     simp only[PV.Is]
     refine⟨some ⟨g,0,none⟩,p.cap,by rw[hw,e1],by omega,by omega,fun g' o' e=>by cases e; exact GG,fun _=>⟨g,0,rfl,tO ha fR,jk⟩⟩
    ·rename_i hk
     obtain⟨jk,hlen,hle,tE,nO⟩:=dS hh hb hc.1 hk hp
     refine⟨_,h,?_⟩
     simp only[PV.Is]
     rcases nO with ⟨ha,rf,hw⟩|⟨g,arr,fr,ha,hw,jo,pW,fR,has⟩
     ·have:b.cs = []:=List.eq_nil_of_length_eq_zero (by omega)
      rw[this,hw]
      exact⟨none,0,rfl,Nat.le_refl _,Nat.zero_le _,(fun _ _ e=>by cases e),fun hn=>absurd rfl hn⟩
     ·exact⟨some ⟨g,0,none⟩,p.cap,by rw[hw,hlen],by omega,by omega,(fun g' o' e=>by cases e; exact cD.mono hI (fun _ _=>rfl) _ _ _ _ rfl pW),fun _=>⟨g,0,rfl,tO ha fR,jk⟩⟩
    ·exact h.elim
  ·simp only[PV.Is] at hx
   obtain⟨vs,rfl,hx⟩:=hx
   obtain⟨ds,h,hd⟩:=oh (fun x q v=>ih x q v) h hx
   exact⟨_,h,by simp only[PV.Is]; exact⟨vs,rfl,hd⟩⟩
  ·simp only[PV.Is] at hx
   obtain⟨vs,rfl,hx⟩:=hx
   obtain⟨ds,h,hd⟩:=oh (fun x q v=>ih x q v) h hx
   exact⟨_,h,by simp only[PV.Is]; exact⟨vs,rfl,hd⟩⟩
  ·simp only[PV.Is] at hx
   obtain⟨vs,rfl,hx⟩:=hx
   obtain⟨ds,h,hd⟩:=oh (fun x q v=>ih x q v) h hx
   exact⟨_,h,by simp only[PV.Is]; exact⟨vs,rfl,hd⟩⟩
  ·obtain⟨hu,h⟩:=bs h
   exact⟨_,h,rW hu hx hI⟩
theorem Spec.intro {f:FuncId} {args:List PV} {S:List an} {rl:List Nat} {K:PV->List an->Prop} (he:Ev.iu G.cx.P f) (h:∀ I β w vals,aN I β S w->de G I w->bG w I args β vals ->
  Calls G.cx.P f vals.toArray w fun e w'=>∃ v r S' I' aU,e = .returned v/\K r S'/\r.Is w' I' aU v/\aN I' aU S' w'/\de G I' w'/\Ext I β S w I' aU S' w'/\S.length<=S'.length/\∀ l,l < S.length->l ∉ rl->aU l=β l):Spec G f args S rl K:=by
 unfold Spec; exact⟨he,h⟩
theorem Spec.run {f:FuncId} {args:List PV} {S:List an} {rl:List Nat} {K:PV->List an->Prop} (h:Spec G f args S rl K):Ev.iu G.cx.P f/\∀ I β w vals,aN I β S w->de G I w->bG w I args β vals ->
  Calls G.cx.P f vals.toArray w fun e w'=>∃ v r S' I' aU,e = .returned v/\K r S'/\r.Is w' I' aU v/\aN I' aU S' w'/\de G I' w'/\Ext I β S w I' aU S' w'/\S.length<=S'.length/\∀ l,l < S.length->l ∉ rl->aU l=β l:=by
 unfold Spec at h; exact h
theorem Spec.mono {f:FuncId} {args:List PV} {S:List an} {rl:List Nat} {K K':PV->List an->Prop} (h:Spec G f args S rl K) (hK:∀ r S',K r S'->K' r S'):Spec G f args S rl K' :=
 Spec.intro h.run.1 fun I β w vals h1 h2 h3=>(h.run.2 I β w vals h1 h2 h3).mono fun e w' ⟨v,r,S',I',aU,h1,h2,h3⟩=>⟨v,r,S',I',aU,h1,hK r S' h2,h3⟩
theorem xT (hG:m5 G) {fn:Func} {a':Act} {s' s0:ba} {S:List an} {rl:List Nat} {K:PV->List an->Prop} (Lg:s0.st=S) (gq:s0.base=S.length) (GH:s0.rl=rl) (dm:Rel G I' aU s' a' w') (hg:bW I β s0 w I' aU s' w') (hq:C3 G fn.results.toList S.length K .f_ s'):∃ v,(results fn a'.tmps).run G.cx.P w' = .ok v w'/\∃ v',∃ r S' I' aU,Ending.returned v = .returned v'/\K r S'/\r.Is w' I' aU v'/\aN I' aU S' w'/\de G I' w'/\Ext I β S w I' aU S' w'/\S.length<=S'.length/\∀ l,l < S.length->l ∉ rl->aU l=β l:=by
 obtain⟨r,v,hq,hr,cj⟩:=BH hG dm hq
 obtain⟨y,hq,hy⟩:=GF dm.heap 8 r _ v hq hr
 obtain⟨gJ,hq⟩:=bs hq
 obtain⟨r',XB,hK⟩:=oe hq
 rw[List.all_eq_true] at gJ
 have BF:s'.base=S.length:=hg.base.trans gq
 have hlen:S.length<=s'.st.length:=by have:=dm.base; rw[BF] at this; exact this
 have hI:∀ g,I' g->rV I' aU s'.st S.length g:=fun g h=>.inl h
 have vP:∀ (l:Nat) (b:an),(s'.st.take S.length)[l]?=some b->l < S.length/\s'.st[l]?=some b:=fun l b hb=>by
  rw[List.getElem?_take] at hb
  split at hb
  ·exact⟨‹_›,hb⟩
  ·cases hb
 have hHe:aN (rV I' aU s'.st S.length) (qq aU S.length) (s'.st.take S.length) w':=by
  refine⟨fun l hl=>?_,fun l b hb aP=>?_⟩
  ·unfold qq
   rw[if_neg (by simp at hl; omega)]
  ·obtain⟨hl,dw⟩:=vP l b hb
   have GB:=gJ b (List.mem_of_getElem? hb)
   obtain⟨p,hp,hk⟩:=dm.heap.gM l b dw aP
   have own:∀ {g:Nat} {o:Nat} {fr:Nat × Nat},p.a=some (g,o)->Own I' aU s'.st l g fr b->Own (rV I' aU s'.st S.length) (qq aU S.length) (s'.st.take S.length) l g fr b:=fun {g o fr} ha ho=>by
    refine⟨fun hr=>?_,fun hr=>hI g (ho.2 hr)⟩
    obtain⟨h1,h2,h3⟩:=ho.1 hr
    refine⟨h1,fun hE=>?_,fun l2 b2 dk gn bU p2 g2 o2 iB iA=>?_⟩
    ·rcases hE with hE|⟨l2,b2,p2,o2,k1,k2,k3,_,k5,k6⟩
     ·exact h2 hE
     ·exact h3 l2 b2 (by omega) k2 k3 p2 g o2 k5 k6 rfl
    ·obtain⟨hl2',eu⟩:=vP l2 b2 gn
     unfold qq at iB
     rw[if_pos hl2'] at iB
     exact h3 l2 b2 dk eu bU p2 g2 o2 iB iA
   have cells:b.k.tD=true->∀ {arr:Array Value} {o:Nat},bA w' I' aU b.cs arr o->bA w' (rV I' aU s'.st S.length) (qq aU S.length) b.cs arr o:=fun hk {arr o} hc i c hi=>by
    obtain⟨u,hu,O0,h1⟩:=hc i c hi
    refine⟨u,hu,rW ?_ O0 hI,h1⟩
    unfold xQ at GB
    cases cX:b.k with
    | dyn=>rw[cX] at hk; cases hk
    | mp=>rw[cX] at hk; cases hk
    | loc=>rw[cX] at GB; rw[List.all_eq_true] at GB; exact GB c (List.mem_of_getElem? hi)
    | arr=>rw[cX] at GB; rw[List.all_eq_true] at GB; exact GB c (List.mem_of_getElem? hi)
   refine⟨p,by unfold qq; rw[if_pos hl]; exact hp,?_⟩
   split at hk
   ·rename_i cX
    obtain⟨g,o,arr,ty,fr,h1,h2,h3,ho⟩:=hk
    exact⟨g,o,arr,ty,fr,h1,h2,cells (by rw[cX]; decide) h3,own h1 ho⟩
   ·rename_i cX
    obtain⟨g,arr,fr,h1,h2,h3,ho,h4⟩:=hk
    exact⟨g,arr,fr,h1,h2,cells (by rw[cX]; decide) h3,own h1 ho,h4⟩
   ·obtain⟨h1,hk⟩:=hk
    refine⟨h1,?_⟩
    rcases hk with h|⟨g,arr,fr,h2,h3,h4,ho,h5⟩
    ·exact .inl h
    ·exact .inr ⟨g,arr,fr,h2,h3,cD.mono hI (fun _ _=>rfl) _ _ _ _ rfl h4,own h2 ho,h5⟩
   ·obtain⟨g,h1,h2,ho⟩:=hk
    exact⟨g,h1,h2,own h1 ho⟩
 have cE:∀ g,rV I' aU s'.st S.length g->g < w'.heap.size:=fun g hg=>by
  rcases hg with hg|⟨l,b,p,o,_,k2,k3,_,k5,k6⟩
  ·exact dm.ay.ay g hg
  ·exact dm.heap.dW ⟨l,b,p,o,k2,k3,k5,k6⟩
 have hMe:de G (rV I' aU s'.st S.length) w':=⟨cE,fun g cs hgc=>by
  obtain⟨h1,h2⟩:=dm.ay.nG g cs hgc
  exact⟨hI g h1,du.mono hI (fun _ _=>rfl) cs g 0 rfl h2⟩,dm.ay.row⟩
 have hE:=hg.ext
 rw[Lg] at hE
 refine⟨v,cj,v,r',_,_,_,rfl,hK,XB _ _ _ _ hy,hHe,hMe,⟨hE.os,hE.tape,hE.output,hE.size,hE.block,fun g Gm ⟨l,b,p,o,h1,h2,h3,h4,h5⟩=>?_,fun g hg=>hI g (hE.ay g hg),fun g Gm tO=>?_⟩,by rw[List.length_take]; omega,fun l hl hr=>?_⟩
 ·obtain⟨hl,hb⟩:=vP l b h1
  unfold qq at h4
  rw[if_pos hl] at h4
  exact hE.wr g Gm ⟨l,b,p,o,hb,h2,h3,h4,h5⟩
 ·rcases tO with tO|⟨l,b,p,o,_,k2,k3,k4,k5,k6⟩
  ·exact hE.new g Gm tO
  ·exact .inr (hE.wr g Gm ⟨l,b,p,o,k2,k3,k4,k5,k6⟩)
 ·unfold qq
  rw[if_pos hl]
  exact hg.low l (by rw[gq]; exact hl) (by rw[GH]; exact hr)
theorem Spec.enter (hG:m5 G) (R:List (Nat × aS)) {f:FuncId} {fn:Func} {c:Code} {args:List PV} {S:List an} {rl:List Nat} {K:PV->List an->Prop} (N:Nat) (hf:G.cx.P.funcs[f]?=some fn) (hb:fn.body=some c) (pU:cr R c=true) (h:Qk G R N fn c args S rl K) (hd:G.FT = []:=by rfl):Spec G f args S rl K:=by
 obtain⟨hc,h⟩:=bs h
 simp only[Bool.and_eq_true,Bool.not_eq_true'] at hc
 obtain⟨⟨hle,nT⟩,xU⟩:=hc
 have hle:=Nat.le_of_ble_eq_true hle
 have nT:=Nat.le_of_ble_eq_true nT
 replace h:=gY h
 rw[Nat.zero_add] at h
 obtain⟨t,h,ht⟩:=og h
 refine Spec.intro (Ev.l7 hf hb xU) fun I β w vals hH hM hA=>calls_of_wp hf hb ?_
 have O1:=hA.length
 have hR:Rel G I β ⟨fn.ntmps,t,S,S.length,rl⟩ { tmps:=vals.toArray++Array.replicate (fn.ntmps - vals.toArray.size) Go.undef,defers:=[] } w:=by
  refine⟨nT,hd.symm,by simp; omega,Nat.le_refl _,fun n x hx=>?_,hH,hM⟩
  rcases ht n x hx with ⟨j,hj,hx⟩|hx
  ·rw[Nat.zero_add] at hj
   subst hj
   obtain⟨v,hv,hi⟩:=hA.get hx
   have cE:n < vals.length:=(List.getElem?_eq_some_iff.1 hv).1
   exact⟨v,by rw[Array.getElem?_append_left (by simpa using cE)]; simpa using hv,hi⟩
  ·cases hx
 refine wp_mono ((gE hG N c _ _ pU h).run hR) fun e a' w' hp=>?_
 obtain⟨x,s',I',aU,rfl,hq,dm,hg⟩:=hp.goes
 have nS:C3 G fn.results.toList S.length K .f_ s'->_:=fun hq=>And.intro (dm.defers.trans hd) (xT hG rfl rfl rfl dm hg hq)
 cases x with
 | f_=>exact nS hq
 | ret=>exact nS hq
 | exit id=>exact hq.elim
end
end Go.Proofs.YtlgkljpgagfndaaGreatDoor.Pw

/- What this claim is proved with: no condition. -/
import Derived.Test.YtnbhdacpogplgaaGreatDoorPd7
import Derived.Scope
set_option linter.unusedVariables false
set_option linter.unusedSimpArgs false
namespace Go.Proofs.YtnbhdacpogplgaaGreatDoor.Pw
open Go Go.RowKit
def Hf (k:aO->Prop) (Q:X->aO->Prop) (x:X) (s:aO):Prop:=match x with
 | .nO=>k s
 | x=>Q x s
def xL (id:Nat) (Q:X->aO->Prop) (x:X) (s:aO):Prop:=match x with
 | .exit j=>bif Nat.beq j id then Q .nO s else Q (.exit j) s
 | x=>Q x s
def Dw (s:aO) (c:Operand) (t e:aO->Prop):Prop:=s.ev c fun x=>match x with
 | .tt=>t s
 | .ff=>e s
 | .bool p=>(match c with
  | .tmp i=>(p->s.put (some i) .tt t)/\(¬ p->s.put (some i) .ff e)
  | _=>(p->t s)/\(¬ p->e s))
 | _=>False
def ca (R:List (Nat × aF)):Code->Bool
 | .region id ops true=>(match Ev.Cm id R with
  | some p=>Region.noSelect ops && zh ops ops.toList fun T=>mb T ops.size 0 p
  | none=>true)
 | .seq a b=>ca R a && ca R b
 | .cond _ a b=>ca R a && ca R b
 | .block _ c=>ca R c
 | .scope c=>ca R c
 | .loop c=>ca R c
 | _=>true
def zk:Code->Option Nat
 | .region id _ _=>some id
 | .seq a _=>zk a
 | _=>none
def tp (R:List (Nat × aF)) (c:Code):Bool:=match zk c with
 | some id=>(Ev.Cm (id+100000) R).isSome
 | none=>false
def pw (G:Gx) (R:List (Nat × aF)):Nat->Code->(X->aO->Prop)->aO->Prop
 | 0,_,_,_=>False
 | n+1,c,Q,s=>match c with
  | .skip|.label _=>Q .nO s
  | .ret=>Q .ret s
  | .exit id=>Q (.exit id) s
  | .seq a b=>bif tp R b then (∃ s0,pw G R n a (Hf (fun s'=>Sub G s' s0) Q) s/\pw G R n b Q s0) else pw G R n a (Hf (pw G R n b Q) Q) s
  | .cond c a b=>Dw s c (pw G R n a Q) (pw G R n b Q)
  | .block id c=>pw G R n c (xL id Q) s
  | .scope c=>pw G R n c Q s
  | .loop c=>SW G (.loop c) Q s
  | .rangeFunc f ps a b=>SW G (.rangeFunc f ps a b) Q s
  | .region id ops draw=>(match draw with
   | true=>aV (Ev.Cm id R) fun p=>bA G ops.toList p s [] (Q .nO)
   | false=>GV G ops.toList Q ops.toList s)
  | _=>False
section
variable {w w':World} {I I':Nat->Prop} {β aI:ax} {G:Gx} {s:aO} {a:Act} {st dc:List ak}
theorem dI.of {Q:X->aO->Prop} {x:X} {s':aO} {w0:World} (hq:Q x s') {a':Act} (hR:Rel G I' aI s' a' w') (hg:cu I β s w0 I' aI s' w'):dI G s I β w0 Q (X.e x) a' w' :=
 ⟨x,s',I',aI,rfl,hq,hR,hg.ext,hg.base,hg.rl,hg.n,hg.low⟩
theorem dI.goes {Q:X->aO->Prop} {e:Exit} {a':Act} (h:dI G s I β w Q e a' w'):∃ x s' I' aI,e=X.e x/\Q x s'/\Rel G I' aI s' a' w'/\cu I β s w I' aI s' w' :=
 let ⟨x,s',I',aI,he,hq,hR,h1,h2,h3,h4,h5⟩:=h; ⟨x,s',I',aI,he,hq,hR,h1,h2,h3,h4,h5⟩
theorem SW.intro {c:Code} {Q:X->aO->Prop} (h:∀ I β a w,Rel G I β s a w->c.wp G.cx.P (dI G s I β w Q) a w):SW G c Q s:=by unfold SW; exact h
theorem SW.run {c:Code} {Q:X->aO->Prop} (h:SW G c Q s) (hR:Rel G I β s a w):c.wp G.cx.P (dI G s I β w Q) a w:=by unfold SW at h; exact h I β a w hR
theorem SW.from {c:Code} {Q:X->aO->Prop} {s0:aO} {I0:Nat->Prop} {gr:ax} {w0:World} (h:SW G c Q s) (hR:Rel G I β s a w) (hg:cu I0 gr s0 w0 I β s w):c.wp G.cx.P (dI G s0 I0 gr w0 Q) a w :=
 wp_mono (h.run hR) fun e a' w' hp=>by
  obtain⟨x,s',I',aI,rfl,hq,di,AD⟩:=hp.goes
  exact dI.of hq di (hg.trans AD)
theorem Ext.ng (hh:w'.heap=w.heap) (h1:w'.os=w.os) (h2:w'.tape=w.tape) (h3:w'.output=w.output):Ext I β st w I β st w' :=
 ⟨h1,h2,h3,by rw[hh]; exact Nat.le_refl _,fun g _ _=>by rw[hh],fun _ _ h=>h,fun _ h=>h,fun _ _ h=>.inl h⟩
theorem aD.ng (h:aD I β st w) (hh:w'.heap=w.heap):aD I β st w' :=
 ⟨h.jI,fun l b hl az=>(h.fp l b hl az).mono (fun _ h=>h) (fun _ _=>by rw[hh]) (fun _ _ h=>h) fun p g o hp ha=>⟨by rw[hh],fun hr=>by
  obtain⟨_,_,fr,_,ho⟩:=(h.fp l b hl az).place hp ha
  exact⟨(ho.1 hr).2.1,(ho.1 hr).2.2⟩⟩⟩
theorem xM (s:aO):s.store s.st=s:=by cases s; rfl
theorem Rel.ng (hR:Rel G I β s a w) (hh:w'.heap=w.heap) (h1:w'.os=w.os) (h2:w'.tape=w.tape) (h3:w'.output=w.output):Rel G I β s a w':=by
 have:=hR.grow (hR.heap.ng hh) (Ext.ng hh h1 h2 h3) (fun _ _ h=>h) (Nat.le_refl _) (fun g hg=>by rw[hh]; exact hR.aw.aw g hg)
 rwa [xM] at this
theorem Dx {c:Operand} {t e:aO->Prop} (hR:Rel G I β s a w) (h:Dw s c t e):∃ b s',a.eval c = .bool b/\(if b then t s' else e s')/\gX s s'/\Rel G I β s' a w:=by
 have same:gX s s:=⟨rfl,rfl,rfl,rfl⟩
 unfold Dw at h
 cases c with
 | tmp i =>
  replace h:=aq h
  obtain⟨x,hx,h⟩:=h
  obtain⟨v,hv,hi⟩:=hR.get i x hx
  have he:a.eval (.tmp i)=v:=by simp only[Act.eval,Array.getD_eq_getD_getElem?,hv,Option.getD_some]
  rw[he]
  split at h<;>try simp only[PV.Is] at hi
  ·exact⟨true,s,hi,h,same,hR⟩
  ·exact⟨false,s,hi,h,same,hR⟩
  ·rename_i p
   by_cases hp:p
   ·obtain⟨s',hk,hs,hr⟩:=aO.kj hR hv (x:=.tt) (by rw[hi,bB hp]; exact Is.tt) (h.1 hp)
    exact⟨true,s',by rw[hi,bB hp],hk,hs,hr⟩
   ·obtain⟨s',hk,hs,hr⟩:=aO.kj hR hv (x:=.ff) (by rw[hi,br hp]; exact Is.ff) (h.2 hp)
    exact⟨false,s',by rw[hi,br hp],hk,hs,hr⟩
  ·exact h.elim
 | _ =>
  replace h:=aO.bL hR h
  obtain⟨x,h,hx⟩:=h
  split at h<;>try simp only[PV.Is] at hx
  ·exact⟨true,s,hx,h,same,hR⟩
  ·exact⟨false,s,hx,h,same,hR⟩
  ·rename_i p
   by_cases hp:p
   ·exact⟨true,s,by rw[hx,bB hp],h.1 hp,same,hR⟩
   ·exact⟨false,s,by rw[hx,br hp],h.2 hp,same,hR⟩
  ·exact h.elim
theorem jz (hG:oS G) {R:List (Nat × aF)}:∀ (n:Nat) (c:Code) (Q:X->aO->Prop) (s:aO),ca R c=true->pw G R n c Q s->SW G c Q s
 | 0,_,_,_,_,h=>h.elim
 | n+1,c,Q,s,hc,h=>by
  cases c with
  | skip=>exact SW.intro fun I β a w hR=>wp_skip (dI.of (x:=.nO) h hR (cu.same ⟨rfl,rfl,rfl,rfl⟩))
  | label l=>exact SW.intro fun I β a w hR=>wp_label (dI.of (x:=.nO) h hR (cu.same ⟨rfl,rfl,rfl,rfl⟩))
  | ret=>exact SW.intro fun I β a w hR=>wp_ret (dI.of (x:=.ret) h hR (cu.same ⟨rfl,rfl,rfl,rfl⟩))
  | exit id=>exact SW.intro fun I β a w hR=>wp_exit (dI.of (x:=.exit id) h hR (cu.same ⟨rfl,rfl,rfl,rfl⟩))
  | seq x y =>
   simp only[ca,Bool.and_eq_true] at hc
   replace h:bif tp R y then (∃ s0,pw G R n x (Hf (fun s'=>Sub G s' s0) Q) s/\pw G R n y Q s0) else pw G R n x (Hf (pw G R n y Q) Q) s:=h
   cases AE:tp R y with
   | true =>
    rw[AE] at h
    obtain⟨s0,h,h2⟩:=h
    have h1:=jz hG n x _ s hc.1 h
    refine SW.intro fun I β a w hR=>wp_seq (wp_mono (h1.run hR) fun e a' w' hp=>?_)
    obtain⟨x',s',I',aI,rfl,hq,di,hg⟩:=hp.goes
    cases x' with
    | nO =>
     obtain⟨I2,gY,jR,Dq⟩:=hq I' aI a' w' di
     exact (jz hG n y Q s0 hc.2 h2).from jR (hg.trans Dq)
    | exit id=>exact dI.of (Q:=Q) (x:=.exit id) hq di hg
    | ret=>exact dI.of (Q:=Q) (x:=.ret) hq di hg
   | false =>
   rw[AE] at h
   have h1:=jz hG n x _ s hc.1 h
   refine SW.intro fun I β a w hR=>wp_seq (wp_mono (h1.run hR) fun e a' w' hp=>?_)
   obtain⟨x',s',I',aI,rfl,hq,di,hg⟩:=hp.goes
   cases x' with
   | nO=>exact (jz hG n y Q s' hc.2 hq).from di hg
   | exit id=>exact dI.of (Q:=Q) (x:=.exit id) hq di hg
   | ret=>exact dI.of (Q:=Q) (x:=.ret) hq di hg
  | cond c x y =>
   simp only[ca,Bool.and_eq_true] at hc
   refine SW.intro fun I β a w hR=>?_
   obtain⟨b,s',he,hk,hs,di⟩:=Dx hR h
   refine wp_cond he ?_
   cases b with
   | true=>exact (jz hG n x Q s' hc.1 hk).from di (cu.same hs)
   | false=>exact (jz hG n y Q s' hc.2 hk).from di (cu.same hs)
  | block id c =>
   have h1:=jz hG n c _ s hc h
   refine SW.intro fun I β a w hR=>wp_block (wp_mono (h1.run hR) fun e a' w' hp=>?_)
   obtain⟨x',s',I',aI,rfl,hq,di,hg⟩:=hp.goes
   cases x' with
   | nO=>exact dI.of (Q:=Q) (x:=.nO) hq di hg
   | exit j =>
    show Exit.inBlock id _ (.exit j) a' w'
    simp only[Exit.inBlock]
    by_cases hj:j=id
    ·subst hj
     rw[if_pos rfl]
     have G8:Q .nO s':=by simpa [xL,Nat.beq_refl] using hq
     exact dI.of (x:=.nO) G8 di hg
    ·have cv:Nat.beq j id=false:=by rw[Bool.eq_false_iff]; exact fun e=>hj (Nat.eq_of_beq_eq_true e)
     rw[if_neg hj]
     have G8:Q (.exit j) s':=by simpa [xL,cv] using hq
     exact dI.of (x:=.exit j) G8 di hg
   | ret=>exact dI.of (Q:=Q) (x:=.ret) hq di hg
  | scope c =>
   have h1:=jz hG n c _ s hc h
   refine SW.intro fun I β a w hR=>wp_scope_straight (wp_mono (h1.run hR) fun e a' w' hp=>?_)
   obtain⟨x',s',I',aI,rfl,hq,di,hg⟩:=hp.goes
   cases x' with
   | nO=>exact dI.of (Q:=Q) (x:=.nO) hq di hg
   | exit j=>exact dI.of (Q:=Q) (x:=.exit j) hq di hg
   | ret=>exact dI.of (Q:=Q) (x:=.ret) hq di hg
  | loop c=>exact h
  | rangeFunc f ps a b=>exact h
  | region id ops draw =>
   refine SW.intro fun I β a w hR=>?_
   cases draw with
   | true =>
    obtain⟨p,hp,h⟩:=aq h
    unfold ca at hc
    rw[hp] at hc
    simp only[Bool.and_eq_true,u9] at hc
    have di:Rel G I β s a { w with drawn:=w.drawn+1 }:=hR.ng rfl rfl rfl rfl
    have hd:cu I β s w I β s { w with drawn:=w.drawn+1 }:=⟨Ext.ng rfl rfl rfl rfl,rfl,rfl,rfl,fun _ _ _=>rfl⟩
    have hA:=xI hG hc.1 ops.size p (dI G s I β w Q) _ s a I β _ [] [] _ (jV _ _ _ _ (Mk.none ops) hc.2) h di (fun y hy=>by cases hy) fun s' I' aI a' w' hk jR hg=>dI.of (Q:=Q) (x:=.nO) hk jR (hd.trans hg)
    exact wp_region_any hG.ok.mix (cO.sound _ _ _ _ _ _ hA rfl)
   | false=>exact wp_region_list (tk hG _ h hR fun x s' I' aI a' w' hq di hg=>dI.of hq di hg)
  | _=>exact h.elim
def pH (k:aO->Prop) (Q:X->aO->Prop) (x:X) (s:aO):Prop:=match x with
 | .nO=>k s
 | x=>Q x s
def WT (G:Gx) (R:List (Nat × aF)) (N:Nat) (c:Code) (Q:X->aO->Prop):Nat->aO->Prop
 | 0,_=>False
 | n+1,s=>pw G R N c (pH (WT G R N c Q n) Q) s
theorem SW.rounds (hG:oS G) (R:List (Nat × aF)) {N:Nat} {c:Code} {Q:X->aO->Prop} (hc:ca R c=true) (n:Nat) (h:WT G R N c Q n s):SW G (.loop c) Q s:=by
 have key:∀ (n:Nat) (s0 s:aO) (I0 I:Nat->Prop) (gr β:ax) (w0 w:World) (a:Act),WT G R N c Q n s->Rel G I β s a w->cu I0 gr s0 w0 I β s w->Code.rounds G.cx.P c (dI G s0 I0 gr w0 Q) n a w:=by
  intro n
  induction n with
  | zero=>intro s0 s I0 I gr β w0 w a h _ _; exact h.elim
  | succ n ih =>
   intro s0 s I0 I gr β w0 w a h hR hg
   rw[rounds_succ]
   refine wp_mono ((jz hG N c _ s hc h).run hR) fun e a' w' hp=>?_
   obtain⟨x',s',I',aI,rfl,hq,di,AD⟩:=hp.goes
   cases x' with
   | nO=>exact ih s0 s' I0 I' gr aI w0 w' a' hq di (hg.trans AD)
   | exit id=>exact dI.of (Q:=Q) (x:=.exit id) hq di (hg.trans AD)
   | ret=>exact dI.of (Q:=Q) (x:=.ret) hq di (hg.trans AD)
 exact SW.intro fun I β a w hR=>wp_loop_rounds n (key n s s I I β β w w a h hR (cu.same ⟨rfl,rfl,rfl,rfl⟩))
theorem Sub.refl:Sub G s s:=fun I β _ _ hR=>⟨I,β,hR,cu.same ⟨rfl,rfl,rfl,rfl⟩⟩
theorem SW.inv (hG:oS G) {R:List (Nat × aF)} {α:Type} (inv:α->aO) (μ:α->Nat) {N:Nat} {c:Code} {Q:X->aO->Prop} (hc:ca R c=true) (x0:α) (h0:Sub G s (inv x0)) (K:α->aO->Prop) (hK:∀ x s',K x s'->∃ y,μ y < μ x/\Sub G s' (inv y))
  (h:∀ x,pw G R N c (pH (K x) Q) (inv x)):SW G (.loop c) Q s:=by
 refine SW.intro fun I0 gr a w hR=>?_
 obtain⟨I,β,mS,Dl⟩:=h0 I0 gr a w hR
 let J:Nat->Act->World->Prop:=fun m a w'=>∃ x I β,μ x=m/\Rel G I β (inv x) a w'/\cu I0 gr s w I β (inv x) w'
 have key:∀ (m:Nat) (a:Act) (w':World),J m a w'->∀ (b:Frame) (k:List Item) (cs:List Frame),∃ e a' yX,dI G s I0 gr w Q e a' yX/\Arrives G.cx.P (lone (b.at a (.code c::.inLoop c::k)) cs w') b k cs e a' yX:=by
  intro m
  induction m using Nat.strongRecOn with
  | _ m ih =>
   rintro a w' ⟨x,I,β,hx,hR,hg⟩ b k cs
   obtain⟨e,Hg,Hh,hp,xx⟩:=(jz hG N c _ _ hc (h x)).run hR b (.inLoop c::k) cs
   obtain⟨x',s',I',aI,rfl,hq,di,AD⟩:=hp.goes
   cases x' with
   | nO =>
    obtain⟨y,hy,hs⟩:=hK x s' hq
    obtain⟨I2,gY,jR,Dq⟩:=hs I' aI Hg Hh di
    obtain⟨WU,WV,WW,RW,Hi⟩:=ih (μ y) (by omega) Hg Hh ⟨y,I2,gY,rfl,jR,(hg.trans AD).trans Dq⟩ b k cs
    exact⟨WU,WV,WW,RW,.of_steps (Steps.trans xx (.one step_inLoop)) Hi⟩
   | exit id=>exact⟨_,Hg,Hh,dI.of (Q:=Q) (x:=.exit id) hq di (hg.trans AD),.pass (x:=.inLoop c) rfl (fun _ _=>.inl (by simp[X.e])) xx⟩
   | ret=>exact⟨_,Hg,Hh,dI.of (Q:=Q) (x:=.ret) hq di (hg.trans AD),.pass (x:=.inLoop c) rfl (fun _ _=>.inl (by simp[X.e])) xx⟩
 intro b k cs
 obtain⟨e,a',w',hq,xx⟩:=key (μ x0) a w ⟨x0,I,β,rfl,mS,Dl⟩ b k cs
 exact⟨e,a',w',hq,.of_steps (.one step_loop) xx⟩
end
def pI (x y:PV):Prop:=match x,y with
 | .lit k a,.lit l b=>if decide (k=l) then a=b else False
 | .lit k a,.int l b=>if decide (k=l) then a=b else False
 | .int k a,.lit l b=>if decide (k=l) then a=b else False
 | .int k a,.int l b=>if decide (k=l) then a=b else False
 | .tt,.tt=>True|.ff,.ff=>True
 | .tt,.bool p=>p|.ff,.bool p=>¬ p
 | .bool p,.tt=>p|.bool p,.ff=>¬ p
 | .bool p,.bool q=>p↔q
 | .val v,.val u=>v=u
 | .nil,.nil=>True
 | .nil,.sl _ es=>es = []
 | .sl n es,.sl m fs=>if Nat.beq n m then es=fs else False
 | .wref l,.wref m=>if Nat.beq l m then True else False
 | .mref l,.mref m=>if Nat.beq l m then True else False
 | .ref l o n,.ref l' o' n'=>if Nat.beq l l' && Nat.beq o o' && Nat.beq n n' then True else False
 | .ptr l o,.ptr l' o'=>if Nat.beq l l' && Nat.beq o o' then True else False
 | .pti l o i n,.pti l' o' i' n'=>if Nat.beq l l' && Nat.beq o o' && Nat.beq n n' then i=i' else False
 | .dpt l i n o,.dpt l' i' n' o'=>if Nat.beq l l' && Nat.beq o o' && Nat.beq n n' then i=i' else False
 | .ep cs o,.ep ds o'=>if Nat.beq o o' then cs=ds else False
 | .gp g o,.gp g' o'=>if Nat.beq g g' && Nat.beq o o' then True else False
 | .gpi g o i n,.gpi g' o' i' n'=>if Nat.beq g g' && Nat.beq o o' && Nat.beq n n' then i=i' else False
 | _,_=>False
def kp (r:PV->PV->Prop):List PV->List PV->Prop
 | [],[]=>True
 | x::xs,y::ys=>r x y/\kp r xs ys
 | _,_=>False
def Vy (x y:PV):Prop:=match x,y with
 | .agg cs,.agg ds=>kp pI cs ds
 | .clo f cs,.clo g ds=>if Nat.beq f g then kp pI cs ds else False
 | x,y=>pI x y
def mT (x y:PV):Prop:=match x,y with
 | .tup cs,.tup ds=>kp Vy cs ds
 | x,y=>Vy x y
def pJ (x y:PV):Prop:=∀ w I β v,x.Is w I β v->y.Is w I β v
theorem pJ.refl (x:PV):pJ x x:=fun _ _ _ _ h=>h
section
variable {w w':World} {I I':Nat->Prop} {β aI:ax} {G:Gx} {s:aO} {a:Act} {st dc:List ak}
theorem hJ {c p:Prop} [Decidable c] (h:if c then p else False):c/\p:=by
 split at h
 ·exact⟨‹_›,h⟩
 ·exact h.elim
theorem ll {x y:PV} (h:pI x y):pJ x y:=by
 intro w I β v hx
 unfold pI at h
 split at h<;>first|exact h.elim|(simp only[PV.Is] at hx ⊢)
 ·obtain⟨hk,h⟩:=hJ h; rw[hx,of_decide_eq_true hk,h]
 ·obtain⟨hk,h⟩:=hJ h; rw[hx,of_decide_eq_true hk,h]
 ·obtain⟨hk,h⟩:=hJ h; rw[hx,of_decide_eq_true hk,h]
 ·obtain⟨hk,h⟩:=hJ h; rw[hx,of_decide_eq_true hk,h]
 ·exact hx
 ·exact hx
 ·rw[hx,bB h]
 ·rw[hx,br h]
 ·rw[hx,bB h]
 ·rw[hx,br h]
 ·rw[hx,show pb _=pb _ from congrArg pb (propext h)]
 ·rw[← h]; exact hx
 ·exact hx
 ·subst h; exact⟨none,0,hx,Nat.le_refl _,Nat.zero_le _,(fun _ _ e=>by cases e),fun hn=>absurd rfl hn⟩
 ·obtain⟨hb,h⟩:=hJ h; rw[← h,← Nat.eq_of_beq_eq_true hb]; exact hx
 ·obtain⟨hb,h⟩:=hJ h; rw[← Nat.eq_of_beq_eq_true hb]; exact hx
 ·obtain⟨hb,h⟩:=hJ h; rw[← Nat.eq_of_beq_eq_true hb]; exact hx
 ·obtain⟨hb,h⟩:=hJ h
  simp only[Bool.and_eq_true] at hb
  rw[← Nat.eq_of_beq_eq_true hb.1.1,← Nat.eq_of_beq_eq_true hb.1.2,← Nat.eq_of_beq_eq_true hb.2]; exact hx
 ·obtain⟨hb,h⟩:=hJ h
  simp only[Bool.and_eq_true] at hb
  rw[← Nat.eq_of_beq_eq_true hb.1,← Nat.eq_of_beq_eq_true hb.2]; exact hx
 ·obtain⟨hb,h⟩:=hJ h
  simp only[Bool.and_eq_true] at hb
  rw[← Nat.eq_of_beq_eq_true hb.1.1,← Nat.eq_of_beq_eq_true hb.1.2,← Nat.eq_of_beq_eq_true hb.2,← h]; exact hx
 ·obtain⟨hb,h⟩:=hJ h
  simp only[Bool.and_eq_true] at hb
  rw[← Nat.eq_of_beq_eq_true hb.1.1,← Nat.eq_of_beq_eq_true hb.1.2,← Nat.eq_of_beq_eq_true hb.2,← h]; exact hx
 ·obtain⟨hb,h⟩:=hJ h; rw[← Nat.eq_of_beq_eq_true hb,← h]; exact hx
 ·obtain⟨hb,h⟩:=hJ h
  simp only[Bool.and_eq_true] at hb
  rw[← Nat.eq_of_beq_eq_true hb.1,← Nat.eq_of_beq_eq_true hb.2]; exact hx
 ·obtain⟨hb,h⟩:=hJ h
  simp only[Bool.and_eq_true] at hb
  rw[← Nat.eq_of_beq_eq_true hb.1.1,← Nat.eq_of_beq_eq_true hb.1.2,← Nat.eq_of_beq_eq_true hb.2,← h]; exact hx
theorem gu {r:PV->PV->Prop} (hr:∀ x y,r x y->pJ x y):∀ {xs ys:List PV} {vs:List Value},kp r xs ys->a_ w I xs β vs->a_ w I ys β vs
 | [],[],_,_,h=>h
 | x::xs,y::ys,v::vs,h,hx=>by
  simp only[a_] at hx ⊢
  exact⟨hr x y h.1 w I β v hx.1,gu hr h.2 hx.2⟩
 | x::xs,y::ys,[],h,hx=>by simp only[a_] at hx
 | [],_::_,_,h,_=>h.elim
 | _::_,[],_,h,_=>h.elim
theorem Dy {x y:PV} (h:Vy x y):pJ x y:=by
 unfold Vy at h
 split at h
 ·intro w I β v hx
  simp only[PV.Is] at hx ⊢
  obtain⟨vs,rfl,hx⟩:=hx
  exact⟨vs,rfl,gu (fun _ _=>ll) h hx⟩
 ·intro w I β v hx
  split at h
  ·rename_i hb
   simp only[PV.Is] at hx ⊢
   obtain⟨vs,rfl,hx⟩:=hx
   exact⟨vs,by rw[Nat.eq_of_beq_eq_true hb],gu (fun _ _=>ll) h hx⟩
  ·exact h.elim
 ·exact ll h
theorem dK {x y:PV} (h:mT x y):pJ x y:=by
 unfold mT at h
 split at h
 ·intro w I β v hx
  simp only[PV.Is] at hx ⊢
  obtain⟨vs,rfl,hx⟩:=hx
  exact⟨vs,rfl,gu (fun _ _=>Dy) h hx⟩
 ·exact Dy h
abbrev fx:=List (Option Nat)
def PV.ve (π:fx) (x:PV):Option PV:=match x with
 | .wref l=>(match π[l]? with
  | some (some m)=>some (.wref m)
  | some none=>some .nil
  | none=>none)
 | .mref l=>(match π[l]? with
  | some (some m)=>some (.mref m)
  | _=>none)
 | .ref l o n=>(match π[l]? with
  | some (some m)=>some (.ref m o n)
  | _=>none)
 | .ptr l o=>(match π[l]? with
  | some (some m)=>some (.ptr m o)
  | _=>none)
 | .pti l o i n=>(match π[l]? with
  | some (some m)=>some (.pti m o i n)
  | _=>none)
 | .dpt l i n o=>(match π[l]? with
  | some (some m)=>some (.dpt m i n o)
  | _=>none)
 | .agg _|.tup _|.clo ..=>none
 | x=>some x
def eS (π:fx):List PV->Option (List PV)
 | []=>some []
 | c::cs=>(match c.ve π,eS π cs with
  | some x,some l=>some (x::l)
  | _,_=>none)
def PV.Gv (π:fx) (x:PV):Option PV:=match x with
 | .agg cs=>(eS π cs).map .agg
 | .clo f cs=>(eS π cs).map (.clo f)
 | .tup _=>none
 | x=>x.ve π
def gv (β:ax) (π:fx):ax:=fun l=>match π[l]? with
 | some (some m)=>β m
 | some none=>some ⟨none,0,0⟩
 | none=>none
theorem bH {π:fx} {l m:Nat} (h:π[l]?=some (some m)):gv β π l=β m:=by unfold gv; rw[h]
theorem iK {π:fx} {l:Nat} (h:π[l]?=some none):gv β π l=some ⟨none,0,0⟩:=by unfold gv; rw[h]
theorem oV {π:fx} {x y:PV} {v:Value} (h:x.ve π=some y) (hy:y.Is w I β v):x.Is w I (gv β π) v:=by
 unfold PV.ve at h
 split at h
 ·split at h
  ·rename_i m hm
   cases h
   simp only[PV.Is] at hy ⊢
   rw[bH hm]; exact hy
  ·rename_i hm
   cases h
   simp only[PV.Is] at hy ⊢
   exact⟨_,iK hm,hy⟩
  ·cases h
 ·split at h
  ·rename_i m hm
   cases h
   simp only[PV.Is] at hy ⊢
   rw[bH hm]; exact hy
  ·cases h
 ·split at h
  ·rename_i m hm
   cases h
   simp only[PV.Is] at hy ⊢
   rw[bH hm]; exact hy
  ·cases h
 ·split at h
  ·rename_i m hm
   cases h
   simp only[PV.Is] at hy ⊢
   rw[bH hm]; exact hy
  ·cases h
 ·split at h
  ·rename_i m hm
   cases h
   simp only[PV.Is] at hy ⊢
   rw[bH hm]; exact hy
  ·cases h
 ·split at h
  ·rename_i m hm
   cases h
   simp only[PV.Is] at hy ⊢
   rw[bH hm]; exact hy
  ·cases h
 ·cases h
 ·cases h
 ·cases h
 ·cases h
  refine PV.Is.mono (fun _ h=>h) (fun _ _=>rfl) x β _ v (fun l p hl=>?_) hy
  cases x<;>first|(simp_all [PV.cr]; done)|(rename_i a1 a2 a3 a4 a5 a6 a7 a8 a9; first|exact (a4 _ _ _ _ rfl).elim|exact (a5 _ _ _ _ rfl).elim|exact (a6 _ _ _ _ rfl).elim)
theorem tq {π:fx}:∀ {xs ys:List PV} {vs:List Value},eS π xs=some ys->a_ w I ys β vs->a_ w I xs (gv β π) vs
 | [],ys,vs,h,hy=>by
  simp only[eS,Option.some.injEq] at h
  subst h
  cases vs with
  | nil=>simp only[a_]
  | cons v vs=>simp only[a_] at hy
 | x::xs,ys,vs,h,hy=>by
  simp only[eS] at h
  split at h
  ·rename_i y l h1 h2
   cases h
   cases vs with
   | nil=>simp only[a_] at hy
   | cons v vs =>
    simp only[a_] at hy ⊢
    exact⟨oV h1 hy.1,tq h2 hy.2⟩
  ·cases h
theorem Dz {π:fx} {x y:PV} {v:Value} (h:x.Gv π=some y) (hy:y.Is w I β v):x.Is w I (gv β π) v:=by
 unfold PV.Gv at h
 split at h
 ·rw[Option.map_eq_some_iff] at h
  obtain⟨l,hl,rfl⟩:=h
  simp only[PV.Is] at hy ⊢
  obtain⟨vs,rfl,hy⟩:=hy
  exact⟨vs,rfl,tq hl hy⟩
 ·rw[Option.map_eq_some_iff] at h
  obtain⟨l,hl,rfl⟩:=h
  simp only[PV.Is] at hy ⊢
  obtain⟨vs,rfl,hy⟩:=hy
  exact⟨vs,rfl,tq hl hy⟩
 ·cases h
 ·exact oV h hy
def TM.mT (π:fx):TM->TM->Prop
 | _,.nil=>True
 | .nil,.node v l r=>(match v with
  | none=>True
  | some _=>False)/\TM.mT π .nil l/\TM.mT π .nil r
 | .node v l r,.node v' l' r'=>(match v' with
  | none=>True
  | some y=>aV v fun x=>aV (y.Gv π) fun y=>Pw.mT x y)/\TM.mT π l l'/\TM.mT π r r'
def Md.beq:Md->Md->Bool
 | .w,.w=>true|.p,.p=>true|.r,.r=>true
 | _,_=>false
def BK.beq:BK->BK->Bool
 | .loc,.loc=>true|.arr,.arr=>true|.dyn,.dyn=>true|.mp,.mp=>true
 | _,_=>false
def RX (cx:Ev.Cx) (π:fx) (b b':ak):Prop:=bif Nat.beq b.ty b'.ty && Nat.beq b.size b'.size && Md.beq b.m b'.m && b.live then (match b.k,b'.k with
 | .loc,.loc=>aV (eS π b'.cs) fun cs=>kp pI b.cs cs
 | .arr,.arr=>aV (eS π b'.cs) fun cs=>kp pI b.cs cs
 | .dyn,.dyn=>b.cs=b'.cs
 | .mp,.mp=>b.cs=b'.cs
 | .arr,.dyn=>aV (Ev.eL cx b.ty) fun ag=>bif ag || Nat.beq b.size 1 then b.Vn fun n=>aV (dZ ag n (.stat b.cs)) fun es=>es=b'.cs else False
 | _,_=>False) else False
def Vz (cx:Ev.Cx) (π:fx) (st:List ak):List ak->fx->Prop
 | [],[]=>True
 | b'::r,some m::WX=>(match b'.live with
  | true=>aV st[m]? fun b=>RX cx π b b'
  | false=>True)/\Vz cx π st r WX
 | b'::r,none::WX=>(match b'.k,b'.cs with
  | .dyn,[]=>bif Nat.blt 0 b'.size then True else False
  | _,_=>False)/\Vz cx π st r WX
 | _,_=>False
def pK:fx->Bool
 | []=>true
 | none::π=>pK π
 | some m::π=>!(π.any fun x=>match x with
  | some k=>Nat.beq m k
  | none=>false) && pK π
def me (rl:List Nat):Nat->Nat->fx->Bool
 | 0,_,_=>true
 | n+1,l,some m::π=>(Nat.beq l m || iI l rl) && me rl n (l+1) π
 | n+1,l,none::π=>iI l rl && me rl n (l+1) π
 | _+1,_,[]=>false
def jF (cx:Ev.Cx) (π:fx) (s s':aO):Prop :=
 s'.n=s.n/\s'.base=s.base/\s'.rl=s.rl/\(bif pK π && me s.rl s.base 0 π then True else False)/\Vz cx π s.st s'.st π/\TM.mT π s.t s'.t
theorem TM.dK {π:fx}:∀ {t t':TM} {n:Nat} {y:PV},TM.mT π t t'->t'.get n=some y->∃ x z,t.get n=some x/\y.Gv π=some z/\Pw.mT x z
 | _,.nil,n,y,_,hy=>by cases hy
 | .nil,.node v l r,n,y,h,hy=>by
  exfalso
  have key:∀ (t':TM),TM.mT π .nil t'->∀ n y,t'.get n=some y->False:=by
   intro t'
   induction t' with
   | nil=>intro _ n y hy; cases hy
   | node v l r ihl ihr =>
    intro h n y hy
    obtain⟨h1,h2,h3⟩:=h
    cases v with
    | some _=>exact h1.elim
    | none =>
     simp only[TM.get] at hy
     cases h0:Nat.beq n 0<;>rw[h0] at hy
     ·cases h1:Nat.beq (n % 2) 1<;>rw[h1] at hy
      ·exact ihr h3 _ _ hy
      ·exact ihl h2 _ _ hy
     ·cases hy
  exact key _ h n y hy
 | .node v l r,.node v' l' r',n,y,h,hy=>by
  obtain⟨h1,h2,h3⟩:=h
  simp only[TM.get] at hy ⊢
  cases h0:Nat.beq n 0<;>rw[h0] at hy
  ·cases hp:Nat.beq (n % 2) 1<;>rw[hp] at hy
   ·exact TM.dK h3 hy
   ·exact TM.dK h2 hy
  ·cases v' with
   | none=>cases hy
   | some y' =>
    cases hy
    obtain⟨x,hx,h1⟩:=aq h1
    obtain⟨z,hz,h1⟩:=aq h1
    exact⟨x,z,hx,hz,h1⟩
theorem Md.ln {m n:Md} (h:Md.beq m n=true):m=n:=by cases m<;>cases n<;>first|rfl|cases h
theorem xN {cx:Ev.Cx} {JW:fx} {st:List ak}:∀ {dc:List ak} {π:fx},Vz cx JW st dc π->π.length=dc.length/\∀ (l:Nat) (b':ak),dc[l]?=some b'->b'.live=true->(∃ (m:Nat) (b:ak),π[l]?=some (some m)/\st[m]?=some b/\RX cx JW b b')\/(π[l]?=some none/\b'.k = .dyn/\b'.cs = []/\0 < b'.size)
 | [],[],_=>⟨rfl,fun l b' hl=>by simp at hl⟩
 | b0::r,some m::π,h=>by
  obtain⟨h1,h2⟩:=h
  obtain⟨Aq,Ar⟩:=xN h2
  refine⟨by simp[Aq],fun l b' hl az=>?_⟩
  cases l with
  | zero =>
   simp at hl; subst hl
   rw[az] at h1
   obtain⟨b,hb,h1⟩:=aq h1
   exact .inl ⟨m,b,rfl,hb,h1⟩
  | succ l=>simpa using Ar l b' (by simpa using hl) az
 | b0::r,none::π,h=>by
  obtain⟨h1,h2⟩:=h
  obtain⟨Aq,Ar⟩:=xN h2
  refine⟨by simp[Aq],fun l b' hl az=>?_⟩
  cases l with
  | zero =>
   simp at hl; subst hl
   split at h1
   ·rename_i hk hc
    obtain⟨hb,_⟩:=aQ h1
    exact .inr ⟨rfl,hk,hc,Nat.le_of_ble_eq_true hb⟩
   ·exact h1.elim
  | succ l=>simpa using Ar l b' (by simpa using hl) az
 | [],_::_,h=>h.elim
 | _::_,[],h=>h.elim
theorem nh:∀ {π:fx},pK π=true->∀ (l l' m:Nat),π[l]?=some (some m)->π[l']?=some (some m)->l=l'
 | [],_,l,_,_,h,_=>by simp at h
 | none::π,hn,l,l',m,h,h'=>by
  cases l with
  | zero=>simp at h
  | succ l=>cases l' with
   | zero=>simp at h'
   | succ l'=>rw[nh (π:=π) hn l l' m (by simpa using h) (by simpa using h')]
 | some k::π,hn,l,l',m,h,h'=>by
  simp only[pK,Bool.and_eq_true,Bool.not_eq_true',List.any_eq_false] at hn
  have no:∀ l,π[l]?=some (some k)->False:=fun l hl=>by
   have:=hn.1 _ (List.mem_of_getElem? hl)
   simp at this
  cases l with
  | zero =>
   simp at h; subst h
   cases l' with
   | zero=>rfl
   | succ l'=>exact (no l' (by simpa using h')).elim
  | succ l =>
   cases l' with
   | zero=>simp at h'; subst h'; exact (no l (by simpa using h)).elim
   | succ l'=>rw[nh (π:=π) hn.2 l l' m (by simpa using h) (by simpa using h')]
theorem ni {rl:List Nat}:∀ {n l:Nat} {π:fx},me rl n l π=true->n<=π.length
 | 0,_,_,_=>Nat.zero_le _
 | n+1,l,some m::π,h=>by
  simp only[me,Bool.and_eq_true] at h
  simpa using ni h.2
 | n+1,l,none::π,h=>by
  simp only[me,Bool.and_eq_true] at h
  simpa using ni h.2
 | _+1,_,[],h=>by cases h
theorem pM {rl:List Nat}:∀ {n l:Nat} {π:fx},me rl n l π=true->∀ i,i < n->(π[i]?=some (some (l+i))\/(l+i)∈rl)
 | 0,_,_,_,i,hi=>by omega
 | n+1,l,some m::π,h,i,hi=>by
  simp only[me,Bool.and_eq_true,Bool.or_eq_true] at h
  cases i with
  | zero=>exact h.1.imp (fun e=>by rw[← Nat.eq_of_beq_eq_true e]; rfl) cP.1
  | succ i =>
   have:=pM h.2 i (by omega)
   rw[show l+1+i=l+(i+1) by omega] at this
   simpa using this
 | n+1,l,none::π,h,i,hi=>by
  simp only[me,Bool.and_eq_true] at h
  cases i with
  | zero=>exact .inr (cP.1 h.1)
  | succ i =>
   have:=pM h.2 i (by omega)
   rw[show l+1+i=l+(i+1) by omega] at this
   simpa using this
 | _+1,_,[],h,_,_=>by cases h
end
section
variable {w w':World} {I I':Nat->Prop} {β aI:ax} {G:Gx} {s:aO} {a:Act} {st dc:List ak}
theorem gg {cs ds:List PV} {arr:Array Value} {o:Nat} (h:kp pI cs ds) (hc:aS w I β cs arr o):aS w I β ds arr o:=by
 have key:∀ (cs ds:List PV) (o:Nat),kp pI cs ds->aS w I β cs arr o->aS w I β ds arr o:=by
  intro cs
  induction cs with
  | nil=>intro ds o h hc; cases ds with
   | nil=>exact hc
   | cons _ _=>exact h.elim
  | cons c cs ih =>
   intro ds o h hc
   cases ds with
   | nil=>exact h.elim
   | cons d ds =>
    intro i x hx
    cases i with
    | zero =>
     simp at hx; subst hx
     obtain⟨v,hv,hi,h1⟩:=hc 0 c rfl
     exact⟨v,hv,ll h.1 w I β v hi,h1⟩
    | succ i =>
     have:=ih ds (o+1) h.2 (fun j y hy=>by
      obtain⟨v,hv,h1⟩:=hc (j+1) y (by simpa using hy)
      exact⟨v,by rw[show o+1+j=o+(j+1) by omega]; exact hv,h1⟩) i x (by simpa using hx)
     obtain⟨v,hv,h1⟩:=this
     exact⟨v,by rw[show o+(i+1)=o+1+i by omega]; exact hv,h1⟩
 exact key cs ds o h hc
theorem pN {π:fx} {cs ds:List PV} {arr:Array Value} {o:Nat} (h:eS π ds=some cs) (hc:aS w I β cs arr o):aS w I (gv β π) ds arr o:=by
 have key:∀ (ds cs:List PV) (o:Nat),eS π ds=some cs->aS w I β cs arr o->aS w I (gv β π) ds arr o:=by
  intro ds
  induction ds with
  | nil=>intro cs o _ _ i c hc; simp at hc
  | cons d ds ih =>
   intro cs o h hc
   simp only[eS] at h
   split at h
   ·rename_i y l h1 h2
    cases h
    intro i x hx
    cases i with
    | zero =>
     simp at hx; subst hx
     obtain⟨v,hv,hi,h3⟩:=hc 0 y rfl
     exact⟨v,hv,oV h1 hi,h3⟩
    | succ i =>
     have:=ih l (o+1) h2 (fun j y hy=>by
      obtain⟨v,hv,h1⟩:=hc (j+1) y (by simpa using hy)
      exact⟨v,by rw[show o+1+j=o+(j+1) by omega]; exact hv,h1⟩) i x (by simpa using hx)
     obtain⟨v,hv,h1⟩:=this
     exact⟨v,by rw[show o+(i+1)=o+1+i by omega]; exact hv,h1⟩
   ·cases h
 exact key ds cs o h hc
theorem kq {r:PV->PV->Prop}:∀ {cs ds:List PV},kp r cs ds->cs.length=ds.length
 | [],[],_=>rfl
 | _::_,_::_,h=>by simp[kq h.2]
 | [],_::_,h=>h.elim
 | _::_,[],h=>h.elim
theorem vf {π:fx}:∀ {ds cs:List PV},eS π ds=some cs->ds.length=cs.length
 | [],cs,h=>by simp only[eS,Option.some.injEq] at h; subst h; rfl
 | d::ds,cs,h=>by
  simp only[eS] at h
  split at h
  ·rename_i y l h1 h2
   cases h; simp[vf h2]
  ·cases h
theorem aM (hO:Ev.eM G.cx) {π:fx} {s s':aO} (h:jF G.cx π s s'):Sub G s s':=by
 obtain⟨hn,nY,JO,K9,Cq,ht⟩:=h
 obtain⟨K9,_⟩:=aQ K9
 simp only[Bool.and_eq_true] at K9
 obtain⟨K9,Hj⟩:=K9
 obtain⟨WY,lV⟩:=xN Cq
 have WZ:=nh K9
 have Zz:=ni Hj
 have Hj:=pM Hj
 intro I β a w hR
 have hH:aD I (gv β π) s'.st w:=by
  refine⟨fun l hl=>by unfold gv; rw[List.getElem?_eq_none (by omega)],fun l b' hl az=>?_⟩
  rcases lV l b' hl az with ⟨m,b,Gw,hb,hk⟩|⟨Gw,hk,hc,eI⟩
  ·obtain⟨hc,hk⟩:=aQ hk
   simp only[Bool.and_eq_true] at hc
   obtain⟨⟨⟨Dj,eI⟩,hm⟩,DA⟩:=hc
   have Dj:=Nat.eq_of_beq_eq_true Dj
   have eI:=Nat.eq_of_beq_eq_true eI
   have hm:=Md.ln hm
   obtain⟨p,hp,hB⟩:=hR.heap.fp m b hb DA
   have own:∀ {g:Nat} {fr:Nat × Nat},Own I β s.st m g fr b->Own I (gv β π) s'.st l g fr b':=fun ho=>by
    refine⟨fun hr=>?_,fun hr=>ho.2 (by rw[hm]; exact hr)⟩
    obtain⟨h1,h2,h3⟩:=ho.1 (by rw[hm]; exact hr)
    refine⟨h1,h2,fun l2 b2 bZ eJ bn p2 g2 o2 fQ fP=>?_⟩
    rcases lV l2 b2 eJ bn with ⟨m2,b3,Hk,jA,JX⟩|⟨Hk,_⟩
    ·rw[bH Hk] at fQ
     obtain⟨Vr,_⟩:=aQ JX
     simp only[Bool.and_eq_true] at Vr
     exact h3 m2 b3 (fun e=>bZ (by subst e; exact WZ l2 l _ Hk Gw)) jA Vr.2 p2 g2 o2 fQ fP
    ·rw[iK Hk] at fQ
     cases fQ; cases fP
   refine⟨p,by rw[bH Gw]; exact hp,?_⟩
   split at hk
   ·rename_i Cw tu
    rw[Cw] at hB
    rw[tu]
    obtain⟨g,o,arr,ty,fr,h1,h2,h3,ho⟩:=hB
    obtain⟨cs,gU,hk⟩:=aq hk
    exact⟨g,o,arr,ty,fr,h1,h2,pN gU (gg hk h3),own ho⟩
   ·rename_i Cw tu
    rw[Cw] at hB
    rw[tu]
    obtain⟨g,arr,fr,h1,h2,h3,ho,h4,h5,h6,h7,h8⟩:=hB
    obtain⟨cs,gU,hk⟩:=aq hk
    exact⟨g,arr,fr,h1,by rw[← Dj]; exact h2,pN gU (gg hk h3),own ho,by rw[vf gU,← kq hk,← eI]; exact h4,h5,h6,by rw[← eI]; exact h7,by rw[← eI]; exact h8⟩
   ·rename_i Cw tu
    rw[Cw] at hB
    rw[tu]
    obtain⟨⟨h1,h2,h3,h4⟩,hB⟩:=hB
    refine⟨⟨by rw[← eI]; exact h1,by rw[← hk]; exact h2,h3,h4⟩,?_⟩
    rcases hB with h|⟨g,arr,fr,h5,h6,h7,ho,h8⟩
    ·exact .inl h
    ·exact .inr ⟨g,arr,fr,h5,by rw[← Dj]; exact h6,by rw[← hk,← eI]; exact h7,own ho,by rw[← eI]; exact h8⟩
   ·rename_i Cw tu
    rw[Cw] at hB
    rw[tu]
    obtain⟨g,h1,h2,ho⟩:=hB
    exact⟨g,h1,by rw[← hk]; exact h2,own ho⟩
   ·rename_i Cw tu
    rw[Cw] at hB
    rw[tu]
    obtain⟨g,arr,fr,h1,h2,h3,ho,h4,h5,h6,h7,h8⟩:=hB
    obtain⟨ag,Gq,hk⟩:=aq hk
    obtain⟨DB,hk⟩:=aQ hk
    rw[ak.xm] at hk
    obtain⟨es,kN,hk⟩:=aq hk
    simp only[Bool.or_eq_true] at DB
    have px:(arr.toList.take (p.len*b.size)).length=p.len*b.size:=by
     rw[List.length_take,Array.length_toList,h7]
     have:=Nat.mul_le_mul_right b.size h5
     omega
    have m9:lX w I β b.size (.stat b.cs) (arr.toList.take (p.len*b.size)):=by
     refine⟨by rw[px,h4],fun j c hj=>?_⟩
     obtain⟨u,hu,h9⟩:=h3 j c hj
     have uN:j < p.len*b.size:=by rw[← h4]; exact (List.getElem?_eq_some_iff.1 hj).1
     exact⟨u,by rw[List.getElem?_take,if_pos uN]; simpa using hu,h9⟩
    obtain⟨e1,e2⟩:=ew h8 (DB.imp id Nat.eq_of_beq_eq_true) kN m9 px
    refine⟨⟨by rw[← eI]; exact h8,by rw[← hk]; exact e1,h5,h6⟩,.inr ⟨g,arr,fr,h1,by rw[← Dj]; exact h2,?_,own ho,by rw[← eI]; exact h7⟩⟩
    rw[← hk,← eI]
    refine e2.at (fun j v hj=>?_) (fun _ h=>h) (fun _ _=>rfl)
    have:=lY h2 0 (p.len*b.size) j v (by simpa using hj)
    simpa using this
   ·exact hk.elim
  ·refine⟨_,iK Gw,?_⟩
   rw[hk]
   exact⟨⟨eI,by rw[hc]; rfl,Nat.le_refl _,Nat.zero_le _⟩,.inl ⟨rfl,rfl⟩⟩
 refine⟨I,gv β π,⟨by rw[hn]; exact hR.small,hR.defers,by rw[hn]; exact hR.size,?_,fun t y hy=>?_,hH,hR.aw⟩,⟨⟨rfl,rfl,rfl,Nat.le_refl _,fun _ _ _=>rfl,fun g hg ⟨l,b',p,o,h1,h2,h3,h4,h5⟩=>?_,fun _ h=>h,fun _ _ h=>.inl h⟩,nY,JO,hn,fun l hl hnr=>?_⟩⟩
 ·rw[nY]
  rw[← WY]; exact Zz
 ·obtain⟨x,z,hx,hz,hle⟩:=TM.dK ht hy
  obtain⟨v,hv,hi⟩:=hR.get t x hx
  exact⟨v,hv,Dz hz (dK hle w I β v hi)⟩
 ·rcases lV l b' h1 h2 with ⟨m,b,Gw,hb,hk⟩|⟨Gw,_⟩
  ·obtain⟨hc,_⟩:=aQ hk
   simp only[Bool.and_eq_true] at hc
   rw[bH Gw] at h4
   exact⟨m,b,p,o,hb,hc.2,by rw[Md.ln hc.1.2]; exact h3,h4,h5⟩
  ·rw[iK Gw] at h4
   cases h4; cases h5
 ·rcases Hj l hl with h|h
  ·rw[Nat.zero_add] at h
   exact bH h
  ·rw[Nat.zero_add] at h; exact absurd h hnr
def frO (v:Option PV) (q:Option PV->Prop):Prop:=match v with
 | none=>q none
 | some x=>fc x fun x=>q (some x)
def JY:TM->(TM->Prop)->Prop
 | .nil,q=>q .nil
 | .node v l r,q=>frO v fun v=>JY l fun l=>JY r fun r=>q (.node v l r)
def RY (b:ak) (q:ak->Prop):Prop:=match b with
 | ⟨.loc,ty,n,m,live,cs⟩=>dx cs fun cs=>q ⟨.loc,ty,n,m,live,cs⟩
 | ⟨.arr,ty,n,m,live,cs⟩=>dx cs fun cs=>q ⟨.arr,ty,n,m,live,cs⟩
 | ⟨.dyn,ty,n,m,live,cs⟩=>q ⟨.dyn,ty,n,m,live,cs⟩
 | ⟨.mp,ty,n,m,live,cs⟩=>q ⟨.mp,ty,n,m,live,cs⟩
def vg:List ak->(List ak->Prop)->Prop
 | [],q=>q []
 | b::st,q=>RY b fun b=>vg st fun st=>q (b::st)
def QW (s:aO) (q:aO->Prop):Prop:=match s with
 | ⟨n,t,st,b,rl⟩=>JY t fun t=>vg st fun st=>q ⟨n,t,st,b,rl⟩
theorem xO:∀ {t:TM} {q:TM->Prop},JY t q->q t
 | .nil,_,h=>h
 | .node v l r,q,h=>by
  have h1:JY l fun l=>JY r fun r=>q (.node v l r):=by
   cases v with
   | none=>exact h
   | some x=>exact C2 (x:=x) (q:=fun x=>JY l fun l=>JY r fun r=>q (.node (some x) l r)) h
  have h2:=xO h1
  exact xO (q:=fun r=>q (.node v l r)) h2
theorem xP {b:ak} {q:ak->Prop} (h:RY b q):q b:=by
 obtain⟨k,ty,n,m,live,cs⟩:=b
 cases k
 ·exact bP (q:=fun cs=>q ⟨.loc,ty,n,m,live,cs⟩) h
 ·exact bP (q:=fun cs=>q ⟨.arr,ty,n,m,live,cs⟩) h
 ·exact h
 ·exact h
theorem mf:∀ {st:List ak} {q:List ak->Prop},vg st q->q st
 | [],_,h=>h
 | b::st,q,h=>mf (q:=fun st=>q (b::st)) (xP h)
theorem pO {q:aO->Prop} (h:QW s q):q s:=by
 obtain⟨n,t,st,b,rl⟩:=s
 have h1:=xO h
 exact mf (q:=fun st=>q ⟨n,t,st,b,rl⟩) h1
def TM.AF (v:Option PV):Nat->TM->Nat->TM
 | 0,t,_=>t
 | f+1,.nil,n=>bif Nat.beq n 0 then .node v .nil .nil else bif Nat.beq (n % 2) 1 then .node none (TM.AF v f .nil ((n - 1) / 2)) .nil else .node none .nil (TM.AF v f .nil ((n - 1) / 2))
 | f+1,.node u l r,n=>bif Nat.beq n 0 then .node v l r else bif Nat.beq (n % 2) 1 then .node u (TM.AF v f l ((n - 1) / 2)) r else .node u l (TM.AF v f r ((n - 1) / 2))
def JZ:List Oper->List Nat
 | []=>[]
 | o::r=>(match o.dst with
  | some d=>[d]
  | none=>[])++JZ r
def pP:Code->List Nat
 | .region _ ops _=>JZ ops.toList
 | .seq a b=>pP a++pP b
 | .cond _ a b=>pP a++pP b
 | .block _ c=>pP c
 | .loop c=>pP c
 | .scope c=>pP c
 | _=>[]
def pQ:List Nat->TM->TM
 | [],t=>t
 | d::ds,t=>pQ ds (t.AF none 24 d)
def iL:List (Nat × PV)->TM->TM
 | [],t=>t
 | (d,x)::r,t=>iL r (t.AF (some x) 24 d)
def aO.head (s:aO) (c:Code) (vs:List (Nat × PV)) (st:List ak):aO:=match s with
 | ⟨n,t,_,b,rl⟩=>⟨n,iL vs (pQ (pP c) t),st,b,rl⟩
def K_:Nat->List ak->fx
 | _,[]=>[]
 | n,_::r=>some n::K_ (n+1) r
theorem SW.loop (hG:oS G) (R:List (Nat × aF)) {α:Type} {c:Code} {Q:X->aO->Prop} (hc:ca R c=true) (vs:α->List (Nat × PV)) (st:α->List ak) (μ:α->Nat) (x0:α) (N:Nat) (JW:fx) (h0:jF G.cx JW s (s.head c (vs x0) (st x0)))
  (h:∀ x,QW (s.head c (vs x) (st x)) (pw G R N c (pH (fun s'=>∃ y π,μ y < μ x/\jF G.cx π s' (s.head c (vs y) (st y))) Q))):SW G (.loop c) Q s :=
 SW.inv hG (fun x=>s.head c (vs x) (st x)) μ (N:=N) hc x0 (aM hG.ok h0) (fun x s'=>∃ y π,μ y < μ x/\jF G.cx π s' (s.head c (vs y) (st y))) (fun x s' ⟨y,π,hy,hs⟩=>⟨y,hy,aM hG.ok hs⟩) fun x=>pO (h x)
def Hl:List PV->Nat->TM->(TM->Prop)->Prop
 | [],_,t,k=>k t
 | x::xs,i,t,k=>fc x fun x=>t.s6 (some x) 24 i fun t=>Hl xs (i+1) t k
def J0 (G:Gx) (s:aO) (r:ResultVar) (q:PV->Prop):Prop:=match r with
 | .tmp t=>aV (s.t.get t) fun x=>(match x with
  | .tup _=>False
  | x=>q x)
 | .cell a t=>aV (s.t.get a) fun x=>rG G s.st t x q
def zl (G:Gx) (s:aO):List ResultVar->(List PV->Prop)->Prop
 | [],q=>q []
 | r::rs,q=>J0 G s r fun x=>zl G s rs fun xs=>q (x::xs)
def Hm (G:Gx) (s:aO) (rs:List ResultVar) (q:PV->Prop):Prop:=match rs with
 | [.tmp t]=>aV (s.t.get t) q
 | rs=>zl G s rs fun l=>(match l with
  | [x]=>q x
  | l=>q (.tup l))
def AG:Md->Bool
 | .p=>false
 | _=>true
def AH (r:PV->(PV->Prop)->Prop):List PV->(List PV->Prop)->Prop
 | [],q=>q []
 | c::cs,q=>r c fun c=>AH r cs fun cs=>q (c::cs)
def AI (cx:Ev.Cx) (st:List ak) (base:Nat):Nat->PV->(PV->Prop)->Prop
 | 0,_,_=>False
 | n+1,x,q=>match x with
  | .wref l=>bif Nat.blt l base then q (.wref l) else aV st[l]? fun b=>bif b.live && AG b.m then (match b.k with
   | .arr=>AH (AI cx st base n) b.cs fun cs=>aV (Ev.eL cx b.ty) fun ag=>bif ag || Nat.beq b.size 1 then b.Vn fun n=>aV (dZ ag n (.stat cs)) fun es=>q (.sl n es) else False
   | .dyn=>q (.sl b.size b.cs)
   | _=>False) else False
  | .agg cs=>AH (AI cx st base n) cs fun cs=>q (.agg cs)
  | .tup cs=>AH (AI cx st base n) cs fun cs=>q (.tup cs)
  | .clo f cs=>AH (AI cx st base n) cs fun cs=>q (.clo f cs)
  | x=>bif x.cr.all (fun l=>Nat.blt l base) then q x else False
def vh (base:Nat) (b:ak):Bool:=match b.k with
 | .dyn=>true
 | .mp=>true
 | _=>b.cs.all fun c=>c.cr.all fun l=>Nat.blt l base
def La (G:Gx) (rs:List ResultVar) (base:Nat) (K:PV->List ak->Prop) (x:X) (s:aO):Prop:=match x with
 | .exit _=>False
 | _=>Hm G s rs fun r=>AI G.cx s.st base 8 r fun r=>bif (s.st.take base).all (vh base) then vg (s.st.take base) fun S=>∃ r',pJ r r'/\K r' S else False
def Lb (G:Gx) (R:List (Nat × aF)) (N:Nat) (fn:Func) (c:Code) (args:List PV) (S:List ak) (rl:List Nat) (K:PV->List ak->Prop):Prop :=
 bif Nat.ble args.length fn.ntmps && Nat.ble fn.ntmps 16777215 && !(fn.name == "runtime.NumGoroutine") then
  la S 0 fun b=>Hl args 0 .nil fun t=>pw G R N c (La G fn.results.toList b K) ⟨fn.ntmps,t,S,b,rl⟩ else False
section
variable {w w':World} {I I':Nat->Prop} {β aI:ax} {G:Gx} {s:aO} {a:Act} {st dc:List ak}
theorem tv:∀ {xs:List PV} {i:Nat} {t:TM} {k:TM->Prop},Hl xs i t k->∃ t',k t'/\∀ n x,t'.get n=some x->(∃ j,n=i+j/\xs[j]?=some x)\/t.get n=some x
 | [],i,t,k,h=>⟨t,h,fun n x hx=>.inr hx⟩
 | x::xs,i,t,k,h=>by
  obtain⟨t1,h1,ht1⟩:=TM.oU (C2 h)
  obtain⟨t',hk,y_⟩:=tv h1
  refine⟨t',hk,fun n y hy=>?_⟩
  rcases y_ n y hy with ⟨j,hj,hx⟩|hy
  ·exact .inl ⟨j+1,by omega,by simpa using hx⟩
  ·rw[ht1] at hy
   split at hy
   ·rename_i hn
    cases hy
    exact .inl ⟨0,by omega,rfl⟩
   ·exact .inr hy
def Hn (a:Act) (rv:ResultVar):Sem Value:=match rv with
 | .tmp t=>pure (a.tmps.getD t Go.undef)
 | .cell b t=>do loadVar t (← asAddr (a.tmps.getD b Go.undef))
theorem DC (hG:oS G) (hR:Rel G I β s a w) {r:ResultVar} {q:PV->Prop} (h:J0 G s r q):∃ x v,q x/\x.Is w I β v/\(Hn a r).run G.cx.P w = .ok v w:=by
 cases r with
 | tmp t =>
  obtain⟨x,hx,h⟩:=aq h
  obtain⟨v,hv,hi⟩:=hR.get t x hx
  have hq:q x:=by
   split at h
   ·exact h.elim
   ·exact h
  exact⟨x,v,hq,hi,by simp[Hn,hv]⟩
 | cell b t =>
  obtain⟨x,hx,h⟩:=aq h
  obtain⟨v,hv,hi⟩:=hR.get b x hx
  obtain⟨z,r,g,hz,KT,_,bx⟩:=po hG.ok hR.heap hR.aw h hi
  have bx:=bx w rfl
  refine⟨z,r,hz,KT,?_⟩
  have W0:∃ ad,v = .pointer (some ad):=by
   unfold rG at h
   split at h<;>try simp only[PV.Is] at hi
   ·obtain⟨_,_,_,_,_,rfl⟩:=hi; exact⟨_,rfl⟩
   ·obtain⟨_,_,_,_,_,rfl⟩:=hi; exact⟨_,rfl⟩
   ·obtain⟨_,_,_,_,_,rfl⟩:=hi; exact⟨_,rfl⟩
   ·obtain⟨_,_,rfl,_⟩:=hi; exact⟨_,rfl⟩
   ·exact⟨_,hi⟩
   ·exact⟨_,hi⟩
   ·exact h.elim
  obtain⟨ad,rfl⟩:=W0
  simp only[Instr.loadAt,Instr.sureAddr,Sem.run_bind,Sem.run_pure,Result.andThen_ok] at bx
  simp[Hn,hv,asAddr,bx]
theorem vi (hG:oS G) (hR:Rel G I β s a w):∀ {rs:List ResultVar} {q:List PV->Prop},zl G s rs q->∃ xs vs,q xs/\a_ w I xs β vs/\(rs.mapM (Hn a)).run G.cx.P w = .ok vs w
 | [],q,h=>⟨[],[],h,by simp only[a_],rfl⟩
 | r::rs,q,h=>by
  obtain⟨x,v,h,hx,hr⟩:=DC hG hR h
  obtain⟨xs,vs,h,mZ,hrs⟩:=vi hG hR h
  exact⟨x::xs,v::vs,h,by simp only[a_]; exact⟨hx,mZ⟩,by simp[List.mapM_cons,hr,hrs]⟩
theorem zm (hG:oS G) (hR:Rel G I β s a w) {fn:Func} {q:PV->Prop} (h:Hm G s fn.results.toList q):∃ x v,q x/\x.Is w I β v/\(results fn a.tmps).run G.cx.P w = .ok v w:=by
 have key:∀ {q':List PV->Prop},zl G s fn.results.toList q'->(∀ l,q' l->match l with
   | [x]=>q x
   | l=>q (.tup l))->∃ x v,q x/\x.Is w I β v/\(results fn a.tmps).run G.cx.P w = .ok v w:=by
  intro q' h hq
  obtain⟨xs,vs,h,mZ,bx⟩:=vi hG hR h
  have tw:(results fn a.tmps).run G.cx.P w = .ok (if h:vs.toArray.size=1 then vs.toArray[0] else .tuple vs.toArray) w:=by
   unfold results
   rw[Array.mapM_eq_mapM_toList]
   simp only[Sem.run_bind,Sem.run_map]
   erw [bx]
   rfl
  have hq:=hq xs h
  match xs,vs,mZ,hq,tw with
  | [],[],_,hq,tw=>exact⟨_,_,hq,by simp only[PV.Is]; exact⟨#[],rfl,by simp only[a_]⟩,tw⟩
  | [x],[v],mZ,hq,tw=>exact⟨x,v,hq,by simp only[a_] at mZ; exact mZ.1,tw⟩
  | x::x'::xs,v::v'::vs,mZ,hq,tw=>exact⟨_,_,hq,by simp only[PV.Is]; exact⟨_,rfl,by simpa using mZ⟩,by rw[tw,dif_neg (by simp)]⟩
  | [],_::_,mZ,_,_=>simp only[a_] at mZ
  | _::_,[],mZ,_,_=>simp only[a_] at mZ
  | [_],_::_::_,mZ,_,_=>simp[a_] at mZ
  | _::_::_,[_],mZ,_,_=>simp[a_] at mZ
 unfold Hm at h
 split at h
 ·rename_i t heq
  obtain⟨x,hx,h⟩:=aq h
  obtain⟨v,hv,hi⟩:=hR.get t x hx
  refine⟨x,v,h,hi,?_⟩
  have xA:fn.results = #[.tmp t]:=by rw[← Array.toList_inj]; simpa using heq
  simp[results,xA,hv]
 ·refine key h fun l hl=>?_
  split
  ·exact hl
  ·rename_i bZ
   split at hl
   ·rename_i x; exact absurd rfl (bZ x)
   ·exact hl
end
end
section
variable {w w':World} {I I':Nat->Prop} {β aI:ax} {G:Gx} {s:aO} {a:Act} {st dc:List ak}
def pR (I:Nat->Prop) (β:ax) (st:List ak) (base:Nat) (g:Nat):Prop:=I g\/∃ l b p o,base<=l/\st[l]?=some b/\b.live=true/\b.m = .w/\β l=some p/\p.a=some (g,o)
def oC (β:ax) (base:Nat):ax:=fun l=>if l < base then β l else none
theorem pS {x:PV} {base:Nat} {v:Value} (h:x.cr.all (fun l=>Nat.blt l base)=true) (hx:x.Is w I β v) (hI:∀ g,I g->I' g):x.Is w I' (oC β base) v :=
 PV.Is.mono hI (fun _ _=>rfl) x β _ v (fun l p hl hp=>by
  rw[List.all_eq_true] at h
  unfold oC
  rw[if_pos (show l < base from Nat.le_of_ble_eq_true (h l hl))]; exact hp) hx
theorem mg {r:PV->(PV->Prop)->Prop} (hr:∀ x q v,r x q->x.Is w I β v->∃ y,q y/\y.Is w I' aI v):∀ {cs:List PV} {vs:List Value} {q:List PV->Prop},AH r cs q->a_ w I cs β vs->∃ ds,q ds/\a_ w I' ds aI vs
 | [],[],q,h,_=>⟨[],h,by simp only[a_]⟩
 | c::cs,v::vs,q,h,hx=>by
  simp only[a_] at hx
  obtain⟨y,h,hy⟩:=hr c _ v h hx.1
  obtain⟨ds,h,hd⟩:=mg hr h hx.2
  exact⟨y::ds,h,by simp only[a_]; exact⟨hy,hd⟩⟩
 | [],_::_,_,_,hx=>by simp only[a_] at hx
 | _::_,[],_,_,hx=>by simp only[a_] at hx
theorem DD {cx:Ev.Cx} (hh:aD I β st w) {base:Nat}:∀ (n:Nat) (x:PV) (q:PV->Prop) (v:Value),AI cx st base n x q->x.Is w I β v->∃ y,q y/\y.Is w (pR I β st base) (oC β base) v
 | 0,_,_,_,h,_=>h.elim
 | n+1,x,q,v,h,hx=>by
  have ih:=DD (cx:=cx) hh (base:=base) n
  have hI:∀ g,I g->pR I β st base g:=fun g h=>.inl h
  unfold AI at h
  split at h
  ·rename_i l
   cases hl:Nat.blt l base
   case true =>
    rw[hl] at h
    exact⟨_,h,pS (by simp only[PV.cr,List.all_cons,List.all_nil,hl,Bool.and_true]) hx hI⟩
   case false =>
    rw[hl] at h
    have DA:base<=l:=by
     rcases Nat.lt_or_ge l base with h'|h'
     ·have:Nat.blt l base=true:=by unfold Nat.blt; exact Nat.ble_eq_true_of_le h'
      rw[this] at hl; cases hl
     ·exact h'
    obtain⟨b,hb,h⟩:=aq h
    obtain⟨hc,h⟩:=aQ h
    simp only[Bool.and_eq_true] at hc
    simp only[PV.Is] at hx
    obtain⟨p,hp,rfl⟩:=hx
    have uw:∀ {g o:Nat} {fr:Nat × Nat},p.a=some (g,o)->Own I β st l g fr b->pR I β st base g:=fun {g o fr} ha ho=>by
     cases hm:b.m with
     | w=>exact .inr ⟨l,b,p,o,DA,hb,hc.1,hm,hp,ha⟩
     | p=>rw[hm] at hc; cases hc.2
     | r=>exact .inl (ho.2 hm)
    split at h
    ·rename_i hk
     obtain⟨g,arr,fr,ha,hw,fS,oT,dd,hlen,hle,pn,has,jy⟩:=eD hh hb hc.1 hk hp
     have eI:p.len*b.size<=arr.size:=by rw[has]; exact Nat.mul_le_mul_right _ hle
     have px:(arr.toList.take (p.len*b.size)).length=p.len*b.size:=by rw[List.length_take,Array.length_toList]; omega
     have lh:a_ w I b.cs β (arr.toList.take (p.len*b.size)):=a_.of (by rw[px,hlen]) fun i c hc=>by
      obtain⟨u,hu,hi,_⟩:=oT i c hc
      have uN:i < p.len*b.size:=by rw[← hlen]; exact (List.getElem?_eq_some_iff.1 hc).1
      exact⟨u,by rw[List.getElem?_take,if_pos uN]; simpa using hu,hi⟩
     obtain⟨ds,h,RZ⟩:=mg (fun x q v=>ih x q v) h lh
     obtain⟨ag,Gq,h⟩:=aq h
     obtain⟨DB,h⟩:=aQ h
     rw[ak.xm] at h
     obtain⟨es,kN,h⟩:=aq h
     simp only[Bool.or_eq_true] at DB
     have m9:lX w (pR I β st base) (oC β base) b.size (.stat ds) (arr.toList.take (p.len*b.size)):=by
      refine⟨by rw[RZ.length],fun j c hj=>?_⟩
      obtain⟨u,hu,hi⟩:=RZ.get hj
      refine⟨u,hu,hi,?_⟩
      have uN:j < b.cs.length:=by rw[lh.length,← RZ.length]; exact (List.getElem?_eq_some_iff.1 hj).1
      obtain⟨u2,ZA,_,h1⟩:=oT j _ (List.getElem?_eq_getElem uN)
      rw[List.getElem?_take] at hu
      split at hu
      ·have:arr[0+j]?=some u:=by simpa using hu
       rw[this] at ZA; cases ZA; exact h1
      ·cases hu
     obtain⟨e1,e2⟩:=ew jy (DB.imp id Nat.eq_of_beq_eq_true) kN m9 px
     have Ho:bE w (pR I β st base) es b.size g 0:=e2.at (fun j v hj=>by
      have:=lY fS 0 (p.len*b.size) j v (by simpa using hj)
      simpa using this) (fun _ h=>h) (fun _ _=>rfl)
     refine⟨_,h,?_⟩
     simp only[PV.Is]
     refine⟨some ⟨g,0,none⟩,p.cap,by rw[hw,e1],by omega,by omega,fun g' o' e=>by cases e; exact Ho,fun _=>⟨g,0,rfl,uw ha dd,jy⟩⟩
    ·rename_i hk
     obtain⟨jy,hlen,hle,pn,lf⟩:=ct hh hb hc.1 hk hp
     refine⟨_,h,?_⟩
     simp only[PV.Is]
     rcases lf with ⟨ha,pk,hw⟩|⟨g,arr,fr,ha,hw,fS,kN,dd,has⟩
     ·have:b.cs = []:=List.eq_nil_of_length_eq_zero (by omega)
      rw[this,hw]
      exact⟨none,0,rfl,Nat.le_refl _,Nat.zero_le _,(fun _ _ e=>by cases e),fun hn=>absurd rfl hn⟩
     ·exact⟨some ⟨g,0,none⟩,p.cap,by rw[hw,hlen],by omega,by omega,(fun g' o' e=>by cases e; exact bE.mono hI (fun _ _=>rfl) _ _ _ _ rfl kN),fun _=>⟨g,0,rfl,uw ha dd,jy⟩⟩
    ·exact h.elim
  ·simp only[PV.Is] at hx
   obtain⟨vs,rfl,hx⟩:=hx
   obtain⟨ds,h,hd⟩:=mg (fun x q v=>ih x q v) h hx
   exact⟨_,h,by simp only[PV.Is]; exact⟨vs,rfl,hd⟩⟩
  ·simp only[PV.Is] at hx
   obtain⟨vs,rfl,hx⟩:=hx
   obtain⟨ds,h,hd⟩:=mg (fun x q v=>ih x q v) h hx
   exact⟨_,h,by simp only[PV.Is]; exact⟨vs,rfl,hd⟩⟩
  ·simp only[PV.Is] at hx
   obtain⟨vs,rfl,hx⟩:=hx
   obtain⟨ds,h,hd⟩:=mg (fun x q v=>ih x q v) h hx
   exact⟨_,h,by simp only[PV.Is]; exact⟨vs,rfl,hd⟩⟩
  ·obtain⟨hu,h⟩:=aQ h
   exact⟨_,h,pS hu hx hI⟩
theorem Spec.intro {f:FuncId} {args:List PV} {S:List ak} {rl:List Nat} {K:PV->List ak->Prop} (he:Ev.ij G.cx.P f) (h:∀ I β w aZ,aD I β S w->cL G I w->a_ w I args β aZ ->
  Calls G.cx.P f aZ.toArray w fun e w'=>∃ v r S' I' aI,e = .returned v/\K r S'/\r.Is w' I' aI v/\aD I' aI S' w'/\cL G I' w'/\Ext I β S w I' aI S' w'/\S.length<=S'.length/\∀ l,l < S.length->l ∉ rl->aI l=β l):Spec G f args S rl K:=by
 unfold Spec; exact⟨he,h⟩
theorem Spec.run {f:FuncId} {args:List PV} {S:List ak} {rl:List Nat} {K:PV->List ak->Prop} (h:Spec G f args S rl K):Ev.ij G.cx.P f/\∀ I β w aZ,aD I β S w->cL G I w->a_ w I args β aZ ->
  Calls G.cx.P f aZ.toArray w fun e w'=>∃ v r S' I' aI,e = .returned v/\K r S'/\r.Is w' I' aI v/\aD I' aI S' w'/\cL G I' w'/\Ext I β S w I' aI S' w'/\S.length<=S'.length/\∀ l,l < S.length->l ∉ rl->aI l=β l:=by
 unfold Spec at h; exact h
theorem Spec.mono {f:FuncId} {args:List PV} {S:List ak} {rl:List Nat} {K K':PV->List ak->Prop} (h:Spec G f args S rl K) (hK:∀ r S',K r S'->K' r S'):Spec G f args S rl K' :=
 Spec.intro h.run.1 fun I β w aZ h1 h2 h3=>(h.run.2 I β w aZ h1 h2 h3).mono fun e w' ⟨v,r,S',I',aI,h1,h2,h3⟩=>⟨v,r,S',I',aI,h1,hK r S' h2,h3⟩
theorem DE (hG:oS G) {fn:Func} {a':Act} {s' s0:aO} {S:List ak} {rl:List Nat} {K:PV->List ak->Prop} (R0:s0.st=S) (fO:s0.base=S.length) (xQ:s0.rl=rl) (di:Rel G I' aI s' a' w') (hg:cu I β s0 w I' aI s' w') (hq:La G fn.results.toList S.length K .nO s'):∃ v,(results fn a'.tmps).run G.cx.P w' = .ok v w'/\∃ v',∃ r S' I' aI,Ending.returned v = .returned v'/\K r S'/\r.Is w' I' aI v'/\aD I' aI S' w'/\cL G I' w'/\Ext I β S w I' aI S' w'/\S.length<=S'.length/\∀ l,l < S.length->l ∉ rl->aI l=β l:=by
 obtain⟨r,v,hq,hr,bx⟩:=zm hG di hq
 obtain⟨y,hq,hy⟩:=DD di.heap 8 r _ v hq hr
 obtain⟨fT,hq⟩:=aQ hq
 obtain⟨r',RB,hK⟩:=mf hq
 rw[List.all_eq_true] at fT
 have nY:s'.base=S.length:=hg.base.trans fO
 have hlen:S.length<=s'.st.length:=by have:=di.base; rw[nY] at this; exact this
 have hI:∀ g,I' g->pR I' aI s'.st S.length g:=fun g h=>.inl h
 have xS:∀ (l:Nat) (b:ak),(s'.st.take S.length)[l]?=some b->l < S.length/\s'.st[l]?=some b:=fun l b hb=>by
  rw[List.getElem?_take] at hb
  split at hb
  ·exact⟨‹_›,hb⟩
  ·cases hb
 have hHe:aD (pR I' aI s'.st S.length) (oC aI S.length) (s'.st.take S.length) w':=by
  refine⟨fun l hl=>?_,fun l b hb az=>?_⟩
  ·unfold oC
   rw[if_neg (by simp at hl; omega)]
  ·obtain⟨hl,cv⟩:=xS l b hb
   have DA:=fT b (List.mem_of_getElem? hb)
   obtain⟨p,hp,hk⟩:=di.heap.fp l b cv az
   have own:∀ {g:Nat} {o:Nat} {fr:Nat × Nat},p.a=some (g,o)->Own I' aI s'.st l g fr b->Own (pR I' aI s'.st S.length) (oC aI S.length) (s'.st.take S.length) l g fr b:=fun {g o fr} ha ho=>by
    refine⟨fun hr=>?_,fun hr=>hI g (ho.2 hr)⟩
    obtain⟨h1,h2,h3⟩:=ho.1 hr
    refine⟨h1,fun hE=>?_,fun l2 b2 bZ eJ bn p2 g2 o2 fQ fP=>?_⟩
    ·rcases hE with hE|⟨l2,b2,p2,o2,k1,k2,k3,_,k5,k6⟩
     ·exact h2 hE
     ·exact h3 l2 b2 (by omega) k2 k3 p2 g o2 k5 k6 rfl
    ·obtain⟨W1,cR⟩:=xS l2 b2 eJ
     unfold oC at fQ
     rw[if_pos W1] at fQ
     exact h3 l2 b2 bZ cR bn p2 g2 o2 fQ fP
   have cells:b.k.qL=true->∀ {arr:Array Value} {o:Nat},aS w' I' aI b.cs arr o->aS w' (pR I' aI s'.st S.length) (oC aI S.length) b.cs arr o:=fun hk {arr o} hc i c hi=>by
    obtain⟨u,hu,DF,h1⟩:=hc i c hi
    refine⟨u,hu,pS ?_ DF hI,h1⟩
    unfold vh at DA
    cases bS:b.k with
    | dyn=>rw[bS] at hk; cases hk
    | mp=>rw[bS] at hk; cases hk
    | loc=>rw[bS] at DA; rw[List.all_eq_true] at DA; exact DA c (List.mem_of_getElem? hi)
    | arr=>rw[bS] at DA; rw[List.all_eq_true] at DA; exact DA c (List.mem_of_getElem? hi)
   refine⟨p,by unfold oC; rw[if_pos hl]; exact hp,?_⟩
   split at hk
   ·rename_i bS
    obtain⟨g,o,arr,ty,fr,h1,h2,h3,ho⟩:=hk
    exact⟨g,o,arr,ty,fr,h1,h2,cells (by rw[bS]; decide) h3,own h1 ho⟩
   ·rename_i bS
    obtain⟨g,arr,fr,h1,h2,h3,ho,h4⟩:=hk
    exact⟨g,arr,fr,h1,h2,cells (by rw[bS]; decide) h3,own h1 ho,h4⟩
   ·obtain⟨h1,hk⟩:=hk
    refine⟨h1,?_⟩
    rcases hk with h|⟨g,arr,fr,h2,h3,h4,ho,h5⟩
    ·exact .inl h
    ·exact .inr ⟨g,arr,fr,h2,h3,bE.mono hI (fun _ _=>rfl) _ _ _ _ rfl h4,own h2 ho,h5⟩
   ·obtain⟨g,h1,h2,ho⟩:=hk
    exact⟨g,h1,h2,own h1 ho⟩
 have bG:∀ g,pR I' aI s'.st S.length g->g < w'.heap.size:=fun g hg=>by
  rcases hg with hg|⟨l,b,p,o,_,k2,k3,_,k5,k6⟩
  ·exact di.aw.aw g hg
  ·exact di.heap.cM ⟨l,b,p,o,k2,k3,k5,k6⟩
 have hMe:cL G (pR I' aI s'.st S.length) w':=⟨bG,fun g cs hgc=>by
  obtain⟨h1,h2⟩:=di.aw.pd g cs hgc
  exact⟨hI g h1,cd.mono hI (fun _ _=>rfl) cs g 0 rfl h2⟩,di.aw.row⟩
 have hE:=hg.ext
 rw[R0] at hE
 refine⟨v,bx,v,r',_,_,_,rfl,hK,RB _ _ _ _ hy,hHe,hMe,⟨hE.os,hE.tape,hE.output,hE.size,hE.block,fun g Dk ⟨l,b,p,o,h1,h2,h3,h4,h5⟩=>?_,fun g hg=>hI g (hE.aw g hg),fun g Dk uw=>?_⟩,by rw[List.length_take]; omega,fun l hl hr=>?_⟩
 ·obtain⟨hl,hb⟩:=xS l b h1
  unfold oC at h4
  rw[if_pos hl] at h4
  exact hE.wr g Dk ⟨l,b,p,o,hb,h2,h3,h4,h5⟩
 ·rcases uw with uw|⟨l,b,p,o,_,k2,k3,k4,k5,k6⟩
  ·exact hE.new g Dk uw
  ·exact .inr (hE.wr g Dk ⟨l,b,p,o,k2,k3,k4,k5,k6⟩)
 ·unfold oC
  rw[if_pos hl]
  exact hg.low l (by rw[fO]; exact hl) (by rw[xQ]; exact hr)
theorem Spec.enter (hG:oS G) (R:List (Nat × aF)) {f:FuncId} {fn:Func} {c:Code} {args:List PV} {S:List ak} {rl:List Nat} {K:PV->List ak->Prop} (N:Nat) (hf:G.cx.P.funcs[f]?=some fn) (hb:fn.body=some c) (ow:ca R c=true) (h:Lb G R N fn c args S rl K) (hd:G.Vm = []:=by rfl):Spec G f args S rl K:=by
 obtain⟨hc,h⟩:=aQ h
 simp only[Bool.and_eq_true,Bool.not_eq_true'] at hc
 obtain⟨⟨hle,uW⟩,DH⟩:=hc
 have hle:=Nat.le_of_ble_eq_true hle
 have uW:=Nat.le_of_ble_eq_true uW
 replace h:=gW h
 rw[Nat.zero_add] at h
 obtain⟨t,h,ht⟩:=tv h
 refine Spec.intro (Ev.mW hf hb DH) fun I β w aZ hH hM hA=>calls_of_wp hf hb ?_
 have W2:=hA.length
 have hR:Rel G I β ⟨fn.ntmps,t,S,S.length,rl⟩ { tmps:=aZ.toArray++Array.replicate (fn.ntmps - aZ.toArray.size) Go.undef,defers:=[] } w:=by
  refine⟨uW,hd.symm,by simp; omega,Nat.le_refl _,fun n x hx=>?_,hH,hM⟩
  rcases ht n x hx with ⟨j,hj,hx⟩|hx
  ·rw[Nat.zero_add] at hj
   subst hj
   obtain⟨v,hv,hi⟩:=hA.get hx
   have bG:n < aZ.length:=(List.getElem?_eq_some_iff.1 hv).1
   exact⟨v,by rw[Array.getElem?_append_left (by simpa using bG)]; simpa using hv,hi⟩
  ·cases hx
 refine wp_mono ((jz hG N c _ _ ow h).run hR) fun e a' w' hp=>?_
 obtain⟨x,s',I',aI,rfl,hq,di,hg⟩:=hp.goes
 have iH:La G fn.results.toList S.length K .nO s'->_:=fun hq=>And.intro (di.defers.trans hd) (DE hG rfl rfl rfl di hg hq)
 cases x with
 | nO=>exact iH hq
 | ret=>exact iH hq
 | exit id=>exact hq.elim
end
end Go.Proofs.YtnbhdacpogplgaaGreatDoor.Pw

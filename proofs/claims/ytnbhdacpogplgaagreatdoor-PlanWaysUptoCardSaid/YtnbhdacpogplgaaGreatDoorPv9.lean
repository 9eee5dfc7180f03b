/- What this claim is proved with: no condition. -/
import Derived.Test.YtnbhdacpogplgaaGreatDoorPv8
import Derived.Maps.Views
import Derived.Carry
import Derived.Lib.AppendZerosOnto
set_option linter.unusedVariables false
set_option linter.unusedSimpArgs false
namespace Go.Proofs.YtnbhdacpogplgaaGreatDoor.Pw
open Go Go.RowKit
inductive pT where
 | done
 | pure (i:Nat) (r:pT)
 | load (i:Nat) (D:List Nat) (r:pT)
 | aR (i:Nat) (r:pT)
 | fork (i:Nat) (ri:pT) (j:Nat) (rj:pT)
def loadAt (ops:Array Oper) (i:Nat):Bool:=match ops[i]? with
 | some o=>my o.op
 | none=>false
def iW (ops:Array Oper):Nat->Array Bool->pT->Bool
 | _,listed,.done=>(Region.ready .any ops listed).isEmpty
 | 0,_,_=>false
 | fuel+1,listed,.pure i r=>kS i (Region.ready .any ops listed) && lL ops listed i && iW ops fuel (listed.setIfInBounds i true) r
 | fuel+1,listed,.load i D r=>kS i (Region.ready .any ops listed) && lM ops listed i && T1 ops.toList listed i D && iW ops fuel (listed.setIfInBounds i true) r
 | fuel+1,listed,.aR i r=>yz (Region.ready .any ops listed) [i] && pE ops i && iW ops fuel (listed.setIfInBounds i true) r
 | fuel+1,listed,.fork i ri j rj=>yz (Region.ready .any ops listed) [i,j] && loadAt ops i && pE ops j && iW ops fuel (listed.setIfInBounds i true) ri && iW ops fuel (listed.setIfInBounds j true) rj
def du (G:Gx) (ops:List Oper):pT->aN->List vy->(aN->Prop)->Prop
 | .done,s,_,K=>K s
 | .pure i r,s,pins,K=>aP ops[i]? fun o=>lg ops s o (fun s=>qG G.cx s o.op fun v=>s.put o.dst v fun s=>du G ops r s pins K) (fun s=>s.put o.dst (.tup []) fun s=>du G ops r s pins K)
 | .load i D r,s,pins,K=>aP ops[i]? fun o=>lg ops s o (fun s=>match o.op with
   | .load t ad=>s.ev ad fun x=>tK G s.st t x fun v=>s.put o.dst v fun s=>du G ops r s (nF D x pins) K
   | _=>False) (fun s=>s.put o.dst (.tup []) fun s=>du G ops r s pins K)
 | .aR i r,s,pins,K=>aP ops[i]? fun o=>gi G ops s i o pins fun s1=>du G ops r s1 (cP i pins) K
 | .fork i ri j rj,s,pins,K=>(aP ops[i]? fun o=>lg ops s o (fun s=>match o.op with
   | .load t ad=>s.ev ad fun x=>tK G s.st t x fun v=>s.put o.dst v fun s=>du G ops ri s (cP i pins) K
   | _=>False) (fun s=>s.put o.dst (.tup []) fun s=>du G ops ri s (cP i pins) K)) /\
  aP ops[j]? fun o=>gi G ops s j o pins fun s1=>du G ops rj s1 (cP j pins) K
section
variable {w w':World} {I I':Nat->Prop} {β aM:ax} {G:Gx} {s:aN} {a:Act} {st eP:List an} {ops:Array Oper}
theorem DI (hG:nC G) (qP:Region.noSelect ops=true):∀ (fuel:Nat) (p:pT) (Q:Exit->Act->World->Prop) (l:Array Bool) (s:aN) (a:Act) (I:Nat->Prop) (β:ax) (w:World) (pins:List vy) (ys:List nh) (K:aN->Prop),
  iW ops fuel l p=true->du G ops.toList p s pins K->Rel G I β s a w->p_ pins ys I β s.st w->(∀ s' I' aM a' w',K s'->Rel G I' aM s' a' w'->bJ I β s w I' aM s' w'->Q .normal a' w')->cU G.cx.P ops Q fuel l a (fun w2=>w2=w) ys:=by
 intro fuel
 have fin:∀ (fuel:Nat) (Q:Exit->Act->World->Prop) (l:Array Bool) (s:aN) (a:Act) (I:Nat->Prop) (β:ax) (w:World) (ys:List nh) (K:aN->Prop),(Region.ready .any ops l).isEmpty=true->K s->Rel G I β s a w->(∀ s' I' aM a' w',K s'->Rel G I' aM s' a' w'->bJ I β s w I' aM s' w'->Q .normal a' w')->cU G.cx.P ops Q fuel l a (fun w2=>w2=w) ys:=by
  intro fuel Q l s a I β w ys K hr h hR hQ
  have xH:Region.ready .any ops l = []:=List.isEmpty_iff.1 hr
  cases fuel with
  | zero=>exact⟨xH,fun w2 hw=>by subst hw; exact hQ s I β a w2 h hR (bJ.same ⟨rfl,rfl,rfl,rfl⟩)⟩
  | succ fuel=>exact⟨fun _ w2 hw=>by subst hw; exact hQ s I β a w2 h hR (bJ.same ⟨rfl,rfl,rfl,rfl⟩),fun i hi=>by rw[xH] at hi; cases hi⟩
 induction fuel with
 | zero =>
  intro p Q l s a I β w pins ys K hp h hR _ hQ
  cases p with
  | done=>exact fin 0 Q l s a I β w ys K (by simpa only [iW] using hp) (by simpa only [du] using h) hR hQ
  | pure=>cases hp
  | load=>cases hp
  | aR=>cases hp
  | fork=>cases hp
 | succ fuel ih =>
  intro p Q l s a I β w pins ys K hp h hR zS hQ
  cases p with
  | done=>exact fin (fuel+1) Q l s a I β w ys K (by simpa only [iW] using hp) (by simpa only [du] using h) hR hQ
  | pure i r =>
   simp only[iW,Bool.and_eq_true] at hp
   ·obtain⟨⟨gG,dm⟩,hp⟩:=hp
    replace gG:=dx.1 gG
    unfold du at h
    replace h:=au h
    obtain⟨o,ho,h⟩:=h
    rw[Array.getElem?_toList] at ho
    unfold lL at dm
    rw[ho] at dm
    simp only[Bool.and_eq_true] at dm
    have he:aR o.op=false:=by unfold aR; rw[dm.1]; rfl
    rcases gR hR h with ⟨eK,s1,h1,j5,iL⟩|⟨eK,s1,h1,j5,iL⟩
    ·obtain⟨x,v,h1,hx,bI⟩:=vt hG.ok iL h1
     obtain⟨s3,h3,j6,pn⟩:=aN.fq (G:=G) h1
     refine cU.first (v:=v) (D:=[]) (Y:=fun _=>True) ho he qP fuel l a _ ys (Region.free_spec ho dm.2) (fun j hj=>by cases hj) (.inl ⟨eK,fun w2 _=>bI w2⟩) (fun _ _=>trivial) gG (cU.kT _ _ _ _ _ ?_)
     exact ih r Q _ s3 _ I β w pins ys K hp h3 (pn _ _ _ _ _ iL hx) (by rw[j6.st,j5.st]; exact zS) (fun s' I' aM a' w' hk cd hg=>hQ s' I' aM a' w' hk cd (((bJ.same j5).trans (bJ.same j6)).trans hg))
    ·obtain⟨s3,h3,j6,pn⟩:=aN.fq (G:=G) h1
     refine cU.first (v:=undef) (D:=[]) (Y:=fun _=>True) ho he qP fuel l a _ ys (Region.free_spec ho dm.2) (fun j hj=>by cases hj) (.inr ⟨eK,rfl⟩) (fun _ _=>trivial) gG (cU.kT _ _ _ _ _ ?_)
     exact ih r Q _ s3 _ I β w pins ys K hp h3 (pn _ _ _ _ _ iL Is.undef) (by rw[j6.st,j5.st]; exact zS) (fun s' I' aM a' w' hk cd hg=>hQ s' I' aM a' w' hk cd (((bJ.same j5).trans (bJ.same j6)).trans hg))
  | load i D r =>
   simp only[iW,Bool.and_eq_true] at hp
   ·obtain⟨⟨⟨gG,dm⟩,hD⟩,hp⟩:=hp
    replace gG:=dx.1 gG
    unfold du at h
    replace h:=au h
    obtain⟨o,ho,h⟩:=h
    rw[Array.getElem?_toList] at ho
    unfold lM at dm
    rw[ho] at dm
    simp only[Bool.and_eq_true] at dm
    have he:aR o.op=false:=by unfold aR; rw[dm.1,Bool.or_true]; rfl
    rcases gR hR h with ⟨eK,s1,h1,j5,iL⟩|⟨eK,s1,h1,j5,iL⟩
    ·split at h1
     ·rename_i t ad p9
      replace h1:=aN.cc iL h1
      obtain⟨x,h1,hx⟩:=h1
      obtain⟨z,v,g,h1,hz,hg,bI⟩:=ny hG.ok iL.heap iL.aC h1 hx
      obtain⟨s3,h3,j6,pn⟩:=aN.fq (G:=G) h1
      have Lj:∀ w2:World,w2.heap[g]?=w.heap[g]?->(execOp a.eval o).run G.cx.P w2 = .ok (.value v) w2:=fun w2 mu=>by
       unfold execOp
       rw[p9]
       simp only[Sem.run_bind,bI w2 mu,Result.andThen_ok,Sem.run_pure]
      have Ek:g < w.heap.size:=by
       rcases hg with hg|⟨l',b,p,o',_,hb,aF,lD,Lh⟩
       ·exact hR.aC.aC g hg
       ·exact iL.heap.dk ⟨l',b,p,o',hb,aF,lD,Lh⟩
      refine cU.first (v:=v) (D:=D) (Y:=fun w2=>w2.heap[g]?=w.heap[g]?) ho he qP fuel l a _ ys (Region.free_spec ho dm.2) (Li hD) (.inl ⟨eK,Lj⟩) (fun w2 mu=>by rw[mu]) gG ?_
      refine ih r Q _ s3 _ I β w (nF D x pins) _ K hp h3 (pn _ _ _ _ _ iL hz) ?_ (fun s' I' aM a' w' hk cd hg=>hQ s' I' aM a' w' hk cd (((bJ.same j5).trans (bJ.same j6)).trans hg))
      rw[j6.st,j5.st]
      intro y hy
      rcases List.mem_cons.1 hy with rfl|hy
      ·refine .inr ⟨g,fun _=>Iff.rfl,Ek,?_⟩
       rcases hg with hg|⟨l',b,p,o',mr,hb,aF,lD,Lh⟩
       ·exact .inl hg
       ·refine .inr ⟨⟨D,l'⟩,by unfold nF; rw[mr]; exact List.mem_cons_self,rfl,b,p,o',by rw[← j5.st]; exact hb,aF,lD,Lh⟩
      ·rcases zS y hy with h|⟨g',k1,k2,k3⟩
       ·exact .inl h
       ·refine .inr ⟨g',k1,k2,k3.imp id fun ⟨p,Ep,k4⟩=>⟨p,?_,k4⟩⟩
        unfold nF
        split
        ·exact List.mem_cons_of_mem _ Ep
        ·exact Ep
     ·exact h1.elim
    ·obtain⟨s3,h3,j6,pn⟩:=aN.fq (G:=G) h1
     refine cU.first (v:=undef) (D:=[]) (Y:=fun _=>True) ho he qP fuel l a _ ys (Region.free_spec ho dm.2) (fun j hj=>by cases hj) (.inr ⟨eK,rfl⟩) (fun _ _=>trivial) gG (cU.kT _ _ _ _ _ ?_)
     exact ih r Q _ s3 _ I β w pins ys K hp h3 (pn _ _ _ _ _ iL Is.undef) (by rw[j6.st,j5.st]; exact zS) (fun s' I' aM a' w' hk cd hg=>hQ s' I' aM a' w' hk cd (((bJ.same j5).trans (bJ.same j6)).trans hg))
  | aR i r =>
   simp only[iW,Bool.and_eq_true] at hp
   obtain⟨⟨ni,hei⟩,hp⟩:=hp
   replace ni:=vB ni
   unfold du at h
   obtain⟨o,ho,h⟩:=au h
   rw[Array.getElem?_toList] at ho
   have he:=lP ho hei
   refine⟨(fun e=>by rw[ni] at e; cases e),fun j hj oj lK=>?_⟩
   rw[ni,List.mem_singleton] at hj
   subst hj
   rw[ho] at lK
   cases lK
   refine⟨(fun e=>by rw[he] at e; cases e),fun _ w2 mu=>?_⟩
   subst mu
   refine j7 ?_ (lN hG h hR zS)
   rintro v w' ⟨s',I',aM,hk,cd,hg,hY,e_⟩
   refine⟨fun w2=>w2=w',fun p hp w2 mu=>by rw[mu]; exact hY p hp,rfl,?_⟩
   exact ih r Q _ s' _ I' aM w' _ _ K hp hk cd e_ fun s2 I2 jm a2 w3 nq kh zT=>hQ s2 I2 jm a2 w3 nq kh (hg.trans zT)
  | fork i ri j0 rj =>
   simp only[iW,Bool.and_eq_true] at hp
   obtain⟨⟨⟨⟨ni,Z9⟩,hej⟩,hpi⟩,hpj⟩:=hp
   replace ni:=vB ni
   unfold du at h
   obtain⟨h1,h2⟩:=h
   refine⟨(fun e=>by rw[ni] at e; cases e),fun j hj oj lK=>?_⟩
   rw[ni] at hj
   rcases List.mem_cons.1 hj with rfl|hj
   ·obtain⟨o,ho,h1⟩:=au h1
    rw[Array.getElem?_toList,lK] at ho
    obtain rfl:=Option.some.inj ho
    unfold loadAt at Z9
    rw[lK] at Z9
    have he:aR oj.op=false:=by unfold aR; rw[show my oj.op=true from Z9,Bool.or_true]; rfl
    refine⟨fun _=>?_,fun e=>by rw[he] at e; cases e⟩
    rcases gR hR h1 with ⟨eK,s1,h1,j5,iL⟩|⟨eK,s1,h1,j5,iL⟩
    ·split at h1
     ·rename_i t ad p9
      replace h1:=aN.cc iL h1
      obtain⟨x,h1,hx⟩:=h1
      obtain⟨z,v,g,h1,hz,hg,bI⟩:=ny hG.ok iL.heap iL.aC h1 hx
      obtain⟨s3,h3,j6,pn⟩:=aN.fq (G:=G) h1
      refine⟨v,.inl ⟨eK,fun w2 mu=>?_⟩,?_⟩
      ·subst mu
       unfold execOp
       rw[p9]
       simp only[Sem.run_bind,bI w2 rfl,Result.andThen_ok,Sem.run_pure]
      ·refine ih ri Q _ s3 _ I β w _ _ K hpi h3 (pn _ _ _ _ _ iL hz) ?_ (fun s' I' aM a' w' hk cd hg=>hQ s' I' aM a' w' hk cd (((bJ.same j5).trans (bJ.same j6)).trans hg))
       rw[j6.st,j5.st]
       exact zS.cR
     ·exact h1.elim
    ·obtain⟨s3,h3,j6,pn⟩:=aN.fq (G:=G) h1
     refine⟨undef,.inr ⟨eK,rfl⟩,?_⟩
     refine ih ri Q _ s3 _ I β w _ _ K hpi h3 (pn _ _ _ _ _ iL Is.undef) ?_ (fun s' I' aM a' w' hk cd hg=>hQ s' I' aM a' w' hk cd (((bJ.same j5).trans (bJ.same j6)).trans hg))
     rw[j6.st,j5.st]
     exact zS.cR
   ·rw[List.mem_singleton] at hj
    subst hj
    obtain⟨o,ho,h⟩:=au h2
    rw[Array.getElem?_toList,lK] at ho
    obtain rfl:=Option.some.inj ho
    have he:=lP lK hej
    refine⟨(fun e=>by rw[he] at e; cases e),fun _ w2 mu=>?_⟩
    subst mu
    refine j7 ?_ (lN hG h hR zS)
    rintro v w' ⟨s',I',aM,hk,cd,hg,hY,e_⟩
    refine⟨fun w2=>w2=w',fun p hp w2 mu=>by rw[mu]; exact hY p hp,rfl,?_⟩
    exact ih rj Q _ s' _ I' aM w' _ _ K hpj hk cd e_ fun s2 I2 jm a2 w3 nq kh zT=>hQ s2 I2 jm a2 w3 nq kh (hg.trans zT)
theorem SW.RV (hG:nC G) {id:Nat} {Q:X->aN->Prop} (p:pT) (qP:Region.noSelect ops=true) (hp:iW ops ops.size (Array.replicate ops.size false) p=true) (h:du G ops.toList p s [] (Q .hU)):SW G (.region id ops true) Q s:=by
 refine SW.intro fun I β a w hR=>?_
 have cd:Rel G I β s a { w with drawn:=w.drawn+1 }:=hR.nK rfl rfl rfl rfl
 have hd:bJ I β s w I β s { w with drawn:=w.drawn+1 }:=⟨Ext.nK rfl rfl rfl rfl,rfl,rfl,rfl,fun _ _ _=>rfl⟩
 have hA:=DI hG qP ops.size p (cm G s I β w Q) _ s a I β _ [] [] _ hp h cd (fun y hy=>by cases hy) fun s' I' aM a' w' hk kh hg=>cm.of (Q:=Q) (x:=.hU) hk kh (hd.trans hg)
 exact wp_region_any hG.ok.mix (cU.sound _ _ _ _ _ _ hA rfl)
def Pe (G:Gx) (R:List (Nat × aJ)):Nat->Code->(X->aN->Prop)->aN->Prop
 | 0,_,_,_=>False
 | n+1,c,Q,s=>match c with
  | .skip|.label _=>Q .hU s
  | .ret=>Q .ret s
  | .exit id=>Q (.exit id) s
  | .seq a b=>Pe G R n a (xL (Pe G R n b Q) Q) s
  | .cond c a b=>BH s c (Pe G R n a Q) (Pe G R n b Q)
  | .block id c=>Pe G R n c (mE id Q) s
  | .scope c=>Pe G R n c Q s
  | .loop c=>SW G (.loop c) Q s
  | .region id ops draw=>(match draw with
   | true=>(match Ev.ye id R with
    | some p=>bK G ops.toList p s [] (Q .hU)
    | none=>SW G (.region id ops true) Q s)
   | false=>KN G ops.toList Q ops.toList s)
  | _=>False
theorem qz (hG:nC G) {R:List (Nat × aJ)}:∀ (n:Nat) (c:Code) (Q:X->aN->Prop) (s:aN),b_ R c=true->Pe G R n c Q s->SW G c Q s
 | 0,_,_,_,_,h=>h.elim
 | n+1,c,Q,s,hc,h=>by
  cases c with
  | skip=>exact SW.intro fun I β a w hR=>wp_skip (cm.of (x:=.hU) h hR (bJ.same ⟨rfl,rfl,rfl,rfl⟩))
  | label l=>exact SW.intro fun I β a w hR=>wp_label (cm.of (x:=.hU) h hR (bJ.same ⟨rfl,rfl,rfl,rfl⟩))
  | ret=>exact SW.intro fun I β a w hR=>wp_ret (cm.of (x:=.ret) h hR (bJ.same ⟨rfl,rfl,rfl,rfl⟩))
  | exit id=>exact SW.intro fun I β a w hR=>wp_exit (cm.of (x:=.exit id) h hR (bJ.same ⟨rfl,rfl,rfl,rfl⟩))
  | seq x y =>
   simp only[b_,Bool.and_eq_true] at hc
   replace h:Pe G R n x (xL (Pe G R n y Q) Q) s:=h
   have h1:=qz hG n x _ s hc.1 h
   refine SW.intro fun I β a w hR=>wp_seq (wp_mono (h1.run hR) fun e a' w' hp=>?_)
   obtain⟨x',s',I',aM,rfl,hq,cd,hg⟩:=hp.goes
   cases x' with
   | hU=>exact (qz hG n y Q s' hc.2 hq).from cd hg
   | exit id=>exact cm.of (Q:=Q) (x:=.exit id) hq cd hg
   | ret=>exact cm.of (Q:=Q) (x:=.ret) hq cd hg
  | cond c x y =>
   simp only[b_,Bool.and_eq_true] at hc
   refine SW.intro fun I β a w hR=>?_
   obtain⟨b,s',he,hk,hs,cd⟩:=vI hR h
   refine wp_cond he ?_
   cases b with
   | true=>exact (qz hG n x Q s' hc.1 hk).from cd (bJ.same hs)
   | false=>exact (qz hG n y Q s' hc.2 hk).from cd (bJ.same hs)
  | block id c =>
   have h1:=qz hG n c _ s hc h
   refine SW.intro fun I β a w hR=>wp_block (wp_mono (h1.run hR) fun e a' w' hp=>?_)
   obtain⟨x',s',I',aM,rfl,hq,cd,hg⟩:=hp.goes
   cases x' with
   | hU=>exact cm.of (Q:=Q) (x:=.hU) hq cd hg
   | exit j =>
    show Exit.inBlock id _ (.exit j) a' w'
    simp only[Exit.inBlock]
    by_cases hj:j=id
    ·subst hj
     rw[if_pos rfl]
     have xy:Q .hU s':=by simpa [mE,Nat.beq_refl] using hq
     exact cm.of (x:=.hU) xy cd hg
    ·have dw:Nat.beq j id=false:=by rw[Bool.eq_false_iff]; exact fun e=>hj (Nat.eq_of_beq_eq_true e)
     rw[if_neg hj]
     have xy:Q (.exit j) s':=by simpa [mE,dw] using hq
     exact cm.of (x:=.exit j) xy cd hg
   | ret=>exact cm.of (Q:=Q) (x:=.ret) hq cd hg
  | scope c =>
   have h1:=qz hG n c _ s hc h
   refine SW.intro fun I β a w hR=>wp_scope_straight (wp_mono (h1.run hR) fun e a' w' hp=>?_)
   obtain⟨x',s',I',aM,rfl,hq,cd,hg⟩:=hp.goes
   cases x' with
   | hU=>exact cm.of (Q:=Q) (x:=.hU) hq cd hg
   | exit j=>exact cm.of (Q:=Q) (x:=.exit j) hq cd hg
   | ret=>exact cm.of (Q:=Q) (x:=.ret) hq cd hg
  | loop c=>exact h
  | rangeFunc f ps a b=>exact h.elim
  | region id ops draw =>
   cases draw with
   | true =>
    cases hp:Ev.ye id R with
    | none =>
     have h':(match Ev.ye id R with
      | some p=>bK G ops.toList p s [] (Q .hU)
      | none=>SW G (.region id ops true) Q s):=h
     rw[hp] at h'
     exact h'
    | some p =>
     have h':(match Ev.ye id R with
      | some p=>bK G ops.toList p s [] (Q .hU)
      | none=>SW G (.region id ops true) Q s):=h
     rw[hp] at h'
     refine kj hG (n+1) (.region id ops true) Q s hc ?_
     show aP (Ev.ye id R) fun p=>bK G ops.toList p s [] (Q .hU)
     rw[hp]
     exact h'
   | false=>exact kj hG (n+1) (.region id ops false) Q s hc h
  | _=>exact h.elim
theorem SW.invH (hG:nC G) {α:Type} (inv:α->aN) (μ:α->Nat) {c:Code} {Q:X->aN->Prop} (x0:α) (h0:Sub G s (inv x0)) (K:α->aN->Prop) (hK:∀ x s',K x s'->∃ y,μ y < μ x/\Sub G s' (inv y))
  (h:∀ x,SW G c (qV (K x) Q) (inv x)):SW G (.loop c) Q s:=by
 refine SW.intro fun I0 jE a w hR=>?_
 obtain⟨I,β,iL,D3⟩:=h0 I0 jE a w hR
 let J:Nat->Act->World->Prop:=fun m a w'=>∃ x I β,μ x=m/\Rel G I β (inv x) a w'/\bJ I0 jE s w I β (inv x) w'
 have key:∀ (m:Nat) (a:Act) (w':World),J m a w'->∀ (b:Frame) (k:List Item) (cs:List Frame),∃ e a' xD,cm G s I0 jE w Q e a' xD/\Arrives G.cx.P (lone (b.at a (.code c::.inLoop c::k)) cs w') b k cs e a' xD:=by
  intro m
  induction m using Nat.strongRecOn with
  | _ m ih =>
   rintro a w' ⟨x,I,β,hx,hR,hg⟩ b k cs
   obtain⟨e,zU,zV,hp,sC⟩:=(h x).run hR b (.inLoop c::k) cs
   obtain⟨x',s',I',aM,rfl,hq,cd,Eu⟩:=hp.goes
   cases x' with
   | hU =>
    obtain⟨y,hy,hs⟩:=hK x s' hq
    obtain⟨I2,jm,kh,zT⟩:=hs I' aM zU zV cd
    obtain⟨T9,T',T_,Lp,zW⟩:=ih (μ y) (by omega) zU zV ⟨y,I2,jm,rfl,kh,(hg.trans Eu).trans zT⟩ b k cs
    exact⟨T9,T',T_,Lp,.of_steps (Steps.trans sC (.one step_inLoop)) zW⟩
   | exit id=>exact⟨_,zU,zV,cm.of (Q:=Q) (x:=.exit id) hq cd (hg.trans Eu),.pass (x:=.inLoop c) rfl (fun _ _=>.inl (by simp[X.e])) sC⟩
   | ret=>exact⟨_,zU,zV,cm.of (Q:=Q) (x:=.ret) hq cd (hg.trans Eu),.pass (x:=.inLoop c) rfl (fun _ _=>.inl (by simp[X.e])) sC⟩
 intro b k cs
 obtain⟨e,a',w',hq,sC⟩:=key (μ x0) a w ⟨x0,I,β,rfl,iL,D3⟩ b k cs
 exact⟨e,a',w',hq,.of_steps (.one step_loop) sC⟩
theorem SW.loopH (hG:nC G) (R:List (Nat × aJ)) {α:Type} {c:Code} {Q:X->aN->Prop} (hc:b_ R c=true) (vs:α->List (Nat × PV)) (st:α->List an) (μ:α->Nat) (x0:α) (N:Nat) (O4:iM) (h0:lj G.cx O4 s (s.bare (vs x0) (st x0)))
  (h:∀ x,Ub (s.bare (vs x) (st x)) (Pe G R N c (qV (fun s'=>∃ y π,μ y < μ x/\lj G.cx π s' (s.bare (vs y) (st y))) Q))):SW G (.loop c) Q s :=
 SW.invH hG (fun x=>s.bare (vs x) (st x)) μ x0 (aT hG.ok h0) (fun x s'=>∃ y π,μ y < μ x/\lj G.cx π s' (s.bare (vs y) (st y))) (fun x s' ⟨y,π,hy,hs⟩=>⟨y,hy,aT hG.ok hs⟩) fun x=>qz hG N c _ _ hc (sS (h x))
end
section
variable {P:Program} (w:World)
theorem np (t tn ty e:TypeId) (i:TypeInfo) (z:Value) (kq kn:IntKind) (ht:P.underlying t=some (.slice e)) (Pc:P.underlying tn=some (.int kn)) (hi:P.info? e=some i) (hz:i.zero=some z)
  (g FE ZO:Nat) (cur:Array Value) (hg:w.heap[g]?=some (.cells cur e (0,0))) (k:Nat) (h0:0 < k) (hs:0 < i.size) (h63:(k:Int)<=9223372036854775807) (Zi:k*i.bytes<=281474976710656)
  (h1:∀ u∈(Builtin.zeroCells z.cells k).toList,u.oneCell'=true) (DJ:FE+k<=ZO) (OC:FE*i.size+(Builtin.zeroCells z.cells k).toList.length<=cur.size) :
  (Builtin.append_ #[t,tn] ty #[.slice (some ⟨g,0,none⟩) FE ZO,.int kq k]).run P w =
   .ok (.slice (some ⟨g,0,none⟩) (FE+k) ZO) (w.setRow g (cur.toList.take (FE*i.size)++(Builtin.zeroCells z.cells k).toList++cur.toList.drop (FE*i.size+(Builtin.zeroCells z.cells k).toList.length)).toArray):=by
 have um:=run_storeCells_at P g (FE*i.size) e (Builtin.zeroCells z.cells k).toList 0 cur w hg (by simpa using OC) h1
 simp only[Nat.add_zero] at um
 have hk:k≠0:=by omega
 have hw:IntKind.i64.wrap (k:Int)=k:=by rw[IntKind.wrap_i64]; omega
 have h48i:¬ (281474976710656 < (k:Int)*(i.bytes:Int)):=by
  rw[← Int.natCast_mul]
  omega
 have hneg:¬ ((k:Int) < 0):=by omega
 have hns:¬ (k*i.size=0):=Nat.mul_ne_zero hk (by omega)
 simp[Builtin.append_,run_underlying ht,run_underlying Pc,sizeOf,typeInfo,zeroValue,hi,hz,asInt,asIntOf,hw,hneg,hns,h48i,DJ,Addr.add_lit,um]
theorem kJ (t tn ty e:TypeId) (i:TypeInfo) (kq kn:IntKind) (ht:P.underlying t=some (.slice e)) (Pc:P.underlying tn=some (.int kn)) (hi:P.info? e=some i) (b:Option Addr) (m c:Nat) (hle:m<=c) :
  (Builtin.append_ #[t,tn] ty #[.slice b m c,.int kq 0]).run P w = .ok (.slice b m c) w:=by
 have hw:IntKind.i64.wrap 0=0:=by decide
 cases b<;>simp[Builtin.append_,run_underlying ht,run_underlying Pc,sizeOf,typeInfo,hi,asInt,asIntOf,hw,hle,storeCells]
theorem ov (t tn ty e:TypeId) (i:TypeInfo) (z:Value) (kq kn:IntKind) (size bytes:Nat) (ht:P.underlying t=some (.slice e)) (Pc:P.underlying tn=some (.int kn)) (hi:P.info? e=some i) (hz:i.zero=some z)
  (hsize:i.size=size) (KT:i.bytes=bytes) (Z8:z.cells.size=size) (fY:0 < size)
  (v:Value) (n:Nat) (xs:List Value) (dj:w.ownsRow 0 e size v n xs) (k:Nat) (news:List Value) (cH:news=(Builtin.zeroCells z.cells k).toList) (h1:∀ u∈news,u.oneCell'=true)
  (h63:n+k<=maxLen) (OD:(n+k)*bytes<=140737488355328) :
  ∃ v' w',(Builtin.append_ #[t,tn] ty #[v,.int kq k]).run P w = .ok v' w'/\w'.ownsRow 0 e size v' (n+k) (xs++news)/\w.grownBy w' v.ownBlock/\(v'.ownBlock=v.ownBlock\/v'.ownBlock=some w.heap.size):=by
 subst hsize
 subst KT
 have hl:news.length=k*i.size:=by rw[cH,Array.length_toList,size_zeroCells,Z8]
 have hsmall:n+k<=9223372036854775807:=by simp only[maxLen] at h63; omega
 have hlen:(xs++news).length=(n+k)*i.size:=by rw[List.length_append,dj.1,hl,Nat.add_mul]
 have D4:k*i.bytes<=281474976710656:=by rw[Nat.add_mul] at OD; omega
 have grown:∀ (uw:Nat),uw < n+k->∀ (row:Option Nat),
   (w.drew.alloc (.cells (xs.toArray++Builtin.zeroCells z.cells k++Builtin.zeroCells z.cells (grownCap w (n+k) uw e - (n+k))) e)).ownsRow 0 e i.size
    (.slice (some ⟨w.heap.size,0,none⟩) (n+k) (grownCap w (n+k) uw e)) (n+k) (xs++news) /\
   w.grownBy (w.drew.alloc (.cells (xs.toArray++Builtin.zeroCells z.cells k++Builtin.zeroCells z.cells (grownCap w (n+k) uw e - (n+k))) e)) row:=by
  intro uw ho row
  have En:=grownCap_ge w (n+k) uw e
  have hcm:grownCap w (n+k) uw e<=maxLen:=grownCap_le_maxLen w (n+k) uw e h63
  refine⟨⟨hlen,.inr ⟨w.heap.size,_,_,rfl,Nat.zero_le _,heap_alloc_new w.drew _,En,hcm,?_,?_⟩⟩,⟨rfl,rfl,rfl,by simp,fun k hk _=>heap_alloc_old w.drew _ hk⟩⟩
  ·simp only[Array.size_append,List.size_toArray,size_zeroCells,Z8,dj.1,← Nat.add_mul]
   congr 1
   omega
  ·simp only[Array.toList_append,List.append_assoc]
   rw[← cH,← List.append_assoc,← hlen]
   exact List.take_left
 rcases dj.2 with ⟨rfl,rfl⟩|⟨g,cap,cur,rfl,hbg,hg,hnc,hcm,jA,dm⟩
 ·have hx:xs = []:=List.eq_nil_of_length_eq_zero (by simpa using dj.1)
  subst hx
  by_cases hm:k=0
  ·subst hm
   have hn:news = []:=List.eq_nil_of_length_eq_zero (by simpa using hl)
   subst hn
   exact⟨.slice none 0 0,w,kJ w t tn ty e i kq kn ht Pc hi none 0 0 (Nat.le_refl _),World.ownsRow_nil w 0 e i.size,⟨rfl,rfl,rfl,Nat.le_refl _,fun _ _ _=>rfl⟩,Or.inl rfl⟩
  ·have hr:=Lib.run_append_nil_zeros (P:=P) w t tn ty e i z kq kn ht Pc hi hz k (by omega) fY (by omega) D4
   have hgr:=grown 0 (by omega) (Value.ownBlock (.slice none 0 0))
   simp only[Nat.zero_add,List.nil_append,Array.empty_append] at hgr ⊢
   exact⟨_,_,hr,hgr.1,hgr.2,Or.inr rfl⟩
 ·by_cases hm:k=0
  ·subst hm
   have hn:news = []:=List.eq_nil_of_length_eq_zero (by simpa using hl)
   subst hn
   refine⟨_,w,kJ w t tn ty e i kq kn ht Pc hi _ n cap hnc,?_,⟨rfl,rfl,rfl,Nat.le_refl _,fun _ _ _=>rfl⟩,Or.inl rfl⟩
   rw[List.append_nil]; exact dj
  by_cases DJ:n+k<=cap
  ·have OC:n*i.size+news.length<=cur.size:=by rw[hl,jA,← Nat.add_mul]; exact Nat.mul_le_mul_right _ DJ
   rw[cH] at OC h1
   have hr:=np (P:=P) w t tn ty e i z kq kn ht Pc hi hz g n cap cur hg k (by omega) fY (by omega) D4 h1 DJ OC
   rw[← cH] at hr OC h1
   refine⟨_,_,hr,⟨hlen,.inr ⟨g,cap,_,rfl,hbg,setRow_heap w g cur _ e _ hg,DJ,hcm,?_,?_⟩⟩,⟨rfl,rfl,rfl,by simp,fun k _ hk=>setRow_other w g k _ (fun e=>hk (by simp[Value.ownBlock,e]))⟩,Or.inl rfl⟩
   ·simp only[List.size_toArray,List.length_append,List.length_take,List.length_drop,Array.length_toList]
    omega
   ·rw[dm,← hlen]
    exact List.take_left
  ·have holds:∀ j u,xs[j]?=some u->w.cell? ((⟨g,0,none⟩:Addr).add j)=some u:=dj.cells (g:=g) rfl
   have hold:=run_firstCells_some (P:=P) w.drew i.size n ⟨g,0,none⟩ n cap xs dj.1 (by simpa using holds)
   have hr:=Lib.run_append_grow_zeros (P:=P) w t tn ty e i z kq kn ht Pc hi hz (some ⟨g,0,none⟩) n cap xs hold k (by omega) fY (by omega) (by omega) D4 (growslice_fits (by omega) OD)
   have hgr:=grown cap (by omega) (Value.ownBlock (.slice (some ⟨g,0,none⟩) n cap))
   exact⟨_,_,hr,hgr.1,hgr.2,Or.inr rfl⟩
end
def Tn (G:Gx) (s:aN) (o:Oper) (q:PV->aN->Prop):Prop:=match o.op with
 | .call { callee:=.builtin .append,args:=⟨[d,x]⟩,argTypes:=⟨[t,t']⟩ }=>aP (G.cx.ns t) fun td=>(match td with
  | .slice elem=>aP (G.cx.ns t') fun td'=>(match td' with
   | .int _=>aP (Ev.dN G.cx elem) fun n=>aP (Ev.ye elem G.bt) fun bD=>nu G.cx elem fun z=>s.ev d fun d=>s.ev x fun x=>(match x,z with
    | .int _ k,[z1]=>bif Nat.beq n 1 && z1.pz then FT s.st elem n d fun dst st=>aP (fw false n dst) fun es=>∃ N:Nat,k=N/\es.length+N<=maxLen/\(es.length+N)*bD<=140737488355328/\pC (s.store st) ⟨.dyn,elem,n,.w,true,es++List.replicate N z1.norm⟩ q else False
    | _,_=>False)
   | _=>False)
  | _=>False)
 | _=>False
section
variable {w w':World} {I I':Nat->Prop} {β aM:ax} {G:Gx} {s:aN} {a:Act} {st eP:List an}
theorem OE (u:Value) (k j:Nat) (h:j < k):(Builtin.zeroCells #[u] k).toList[j]?=some u:=by
 simp[Builtin.zeroCells,h,Nat.mod_one]
theorem ZP {u x:Value} {k:Nat} (h:x∈(Builtin.zeroCells #[u] k).toList):x=u:=by
 obtain⟨j,hj,e⟩:=List.getElem_of_mem h
 have ch:j < k:=by
  have:=hj
  rw[Array.length_toList,size_zeroCells] at this
  simpa using this
 have h1:=OE u k j ch
 rw[List.getElem?_eq_getElem hj,e] at h1
 exact Option.some.inj h1
set_option maxHeartbeats 1000000 in
theorem OF (hG:nC G) {o:Oper} {q:PV->aN->Prop} (h:Tn G s o q):oB G s o q:=oB.intro fun I β a w hR=>by
 unfold Tn at h
 split at h
 ·rename_i od ox t t' p9
  replace h:=au h
  obtain⟨td,hu,h⟩:=h
  split at h
  ·rename_i elem
   replace h:=au h
   obtain⟨td',Bh,h⟩:=h
   split at h
   ·rename_i kn
    replace h:=au h
    obtain⟨n,hn,h⟩:=h
    replace h:=au h
    obtain⟨bD,KT,h⟩:=h
    replace h:=iJ (w:=w) (I:=I) (β:=β) hG.ok h
    obtain⟨z,i,zv,h,hi,F0,nw⟩:=h
    replace h:=aN.cc hR h
    obtain⟨d,h,hd⟩:=h
    replace h:=aN.cc hR h
    obtain⟨x,h,hx⟩:=h
    split at h
    ·rename_i kq k z1
     simp only[PV.Is] at hx
     replace h:=aZ h
     obtain⟨hc,h⟩:=h
     simp only[Bool.and_eq_true] at hc
     obtain⟨h3,h6⟩:=hc
     obtain rfl:=Nat.eq_of_beq_eq_true h3
     obtain⟨i2,D2,ux⟩:=hG.bD _ (Ev.jT KT)
     rw[hi] at D2; cases D2
     obtain⟨i3,PN,his⟩:=Ev.kb hG.ok hn
     rw[hi] at PN; cases PN
     replace h:=Bp hR.heap Nat.zero_lt_one h hd
     obtain⟨dst,m_,xs,nD,h,dj,Lb,uj,hk,Lc,H_,hv,hvf⟩:=h
     replace h:=au h
     obtain⟨es,mq,N,rfl,h1,h2,h⟩:=h
     obtain⟨PO,Bs⟩:=fe Nat.zero_lt_one (.inr rfl) mq Lb uj
     rw[PO] at h1 h2
     match Z7:zv.cells.toList,nw with
     | [u],nw =>
      have LP:zv.cells = #[u]:=by rw[← Array.toArray_toList (xs:=zv.cells),Z7]
      simp only[bp,and_true] at nw
      have hu1:u.oneCell'=true:=by
       refine jj (nw.flat (show z1.lC=true from ?_))
       cases z1<;>first|rfl|cases h6
      obtain⟨r,w',hr,tN,hg,mr⟩:=ov (P:=G.cx.P) w t t' o.type elem i zv kq kn 1 bD (hG.ok.un hu) (hG.ok.un Bh) hi F0 his ux (by rw[LP]; rfl) Nat.zero_lt_one (a.eval od) nD xs dj N _ rfl (fun y hy=>by rw[LP] at hy; rw[ZP hy]; exact hu1) h1 h2
      rw[LP] at tN
      have bI:(execOp a.eval o).run G.cx.P w = .ok (.value r) w':=by
       unfold execOp
       rw[p9]
       simp only[resolve,invoke,builtin,Sem.run_bind,Sem.run_pure,Result.andThen_ok,List.map_toArray,List.map_cons,List.map_nil,hx,hr]
      rw[bI]
      have vv:∀ g,Wr β m_ g->Wr β s.st g:=fun g hw=>by
       have:=H_.wr g
       rcases Nat.lt_or_ge g w.heap.size with ch|En
       ·exact this ch hw
       ·obtain⟨l,b,p,o,h1,h2,h3,h4,h5⟩:=hw
        have:=hk.dk ⟨l,b,p,o,h1,h2,h4,h5⟩
        omega
      have hI:∀ g,I g->w'.heap[g]?=w.heap[g]?:=fun g hI=>hg.block g (hR.aC.aC g hI) fun e=>(hv g e.symm).2.1 hI
      have hec:z1.norm.cells = [z1.norm]:=by cases z1<;>first|rfl|cases h6
      have KU:eJ w I (List.replicate N z1.norm) 1 (Builtin.zeroCells #[u] N).toList:=by
       refine⟨by rw[Array.length_toList,size_zeroCells,List.length_replicate]; rfl,fun j e he=>?_⟩
       rw[List.getElem?_replicate] at he
       split at he
       ·rename_i hj
        cases he
        refine⟨by rw[hec]; rfl,fun j2 c hc=>?_⟩
        rw[hec] at hc
        match j2,hc with
        | 0,hc =>
         simp at hc; subst hc
         refine⟨u,by simpa using OE u N j hj,zO ?_,hu1⟩
         refine PV.Is.mono (fun _ h=>h) (fun g hg=>rfl) z1 β _ u (fun l p hl=>?_) nw
         exfalso
         cases z1<;>first|(simp[PV.c9] at hl; done)|(simp[PV.pz] at h6; done)
       ·cases he
      rcases tN.2 with ⟨rfl,h0⟩|⟨g,cap,cur,rfl,_,D3,hle,sD,jA,dm⟩
      ·exact mv (p:=⟨none,0,0⟩) hR hk vv Lc hv hg h (fun g o e=>by cases e) rfl fun hO hI=>⟨⟨none,0,0⟩,ax.eI ..,⟨Nat.zero_lt_one,by simp only[List.length_append,List.length_replicate]; omega,Nat.le_refl _,Nat.zero_le _⟩,.inl ⟨rfl,rfl⟩⟩
      ·refine mv (p:=⟨some (g,0),nD+N,cap⟩) hR hk vv Lc hv hg h (fun g' o e=>by
        cases e
        simp only[Value.ownBlock] at mr
        exact mr.imp (fun e=>e.symm) (fun e=>by cases e; rfl)) rfl fun hO hI=>⟨⟨some (g,0),nD+N,cap⟩,ax.eI ..,⟨Nat.zero_lt_one,by simp only[List.length_append,List.length_replicate]; omega,hle,sD⟩,.inr ⟨g,cur,(0,0),rfl,D3,?_,hO g rfl,jA⟩⟩
       exact (Bs.append KU).at (fun j v hj=>by
        rw[Ev.dZ D3]
        rw[← dm,List.getElem?_take] at hj
        split at hj
        ·simpa using hj
        ·cases hj) (fun _ h=>h) hI
     | [],nw=>simp only[bp] at nw
     | _::_::_,nw=>simp only[bp,and_false] at nw
    ·exact h.elim
   ·exact h.elim
  ·exact h.elim
 ·exact h.elim
end
def To (H:List Nat) (o:Oper):Bool:=match o.dst with
 | some d=>kS d H
 | none=>false
def zw (G:Gx) (H:List Nat) (ops:List Oper) (Q:X->aN->Prop):List Oper->aN->Prop
 | [],s=>Q .hU s
 | o::rest,s=>lg ops s o (fun s=>bif To H o then oB G s o (fun v s=>s.put o.dst v (zw G H ops Q rest)) else pop G s o fun v s=>s.put o.dst v (zw G H ops Q rest)) (fun s=>s.put o.dst (.tup []) (zw G H ops Q rest))
def HI (G:Gx) (H:List Nat) (R:List (Nat × aJ)):Nat->Code->(X->aN->Prop)->aN->Prop
 | 0,_,_,_=>False
 | n+1,c,Q,s=>match c with
  | .skip|.label _=>Q .hU s
  | .ret=>Q .ret s
  | .exit id=>Q (.exit id) s
  | .seq a b=>bif oI R b then (∃ s0,HI G H R n a (xL (fun s'=>Sub G s' s0) Q) s/\HI G H R n b Q s0) else HI G H R n a (xL (HI G H R n b Q) Q) s
  | .cond c a b=>BH s c (HI G H R n a Q) (HI G H R n b Q)
  | .block id c=>HI G H R n c (mE id Q) s
  | .scope c=>HI G H R n c Q s
  | .loop c=>SW G (.loop c) Q s
  | .region id ops draw=>(match draw with
   | true=>aP (Ev.ye id R) fun p=>bK G ops.toList p s [] (Q .hU)
   | false=>zw G H ops.toList Q ops.toList s)
  | _=>False
section
variable {w w':World} {I I':Nat->Prop} {β aM:ax} {G:Gx} {s:aN} {a:Act} {st eP:List an}
theorem xp (hG:nC G) {H:List Nat} {ops:Array Oper} {Q:X->aN->Prop} {Q':Exit->Act->World->Prop}:∀ (l:List Oper) {s:aN} {a:Act} {I:Nat->Prop} {β:ax} {w:World},zw G H ops.toList Q l s->Rel G I β s a w ->
  (∀ x s' I' aM a' w',Q x s'->Rel G I' aM s' a' w'->bJ I β s w I' aM s' w'->Q' (X.e x) a' w')->wpList G.cx.P ops Q' l a w
 | [],s,a,I,β,w,h,hR,hQ=>hQ .hU s I β a w h hR (bJ.same ⟨rfl,rfl,rfl,rfl⟩)
 | o::l,s,a,I,β,w,h,hR,hQ=>by
  unfold wpList
  rcases gR hR h with ⟨hw,s1,h1,j5,iL⟩|⟨hw,s1,h1,j5,iL⟩
  ·rw[hw,if_pos rfl]
   have eU:Ev.sv G.cx.P (cC G s1 I β w a (fun v s=>s.put o.dst v (zw G H ops.toList Q l))) ((execOp a.eval o).run G.cx.P w):=by
    cases hb:To H o with
    | true =>
     rw[hb] at h1
     replace h1:oB G s1 o _:=h1
     unfold oB at h1
     exact h1 I β a w iL
    | false =>
     rw[hb] at h1
     exact zP hG iL h1
   refine .inl (Ev.uI eU fun v w' hp=>?_)
   obtain⟨x,s2,I2,jm,h2,kh,hx,hE,e1,e2,e3,gh,_⟩:=hp
   obtain⟨s3,h3,j6,pn⟩:=aN.fq (G:=G) h2
   have g1:bJ I β s w I2 jm s2 w':=(bJ.same j5).trans ⟨hE,e1,e2,e3,gh⟩
   exact xp hG l h3 (pn _ _ _ _ v kh hx) fun x s' I' aM a' xD hq cd hg=>hQ x s' I' aM a' xD hq cd ((g1.trans (bJ.same j6)).trans hg)
  ·rw[hw,if_neg (by simp)]
   obtain⟨s3,h3,j6,pn⟩:=aN.fq (G:=G) h1
   exact xp hG l h3 (pn _ _ _ _ _ iL Is.undef) fun x s' I' aM a' xD hq cd hg=>hQ x s' I' aM a' xD hq cd (((bJ.same j5).trans (bJ.same j6)).trans hg)
theorem m4 (hG:nC G) {H:List Nat} {R:List (Nat × aJ)}:∀ (n:Nat) (c:Code) (Q:X->aN->Prop) (s:aN),b_ R c=true->HI G H R n c Q s->SW G c Q s
 | 0,_,_,_,_,h=>h.elim
 | n+1,c,Q,s,hc,h=>by
  cases c with
  | skip=>exact SW.intro fun I β a w hR=>wp_skip (cm.of (x:=.hU) h hR (bJ.same ⟨rfl,rfl,rfl,rfl⟩))
  | label l=>exact SW.intro fun I β a w hR=>wp_label (cm.of (x:=.hU) h hR (bJ.same ⟨rfl,rfl,rfl,rfl⟩))
  | ret=>exact SW.intro fun I β a w hR=>wp_ret (cm.of (x:=.ret) h hR (bJ.same ⟨rfl,rfl,rfl,rfl⟩))
  | exit id=>exact SW.intro fun I β a w hR=>wp_exit (cm.of (x:=.exit id) h hR (bJ.same ⟨rfl,rfl,rfl,rfl⟩))
  | seq x y =>
   simp only[b_,Bool.and_eq_true] at hc
   replace h:bif oI R y then (∃ s0,HI G H R n x (xL (fun s'=>Sub G s' s0) Q) s/\HI G H R n y Q s0) else HI G H R n x (xL (HI G H R n y Q) Q) s:=h
   cases A3:oI R y with
   | true =>
    rw[A3] at h
    obtain⟨s0,h,h2⟩:=h
    have h1:=m4 hG n x _ s hc.1 h
    refine SW.intro fun I β a w hR=>wp_seq (wp_mono (h1.run hR) fun e a' w' hp=>?_)
    obtain⟨x',s',I',aM,rfl,hq,cd,hg⟩:=hp.goes
    cases x' with
    | hU =>
     obtain⟨I2,jm,kh,zT⟩:=hq I' aM a' w' cd
     exact (m4 hG n y Q s0 hc.2 h2).from kh (hg.trans zT)
    | exit id=>exact cm.of (Q:=Q) (x:=.exit id) hq cd hg
    | ret=>exact cm.of (Q:=Q) (x:=.ret) hq cd hg
   | false =>
   rw[A3] at h
   have h1:=m4 hG n x _ s hc.1 h
   refine SW.intro fun I β a w hR=>wp_seq (wp_mono (h1.run hR) fun e a' w' hp=>?_)
   obtain⟨x',s',I',aM,rfl,hq,cd,hg⟩:=hp.goes
   cases x' with
   | hU=>exact (m4 hG n y Q s' hc.2 hq).from cd hg
   | exit id=>exact cm.of (Q:=Q) (x:=.exit id) hq cd hg
   | ret=>exact cm.of (Q:=Q) (x:=.ret) hq cd hg
  | cond c x y =>
   simp only[b_,Bool.and_eq_true] at hc
   refine SW.intro fun I β a w hR=>?_
   obtain⟨b,s',he,hk,hs,cd⟩:=vI hR h
   refine wp_cond he ?_
   cases b with
   | true=>exact (m4 hG n x Q s' hc.1 hk).from cd (bJ.same hs)
   | false=>exact (m4 hG n y Q s' hc.2 hk).from cd (bJ.same hs)
  | block id c =>
   have h1:=m4 hG n c _ s hc h
   refine SW.intro fun I β a w hR=>wp_block (wp_mono (h1.run hR) fun e a' w' hp=>?_)
   obtain⟨x',s',I',aM,rfl,hq,cd,hg⟩:=hp.goes
   cases x' with
   | hU=>exact cm.of (Q:=Q) (x:=.hU) hq cd hg
   | exit j =>
    show Exit.inBlock id _ (.exit j) a' w'
    simp only[Exit.inBlock]
    by_cases hj:j=id
    ·subst hj
     rw[if_pos rfl]
     have xy:Q .hU s':=by simpa [mE,Nat.beq_refl] using hq
     exact cm.of (x:=.hU) xy cd hg
    ·have dw:Nat.beq j id=false:=by rw[Bool.eq_false_iff]; exact fun e=>hj (Nat.eq_of_beq_eq_true e)
     rw[if_neg hj]
     have xy:Q (.exit j) s':=by simpa [mE,dw] using hq
     exact cm.of (x:=.exit j) xy cd hg
   | ret=>exact cm.of (Q:=Q) (x:=.ret) hq cd hg
  | scope c =>
   have h1:=m4 hG n c _ s hc h
   refine SW.intro fun I β a w hR=>wp_scope_straight (wp_mono (h1.run hR) fun e a' w' hp=>?_)
   obtain⟨x',s',I',aM,rfl,hq,cd,hg⟩:=hp.goes
   cases x' with
   | hU=>exact cm.of (Q:=Q) (x:=.hU) hq cd hg
   | exit j=>exact cm.of (Q:=Q) (x:=.exit j) hq cd hg
   | ret=>exact cm.of (Q:=Q) (x:=.ret) hq cd hg
  | loop c=>exact h
  | rangeFunc f ps a b=>exact h.elim
  | region id ops draw =>
   cases draw with
   | true=>exact kj hG (n+1) (.region id ops true) Q s hc h
   | false=>exact SW.intro fun I β a w hR=>wp_region_list (xp hG _ h hR fun x s' I' aM a' w' hq cd hg=>cm.of hq cd hg)
  | _=>exact h.elim
end
def FF (G:Gx) (H:List Nat) (R:List (Nat × aJ)) (N:Nat) (fn:Func) (c:Code) (args:List PV) (S:List an) (rl:List Nat) (K:PV->List an->Prop):Prop :=
 bif Nat.ble args.length fn.ntmps && Nat.ble fn.ntmps 16777215 && !(fn.name == "runtime.NumGoroutine") then
  pf S 0 fun b=>Lu args 0 .nil fun t=>HI G H R N c (Lv G fn.results.toList b K) ⟨fn.ntmps,t,S,b,rl⟩ else False
section
variable {w w':World} {I I':Nat->Prop} {β aM:ax} {G:Gx} {s:aN} {a:Act} {st eP:List an}
theorem Spec.FF (hG:nC G) (H:List Nat) (R:List (Nat × aJ)) {f:FuncId} {fn:Func} {c:Code} {args:List PV} {S:List an} {rl:List Nat} {K:PV->List an->Prop} (N:Nat) (hf:G.cx.P.funcs[f]?=some fn) (hb:fn.body=some c) (lD:b_ R c=true) (h:FF G H R N fn c args S rl K) (hd:G.dfs = []:=by rfl):Spec G f args S rl K:=by
 obtain⟨hc,h⟩:=aZ h
 simp only[Bool.and_eq_true,Bool.not_eq_true'] at hc
 obtain⟨⟨hle,uq⟩,BO⟩:=hc
 have hle:=Nat.le_of_ble_eq_true hle
 have uq:=Nat.le_of_ble_eq_true uq
 replace h:=iY h
 rw[Nat.zero_add] at h
 obtain⟨t,h,ht⟩:=uO h
 refine Spec.intro (Ev.lB hf hb BO) fun I β w a_ hH hM hA=>calls_of_wp hf hb ?_
 have hal:=hA.length
 have hR:Rel G I β ⟨fn.ntmps,t,S,S.length,rl⟩ { tmps:=a_.toArray++Array.replicate (fn.ntmps - a_.toArray.size) Go.undef,defers:=[] } w:=by
  refine⟨uq,hd.symm,by simp; omega,Nat.le_refl _,fun n x hx=>?_,hH,hM⟩
  rcases ht n x hx with ⟨j,hj,hx⟩|hx
  ·rw[Nat.zero_add] at hj
   subst hj
   obtain⟨v,hv,hi⟩:=hA.get hx
   have ch:n < a_.length:=(List.getElem?_eq_some_iff.1 hv).1
   exact⟨v,by rw[Array.getElem?_append_left (by simpa using ch)]; simpa using hv,hi⟩
  ·cases hx
 refine wp_mono ((m4 hG N c _ _ lD h).run hR) fun e a' w' hp=>?_
 obtain⟨x,s',I',aM,rfl,hq,cd,hg⟩:=hp.goes
 have jl:Lv G fn.results.toList S.length K .hU s'->_:=fun hq=>And.intro (cd.defers.trans hd) (BN hG rfl rfl rfl cd hg hq)
 cases x with
 | hU=>exact jl hq
 | ret=>exact jl hq
 | exit id=>exact hq.elim
end
end Go.Proofs.YtnbhdacpogplgaaGreatDoor.Pw

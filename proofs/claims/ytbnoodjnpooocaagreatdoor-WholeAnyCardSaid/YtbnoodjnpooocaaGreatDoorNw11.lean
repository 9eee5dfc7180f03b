/- What this claim is proved with: no condition. -/
import Derived.Test.YtbnoodjnpooocaaGreatDoorNw9
import Derived.Lib.AppendZerosOnto
import Derived.Test.YtbnoodjnpooocaaGreatDoorNw10
import Derived.Lib.SlBytesConst
import Derived.Test.YtbnoodjnpooocaaGreatDoorNw7
import Derived.Laws.BytesArg
set_option linter.unusedVariables false
set_option linter.unusedSimpArgs false
namespace Go.Proofs.YtbnoodjnpooocaaGreatDoor.Pw
open Go Go.RowKit
inductive p6 where
 | done
 | pure (i:Nat) (r:p6)
 | load (i:Nat) (D:List Nat) (r:p6)
 | ai (i:Nat) (r:p6)
 | fork (i:Nat) (ri:p6) (j:Nat) (rj:p6)
def loadAt (ops:Array Oper) (i:Nat):Bool:=match ops[i]? with
 | some o=>kX o.op
 | none=>false
def ir (ops:Array Oper):Nat->Array Bool->p6->Bool
 | _,listed,.done=>(Region.ready .any ops listed).isEmpty
 | 0,_,_=>false
 | fuel+1,listed,.pure i r=>fk i (Region.ready .any ops listed) && gG ops listed i && ir ops fuel (listed.setIfInBounds i true) r
 | fuel+1,listed,.load i D r=>fk i (Region.ready .any ops listed) && gH ops listed i && QC ops.toList listed i D && ir ops fuel (listed.setIfInBounds i true) r
 | fuel+1,listed,.ai i r=>vz (Region.ready .any ops listed) [i] && nA ops i && ir ops fuel (listed.setIfInBounds i true) r
 | fuel+1,listed,.fork i ri j rj=>vz (Region.ready .any ops listed) [i,j] && loadAt ops i && nA ops j && ir ops fuel (listed.setIfInBounds i true) ri && ir ops fuel (listed.setIfInBounds j true) rj
def dB (G:Gx) (ops:List Oper):p6->aD->List mJ->(aD->Prop)->Prop
 | .done,s,_,K=>K s
 | .pure i r,s,pins,K=>aU ops[i]? fun o=>gB ops s o (fun s=>nu G.cx s o.op fun v=>s.put o.dst v fun s=>dB G ops r s pins K) (fun s=>s.put o.dst (.tup []) fun s=>dB G ops r s pins K)
 | .load i D r,s,pins,K=>aU ops[i]? fun o=>gB ops s o (fun s=>match o.op with
   | .load t ad=>s.ev ad fun x=>nv G s.st t x fun v=>s.put o.dst v fun s=>dB G ops r s (gI D x pins) K
   | _=>False) (fun s=>s.put o.dst (.tup []) fun s=>dB G ops r s pins K)
 | .ai i r,s,pins,K=>aU ops[i]? fun o=>gm G ops s i o pins fun s1=>dB G ops r s1 (ct i pins) K
 | .fork i ri j rj,s,pins,K=>(aU ops[i]? fun o=>gB ops s o (fun s=>match o.op with
   | .load t ad=>s.ev ad fun x=>nv G s.st t x fun v=>s.put o.dst v fun s=>dB G ops ri s (ct i pins) K
   | _=>False) (fun s=>s.put o.dst (.tup []) fun s=>dB G ops ri s (ct i pins) K)) /\
  aU ops[j]? fun o=>gm G ops s j o pins fun s1=>dB G ops rj s1 (ct j pins) K
section
variable {w w':World} {I I':Nat->Prop} {β ay:an} {G:Gx} {s:aD} {a:Act} {st dY:List aj} {ops:Array Oper}
theorem A7 (hG:fD G) (kY:Region.noSelect ops=true):∀ (fuel:Nat) (p:p6) (Q:Exit->Act->World->Prop) (l:Array Bool) (s:aD) (a:Act) (I:Nat->Prop) (β:an) (w:World) (pins:List mJ) (ys:List jL) (K:aD->Prop),
  ir ops fuel l p=true->dB G ops.toList p s pins K->Rel G I β s a w->iQ pins ys I β s.st w->(∀ s' I' ay a' w',K s'->Rel G I' ay s' a' w'->aG I β s w I' ay s' w'->Q .normal a' w')->cB G.cx.P ops Q fuel l a (fun w2=>w2=w) ys:=by
 intro fuel
 have fin:∀ (fuel:Nat) (Q:Exit->Act->World->Prop) (l:Array Bool) (s:aD) (a:Act) (I:Nat->Prop) (β:an) (w:World) (ys:List jL) (K:aD->Prop),(Region.ready .any ops l).isEmpty=true->K s->Rel G I β s a w->(∀ s' I' ay a' w',K s'->Rel G I' ay s' a' w'->aG I β s w I' ay s' w'->Q .normal a' w')->cB G.cx.P ops Q fuel l a (fun w2=>w2=w) ys:=by
  intro fuel Q l s a I β w ys K hr h hR hQ
  have sJ:Region.ready .any ops l = []:=List.isEmpty_iff.1 hr
  cases fuel with
  | zero=>exact⟨sJ,fun w2 hw=>by subst hw; exact hQ s I β a w2 h hR (aG.same ⟨rfl,rfl,rfl,rfl⟩)⟩
  | succ fuel=>exact⟨fun _ w2 hw=>by subst hw; exact hQ s I β a w2 h hR (aG.same ⟨rfl,rfl,rfl,rfl⟩),fun i hi=>by rw[sJ] at hi; cases hi⟩
 induction fuel with
 | zero =>
  intro p Q l s a I β w pins ys K hp h hR _ hQ
  cases p with
  | done=>exact fin 0 Q l s a I β w ys K (by simpa only [ir] using hp) (by simpa only [dB] using h) hR hQ
  | pure=>cases hp
  | load=>cases hp
  | ai=>cases hp
  | fork=>cases hp
 | succ fuel ih =>
  intro p Q l s a I β w pins ys K hp h hR rb hQ
  cases p with
  | done=>exact fin (fuel+1) Q l s a I β w ys K (by simpa only [ir] using hp) (by simpa only [dB] using h) hR hQ
  | pure i r =>
   simp only[ir,Bool.and_eq_true] at hp
   ·obtain⟨⟨cU,cz⟩,hp⟩:=hp
    replace cU:=cR.1 cU
    unfold dB at h
    replace h:=ao h
    obtain⟨o,ho,h⟩:=h
    rw[Array.getElem?_toList] at ho
    unfold gG at cz
    rw[ho] at cz
    simp only[Bool.and_eq_true] at cz
    have he:ai o.op=false:=by unfold ai; rw[cz.1]; rfl
    rcases c9 hR h with ⟨cP,s1,h1,d_,cI⟩|⟨cP,s1,h1,d_,cI⟩
    ·obtain⟨x,v,h1,hx,bp⟩:=oG hG.ok cI h1
     obtain⟨s3,h3,eA,gW⟩:=aD.aT (G:=G) h1
     refine cB.first (v:=v) (D:=[]) (Y:=fun _=>True) ho he kY fuel l a _ ys (Region.free_spec ho cz.2) (fun j hj=>by cases hj) (.inl ⟨cP,fun w2 _=>bp w2⟩) (fun _ _=>trivial) cU (cB.gK _ _ _ _ _ ?_)
     exact ih r Q _ s3 _ I β w pins ys K hp h3 (gW _ _ _ _ _ cI hx) (by rw[eA.st,d_.st]; exact rb) (fun s' I' ay a' w' hk br hg=>hQ s' I' ay a' w' hk br (((aG.same d_).trans (aG.same eA)).trans hg))
    ·obtain⟨s3,h3,eA,gW⟩:=aD.aT (G:=G) h1
     refine cB.first (v:=undef) (D:=[]) (Y:=fun _=>True) ho he kY fuel l a _ ys (Region.free_spec ho cz.2) (fun j hj=>by cases hj) (.inr ⟨cP,rfl⟩) (fun _ _=>trivial) cU (cB.gK _ _ _ _ _ ?_)
     exact ih r Q _ s3 _ I β w pins ys K hp h3 (gW _ _ _ _ _ cI Is.undef) (by rw[eA.st,d_.st]; exact rb) (fun s' I' ay a' w' hk br hg=>hQ s' I' ay a' w' hk br (((aG.same d_).trans (aG.same eA)).trans hg))
  | load i D r =>
   simp only[ir,Bool.and_eq_true] at hp
   ·obtain⟨⟨⟨cU,cz⟩,hD⟩,hp⟩:=hp
    replace cU:=cR.1 cU
    unfold dB at h
    replace h:=ao h
    obtain⟨o,ho,h⟩:=h
    rw[Array.getElem?_toList] at ho
    unfold gH at cz
    rw[ho] at cz
    simp only[Bool.and_eq_true] at cz
    have he:ai o.op=false:=by unfold ai; rw[cz.1,Bool.or_true]; rfl
    rcases c9 hR h with ⟨cP,s1,h1,d_,cI⟩|⟨cP,s1,h1,d_,cI⟩
    ·split at h1
     ·rename_i t ad h_
      replace h1:=aD.cd cI h1
      obtain⟨x,h1,hx⟩:=h1
      obtain⟨z,v,g,h1,hz,hg,bp⟩:=jm hG.ok cI.heap cI.au h1 hx
      obtain⟨s3,h3,eA,gW⟩:=aD.aT (G:=G) h1
      have sX:∀ w2:World,w2.heap[g]?=w.heap[g]?->(execOp a.eval o).run G.cx.P w2 = .ok (.value v) w2:=fun w2 j4=>by
       unfold execOp
       rw[h_]
       simp only[Sem.run_bind,bp w2 j4,Result.andThen_ok,Sem.run_pure]
      have uU:g < w.heap.size:=by
       rcases hg with hg|⟨l',b,p,o',_,hb,az,j3,BH⟩
       ·exact hR.au.au g hg
       ·exact cI.heap.cH ⟨l',b,p,o',hb,az,j3,BH⟩
      refine cB.first (v:=v) (D:=D) (Y:=fun w2=>w2.heap[g]?=w.heap[g]?) ho he kY fuel l a _ ys (Region.free_spec ho cz.2) (BJ hD) (.inl ⟨cP,sX⟩) (fun w2 j4=>by rw[j4]) cU ?_
      refine ih r Q _ s3 _ I β w (gI D x pins) _ K hp h3 (gW _ _ _ _ _ cI hz) ?_ (fun s' I' ay a' w' hk br hg=>hQ s' I' ay a' w' hk br (((aG.same d_).trans (aG.same eA)).trans hg))
      rw[eA.st,d_.st]
      intro y hy
      rcases List.mem_cons.1 hy with rfl|hy
      ·refine .inr ⟨g,fun _=>Iff.rfl,uU,?_⟩
       rcases hg with hg|⟨l',b,p,o',iE,hb,az,j3,BH⟩
       ·exact .inl hg
       ·refine .inr ⟨⟨D,l'⟩,by unfold gI; rw[iE]; exact List.mem_cons_self,rfl,b,p,o',by rw[← d_.st]; exact hb,az,j3,BH⟩
      ·rcases rb y hy with h|⟨g',k1,k2,k3⟩
       ·exact .inl h
       ·refine .inr ⟨g',k1,k2,k3.imp id fun ⟨p,rK,k4⟩=>⟨p,?_,k4⟩⟩
        unfold gI
        split
        ·exact List.mem_cons_of_mem _ rK
        ·exact rK
     ·exact h1.elim
    ·obtain⟨s3,h3,eA,gW⟩:=aD.aT (G:=G) h1
     refine cB.first (v:=undef) (D:=[]) (Y:=fun _=>True) ho he kY fuel l a _ ys (Region.free_spec ho cz.2) (fun j hj=>by cases hj) (.inr ⟨cP,rfl⟩) (fun _ _=>trivial) cU (cB.gK _ _ _ _ _ ?_)
     exact ih r Q _ s3 _ I β w pins ys K hp h3 (gW _ _ _ _ _ cI Is.undef) (by rw[eA.st,d_.st]; exact rb) (fun s' I' ay a' w' hk br hg=>hQ s' I' ay a' w' hk br (((aG.same d_).trans (aG.same eA)).trans hg))
  | ai i r =>
   simp only[ir,Bool.and_eq_true] at hp
   obtain⟨⟨iR,RX⟩,hp⟩:=hp
   replace iR:=sV iR
   unfold dB at h
   obtain⟨o,ho,h⟩:=ao h
   rw[Array.getElem?_toList] at ho
   have he:=km ho RX
   refine⟨(fun e=>by rw[iR] at e; cases e),fun j hj oj iG=>?_⟩
   rw[iR,List.mem_singleton] at hj
   subst hj
   rw[ho] at iG
   cases iG
   refine⟨(fun e=>by rw[he] at e; cases e),fun _ w2 j4=>?_⟩
   subst j4
   refine gl ?_ (kl hG h hR rb)
   rintro v w' ⟨s',I',ay,hk,br,hg,hY,dM⟩
   refine⟨fun w2=>w2=w',fun p hp w2 j4=>by rw[j4]; exact hY p hp,rfl,?_⟩
   exact ih r Q _ s' _ I' ay w' _ _ K hp hk br dM fun s2 I2 ee a2 w3 qn eM jq=>hQ s2 I2 ee a2 w3 qn eM (hg.trans jq)
  | fork i ri j0 rj =>
   simp only[ir,Bool.and_eq_true] at hp
   obtain⟨⟨⟨⟨iR,Yx⟩,RY⟩,hpi⟩,QE⟩:=hp
   replace iR:=sV iR
   unfold dB at h
   obtain⟨h1,h2⟩:=h
   refine⟨(fun e=>by rw[iR] at e; cases e),fun j hj oj iG=>?_⟩
   rw[iR] at hj
   rcases List.mem_cons.1 hj with rfl|hj
   ·obtain⟨o,ho,h1⟩:=ao h1
    rw[Array.getElem?_toList,iG] at ho
    obtain rfl:=Option.some.inj ho
    unfold loadAt at Yx
    rw[iG] at Yx
    have he:ai oj.op=false:=by unfold ai; rw[show kX oj.op=true from Yx,Bool.or_true]; rfl
    refine⟨fun _=>?_,fun e=>by rw[he] at e; cases e⟩
    rcases c9 hR h1 with ⟨cP,s1,h1,d_,cI⟩|⟨cP,s1,h1,d_,cI⟩
    ·split at h1
     ·rename_i t ad h_
      replace h1:=aD.cd cI h1
      obtain⟨x,h1,hx⟩:=h1
      obtain⟨z,v,g,h1,hz,hg,bp⟩:=jm hG.ok cI.heap cI.au h1 hx
      obtain⟨s3,h3,eA,gW⟩:=aD.aT (G:=G) h1
      refine⟨v,.inl ⟨cP,fun w2 j4=>?_⟩,?_⟩
      ·subst j4
       unfold execOp
       rw[h_]
       simp only[Sem.run_bind,bp w2 rfl,Result.andThen_ok,Sem.run_pure]
      ·refine ih ri Q _ s3 _ I β w _ _ K hpi h3 (gW _ _ _ _ _ cI hz) ?_ (fun s' I' ay a' w' hk br hg=>hQ s' I' ay a' w' hk br (((aG.same d_).trans (aG.same eA)).trans hg))
       rw[eA.st,d_.st]
       exact rb.cF
     ·exact h1.elim
    ·obtain⟨s3,h3,eA,gW⟩:=aD.aT (G:=G) h1
     refine⟨undef,.inr ⟨cP,rfl⟩,?_⟩
     refine ih ri Q _ s3 _ I β w _ _ K hpi h3 (gW _ _ _ _ _ cI Is.undef) ?_ (fun s' I' ay a' w' hk br hg=>hQ s' I' ay a' w' hk br (((aG.same d_).trans (aG.same eA)).trans hg))
     rw[eA.st,d_.st]
     exact rb.cF
   ·rw[List.mem_singleton] at hj
    subst hj
    obtain⟨o,ho,h⟩:=ao h2
    rw[Array.getElem?_toList,iG] at ho
    obtain rfl:=Option.some.inj ho
    have he:=km iG RY
    refine⟨(fun e=>by rw[he] at e; cases e),fun _ w2 j4=>?_⟩
    subst j4
    refine gl ?_ (kl hG h hR rb)
    rintro v w' ⟨s',I',ay,hk,br,hg,hY,dM⟩
    refine⟨fun w2=>w2=w',fun p hp w2 j4=>by rw[j4]; exact hY p hp,rfl,?_⟩
    exact ih rj Q _ s' _ I' ay w' _ _ K QE hk br dM fun s2 I2 ee a2 w3 qn eM jq=>hQ s2 I2 ee a2 w3 qn eM (hg.trans jq)
theorem SW.region2 (hG:fD G) {id:Nat} {Q:X->aD->Prop} (p:p6) (kY:Region.noSelect ops=true) (hp:ir ops ops.size (Array.replicate ops.size false) p=true) (h:dB G ops.toList p s [] (Q .cA)):SW G (.region id ops true) Q s:=by
 refine SW.intro fun I β a w hR=>?_
 have br:Rel G I β s a { w with drawn:=w.drawn+1 }:=hR.iS rfl rfl rfl rfl
 have hd:aG I β s w I β s { w with drawn:=w.drawn+1 }:=⟨Ext.iS rfl rfl rfl rfl,rfl,rfl,rfl,fun _ _ _=>rfl⟩
 have hA:=A7 hG kY ops.size p (bA G s I β w Q) _ s a I β _ [] [] _ hp h br (fun y hy=>by cases hy) fun s' I' ay a' w' hk eM hg=>bA.of (Q:=Q) (x:=.cA) hk eM (hd.trans hg)
 exact wp_region_any hG.ok.mix (cB.sound _ _ _ _ _ _ hA rfl)
def MO (G:Gx) (R:List (Nat × af)):Nat->Code->(X->aD->Prop)->aD->Prop
 | 0,_,_,_=>False
 | n+1,c,Q,s=>match c with
  | .skip|.label _=>Q .cA s
  | .ret=>Q .ret s
  | .exit id=>Q (.exit id) s
  | .seq a b=>MO G R n a (oU (MO G R n b Q) Q) s
  | .cond c a b=>zr s c (MO G R n a Q) (MO G R n b Q)
  | .block id c=>MO G R n c (ju id Q) s
  | .scope c=>MO G R n c Q s
  | .loop c=>SW G (.loop c) Q s
  | .region id ops draw=>(match draw with
   | true=>(match Ev.lO id R with
    | some p=>bX G ops.toList p s [] (Q .cA)
    | none=>SW G (.region id ops true) Q s)
   | false=>xb G ops.toList Q ops.toList s)
  | _=>False
theorem og (hG:fD G) {R:List (Nat × af)}:∀ (n:Nat) (c:Code) (Q:X->aD->Prop) (s:aD),bR R c=true->MO G R n c Q s->SW G c Q s
 | 0,_,_,_,_,h=>h.elim
 | n+1,c,Q,s,hc,h=>by
  cases c with
  | skip=>exact SW.intro fun I β a w hR=>wp_skip (bA.of (x:=.cA) h hR (aG.same ⟨rfl,rfl,rfl,rfl⟩))
  | label l=>exact SW.intro fun I β a w hR=>wp_label (bA.of (x:=.cA) h hR (aG.same ⟨rfl,rfl,rfl,rfl⟩))
  | ret=>exact SW.intro fun I β a w hR=>wp_ret (bA.of (x:=.ret) h hR (aG.same ⟨rfl,rfl,rfl,rfl⟩))
  | exit id=>exact SW.intro fun I β a w hR=>wp_exit (bA.of (x:=.exit id) h hR (aG.same ⟨rfl,rfl,rfl,rfl⟩))
  | seq x y =>
   simp only[bR,Bool.and_eq_true] at hc
   replace h:MO G R n x (oU (MO G R n y Q) Q) s:=h
   have h1:=og hG n x _ s hc.1 h
   refine SW.intro fun I β a w hR=>wp_seq (wp_mono (h1.run hR) fun e a' w' hp=>?_)
   obtain⟨x',s',I',ay,rfl,hq,br,hg⟩:=hp.goes
   cases x' with
   | cA=>exact (og hG n y Q s' hc.2 hq).from br hg
   | exit id=>exact bA.of (Q:=Q) (x:=.exit id) hq br hg
   | ret=>exact bA.of (Q:=Q) (x:=.ret) hq br hg
  | cond c x y =>
   simp only[bR,Bool.and_eq_true] at hc
   refine SW.intro fun I β a w hR=>?_
   obtain⟨b,s',he,hk,hs,br⟩:=oV hR h
   refine wp_cond he ?_
   cases b with
   | true=>exact (og hG n x Q s' hc.1 hk).from br (aG.same hs)
   | false=>exact (og hG n y Q s' hc.2 hk).from br (aG.same hs)
  | block id c =>
   have h1:=og hG n c _ s hc h
   refine SW.intro fun I β a w hR=>wp_block (wp_mono (h1.run hR) fun e a' w' hp=>?_)
   obtain⟨x',s',I',ay,rfl,hq,br,hg⟩:=hp.goes
   cases x' with
   | cA=>exact bA.of (Q:=Q) (x:=.cA) hq br hg
   | exit j =>
    show Exit.inBlock id _ (.exit j) a' w'
    simp only[Exit.inBlock]
    by_cases hj:j=id
    ·subst hj
     rw[if_pos rfl]
     have kL:Q .cA s':=by simpa [ju,Nat.beq_refl] using hq
     exact bA.of (x:=.cA) kL br hg
    ·have cO:Nat.beq j id=false:=by rw[Bool.eq_false_iff]; exact fun e=>hj (Nat.eq_of_beq_eq_true e)
     rw[if_neg hj]
     have kL:Q (.exit j) s':=by simpa [ju,cO] using hq
     exact bA.of (x:=.exit j) kL br hg
   | ret=>exact bA.of (Q:=Q) (x:=.ret) hq br hg
  | scope c =>
   have h1:=og hG n c _ s hc h
   refine SW.intro fun I β a w hR=>wp_scope_straight (wp_mono (h1.run hR) fun e a' w' hp=>?_)
   obtain⟨x',s',I',ay,rfl,hq,br,hg⟩:=hp.goes
   cases x' with
   | cA=>exact bA.of (Q:=Q) (x:=.cA) hq br hg
   | exit j=>exact bA.of (Q:=Q) (x:=.exit j) hq br hg
   | ret=>exact bA.of (Q:=Q) (x:=.ret) hq br hg
  | loop c=>exact h
  | rangeFunc f ps a b=>exact h.elim
  | region id ops draw =>
   cases draw with
   | true =>
    cases hp:Ev.lO id R with
    | none =>
     have h':(match Ev.lO id R with
      | some p=>bX G ops.toList p s [] (Q .cA)
      | none=>SW G (.region id ops true) Q s):=h
     rw[hp] at h'
     exact h'
    | some p =>
     have h':(match Ev.lO id R with
      | some p=>bX G ops.toList p s [] (Q .cA)
      | none=>SW G (.region id ops true) Q s):=h
     rw[hp] at h'
     refine er hG (n+1) (.region id ops true) Q s hc ?_
     show aU (Ev.lO id R) fun p=>bX G ops.toList p s [] (Q .cA)
     rw[hp]
     exact h'
   | false=>exact er hG (n+1) (.region id ops false) Q s hc h
  | _=>exact h.elim
theorem SW.invH (hG:fD G) {α:Type} (inv:α->aD) (μ:α->Nat) {c:Code} {Q:X->aD->Prop} (x0:α) (h0:Sub G s (inv x0)) (K:α->aD->Prop) (hK:∀ x s',K x s'->∃ y,μ y < μ x/\Sub G s' (inv y))
  (h:∀ x,SW G c (oW (K x) Q) (inv x)):SW G (.loop c) Q s:=by
 refine SW.intro fun I0 eU a w hR=>?_
 obtain⟨I,β,cI,gV⟩:=h0 I0 eU a w hR
 let J:Nat->Act->World->Prop:=fun m a w'=>∃ x I β,μ x=m/\Rel G I β (inv x) a w'/\aG I0 eU s w I β (inv x) w'
 have key:∀ (m:Nat) (a:Act) (w':World),J m a w'->∀ (b:Frame) (k:List Item) (cs:List Frame),∃ e a' m_,bA G s I0 eU w Q e a' m_/\Arrives G.cx.P (lone (b.at a (.code c::.inLoop c::k)) cs w') b k cs e a' m_:=by
  intro m
  induction m using Nat.strongRecOn with
  | _ m ih =>
   rintro a w' ⟨x,I,β,hx,hR,hg⟩ b k cs
   obtain⟨e,xA,xB,hp,qe⟩:=(h x).run hR b (.inLoop c::k) cs
   obtain⟨x',s',I',ay,rfl,hq,br,re⟩:=hp.goes
   cases x' with
   | cA =>
    obtain⟨y,hy,hs⟩:=hK x s' hq
    obtain⟨I2,ee,eM,jq⟩:=hs I' ay xA xB br
    obtain⟨R1,R2,R3,Ik,xC⟩:=ih (μ y) (by omega) xA xB ⟨y,I2,ee,rfl,eM,(hg.trans re).trans jq⟩ b k cs
    exact⟨R1,R2,R3,Ik,.of_steps (Steps.trans qe (.one step_inLoop)) xC⟩
   | exit id=>exact⟨_,xA,xB,bA.of (Q:=Q) (x:=.exit id) hq br (hg.trans re),.pass (x:=.inLoop c) rfl (fun _ _=>.inl (by simp[X.e])) qe⟩
   | ret=>exact⟨_,xA,xB,bA.of (Q:=Q) (x:=.ret) hq br (hg.trans re),.pass (x:=.inLoop c) rfl (fun _ _=>.inl (by simp[X.e])) qe⟩
 intro b k cs
 obtain⟨e,a',w',hq,qe⟩:=key (μ x0) a w ⟨x0,I,β,rfl,cI,gV⟩ b k cs
 exact⟨e,a',w',hq,.of_steps (.one step_loop) qe⟩
theorem SW.loopH (hG:fD G) (R:List (Nat × af)) {α:Type} {c:Code} {Q:X->aD->Prop} (hc:bR R c=true) (vs:α->List (Nat × PV)) (st:α->List aj) (μ:α->Nat) (x0:α) (N:Nat) (MG:ia) (h0:fK G.cx MG s (s.bare (vs x0) (st x0)))
  (h:∀ x,Sn (s.bare (vs x) (st x)) (MO G R N c (oW (fun s'=>∃ y π,μ y < μ x/\fK G.cx π s' (s.bare (vs y) (st y))) Q))):SW G (.loop c) Q s :=
 SW.invH hG (fun x=>s.bare (vs x) (st x)) μ x0 (dD hG.ok h0) (fun x s'=>∃ y π,μ y < μ x/\fK G.cx π s' (s.bare (vs y) (st y))) (fun x s' ⟨y,π,hy,hs⟩=>⟨y,hy,dD hG.ok hs⟩) fun x=>og hG N c _ _ hc (qv (h x))
end
def Rj (H:List Nat) (o:Oper):Bool:=match o.dst with
 | some d=>fk d H
 | none=>false
def wV (G:Gx) (H:List Nat) (ops:List Oper) (Q:X->aD->Prop):List Oper->aD->Prop
 | [],s=>Q .cA s
 | o::rest,s=>gB ops s o (fun s=>bif Rj H o then fO G s o (fun v s=>s.put o.dst v (wV G H ops Q rest)) else pop G s o fun v s=>s.put o.dst v (wV G H ops Q rest)) (fun s=>s.put o.dst (.tup []) (wV G H ops Q rest))
def EN (G:Gx) (H:List Nat) (R:List (Nat × af)):Nat->Code->(X->aD->Prop)->aD->Prop
 | 0,_,_,_=>False
 | n+1,c,Q,s=>match c with
  | .skip|.label _=>Q .cA s
  | .ret=>Q .ret s
  | .exit id=>Q (.exit id) s
  | .seq a b=>bif ix R b then (∃ s0,EN G H R n a (oU (fun s'=>Sub G s' s0) Q) s/\EN G H R n b Q s0) else EN G H R n a (oU (EN G H R n b Q) Q) s
  | .cond c a b=>zr s c (EN G H R n a Q) (EN G H R n b Q)
  | .block id c=>EN G H R n c (ju id Q) s
  | .scope c=>EN G H R n c Q s
  | .loop c=>SW G (.loop c) Q s
  | .region id ops draw=>(match draw with
   | true=>aU (Ev.lO id R) fun p=>bX G ops.toList p s [] (Q .cA)
   | false=>wV G H ops.toList Q ops.toList s)
  | _=>False
section
variable {w w':World} {I I':Nat->Prop} {β ay:an} {G:Gx} {s:aD} {a:Act} {st dY:List aj}
theorem uJ (hG:fD G) {H:List Nat} {ops:Array Oper} {Q:X->aD->Prop} {Q':Exit->Act->World->Prop}:∀ (l:List Oper) {s:aD} {a:Act} {I:Nat->Prop} {β:an} {w:World},wV G H ops.toList Q l s->Rel G I β s a w ->
  (∀ x s' I' ay a' w',Q x s'->Rel G I' ay s' a' w'->aG I β s w I' ay s' w'->Q' (X.e x) a' w')->wpList G.cx.P ops Q' l a w
 | [],s,a,I,β,w,h,hR,hQ=>hQ .cA s I β a w h hR (aG.same ⟨rfl,rfl,rfl,rfl⟩)
 | o::l,s,a,I,β,w,h,hR,hQ=>by
  unfold wpList
  rcases c9 hR h with ⟨hw,s1,h1,d_,cI⟩|⟨hw,s1,h1,d_,cI⟩
  ·rw[hw,if_pos rfl]
   have nP:Ev.lU G.cx.P (bF G s1 I β w a (fun v s=>s.put o.dst v (wV G H ops.toList Q l))) ((execOp a.eval o).run G.cx.P w):=by
    cases hb:Rj H o with
    | true =>
     rw[hb] at h1
     replace h1:fO G s1 o _:=h1
     unfold fO at h1
     exact h1 I β a w cI
    | false =>
     rw[hb] at h1
     exact sR hG cI h1
   refine .inl (Ev.ou nP fun v w' hp=>?_)
   obtain⟨x,s2,I2,ee,h2,eM,hx,hE,e1,e2,e3,dU,_⟩:=hp
   obtain⟨s3,h3,eA,gW⟩:=aD.aT (G:=G) h2
   have g1:aG I β s w I2 ee s2 w':=(aG.same d_).trans ⟨hE,e1,e2,e3,dU⟩
   exact uJ hG l h3 (gW _ _ _ _ v eM hx) fun x s' I' ay a' m_ hq br hg=>hQ x s' I' ay a' m_ hq br ((g1.trans (aG.same eA)).trans hg)
  ·rw[hw,if_neg (by simp)]
   obtain⟨s3,h3,eA,gW⟩:=aD.aT (G:=G) h1
   exact uJ hG l h3 (gW _ _ _ _ _ cI Is.undef) fun x s' I' ay a' m_ hq br hg=>hQ x s' I' ay a' m_ hq br (((aG.same d_).trans (aG.same eA)).trans hg)
theorem lB (hG:fD G) {H:List Nat} {R:List (Nat × af)}:∀ (n:Nat) (c:Code) (Q:X->aD->Prop) (s:aD),bR R c=true->EN G H R n c Q s->SW G c Q s
 | 0,_,_,_,_,h=>h.elim
 | n+1,c,Q,s,hc,h=>by
  cases c with
  | skip=>exact SW.intro fun I β a w hR=>wp_skip (bA.of (x:=.cA) h hR (aG.same ⟨rfl,rfl,rfl,rfl⟩))
  | label l=>exact SW.intro fun I β a w hR=>wp_label (bA.of (x:=.cA) h hR (aG.same ⟨rfl,rfl,rfl,rfl⟩))
  | ret=>exact SW.intro fun I β a w hR=>wp_ret (bA.of (x:=.ret) h hR (aG.same ⟨rfl,rfl,rfl,rfl⟩))
  | exit id=>exact SW.intro fun I β a w hR=>wp_exit (bA.of (x:=.exit id) h hR (aG.same ⟨rfl,rfl,rfl,rfl⟩))
  | seq x y =>
   simp only[bR,Bool.and_eq_true] at hc
   replace h:bif ix R y then (∃ s0,EN G H R n x (oU (fun s'=>Sub G s' s0) Q) s/\EN G H R n y Q s0) else EN G H R n x (oU (EN G H R n y Q) Q) s:=h
   cases Ij:ix R y with
   | true =>
    rw[Ij] at h
    obtain⟨s0,h,h2⟩:=h
    have h1:=lB hG n x _ s hc.1 h
    refine SW.intro fun I β a w hR=>wp_seq (wp_mono (h1.run hR) fun e a' w' hp=>?_)
    obtain⟨x',s',I',ay,rfl,hq,br,hg⟩:=hp.goes
    cases x' with
    | cA =>
     obtain⟨I2,ee,eM,jq⟩:=hq I' ay a' w' br
     exact (lB hG n y Q s0 hc.2 h2).from eM (hg.trans jq)
    | exit id=>exact bA.of (Q:=Q) (x:=.exit id) hq br hg
    | ret=>exact bA.of (Q:=Q) (x:=.ret) hq br hg
   | false =>
   rw[Ij] at h
   have h1:=lB hG n x _ s hc.1 h
   refine SW.intro fun I β a w hR=>wp_seq (wp_mono (h1.run hR) fun e a' w' hp=>?_)
   obtain⟨x',s',I',ay,rfl,hq,br,hg⟩:=hp.goes
   cases x' with
   | cA=>exact (lB hG n y Q s' hc.2 hq).from br hg
   | exit id=>exact bA.of (Q:=Q) (x:=.exit id) hq br hg
   | ret=>exact bA.of (Q:=Q) (x:=.ret) hq br hg
  | cond c x y =>
   simp only[bR,Bool.and_eq_true] at hc
   refine SW.intro fun I β a w hR=>?_
   obtain⟨b,s',he,hk,hs,br⟩:=oV hR h
   refine wp_cond he ?_
   cases b with
   | true=>exact (lB hG n x Q s' hc.1 hk).from br (aG.same hs)
   | false=>exact (lB hG n y Q s' hc.2 hk).from br (aG.same hs)
  | block id c =>
   have h1:=lB hG n c _ s hc h
   refine SW.intro fun I β a w hR=>wp_block (wp_mono (h1.run hR) fun e a' w' hp=>?_)
   obtain⟨x',s',I',ay,rfl,hq,br,hg⟩:=hp.goes
   cases x' with
   | cA=>exact bA.of (Q:=Q) (x:=.cA) hq br hg
   | exit j =>
    show Exit.inBlock id _ (.exit j) a' w'
    simp only[Exit.inBlock]
    by_cases hj:j=id
    ·subst hj
     rw[if_pos rfl]
     have kL:Q .cA s':=by simpa [ju,Nat.beq_refl] using hq
     exact bA.of (x:=.cA) kL br hg
    ·have cO:Nat.beq j id=false:=by rw[Bool.eq_false_iff]; exact fun e=>hj (Nat.eq_of_beq_eq_true e)
     rw[if_neg hj]
     have kL:Q (.exit j) s':=by simpa [ju,cO] using hq
     exact bA.of (x:=.exit j) kL br hg
   | ret=>exact bA.of (Q:=Q) (x:=.ret) hq br hg
  | scope c =>
   have h1:=lB hG n c _ s hc h
   refine SW.intro fun I β a w hR=>wp_scope_straight (wp_mono (h1.run hR) fun e a' w' hp=>?_)
   obtain⟨x',s',I',ay,rfl,hq,br,hg⟩:=hp.goes
   cases x' with
   | cA=>exact bA.of (Q:=Q) (x:=.cA) hq br hg
   | exit j=>exact bA.of (Q:=Q) (x:=.exit j) hq br hg
   | ret=>exact bA.of (Q:=Q) (x:=.ret) hq br hg
  | loop c=>exact h
  | rangeFunc f ps a b=>exact h.elim
  | region id ops draw =>
   cases draw with
   | true=>exact er hG (n+1) (.region id ops true) Q s hc h
   | false=>exact SW.intro fun I β a w hR=>wp_region_list (uJ hG _ h hR fun x s' I' ay a' w' hq br hg=>bA.of hq br hg)
  | _=>exact h.elim
end
def CX (G:Gx) (H:List Nat) (R:List (Nat × af)) (N:Nat) (fn:Func) (c:Code) (args:List PV) (S:List aj) (rl:List Nat) (K:PV->List aj->Prop):Prop :=
 bif Nat.ble args.length fn.ntmps && Nat.ble fn.ntmps 16777215 && !(fn.name == "runtime.NumGoroutine") then
  lH S 0 fun b=>BV args 0 .nil fun t=>EN G H R N c (BW G fn.results.toList b K) ⟨fn.ntmps,t,S,b,rl⟩ else False
section
variable {w w':World} {I I':Nat->Prop} {β ay:an} {G:Gx} {s:aD} {a:Act} {st dY:List aj}
theorem Spec.CX (hG:fD G) (H:List Nat) (R:List (Nat × af)) {f:FuncId} {fn:Func} {c:Code} {args:List PV} {S:List aj} {rl:List Nat} {K:PV->List aj->Prop} (N:Nat) (hf:G.cx.P.funcs[f]?=some fn) (hb:fn.body=some c) (j3:bR R c=true) (h:CX G H R N fn c args S rl K) (hd:G.Bn = []:=by rfl):Spec G f args S rl K:=by
 obtain⟨hc,h⟩:=ba h
 simp only[Bool.and_eq_true,Bool.not_eq_true'] at hc
 obtain⟨⟨hle,jK⟩,mg⟩:=hc
 have hle:=Nat.le_of_ble_eq_true hle
 have jK:=Nat.le_of_ble_eq_true jK
 replace h:=gC h
 rw[Nat.zero_add] at h
 obtain⟨t,h,ht⟩:=mO h
 refine Spec.intro (Ev.gi hf hb mg) fun I β w vals hH hM hA=>calls_of_wp hf hb ?_
 have ZD:=hA.length
 have hR:Rel G I β ⟨fn.ntmps,t,S,S.length,rl⟩ { tmps:=vals.toArray++Array.replicate (fn.ntmps - vals.toArray.size) Go.undef,defers:=[] } w:=by
  refine⟨jK,hd.symm,by simp; omega,Nat.le_refl _,fun n x hx=>?_,hH,hM⟩
  rcases ht n x hx with ⟨j,hj,hx⟩|hx
  ·rw[Nat.zero_add] at hj
   subst hj
   obtain⟨v,hv,hi⟩:=hA.get hx
   have bZ:n < vals.length:=(List.getElem?_eq_some_iff.1 hv).1
   exact⟨v,by rw[Array.getElem?_append_left (by simpa using bZ)]; simpa using hv,hi⟩
  ·cases hx
 refine wp_mono ((lB hG N c _ _ j3 h).run hR) fun e a' w' hp=>?_
 obtain⟨x,s',I',ay,rfl,hq,br,hg⟩:=hp.goes
 have kT:BW G fn.results.toList S.length K .cA s'->_:=fun hq=>And.intro (br.defers.trans hd) (tD hG rfl rfl rfl br hg hq)
 cases x with
 | cA=>exact kT hq
 | ret=>exact kT hq
 | exit id=>exact hq.elim
end
def Me:PV->Bool
 | .lit .u8 _=>true
 | _=>false
def b8B (e:TypeId) (b:aj):Bool:=b.live && Nat.beq b.size 1 && Nat.beq b.ty e && b.cs.all Me && (match b.k,b.m with
 | .arr,.w=>true
 | _,_=>false)
def Rk (G:Gx) (s:aD) (o:Oper) (q:PV->aD->Prop):Prop:=match o.op with
 | .convert t t' ox=>bif Nat.beq t t' then aU (G.cx.fg t) fun d=>(match d with
  | .slice e=>aU (G.cx.fg e) fun d2=>(match d2 with
   | .int .u8=>s.ev ox fun x=>(match x with
    | .wref l=>aU s.st[l]? fun b=>bif b8B e b then oB s.st l ⟨.arr,e,1,.w,false,[]⟩ fun st=>q (.sl 1 b.cs) (s.store st) else False
    | _=>False)
   | _=>False)
  | _=>False) else False
 | _=>False
section
variable {w w':World} {I I':Nat->Prop} {β ay:an} {G:Gx} {s:aD} {a:Act} {st dY:List aj}
theorem A8 {g n:Nat} {arr:Array Value} {e:TypeId} (h:w.heap[g]?=some (.cells arr e (0,0))):(w.freeze ⟨g,n,none⟩ 1).heap[g]?=some (.cells arr e (n,n+1)):=by
 unfold World.freeze
 rw[if_neg (by decide)]
 simp[Array.getElem?_modify,h]
theorem yL {g n j:Nat} (h:j≠g):(w.freeze ⟨g,n,none⟩ 1).heap[j]?=w.heap[j]?:=by
 unfold World.freeze
 rw[if_neg (by decide)]
 simp[Array.getElem?_modify,Ne.symm h]
theorem A9 (g n:Nat):(w.freeze ⟨g,n,none⟩ 1).heap.size=w.heap.size:=by
 unfold World.freeze
 rw[if_neg (by decide)]
 simp
theorem qU {P:Program} {t e:TypeId} {g n c:Nat} {arr:Array Value} (ht:P.underlying t=some (.slice e)) (he:P.underlying e=some (.int .u8)) (h:w.heap[g]?=some (.cells arr e (0,0))) :
  (convert t t (.slice (some ⟨g,0,none⟩) n c)).run P w = .ok (.slice (some ⟨g,0,none⟩) n c) (w.freeze ⟨g,arr.size,none⟩ 1):=by
 have XP:w.shape? g=some (e,arr.size):=by unfold World.shape?; rw[h]
 simp[convert,run_underlying ht,run_underlying he,markStringish,XP]
theorem P_ {c:PV} (h:Me c=true):∃ n,c = .lit .u8 n:=by
 unfold Me at h
 split at h
 ·exact⟨_,rfl⟩
 ·cases h
theorem EO {g:Nat} {arr:Array Value} {fr:Nat × Nat} {e:TypeId} (h:w'.heap[g]?=some (.cells arr e fr)):∀ (cs:List PV) (o:Nat),cs.all Me=true->(∀ (i:Nat) (c:PV),cs[i]?=some c->∃ v,arr[o+i]?=some v/\c.Is w I β v/\v.oneCell'=true)->ca w' I' cs 1 g o
 | [],_,_,_=>by simp only[ca]
 | c::cs,o,hb,hc=>by
  simp only[List.all_cons,Bool.and_eq_true] at hb
  have ih:ca w' I' cs 1 g (o+1):=EO h cs (o+1) hb.2 fun i c hi=>by
   have:=hc (i+1) c (by simpa using hi)
   rwa [show o+1+i=o+(i+1) by omega]
  obtain⟨v,hv,hi,h1⟩:=hc 0 c rfl
  obtain⟨n,rfl⟩:=P_ hb.1
  simp only[ca,PV.Is] at hi ⊢
  exact⟨⟨trivial,v,by rw[Ev.fh h]; simpa using hv,hi,h1⟩,ih⟩
set_option maxHeartbeats 1000000 in
theorem Mf (hG:fD G) {o:Oper} {q:PV->aD->Prop} (h:Rk G s o q):fO G s o q:=fO.intro fun I β a w hR=>by
 unfold Rk at h
 split at h
 ·rename_i t t' ox h_
  replace h:=ba h
  obtain⟨ZZ,h⟩:=h
  obtain rfl:=Nat.eq_of_beq_eq_true ZZ
  replace h:=ao h
  obtain⟨d,hu,h⟩:=h
  split at h
  ·rename_i e
   replace h:=ao h
   obtain⟨d2,Sq,h⟩:=h
   split at h
   ·replace h:=aD.cd hR h
    obtain⟨x,h,hx⟩:=h
    split at h
    ·rename_i l
     replace h:=ao h
     obtain⟨b,hb,h⟩:=h
     replace h:=ba h
     obtain⟨hb8,h⟩:=h
     replace h:=jP h
     obtain⟨bZ,h⟩:=h
     obtain⟨bk,bt,bs,bm,bl,bc⟩:=b
     unfold b8B at hb8
     simp only[Bool.and_eq_true] at hb8
     obtain⟨⟨⟨⟨h1,h2⟩,h3⟩,h4⟩,h5⟩:=hb8
     replace h1:bl=true:=h1
     replace h2:Nat.beq bs 1=true:=h2
     replace h3:Nat.beq bt e=true:=h3
     replace h4:bc.all Me=true:=h4
     subst h1
     obtain rfl:=Nat.eq_of_beq_eq_true h2
     obtain rfl:=Nat.eq_of_beq_eq_true h3
     cases bk<;>first|cases h5|skip
     cases bm<;>first|cases h5|skip
     have hH:=hR.heap
     obtain⟨p,hp,g,arr,fr,ha,hh,lQ,dh,hlen,hle,oF,eL,_⟩:=hH.dX l _ hb rfl
     simp only at hh lQ dh hlen eL
     obtain⟨rfl,M8,qY⟩:=dh.1 (show Md.w≠Md.r by decide)
     simp only[PV.Is] at hx
     obtain⟨p',dM,hv⟩:=hx
     rw[hp] at dM
     cases dM
     have hw0:p.whole = .slice (some ⟨g,0,none⟩) p.len p.cap:=by unfold na.whole; rw[ha]
     have hx:a.eval ox = .slice (some ⟨g,0,none⟩) p.len p.cap:=by rw[hv,hw0]
     have bp:(execOp a.eval ‹Oper›).run G.cx.P w = .ok (.value (.slice (some ⟨g,0,none⟩) p.len p.cap)) (w.freeze ⟨g,arr.size,none⟩ 1):=by
      unfold execOp
      rw[h_]
      simp[hx,qU (P:=G.cx.P) (w:=w) (n:=p.len) (c:=p.cap) (hG.ok.un hu) (hG.ok.un Sq) hh]
     rw[bp]
     generalize Yz:w.freeze ⟨g,arr.size,none⟩ 1=w'
     have hs:w'.heap[g]?=some (.cells arr bt (arr.size,arr.size+1)):=by rw[← Yz]; exact A8 hh
     have ho:∀ j,j≠g->w'.heap[j]?=w.heap[j]?:=fun j hj=>by rw[← Yz]; exact yL hj
     have hz:w'.heap.size=w.heap.size:=by rw[← Yz]; exact A9 ..
     have RE:w'.os=w.os/\w'.tape=w.tape/\w'.output=w.output:=by rw[← Yz]; unfold World.freeze; rw[if_neg (by decide)]; exact⟨rfl,rfl,rfl⟩
     have qf:∀ j,I j->w'.heap[j]?=w.heap[j]?:=fun j hj=>ho j fun e=>M8 (e ▸ hj)
     have uU:g < w.heap.size:=aV hh
     have kj:∀ {l':Nat} {b':aj},(s.st.set l ⟨.arr,bt,1,.w,false,[]⟩)[l']?=some b'->b'.live=true->l'≠l/\s.st[l']?=some b':=fun {l' b'} h1 h2=>by
      by_cases e:l'=l
      ·subst e
       rw[List.getElem?_set_self bZ] at h1
       cases h1
       cases h2
      ·rw[List.getElem?_set_ne (Ne.symm e)] at h1
       exact⟨e,h1⟩
     have hE:Ext I β s.st w (fun j=>I j\/j=g) β (s.st.set l ⟨.arr,bt,1,.w,false,[]⟩) w':=⟨RE.1,RE.2.1,RE.2.2,by omega,fun j _ hn=>ho j fun e=>hn (e ▸ ⟨l,_,p,0,hb,rfl,rfl,hp,ha⟩),fun j _ ⟨l2,b2,p2,o2,k1,k2,k3,k4,k5⟩=>⟨l2,b2,p2,o2,(kj k1 k2).2,k2,k3,k4,k5⟩,fun _ h=>Or.inl h,fun j _ hj=>hj.imp id fun (e:j=g)=>⟨l,_,p,0,hb,rfl,rfl,hp,by rw[e]; exact ha⟩⟩
     have ZO:aC (fun j=>I j\/j=g) β (s.st.set l ⟨.arr,bt,1,.w,false,[]⟩) w':=⟨fun l2 eR=>hH.p8 l2 (by simpa using eR),fun l2 b2 eR bC=>by
      obtain⟨cN,Bd⟩:=kj eR bC
      have dS:=hH.dX l2 b2 Bd bC
      refine dS.mono (fun _ h=>Or.inl h) qf (fun _ _ h=>h) fun q2 g2 o2 hq gX=>?_
      obtain⟨RF,ty2,fr2,hh2,HU⟩:=dS.place hq gX
      have SA:g2≠g:=qY l2 b2 cN Bd bC q2 g2 o2 hq gX
      refine⟨ho g2 SA,fun hr=>⟨fun hj=>hj.elim (HU.1 hr).2.1 SA,fun l4 b4 hne4 hl4 Mg p4 g4 o4 hp4 ha4=>?_⟩⟩
      exact (HU.1 hr).2.2 l4 b4 hne4 (kj hl4 Mg).2 Mg p4 g4 o4 hp4 ha4⟩
     obtain⟨e1,e2,e3,e4,e5⟩:=aD.dT s (s.st.set l ⟨.arr,bt,1,.w,false,[]⟩)
     refine⟨_,_,fun j=>I j\/j=g,β,h,hR.grow ZO hE (fun _ _ h=>h) (by simp) (fun j hj=>hj.elim (fun h=>by rw[hz]; exact hR.au.au j h) (fun e=>by rw[hz,e]; exact uU)),?_,by rw[e3]; exact hE,e4,e5,e1,fun _ _ _=>rfl,fun _ _ _ _=>rfl⟩
     simp only[PV.Is]
     rw[Nat.mul_one] at hlen
     rw[hlen]
     refine⟨some ⟨g,0,none⟩,p.cap,rfl,hle,Nat.le_trans hle oF,fun g' o' e=>by cases e; exact EO hs bc 0 h4 fun i c hi=>lQ i c hi,fun _=>⟨g,0,rfl,.inr rfl,Nat.zero_lt_one⟩⟩
    ·exact h.elim
   ·exact h.elim
  ·exact h.elim
 ·exact h.elim
end
theorem Spec.argsP {G:Gx} {f:FuncId} {args args':List PV} {S:List aj} {rl:List Nat} {K:PV->List aj->Prop} (h:Spec G f args' S rl K) (hle:oX qq args args'):Spec G f args S rl K :=
 Spec.intro h.run.1 fun I β w vals hH hM hA=>h.run.2 I β w vals hH hM (jv (fun _ _ h=>h) hle hA)
def strK (x:PV) (q:List Int->Prop):Prop:=match x with
 | .sl n es=>n=1/\∃ l:List Int,es=l.map (PV.int .u8)/\q l
 | .nil=>q []
 | _=>False
def pstr (G:Gx) (s:aD) (o:Oper) (q:PV->aD->Prop):Prop:=match o.op with
 | .convert src dst x=>aU (G.cx.fg src) fun d=>(match d with
  | .slice e=>aU (G.cx.fg dst) fun d2=>aU (G.cx.fg e) fun d3=>(match d2,d3 with
   | .string,.int .u8=>s.ev x fun x=>strK x fun l=>q (.val (.string (strOfNums l))) s
   | _,_=>False)
  | _=>False)
 | _=>False
section
variable {w:World} {I:Nat->Prop} {β:an} {G:Gx} {s:aD}
theorem A' {l:List Int} {g o:Nat} (h:ca w I (l.map (PV.int .u8)) 1 g o):∀ i,i < l.length->w.cell? ⟨g,o+i,none⟩=some (.int .u8 (l.getD i 0)):=fun i hi=>by
 obtain⟨_,h2⟩:=ca.get h (i:=i) (e:=PV.int .u8 l[i]) (by rw[List.getElem?_map,List.getElem?_eq_getElem hi]; rfl)
 obtain⟨v,h3,h4,_⟩:=cL.get h2 (i:=0) (c:=PV.int .u8 l[i]) rfl
 simp only[PV.Is] at h4
 subst h4
 rw[List.getD_eq_getElem?_getD,List.getElem?_eq_getElem hi]
 simpa using h3
theorem cS (hG:fD G) {o:Oper} {q:PV->aD->Prop} (h:pstr G s o q):fO G s o q:=fO.intro fun I β a w hR=>by
 unfold pstr at h
 split at h
 ·rename_i src dst ox h_
  replace h:=ao h
  obtain⟨d,hd,h⟩:=h
  split at h
  ·rename_i e
   replace h:=ao h
   obtain⟨d2,Dh,h⟩:=h
   replace h:=ao h
   obtain⟨d3,RM,h⟩:=h
   split at h
   ·replace h:=aD.cd hR h
    obtain⟨x,h,hx⟩:=h
    have key:∃ l:List Int,q (.val (.string (strOfNums l))) s/\(convert src dst (a.eval ox)).run G.cx.P w = .ok (.string (strOfNums l)) w:=by
     unfold strK at h
     split at h
     ·obtain⟨rfl,l,rfl,h⟩:=h
      simp only[PV.Is] at hx
      obtain⟨ad,cap,hv,_,_,h1,h2⟩:=hx
      rw[List.length_map] at hv h2
      refine⟨l,h,?_⟩
      by_cases hl:l.length=0
      ·obtain rfl:=List.eq_nil_of_length_eq_zero hl
       rw[hv]
       cases ad with
       | none=>exact run_convert_bytes_nil w src e (hG.ok.un hd) (hG.ok.un RM) _ _ dst (hG.ok.un Dh)
       | some ad =>
        rw[run_convert_bytes_string w src dst e _ _ cap (hG.ok.un hd) (hG.ok.un RM) (hG.ok.un Dh)]
        exact (run_bytesToString (P:=G.cx.P) w ad 0 cap [] (run_loadCells_list (P:=G.cx.P) w ad [] fun j v hj=>by simp at hj)).trans rfl
      ·obtain⟨g,off,rfl,_,_⟩:=h2 hl
       rw[hv]
       exact run_convert_bytes_arg w src e (hG.ok.un hd) (hG.ok.un RM) g off l.length cap l rfl (A' (h1 g off rfl)) dst (hG.ok.un Dh)
     ·simp only[PV.Is] at hx
      refine⟨[],h,?_⟩
      rw[hx]
      exact run_convert_bytes_nil w src e (hG.ok.un hd) (hG.ok.un RM) _ _ dst (hG.ok.un Dh)
     ·exact h.elim
    obtain⟨l,h,bp⟩:=key
    have hrun2:(execOp a.eval o).run G.cx.P w = .ok (.value (.string (strOfNums l))) w:=by
     unfold execOp
     rw[h_]
     simp only[Sem.run_bind,bp,Result.andThen_ok,Sem.run_pure]
    rw[hrun2]
    exact bF.same hR h (by simp only[PV.Is]; exact⟨trivial,rfl⟩)
   ·exact h.elim
  ·exact h.elim
 ·exact h.elim
end
end Go.Proofs.YtbnoodjnpooocaaGreatDoor.Pw

/- What a law is proved with. -/
import Derived.Test.YtnbngokbamifbaaGreatDoorNi9
import Derived.Scope
set_option linter.unusedVariables false
set_option linter.unusedSimpArgs false
namespace Go.Proofs.YtnbngokbamifbaaGreatDoor.Pw
open Go Go.RowKit
structure Pin where
 D : List Nat
 l : Nat
def inL (i : Nat) (l : List Nat) : Bool:=l.any (Nat.beq i)
def depsGo (listed : Array Bool) (i : Nat) : List Oper -> Nat -> List Nat -> List Nat
 | [],_,acc=>acc
 | o :: r,j,acc=>bif !(listed.getD j true) && o.after.toList.any (fun e=>Region.binds .any e && (Nat.beq e.on i || inL e.on acc)) then depsGo listed i r (j + 1) (j :: acc) else depsGo listed i r (j + 1) acc
def okD (ops : List Oper) (listed : Array Bool) (i : Nat) (D : List Nat) : Bool :=
 D.all fun j=>!(listed.getD j false) && (match ops[j]? with
  | some o=>o.after.toList.any fun e=>Region.binds .any e && (Nat.beq e.on i || inL e.on D)
  | none=>false)
def pinned (i : Nat) : List Pin -> List Nat
 | []=>[]
 | p :: r=>bif inL i p.D then pinned i r else p.l :: pinned i r
def unpinP (i : Nat) (pins : List Pin) : List Pin:=pins.filter fun p=>!inL i p.D
def Md.isW : Md -> Bool
 | .w=>true
 | _=>false
def pinM (b : Bool) (m : Md) : Md:=match b,m with
 | true,.w=>.p
 | _,m=>m
def unpinM (b : Bool) (m : Md) : Md:=match b,m with
 | true,.p=>.w
 | _,m=>m
def mapM (f : Bool -> Md -> Md) (us : List Nat) : Nat -> List PBlk -> List PBlk
 | _,[]=>[]
 | j,⟨k,ty,n,m,live,cs⟩ :: st=>⟨k,ty,n,f (inL j us) m,live,cs⟩ :: mapM f us (j + 1) st
def frB : List PBlk -> (List PBlk -> Prop) -> Prop
 | [],q=>q []
 | ⟨k,ty,n,m,live,cs⟩ :: st,q=>match m with
  | .w=>frB st fun st=>q (⟨k,ty,n,.w,live,cs⟩ :: st)
  | .p=>frB st fun st=>q (⟨k,ty,n,.p,live,cs⟩ :: st)
  | .r=>frB st fun st=>q (⟨k,ty,n,.r,live,cs⟩ :: st)
def wsOf (st : List PBlk) (ls : List Nat) : List Nat:=ls.filter fun j=>match st[j]? with
 | some b=>b.live && b.m.isW
 | none=>false
def okP (st : List PBlk) (ls : List Nat) : Bool:=ls.all fun j=>match st[j]? with
 | some b=>b.live
 | none=>false
def prun1 (G : Gx) (ops : List Oper) (s : PSt) (i : Nat) (o : Oper) (pins : List Pin) (K : PSt -> Prop) : Prop :=
 pguard ops s o (fun s=>match pinned i pins with
  | []=>pop G s o fun v s2=>s2.put o.dst v K
  | ls=>frB (mapM pinM (wsOf s.st ls) 0 s.st) fun st=>pop G (s.store st) o fun v s2=>bif okP s2.st ls then frB (mapM unpinM (wsOf s.st ls) 0 s2.st) fun st2=>(s2.store st2).put o.dst v K else False)
  (fun s=>s.put o.dst (.tup []) K)
def pureTake (ops : Array Oper) (listed : Array Bool) (i : Nat) : Bool:=match ops[i]? with
 | some o=>Ev.pureOp o.op && Region.free .any ops listed i
 | none=>false
def loadTake (ops : Array Oper) (listed : Array Bool) (i : Nat) : Bool:=match ops[i]? with
 | some o=>loadOp o.op && Region.free .any ops listed i
 | none=>false
def addPin (D : List Nat) (x : PV) (pins : List Pin) : List Pin:=match x.blk with
 | some l=>⟨D,l⟩ :: pins
 | none=>pins
section
variable {w w' : World} {I I' : Nat -> Prop} {β β' : Places} {G : Gx} {s : PSt} {a : Act} {st st' : List PBlk} {ops : Array Oper}
theorem frB_ok : ∀ {st : List PBlk} {q : List PBlk -> Prop},frB st q -> q st
 | [],_,h=>h
 | ⟨k,ty,n,m,live,cs⟩ :: st,q,h=>by
  unfold frB at h
  cases m <;> exact frB_ok (st:=st) h
theorem mapM_get (f : Bool -> Md -> Md) (us : List Nat) : ∀ (st : List PBlk) (j l : Nat),(mapM f us j st)[l]? = (st[l]?).map fun b=>{ b with m:=f (inL (j + l) us) b.m }
 | [],j,l=>by simp [mapM]
 | ⟨k,ty,n,m,live,cs⟩ :: st,j,0=>by simp [mapM]
 | ⟨k,ty,n,m,live,cs⟩ :: st,j,l + 1=>by
  simp only [mapM,List.getElem?_cons_succ]
  rw [mapM_get f us st (j + 1) l,show j + 1 + l = j + (l + 1) by omega]
theorem mapM_len (f : Bool -> Md -> Md) (us : List Nat) : ∀ (st : List PBlk) (j : Nat),(mapM f us j st).length = st.length
 | [],_=>rfl
 | ⟨_,_,_,_,_,_⟩ :: st,j=>by simp [mapM,mapM_len f us st]
theorem pinM_r {b : Bool} {m : Md} : pinM b m = .r ↔ m = .r:=by cases b <;> cases m <;> simp [pinM]
theorem pinM_w {b : Bool} {m : Md} (h : pinM b m = .w) : m = .w:=by cases b <;> cases m <;> simp_all [pinM]
theorem unpinM_r {b : Bool} {m : Md} : unpinM b m = .r ↔ m = .r:=by cases b <;> cases m <;> simp [unpinM]
theorem HeapOk.modes (h : HeapOk I β st w) {f : Bool -> Md -> Md} {us : List Nat} (hf : ∀ b m,f b m = .r ↔ m = .r) : HeapOk I β (mapM f us 0 st) w:=by
 refine ⟨fun l hl=>h.far l (by rw [mapM_len] at hl; exact hl),fun l b' hl hlive=>?_⟩
 rw [mapM_get,Option.map_eq_some_iff] at hl
 obtain ⟨b,hb,rfl⟩:=hl
 have hb0:=h.blk l b hb hlive
 obtain ⟨p,hp,hk⟩:=hb0
 have own : ∀ {g : Nat} {fr : Nat × Nat},Own I β st l g fr b -> Own I β (mapM f us 0 st) l g fr { b with m:=f (inL (0 + l) us) b.m }:=fun ho=>by
  refine ⟨fun hr=>?_,fun hr=>ho.2 ((hf _ _).1 hr)⟩
  obtain ⟨h1,h2,h3⟩:=ho.1 fun e=>hr ((hf _ _).2 e)
  refine ⟨h1,h2,fun l' b' hne hl' hlive'=>?_⟩
  rw [mapM_get,Option.map_eq_some_iff] at hl'
  obtain ⟨b2,hb2,rfl⟩:=hl'
  exact h3 l' b2 hne hb2 hlive'
 refine ⟨p,hp,?_⟩
 simp only
 split at hk
 ·rename_i hkk
  obtain ⟨g,o,arr,ty,fr,h1,h2,h3,ho⟩:=hk
  rw [hkk]
  exact ⟨g,o,arr,ty,fr,h1,h2,h3,own ho⟩
 ·rename_i hkk
  obtain ⟨g,arr,fr,h1,h2,h3,ho,h4⟩:=hk
  rw [hkk]
  exact ⟨g,arr,fr,h1,h2,h3,own ho,h4⟩
 ·rename_i hkk
  obtain ⟨h1,hk⟩:=hk
  rw [hkk]
  refine ⟨h1,?_⟩
  rcases hk with h | ⟨g,arr,fr,h2,h3,h4,ho,h5⟩
  ·exact .inl h
  ·exact .inr ⟨g,arr,fr,h2,h3,h4,own ho,h5⟩
 ·rename_i hkk
  obtain ⟨g,h1,h2,ho⟩:=hk
  rw [hkk]
  exact ⟨g,h1,h2,own ho⟩
theorem inL_iff {i : Nat} {l : List Nat} : inL i l = true ↔ i ∈ l:=by
 unfold inL
 rw [List.any_eq_true]
 exact ⟨fun ⟨x,hx,e⟩=>by rw [Nat.eq_of_beq_eq_true e]; exact hx,fun h=>⟨i,h,Nat.beq_refl i⟩⟩
def PinsOk (pins : List Pin) (ys : List PinY) (I : Nat -> Prop) (β : Places) (st : List PBlk) (w : World) : Prop :=
 ∀ y ∈ ys,(∀ w2,y.Y w2) \/ ∃ g,(∀ w2,y.Y w2 ↔ w2.heap[g]? = w.heap[g]?) /\ g < w.heap.size /\ (I g \/ ∃ p ∈ pins,p.D = y.D /\ ∃ b pl o,st[p.l]? = some b /\ b.live = true /\ β p.l = some pl /\ pl.a = some (g,o))
theorem pinned_mem {i : Nat} {p : Pin} : ∀ {pins : List Pin},p ∈ pins -> inL i p.D = false -> p.l ∈ pinned i pins
 | q :: pins,h,hd=>by
  unfold pinned
  rcases List.mem_cons.1 h with rfl | h
  ·rw [hd]; exact List.mem_cons_self
  ·cases inL i q.D
   ·exact List.mem_cons_of_mem _ (pinned_mem h hd)
   ·exact pinned_mem h hd
theorem unpinP_mem {i : Nat} {p : Pin} {pins : List Pin} (h : p ∈ pins) (hd : inL i p.D = false) : p ∈ unpinP i pins:=by
 unfold unpinP; rw [List.mem_filter]; exact ⟨h,by simp [hd]⟩
theorem unpin_mem {i : Nat} {y : PinY} {ys : List PinY} (h : y ∈ unpin i ys) : y ∈ ys /\ inL i y.D = false:=by
 unfold unpin at h; rw [List.mem_filter] at h; exact ⟨h.1,by simpa [inL] using h.2⟩
theorem PinsOk.unpin {i : Nat} {pins : List Pin} {ys : List PinY} (h : PinsOk pins ys I β st w) : PinsOk (unpinP i pins) (unpin i ys) I β st w:=fun y hy=>by
 obtain ⟨hy,hd⟩:=unpin_mem hy
 rcases h y hy with h | ⟨g,h1,h2,h3⟩
 ·exact .inl h
 ·exact .inr ⟨g,h1,h2,h3.imp id fun ⟨p,hp,he,h4⟩=>⟨p,unpinP_mem hp (by rw [he]; exact hd),he,h4⟩⟩
theorem prun1_ok (hG : GOk G) {i : Nat} {o : Oper} {pins : List Pin} {ys : List PinY} {K : PSt -> Prop} (h : prun1 G ops.toList s i o pins K) (hR : Rel G I β s a w) (hp : PinsOk pins ys I β s.st w) :
  Ev.Does G.cx.P ops o a w fun v w'=>∃ s' I' β',K s' /\ Rel G I' β' s' (a.put o.dst v) w' /\ Goes I β s w I' β' s' w' /\ (∀ y ∈ unpin i ys,y.Y w') /\ PinsOk (unpinP i pins) (unpin i ys) I' β' s'.st w':=by
 unfold prun1 at h
 rcases pguard_ok hR h with ⟨hw,s1,h1,hs1,hR1⟩ | ⟨hw,s1,h1,hs1,hR1⟩
 ·refine .inl ⟨hw,?_⟩
  split at h1
  ·rename_i hls
   refine Ev.resE_mono ?_ (pop_ok hG hR1 h1)
   rintro v w' ⟨x,s2,I2,β2,h2,hR2,hx,hE,e1,e2,e3,hlow,_⟩
   obtain ⟨s3,h3,hs3,hr3⟩:=PSt.put_ok (G:=G) h2
   have hgo : Goes I β s w I2 β2 s3 w':=((Goes.same hs1).trans ⟨hE,e1,e2,e3,hlow⟩).trans (Goes.same hs3)
   have hkeep : ∀ y ∈ unpin i ys,y.Y w' /\ ((∀ w2,y.Y w2) \/ ∃ g,(∀ w2,y.Y w2 ↔ w2.heap[g]? = w'.heap[g]?) /\ g < w'.heap.size /\ I2 g):=fun y hy=>by
    obtain ⟨hy,hd⟩:=unpin_mem hy
    rcases hp y hy with h | ⟨g,h1,h2,h3⟩
    ·exact ⟨h _,.inl h⟩
    ·rcases h3 with h3 | ⟨p,hpm,he,_⟩
     ·have hs:=hgo.ext.keeps hR.heap hR.imm.imm g h3
      exact ⟨(h1 w').2 hs,.inr ⟨g,fun w2=>by rw [h1,hs],Nat.lt_of_lt_of_le h2 hgo.ext.size,hgo.ext.imm g h3⟩⟩
     ·have:=pinned_mem (i:=i) hpm (by rw [he]; exact hd)
      rw [hls] at this
      cases this
   exact ⟨s3,I2,β2,h3,hr3 _ _ _ _ v hR2 hx,hgo,fun y hy=>(hkeep y hy).1,fun y hy=>(hkeep y hy).2.imp id fun ⟨g,a1,a2,a3⟩=>⟨g,a1,a2,.inl a3⟩⟩
  ·rename_i ls hls
   replace h1:=frB_ok h1
   have hmd:=hR1.heap.modes (f:=pinM) (us:=wsOf s1.st (pinned i pins)) (fun b m=>pinM_r)
   have hEp : Ext I β s1.st w I β (mapM pinM (wsOf s1.st (pinned i pins)) 0 s1.st) w:=⟨rfl,rfl,rfl,Nat.le_refl _,fun _ _ _=>rfl,fun g hg ⟨l,b',p,o',g1,g2,g3,g4,g5⟩=>by
    rw [mapM_get,Option.map_eq_some_iff] at g1
    obtain ⟨b,hb,rfl⟩:=g1
    refine ⟨l,b,p,o',hb,g2,?_,g4,g5⟩
    simp only at g3
    exact pinM_w g3,fun _ h=>h,fun _ _ h=>.inl h⟩
   have hRp:=hR1.grow hmd hEp (fun _ _ h=>h) (by rw [mapM_len]; exact Nat.le_refl _) hR1.imm.imm
   refine Ev.resE_mono ?_ (pop_ok hG hRp h1)
   rintro v w' ⟨x,s2,I2,β2,h2,hR2,hx,hE,e1,e2,e3,hlow,hpn⟩
   obtain ⟨c1,c2,c3,c4,c5⟩:=PSt.store_eq s1 (mapM pinM (wsOf s1.st (pinned i pins)) 0 s1.st)
   rw [c3] at hE hpn
   rw [c4] at e1 hlow
   rw [c5] at e2 hlow
   rw [c1] at e3
   replace h2:=bif_ok h2
   obtain ⟨hokp,h2⟩:=h2
   replace h2:=frB_ok h2
   have hmu:=hR2.heap.modes (f:=unpinM) (us:=wsOf s1.st (pinned i pins)) (fun b m=>unpinM_r)
   have hus : ∀ l ∈ wsOf s1.st (pinned i pins),∃ b,s1.st[l]? = some b /\ b.m = .w /\ b.live = true:=fun l hl=>by
    unfold wsOf at hl
    rw [List.mem_filter] at hl
    have:=hl.2
    cases hb : s1.st[l]? with
    | none=>rw [hb] at this; cases this
    | some b =>
     rw [hb] at this
     simp only [Bool.and_eq_true] at this
     refine ⟨b,rfl,?_,this.1⟩
     have:=this.2
     cases hm : b.m <;> simp only [hm,Md.isW] at this <;> first | rfl | cases this
   have hfix : ∀ l b,s1.st[l]? = some b -> b.m = .w -> l ∈ wsOf s1.st (pinned i pins) -> β2 l = β l:=fun l b hb hm hl=>by
    refine hpn l { b with m:=.p } ?_ rfl
    rw [mapM_get,hb,Nat.zero_add,inL_iff.2 hl,Option.map_some,hm]; rfl
   have hE2 : Ext I β s1.st w I2 β2 (mapM unpinM (wsOf s1.st (pinned i pins)) 0 s2.st) w':=by
    have hE1:=hEp.trans hE
    refine ⟨hE1.os,hE1.tape,hE1.output,hE1.size,hE1.block,fun g hg ⟨l,b',p,o',g1,g2,g3,g4,g5⟩=>?_,hE1.imm,hE1.new⟩
    rw [mapM_get,Option.map_eq_some_iff] at g1
    obtain ⟨b,hb,rfl⟩:=g1
    simp only [Nat.zero_add] at g3
    cases hin : inL l (wsOf s1.st (pinned i pins)) with
    | false =>
     rw [hin] at g3
     refine hE1.wr g hg ⟨l,b,p,o',hb,g2,?_,g4,g5⟩
     cases hm : b.m <;> rw [hm] at g3 <;> first | rfl | cases g3
    | true =>
     have hl:=inL_iff.1 hin
     obtain ⟨b0,hb0,hm0,hlive0⟩:=hus l hl
     exact ⟨l,b0,p,o',hb0,hlive0,hm0,by rw [← hfix l b0 hb0 hm0 hl]; exact g4,g5⟩
   have hkeep : ∀ y ∈ unpin i ys,y.Y w' /\ ((∀ w2,y.Y w2) \/ ∃ g,(∀ w2,y.Y w2 ↔ w2.heap[g]? = w'.heap[g]?) /\ g < w'.heap.size /\ (I2 g \/ ∃ p ∈ unpinP i pins,p.D = y.D /\ ∃ b pl o,(mapM unpinM (wsOf s1.st (pinned i pins)) 0 s2.st)[p.l]? = some b /\ b.live = true /\ β2 p.l = some pl /\ pl.a = some (g,o))):=fun y hy=>by
    obtain ⟨hy,hd⟩:=unpin_mem hy
    rcases hp y hy with h | ⟨g,g1,g2,g3⟩
    ·exact ⟨h _,.inl h⟩
    ·have byI : I g -> y.Y w' /\ ((∀ w2,y.Y w2) \/ ∃ g,(∀ w2,y.Y w2 ↔ w2.heap[g]? = w'.heap[g]?) /\ g < w'.heap.size /\ (I2 g \/ ∃ p ∈ unpinP i pins,p.D = y.D /\ ∃ b pl o,(mapM unpinM (wsOf s1.st (pinned i pins)) 0 s2.st)[p.l]? = some b /\ b.live = true /\ β2 p.l = some pl /\ pl.a = some (g,o))):=fun hI=>by
      have hs:=hE2.keeps hR1.heap hR1.imm.imm g hI
      exact ⟨(g1 w').2 hs,.inr ⟨g,fun w2=>by rw [g1,hs],Nat.lt_of_lt_of_le g2 hE2.size,.inl (hE2.imm g hI)⟩⟩
     rcases g3 with g3 | ⟨p,hpm,he,b,pl,o',hb,hlive,hpl,hpa⟩
     ·exact byI g3
     ·rw [← hs1.st] at hb
      have hb0:=hR1.heap.blk _ b hb hlive
      obtain ⟨arr,ty,fr,hh,ho⟩:=hb0.place hpl hpa
      by_cases hmr : b.m = .r
      ·exact byI (ho.2 hmr)
      ·have hlm:=pinned_mem (i:=i) hpm (by rw [he]; exact hd)
       have hpin : ∃ b',(mapM pinM (wsOf s1.st (pinned i pins)) 0 s1.st)[p.l]? = some b' /\ b'.m = .p /\ b'.live = true:=by
        refine ⟨{ b with m:=pinM (inL (0 + p.l) (wsOf s1.st (pinned i pins))) b.m },by rw [mapM_get,hb]; rfl,?_,hlive⟩
        simp only [Nat.zero_add]
        cases hm : b.m with
        | r=>exact absurd hm hmr
        | p=>cases inL p.l (wsOf s1.st (pinned i pins)) <;> rfl
        | w =>
         have : p.l ∈ wsOf s1.st (pinned i pins):=by unfold wsOf; rw [List.mem_filter,hb]; exact ⟨hlm,by simp only [hm,hlive]; rfl⟩
         rw [inL_iff.2 this]; rfl
       obtain ⟨b',hb',hm',hlive'⟩:=hpin
       have hb'0:=hmd.blk _ b' hb' hlive'
       obtain ⟨_,_,fr',_,ho'⟩:=hb'0.place hpl hpa
       have hnw : ¬ Wr β (mapM pinM (wsOf s1.st (pinned i pins)) 0 s1.st) g:=fun ⟨l2,b2,p2,o2,k1,k2,k3,k4,k5⟩=>by
        by_cases hne : l2 = p.l
        ·subst hne
         rw [hb'] at k1; cases k1; rw [hm'] at k3; cases k3
        ·exact (ho'.1 (by rw [hm']; decide)).2.2 l2 b2 hne k1 k2 p2 g o2 k4 k5 rfl
       have hs : w'.heap[g]? = w.heap[g]?:=hE.block g g2 hnw
       have hβ2 : β2 p.l = some pl:=(hpn _ b' hb' hm').trans hpl
       have hlv : ∃ b2,s2.st[p.l]? = some b2 /\ b2.live = true:=by
        unfold okP at hokp
        rw [List.all_eq_true] at hokp
        have:=hokp _ hlm
        cases hb2 : s2.st[p.l]? with
        | none=>rw [hb2] at this; cases this
        | some b2=>rw [hb2] at this; exact ⟨b2,rfl,this⟩
       obtain ⟨b2,hb2,hlive2⟩:=hlv
       refine ⟨(g1 w').2 hs,.inr ⟨g,fun w2=>by rw [g1,hs],Nat.lt_of_lt_of_le g2 hE2.size,.inr ⟨p,unpinP_mem hpm (by rw [he]; exact hd),he,{ b2 with m:=unpinM (inL (0 + p.l) (wsOf s1.st (pinned i pins))) b2.m },pl,o',by rw [mapM_get,hb2]; rfl,hlive2,hβ2,hpa⟩⟩⟩
   have hEu : Ext I2 β2 s2.st w' I2 β2 (mapM unpinM (wsOf s1.st (pinned i pins)) 0 s2.st) w' -> True:=fun _=>trivial
   clear hEu
   have hR3 : Rel G I2 β2 (s2.store (mapM unpinM (wsOf s1.st (pinned i pins)) 0 s2.st)) a w':=by
    obtain ⟨d1,d2,d3,d4,d5⟩:=PSt.store_eq s2 (mapM unpinM (wsOf s1.st (pinned i pins)) 0 s2.st)
    exact ⟨by rw [d1]; exact hR2.small,hR2.defers,by rw [d1]; exact hR2.size,by rw [d4,d3,mapM_len]; exact hR2.base,by rw [d2]; exact hR2.get,by rw [d3]; exact hmu,hR2.imm⟩
   obtain ⟨s3,h3,hs3,hr3⟩:=PSt.put_ok (G:=G) h2
   obtain ⟨d1,d2,d3,d4,d5⟩:=PSt.store_eq s2 (mapM unpinM (wsOf s1.st (pinned i pins)) 0 s2.st)
   refine ⟨s3,I2,β2,h3,hr3 _ _ _ _ v hR3 hx,(Goes.same hs1).trans ⟨by rw [hs3.st,d3]; exact hE2,by rw [hs3.base,d4]; exact e1,by rw [hs3.rl,d5]; exact e2,by rw [hs3.n,d1]; exact e3,hlow⟩,fun y hy=>(hkeep y hy).1,fun y hy=>?_⟩
   rw [hs3.st,d3]
   exact (hkeep y hy).2
 ·obtain ⟨s3,h3,hs3,hr3⟩:=PSt.put_ok (G:=G) h1
  refine .inr ⟨hw,s3,I,β,h3,hr3 _ _ _ _ _ hR1 Is.undef,(Goes.same hs1).trans (Goes.same hs3),fun y hy=>?_,?_⟩
  ·obtain ⟨hy,_⟩:=unpin_mem hy
   rcases hp y hy with h | ⟨g,h1,_⟩
   ·exact h w
   ·exact (h1 w).2 rfl
  ·rw [hs3.st,hs1.st]; exact hp.unpin
theorem AnyP.addTrue {P : Program} {Q : Exit -> Act -> World -> Prop} {i : Nat} : ∀ (f : Nat) (l : Array Bool) (a : Act) (S : World -> Prop) (pins : List PinY),AnyP P ops Q f l a S pins -> AnyP P ops Q f l a S (⟨i,[],fun _=>True⟩ :: pins)
 | 0,_,_,_,_,h=>h
 | f + 1,l,a,S,pins,h=>by
  have hun : ∀ j,unpin j (⟨i,[],fun _=>True⟩ :: pins) = ⟨i,[],fun _=>True⟩ :: unpin j pins:=fun j=>by
   unfold unpin; rw [List.filter_cons,if_pos (by simp)]
  refine ⟨h.1,fun j hj o ho=>?_⟩
  obtain ⟨h0,h1⟩:=h.2 j hj o ho
  rw [hun]
  refine ⟨fun hl=>?_,fun hl w hw=>does_mono (fun v w' ⟨S',h2,h3,h4⟩=>⟨S',fun p hp=>?_,h3,AnyP.addTrue f _ _ _ _ h4⟩) (h1 hl w hw)⟩
  ·obtain ⟨v,hy,hn⟩:=h0 hl
   exact ⟨v,hy,AnyP.addTrue f _ _ _ _ hn⟩
  ·rcases List.mem_cons.1 hp with rfl | hp
   ·exact fun _ _=>trivial
   ·exact h2 p hp
theorem resE_exists {P : Program} {K : Value -> World -> Prop} {r : Result Next} (h : Ev.resE P K r) : ∃ v w,K v w:=by
 cases r with
 | ok n w =>
  cases n <;> simp only [Ev.resE] at h
  case value u=>exact ⟨_,_,h⟩
  case skip=>exact ⟨_,_,h⟩
  case enter f args =>
   obtain ⟨e,w',fr,⟨u,_,hu⟩,_⟩:=h []
   exact ⟨_,_,hu⟩
 | halt x w=>exact h.elim
theorem does_exists {P : Program} {o : Oper} {K : Value -> World -> Prop} (h : Ev.Does P ops o a w K) : ∃ v w',K v w':=by
 rcases h with ⟨_,h⟩ | ⟨_,h⟩
 ·exact resE_exists h
 ·exact ⟨_,_,h⟩
theorem AnyP.ends {P : Program} {Q : Exit -> Act -> World -> Prop} : ∀ (f : Nat) (l : Array Bool) (a : Act) (S : World -> Prop) (pins : List PinY) (w : World),AnyP P ops Q f l a S pins -> S w -> ∃ a' w',Q .normal a' w'
 | 0,l,a,S,_,w,h,hw=>⟨a,w,h.2 w hw⟩
 | f + 1,l,a,S,pins,w,h,hw=>by
  cases hr : Region.ready .any ops l with
  | nil=>exact ⟨a,w,h.1 hr w hw⟩
  | cons i r =>
   have hi : i ∈ Region.ready .any ops l:=by rw [hr]; exact List.mem_cons_self
   obtain ⟨o,ho⟩:=Ev.ready_op hi
   obtain ⟨h0,h1⟩:=h.2 i hi o ho
   cases he : eff o.op with
   | false =>
    obtain ⟨v,_,hn⟩:=h0 he
    exact AnyP.ends f _ _ S _ w hn hw
   | true =>
    obtain ⟨v,w',S',_,hS',hn⟩:=does_exists (h1 he w hw)
    exact AnyP.ends f _ _ S' _ w' hn hS'
theorem okD_ok {listed : Array Bool} {i : Nat} {D : List Nat} (h : okD ops.toList listed i D = true) : ∀ j ∈ D,listed.getD j false = false /\ ∃ oj,ops[j]? = some oj /\ ∃ e ∈ oj.after,Region.binds .any e = true /\ (e.on = i \/ e.on ∈ D):=by
 intro j hj
 unfold okD at h
 rw [List.all_eq_true] at h
 have:=h j hj
 simp only [Bool.and_eq_true,Bool.not_eq_true'] at this
 refine ⟨this.1,?_⟩
 have h2:=this.2
 cases ho : ops.toList[j]? with
 | none=>rw [ho] at h2; cases h2
 | some oj =>
  rw [ho] at h2
  simp only [List.any_eq_true,Bool.and_eq_true,Bool.or_eq_true] at h2
  obtain ⟨e,he,hb,h3⟩:=h2
  exact ⟨oj,by simpa using ho,e,by simpa using he,hb,h3.imp Nat.eq_of_beq_eq_true inL_iff.1⟩
end
end Go.Proofs.YtnbngokbamifbaaGreatDoor.Pw
namespace Go.Proofs.YtnbngokbamifbaaGreatDoor.Pw
open Go Go.RowKit
mutual
inductive Plan where
 | done
 | pure (i : Nat) (r : Plan)
 | load (i : Nat) (D : List Nat) (r : Plan)
 | eff (i : Nat) (r : Plan) (more : Plans)
inductive Plans where
 | nil
 | cons (j : Nat) (r : Plan) (more : Plans)
 | alt (j : Nat) (r : Plan) (more : Plans)
 | sub (j : Nat) (r : Plan) (more : Plans)
end
def natsB : List Nat -> List Nat -> Bool
 | [],[]=>true
 | a :: l,b :: m=>Nat.beq a b && natsB l m
 | _,_=>false
def effAt (ops : Array Oper) (i : Nat) : Bool:=match ops[i]? with
 | some o=>eff o.op
 | none=>false
def plansB (chk : Nat -> Plan -> Bool) : List Nat -> Plans -> Bool
 | [],.nil=>true
 | j :: l,.cons k r ms=>Nat.beq j k && chk j r && plansB chk l ms
 | j :: l,.alt k r ms=>Nat.beq j k && chk j r && plansB chk l ms
 | j :: l,.sub k r ms=>Nat.beq j k && chk j r && plansB chk l ms
 | _,_=>false
def planB (ops : Array Oper) : Nat -> Array Bool -> Plan -> Bool
 | _,listed,.done=>(Region.ready .any ops listed).isEmpty
 | 0,_,_=>false
 | fuel + 1,listed,.pure i r=>(match Ev.firstOf (pureTake ops listed) (Region.ready .any ops listed) with
  | some k=>Nat.beq k i && planB ops fuel (listed.setIfInBounds i true) r
  | none=>false)
 | fuel + 1,listed,.load i D r=>(match Ev.firstOf (loadTake ops listed) (Region.ready .any ops listed) with
  | some k=>Nat.beq k i && natsB D (depsGo listed i ops.toList 0 []) && okD ops.toList listed i D && planB ops fuel (listed.setIfInBounds i true) r
  | none=>false)
 | fuel + 1,listed,.eff i r ms=>(match Region.ready .any ops listed with
  | i0 :: more=>Nat.beq i0 i && effAt ops i && more.all (effAt ops) && planB ops fuel (listed.setIfInBounds i true) r && plansB (fun j r=>planB ops fuel (listed.setIfInBounds j true) r) more ms
  | []=>false)
def Sub (G : Gx) (s s' : PSt) : Prop:=∀ I β a w,Rel G I β s a w -> ∃ I' β',Rel G I' β' s' a w /\ Goes I β s w I' β' s' w
mutual
def runPlan (G : Gx) (ops : List Oper) : Plan -> PSt -> List Pin -> (PSt -> Prop) -> Prop
 | .done,s,_,K=>K s
 | .pure i r,s,pins,K=>need ops[i]? fun o=>pguard ops s o (fun s=>ppure G.cx s o.op fun v=>s.put o.dst v fun s=>runPlan G ops r s pins K) (fun s=>s.put o.dst (.tup []) fun s=>runPlan G ops r s pins K)
 | .load i D r,s,pins,K=>need ops[i]? fun o=>pguard ops s o (fun s=>match o.op with
   | .load t ad=>s.ev ad fun x=>pload G s.st t x fun v=>s.put o.dst v fun s=>runPlan G ops r s (addPin D x pins) K
   | _=>False) (fun s=>s.put o.dst (.tup []) fun s=>runPlan G ops r s pins K)
 | .eff i r ms,s,pins,K=>need ops[i]? fun o=>match ms with
  | .nil=>prun1 G ops s i o pins fun s1=>runPlan G ops r s1 (unpinP i pins) K
  | .cons j r' ms'=>prun1 G ops s i o pins fun s1=>runPlan G ops r s1 (unpinP i pins) fun sf=>K sf /\ (need ops[j]? fun o=>prun1 G ops s j o pins fun s2=>runPlan G ops r' s2 (unpinP j pins) fun sf2=>sf2 = sf) /\ runPlans G ops ms' s pins sf
  | .sub j r' ms'=>prun1 G ops s i o pins fun s1=>runPlan G ops r s1 (unpinP i pins) fun sf=>∃ sf0,Sub G sf sf0 /\ K sf0 /\ (need ops[j]? fun o=>prun1 G ops s j o pins fun s2=>runPlan G ops r' s2 (unpinP j pins) fun sf2=>Sub G sf2 sf0) /\ runSubs G ops ms' s pins sf0
  | .alt j r' ms'=>(prun1 G ops s i o pins fun s1=>runPlan G ops r s1 (unpinP i pins) K) /\ (need ops[j]? fun o=>prun1 G ops s j o pins fun s2=>runPlan G ops r' s2 (unpinP j pins) K) /\ runAlts G ops ms' s pins K
def runPlans (G : Gx) (ops : List Oper) : Plans -> PSt -> List Pin -> PSt -> Prop
 | .nil,_,_,_=>True
 | .cons j r ms,s,pins,sf=>(need ops[j]? fun o=>prun1 G ops s j o pins fun s2=>runPlan G ops r s2 (unpinP j pins) fun sf2=>sf2 = sf) /\ runPlans G ops ms s pins sf
 | .alt _ _ _,_,_,_=>False
 | .sub _ _ _,_,_,_=>False
def runSubs (G : Gx) (ops : List Oper) : Plans -> PSt -> List Pin -> PSt -> Prop
 | .nil,_,_,_=>True
 | .sub j r ms,s,pins,sf=>(need ops[j]? fun o=>prun1 G ops s j o pins fun s2=>runPlan G ops r s2 (unpinP j pins) fun sf2=>Sub G sf2 sf) /\ runSubs G ops ms s pins sf
 | .cons _ _ _,_,_,_=>False
 | .alt _ _ _,_,_,_=>False
def runAlts (G : Gx) (ops : List Oper) : Plans -> PSt -> List Pin -> (PSt -> Prop) -> Prop
 | .nil,_,_,_=>True
 | .alt j r ms,s,pins,K=>(need ops[j]? fun o=>prun1 G ops s j o pins fun s2=>runPlan G ops r s2 (unpinP j pins) K) /\ runAlts G ops ms s pins K
 | .cons _ _ _,_,_,_=>False
 | .sub _ _ _,_,_,_=>False
end
section
variable {w w' : World} {I I' : Nat -> Prop} {β β' : Places} {G : Gx} {s : PSt} {a : Act} {st st' : List PBlk} {ops : Array Oper}
theorem plansB_mem {chk : Nat -> Plan -> Bool} : ∀ {l : List Nat} {ms : Plans},plansB chk l ms = true -> ∀ {pins : List Pin} {sf : PSt},runPlans G ops.toList ms s pins sf -> ∀ j ∈ l,∃ r,chk j r = true /\ need ops.toList[j]? fun o=>prun1 G ops.toList s j o pins fun s2=>runPlan G ops.toList r s2 (unpinP j pins) fun sf2=>sf2 = sf
 | [],_,_,_,_,_,_,hj=>by cases hj
 | i :: l,.nil,h,_,_,_,_,_=>by cases h
 | i :: l,.alt k r ms,h,pins,sf,hr,j,hj=>by unfold runPlans at hr; exact hr.elim
 | i :: l,.sub k r ms,h,pins,sf,hr,j,hj=>by unfold runPlans at hr; exact hr.elim
 | i :: l,.cons k r ms,h,pins,sf,hr,j,hj=>by
  simp only [plansB,Bool.and_eq_true] at h
  obtain ⟨⟨h1,h2⟩,h3⟩:=h
  obtain rfl:=Nat.eq_of_beq_eq_true h1
  unfold runPlans at hr
  rcases List.mem_cons.1 hj with rfl | hj
  ·exact ⟨r,h2,hr.1⟩
  ·exact plansB_mem h3 hr.2 j hj
theorem plansB_memA {chk : Nat -> Plan -> Bool} : ∀ {l : List Nat} {ms : Plans},plansB chk l ms = true -> ∀ {pins : List Pin} {K : PSt -> Prop},runAlts G ops.toList ms s pins K -> ∀ j ∈ l,∃ r,chk j r = true /\ need ops.toList[j]? fun o=>prun1 G ops.toList s j o pins fun s2=>runPlan G ops.toList r s2 (unpinP j pins) K
 | [],_,_,_,_,_,_,hj=>by cases hj
 | i :: l,.nil,h,_,_,_,_,_=>by cases h
 | i :: l,.cons k r ms,h,pins,K,hr,j,hj=>by unfold runAlts at hr; exact hr.elim
 | i :: l,.sub k r ms,h,pins,K,hr,j,hj=>by unfold runAlts at hr; exact hr.elim
 | i :: l,.alt k r ms,h,pins,K,hr,j,hj=>by
  simp only [plansB,Bool.and_eq_true] at h
  obtain ⟨⟨h1,h2⟩,h3⟩:=h
  obtain rfl:=Nat.eq_of_beq_eq_true h1
  unfold runAlts at hr
  rcases List.mem_cons.1 hj with rfl | hj
  ·exact ⟨r,h2,hr.1⟩
  ·exact plansB_memA h3 hr.2 j hj
theorem plansB_memS {chk : Nat -> Plan -> Bool} : ∀ {l : List Nat} {ms : Plans},plansB chk l ms = true -> ∀ {pins : List Pin} {sf : PSt},runSubs G ops.toList ms s pins sf -> ∀ j ∈ l,∃ r,chk j r = true /\ need ops.toList[j]? fun o=>prun1 G ops.toList s j o pins fun s2=>runPlan G ops.toList r s2 (unpinP j pins) fun sf2=>Sub G sf2 sf
 | [],_,_,_,_,_,_,hj=>by cases hj
 | i :: l,.nil,h,_,_,_,_,_=>by cases h
 | i :: l,.cons k r ms,h,pins,sf,hr,j,hj=>by unfold runSubs at hr; exact hr.elim
 | i :: l,.alt k r ms,h,pins,sf,hr,j,hj=>by unfold runSubs at hr; exact hr.elim
 | i :: l,.sub k r ms,h,pins,sf,hr,j,hj=>by
  simp only [plansB,Bool.and_eq_true] at h
  obtain ⟨⟨h1,h2⟩,h3⟩:=h
  obtain rfl:=Nat.eq_of_beq_eq_true h1
  unfold runSubs at hr
  rcases List.mem_cons.1 hj with rfl | hj
  ·exact ⟨r,h2,hr.1⟩
  ·exact plansB_memS h3 hr.2 j hj
theorem effAt_ok {i : Nat} {o : Oper} (ho : ops[i]? = some o) (h : effAt ops i = true) : eff o.op = true:=by unfold effAt at h; rw [ho] at h; exact h
theorem runPlan_ok (hG : GOk G) (hsel : Region.noSelect ops = true) : ∀ (fuel : Nat) (p : Plan) (Q : Exit -> Act -> World -> Prop) (l : Array Bool) (s : PSt) (a : Act) (I : Nat -> Prop) (β : Places) (w : World) (pins : List Pin) (ys : List PinY) (K : PSt -> Prop),
  planB ops fuel l p = true -> runPlan G ops.toList p s pins K -> Rel G I β s a w -> PinsOk pins ys I β s.st w -> (∀ s' I' β' a' w',K s' -> Rel G I' β' s' a' w' -> Goes I β s w I' β' s' w' -> Q .normal a' w') -> AnyP G.cx.P ops Q fuel l a (fun w2=>w2 = w) ys:=by
 intro fuel
 have fin : ∀ (fuel : Nat) (Q : Exit -> Act -> World -> Prop) (l : Array Bool) (s : PSt) (a : Act) (I : Nat -> Prop) (β : Places) (w : World) (ys : List PinY) (K : PSt -> Prop),(Region.ready .any ops l).isEmpty = true -> K s -> Rel G I β s a w -> (∀ s' I' β' a' w',K s' -> Rel G I' β' s' a' w' -> Goes I β s w I' β' s' w' -> Q .normal a' w') -> AnyP G.cx.P ops Q fuel l a (fun w2=>w2 = w) ys:=by
  intro fuel Q l s a I β w ys K hr h hR hQ
  have hr' : Region.ready .any ops l = []:=by simpa using hr
  cases fuel with
  | zero=>exact ⟨hr',fun w2 hw=>by subst hw; exact hQ s I β a w2 h hR (Goes.same ⟨rfl,rfl,rfl,rfl⟩)⟩
  | succ fuel=>exact ⟨fun _ w2 hw=>by subst hw; exact hQ s I β a w2 h hR (Goes.same ⟨rfl,rfl,rfl,rfl⟩),fun i hi=>by rw [hr'] at hi; cases hi⟩
 induction fuel with
 | zero =>
  intro p Q l s a I β w pins ys K hp h hR _ hQ
  cases p with
  | done=>exact fin 0 Q l s a I β w ys K (by simpa only [planB] using hp) (by simpa only [runPlan] using h) hR hQ
  | pure=>simp [planB] at hp
  | load=>simp [planB] at hp
  | eff=>simp [planB] at hp
 | succ fuel ih =>
  intro p Q l s a I β w pins ys K hp h hR hpo hQ
  cases p with
  | done=>exact fin (fuel + 1) Q l s a I β w ys K (by simpa only [planB] using hp) (by simpa only [runPlan] using h) hR hQ
  | pure i r =>
   simp only [planB] at hp
   split at hp
   ·rename_i k hfirst
    simp only [Bool.and_eq_true] at hp
    obtain ⟨hk,hp⟩:=hp
    obtain rfl:=Nat.eq_of_beq_eq_true hk
    obtain ⟨hmem,htake⟩:=Ev.firstOf_some hfirst
    unfold runPlan at h
    replace h:=need_ok h
    obtain ⟨o,ho,h⟩:=h
    rw [Array.getElem?_toList] at ho
    unfold pureTake at htake
    rw [ho] at htake
    simp only [Bool.and_eq_true] at htake
    have he : eff o.op = false:=by unfold eff; rw [htake.1]; rfl
    rcases pguard_ok hR h with ⟨hwant,s1,h1,hs1,hR1⟩ | ⟨hwant,s1,h1,hs1,hR1⟩
    ·obtain ⟨x,v,h1,hx,hrun⟩:=ppure_ok hG.ok hR1 h1
     obtain ⟨s3,h3,hs3,hr3⟩:=PSt.put_ok (G:=G) h1
     refine AnyP.first (v:=v) (D:=[]) (Y:=fun _=>True) ho he hsel fuel l a _ ys (Region.free_spec ho htake.2) (fun j hj=>by cases hj) (.inl ⟨hwant,fun w2 _=>hrun w2⟩) (fun _ _=>trivial) hmem (AnyP.addTrue _ _ _ _ _ ?_)
     exact ih r Q _ s3 _ I β w pins ys K hp h3 (hr3 _ _ _ _ _ hR1 hx) (by rw [hs3.st,hs1.st]; exact hpo) (fun s' I' β' a' w' hk hR' hg=>hQ s' I' β' a' w' hk hR' (((Goes.same hs1).trans (Goes.same hs3)).trans hg))
    ·obtain ⟨s3,h3,hs3,hr3⟩:=PSt.put_ok (G:=G) h1
     refine AnyP.first (v:=undef) (D:=[]) (Y:=fun _=>True) ho he hsel fuel l a _ ys (Region.free_spec ho htake.2) (fun j hj=>by cases hj) (.inr ⟨hwant,rfl⟩) (fun _ _=>trivial) hmem (AnyP.addTrue _ _ _ _ _ ?_)
     exact ih r Q _ s3 _ I β w pins ys K hp h3 (hr3 _ _ _ _ _ hR1 Is.undef) (by rw [hs3.st,hs1.st]; exact hpo) (fun s' I' β' a' w' hk hR' hg=>hQ s' I' β' a' w' hk hR' (((Goes.same hs1).trans (Goes.same hs3)).trans hg))
   ·cases hp
  | load i D r =>
   simp only [planB] at hp
   split at hp
   ·rename_i k hfirst
    simp only [Bool.and_eq_true] at hp
    obtain ⟨⟨⟨hk,hDe⟩,hD⟩,hp⟩:=hp
    obtain rfl:=Nat.eq_of_beq_eq_true hk
    obtain ⟨hmem,htake⟩:=Ev.firstOf_some hfirst
    unfold runPlan at h
    replace h:=need_ok h
    obtain ⟨o,ho,h⟩:=h
    rw [Array.getElem?_toList] at ho
    unfold loadTake at htake
    rw [ho] at htake
    simp only [Bool.and_eq_true] at htake
    have he : eff o.op = false:=by unfold eff; rw [htake.1,Bool.or_true]; rfl
    rcases pguard_ok hR h with ⟨hwant,s1,h1,hs1,hR1⟩ | ⟨hwant,s1,h1,hs1,hR1⟩
    ·split at h1
     ·rename_i t ad hop
      replace h1:=PSt.ev_ok hR1 h1
      obtain ⟨x,h1,hx⟩:=h1
      obtain ⟨z,v,g,h1,hz,hg,hrun⟩:=pload_ok hG.ok hR1.heap hR1.imm h1 hx
      obtain ⟨s3,h3,hs3,hr3⟩:=PSt.put_ok (G:=G) h1
      have hrun' : ∀ w2 : World,w2.heap[g]? = w.heap[g]? -> (execOp a.eval o).run G.cx.P w2 = .ok (.value v) w2:=fun w2 hw2=>by
       unfold execOp
       rw [hop]
       simp only [Sem.run_bind,hrun w2 hw2,Result.andThen_ok,Sem.run_pure]
      have hgl : g < w.heap.size:=by
       rcases hg with hg | ⟨l',b,p,o',_,hb,hlive,hpl,hpa⟩
       ·exact hR.imm.imm g hg
       ·exact hR1.heap.lives_lt ⟨l',b,p,o',hb,hlive,hpl,hpa⟩
      refine AnyP.first (v:=v) (D:=D) (Y:=fun w2=>w2.heap[g]? = w.heap[g]?) ho he hsel fuel l a _ ys (Region.free_spec ho htake.2) (okD_ok hD) (.inl ⟨hwant,hrun'⟩) (fun w2 hw2=>by rw [hw2]) hmem ?_
      refine ih r Q _ s3 _ I β w (addPin D x pins) _ K hp h3 (hr3 _ _ _ _ _ hR1 hz) ?_ (fun s' I' β' a' w' hk hR' hg=>hQ s' I' β' a' w' hk hR' (((Goes.same hs1).trans (Goes.same hs3)).trans hg))
      rw [hs3.st,hs1.st]
      intro y hy
      rcases List.mem_cons.1 hy with rfl | hy
      ·refine .inr ⟨g,fun _=>Iff.rfl,hgl,?_⟩
       rcases hg with hg | ⟨l',b,p,o',hblk,hb,hlive,hpl,hpa⟩
       ·exact .inl hg
       ·refine .inr ⟨⟨D,l'⟩,by unfold addPin; rw [hblk]; exact List.mem_cons_self,rfl,b,p,o',by rw [← hs1.st]; exact hb,hlive,hpl,hpa⟩
      ·rcases hpo y hy with h | ⟨g',k1,k2,k3⟩
       ·exact .inl h
       ·refine .inr ⟨g',k1,k2,k3.imp id fun ⟨p,hpm,k4⟩=>⟨p,?_,k4⟩⟩
        unfold addPin
        split
        ·exact List.mem_cons_of_mem _ hpm
        ·exact hpm
     ·exact h1.elim
    ·obtain ⟨s3,h3,hs3,hr3⟩:=PSt.put_ok (G:=G) h1
     refine AnyP.first (v:=undef) (D:=[]) (Y:=fun _=>True) ho he hsel fuel l a _ ys (Region.free_spec ho htake.2) (fun j hj=>by cases hj) (.inr ⟨hwant,rfl⟩) (fun _ _=>trivial) hmem (AnyP.addTrue _ _ _ _ _ ?_)
     exact ih r Q _ s3 _ I β w pins ys K hp h3 (hr3 _ _ _ _ _ hR1 Is.undef) (by rw [hs3.st,hs1.st]; exact hpo) (fun s' I' β' a' w' hk hR' hg=>hQ s' I' β' a' w' hk hR' (((Goes.same hs1).trans (Goes.same hs3)).trans hg))
   ·cases hp
  | eff i r ms =>
   simp only [planB] at hp
   split at hp
   ·rename_i i0 more hrdy
    simp only [Bool.and_eq_true] at hp
    obtain ⟨⟨⟨⟨hk,hei⟩,hem⟩,hpr⟩,hpm⟩:=hp
    obtain rfl:=Nat.eq_of_beq_eq_true hk
    rw [List.all_eq_true] at hem
    unfold runPlan at h
    replace h:=need_ok h
    obtain ⟨o,ho,h⟩:=h
    rw [Array.getElem?_toList] at ho
    have he:=effAt_ok ho hei
    have hne : Region.ready .any ops l ≠ []:=by rw [hrdy]; simp
    have go : ∀ {j : Nat} {oj : Oper} {rj : Plan} {K' : PSt -> Prop},planB ops fuel (l.setIfInBounds j true) rj = true -> ops[j]? = some oj -> eff oj.op = true -> (prun1 G ops.toList s j oj pins fun s1=>runPlan G ops.toList rj s1 (unpinP j pins) K') -> (∀ sf,K' sf -> K sf) ->
      (eff oj.op = false -> ∃ v,Yields G.cx.P ops (fun w2=>w2 = w) oj v a /\ AnyP G.cx.P ops Q fuel (l.setIfInBounds j true) (a.put oj.dst v) (fun w2=>w2 = w) (unpin j ys)) /\
      (eff oj.op = true -> ∀ w2,w2 = w -> Ev.Does G.cx.P ops oj a w2 fun v w'=>∃ S' : World -> Prop,(∀ p ∈ unpin j ys,∀ w,S' w -> p.Y w) /\ S' w' /\ AnyP G.cx.P ops Q fuel (l.setIfInBounds j true) (a.put oj.dst v) S' (unpin j ys)):=by
     intro j oj rj K' hpj hoj hej h' hK
     refine ⟨(fun e=>by rw [hej] at e; cases e),fun _ w2 hw2=>?_⟩
     subst hw2
     refine does_mono ?_ (prun1_ok hG h' hR hpo)
     rintro v w' ⟨s',I',β',hk,hR',hg,hY,hp'⟩
     refine ⟨fun w2=>w2 = w',fun p hp w2 hw2=>by rw [hw2]; exact hY p hp,rfl,?_⟩
     exact ih rj Q _ s' _ I' β' w' _ _ K' hpj hk hR' hp' fun s2 I2 β2 a2 w3 hk2 hR2 hg2=>hQ s2 I2 β2 a2 w3 (hK s2 hk2) hR2 (hg.trans hg2)
    have goS : ∀ {j : Nat} {oj : Oper} {rj : Plan} {K' : PSt -> Prop},planB ops fuel (l.setIfInBounds j true) rj = true -> ops[j]? = some oj -> eff oj.op = true -> (prun1 G ops.toList s j oj pins fun s1=>runPlan G ops.toList rj s1 (unpinP j pins) K') -> (∀ sf,K' sf -> ∃ sf0,Sub G sf sf0 /\ K sf0) ->
      (eff oj.op = false -> ∃ v,Yields G.cx.P ops (fun w2=>w2 = w) oj v a /\ AnyP G.cx.P ops Q fuel (l.setIfInBounds j true) (a.put oj.dst v) (fun w2=>w2 = w) (unpin j ys)) /\
      (eff oj.op = true -> ∀ w2,w2 = w -> Ev.Does G.cx.P ops oj a w2 fun v w'=>∃ S' : World -> Prop,(∀ p ∈ unpin j ys,∀ w,S' w -> p.Y w) /\ S' w' /\ AnyP G.cx.P ops Q fuel (l.setIfInBounds j true) (a.put oj.dst v) S' (unpin j ys)):=by
     intro j oj rj K' hpj hoj hej h' hK
     refine ⟨(fun e=>by rw [hej] at e; cases e),fun _ w2 hw2=>?_⟩
     subst hw2
     refine does_mono ?_ (prun1_ok hG h' hR hpo)
     rintro v w' ⟨s',I',β',hk,hR',hg,hY,hp'⟩
     refine ⟨fun w2=>w2 = w',fun p hp w2 hw2=>by rw [hw2]; exact hY p hp,rfl,?_⟩
     exact ih rj Q _ s' _ I' β' w' _ _ K' hpj hk hR' hp' fun s2 I2 β2 a2 w3 hk2 hR2 hg2=>by
      obtain ⟨sf0,hs,hk0⟩:=hK s2 hk2
      obtain ⟨I3,β3,hR3,hg3⟩:=hs I2 β2 a2 w3 hR2
      exact hQ sf0 I3 β3 a2 w3 hk0 hR3 ((hg.trans hg2).trans hg3)
    cases ms with
    | nil =>
     cases more with
     | cons=>simp [plansB] at hpm
     | nil =>
      refine ⟨fun e=>absurd e hne,fun j hj oj hoj=>?_⟩
      rw [hrdy,List.mem_singleton] at hj
      subst hj
      rw [ho] at hoj
      cases hoj
      exact go hpr ho he h fun _ hk=>hk
    | cons j0 r0 ms0 =>
     have hall : ∀ sf,((need ops.toList[j0]? fun o=>prun1 G ops.toList s j0 o pins fun s2=>runPlan G ops.toList r0 s2 (unpinP j0 pins) fun sf2=>sf2 = sf) /\ runPlans G ops.toList ms0 s pins sf) -> runPlans G ops.toList (.cons j0 r0 ms0) s pins sf:=fun sf h=>by unfold runPlans; exact h
     obtain ⟨sf,hKf,hothers⟩ : ∃ sf,K sf /\ runPlans G ops.toList (.cons j0 r0 ms0) s pins sf:=by
      obtain ⟨v,w',s',I',β',hk,hR',hg,hY,hp'⟩:=does_exists (prun1_ok hG h hR hpo)
      have hA:=ih r (fun _ _ _=>∃ sf,K sf /\ runPlans G ops.toList (.cons j0 r0 ms0) s pins sf) _ s' (a.put o.dst v) I' β' w' _ _ _ hpr hk hR' hp' fun s2 I2 β2 a2 w3 hk2 _ _=>⟨s2,hk2.1,hall _ hk2.2⟩
      obtain ⟨_,_,h3⟩:=AnyP.ends _ _ _ _ _ w' hA rfl
      exact h3
     refine ⟨fun e=>absurd e hne,fun j hj oj hoj=>?_⟩
     rw [hrdy] at hj
     rcases List.mem_cons.1 hj with rfl | hj
     ·rw [ho] at hoj
      cases hoj
      exact go hpr ho he h fun _ hk=>hk.1
     ·obtain ⟨rj,hrj,h2⟩:=plansB_mem hpm hothers j hj
      replace h2:=need_ok h2
      obtain ⟨oj',hoj',h2⟩:=h2
      rw [Array.getElem?_toList,hoj] at hoj'
      cases hoj'
      exact go hrj hoj (effAt_ok hoj (hem j hj)) h2 fun sf2 e=>by rw [e]; exact hKf
    | sub j0 r0 ms0 =>
     have hall : ∀ sf,((need ops.toList[j0]? fun o=>prun1 G ops.toList s j0 o pins fun s2=>runPlan G ops.toList r0 s2 (unpinP j0 pins) fun sf2=>Sub G sf2 sf) /\ runSubs G ops.toList ms0 s pins sf) -> runSubs G ops.toList (.sub j0 r0 ms0) s pins sf:=fun sf h=>by unfold runSubs; exact h
     obtain ⟨sf,hKf,hothers⟩ : ∃ sf,K sf /\ runSubs G ops.toList (.sub j0 r0 ms0) s pins sf:=by
      obtain ⟨v,w',s',I',β',hk,hR',hg,hY,hp'⟩:=does_exists (prun1_ok hG h hR hpo)
      have hA:=ih r (fun _ _ _=>∃ sf,K sf /\ runSubs G ops.toList (.sub j0 r0 ms0) s pins sf) _ s' (a.put o.dst v) I' β' w' _ _ _ hpr hk hR' hp' fun s2 I2 β2 a2 w3 hk2 _ _=>let ⟨sf0,_,h2,h3⟩:=hk2; ⟨sf0,h2,hall _ h3⟩
      obtain ⟨_,_,h3⟩:=AnyP.ends _ _ _ _ _ w' hA rfl
      exact h3
     refine ⟨fun e=>absurd e hne,fun j hj oj hoj=>?_⟩
     rw [hrdy] at hj
     rcases List.mem_cons.1 hj with rfl | hj
     ·rw [ho] at hoj
      cases hoj
      exact goS hpr ho he h fun _ hk=>let ⟨sf0,h1,h2,_⟩:=hk; ⟨sf0,h1,h2⟩
     ·obtain ⟨rj,hrj,h2⟩:=plansB_memS hpm hothers j hj
      replace h2:=need_ok h2
      obtain ⟨oj',hoj',h2⟩:=h2
      rw [Array.getElem?_toList,hoj] at hoj'
      cases hoj'
      exact goS hrj hoj (effAt_ok hoj (hem j hj)) h2 fun sf2 e=>⟨sf,e,hKf⟩
    | alt j0 r0 ms0 =>
     obtain ⟨h,hothers⟩:=h
     have hall : runAlts G ops.toList (.alt j0 r0 ms0) s pins K:=by unfold runAlts; exact hothers
     refine ⟨fun e=>absurd e hne,fun j hj oj hoj=>?_⟩
     rw [hrdy] at hj
     rcases List.mem_cons.1 hj with rfl | hj
     ·rw [ho] at hoj
      cases hoj
      exact go hpr ho he h fun _ hk=>hk
     ·obtain ⟨rj,hrj,h2⟩:=plansB_memA hpm hall j hj
      replace h2:=need_ok h2
      obtain ⟨oj',hoj',h2⟩:=h2
      rw [Array.getElem?_toList,hoj] at hoj'
      cases hoj'
      exact go hrj hoj (effAt_ok hoj (hem j hj)) h2 fun _ hk=>hk
   ·cases hp
end
end Go.Proofs.YtnbngokbamifbaaGreatDoor.Pw
namespace Go.Proofs.YtnbngokbamifbaaGreatDoor.Pw
open Go Go.RowKit
def seqK (k : PSt -> Prop) (Q : X -> PSt -> Prop) (x : X) (s : PSt) : Prop:=match x with
 | .nml=>k s
 | x=>Q x s
def blockK (id : Nat) (Q : X -> PSt -> Prop) (x : X) (s : PSt) : Prop:=match x with
 | .exit j=>bif Nat.beq j id then Q .nml s else Q (.exit j) s
 | x=>Q x s
def condK (s : PSt) (c : Operand) (t e : PSt -> Prop) : Prop:=s.ev c fun x=>match x with
 | .tt=>t s
 | .ff=>e s
 | .bool p=>(match c with
  | .tmp i=>(p -> s.put (some i) .tt t) /\ (¬ p -> s.put (some i) .ff e)
  | _=>(p -> t s) /\ (¬ p -> e s))
 | _=>False
def planAll (R : List (Nat × Plan)) : Code -> Bool
 | .region id ops true=>(match Ev.lkT id R with
  | some p=>Region.noSelect ops && planB ops ops.size (Array.replicate ops.size false) p
  | none=>true)
 | .seq a b=>planAll R a && planAll R b
 | .cond _ a b=>planAll R a && planAll R b
 | .block _ c=>planAll R c
 | .scope c=>planAll R c
 | .loop c=>planAll R c
 | _=>true
def pw (G : Gx) (R : List (Nat × Plan)) : Nat -> Code -> (X -> PSt -> Prop) -> PSt -> Prop
 | 0,_,_,_=>False
 | n + 1,c,Q,s=>match c with
  | .skip | .label _=>Q .nml s
  | .ret=>Q .ret s
  | .exit id=>Q (.exit id) s
  | .seq a b=>pw G R n a (seqK (pw G R n b Q) Q) s
  | .cond c a b=>condK s c (pw G R n a Q) (pw G R n b Q)
  | .block id c=>pw G R n c (blockK id Q) s
  | .scope c=>pw G R n c Q s
  | .loop c=>SW G (.loop c) Q s
  | .rangeFunc f ps a b=>SW G (.rangeFunc f ps a b) Q s
  | .region id ops draw=>(match draw with
   | true=>need (Ev.lkT id R) fun p=>runPlan G ops.toList p s [] (Q .nml)
   | false=>pops G ops.toList Q ops.toList s)
  | _=>False
section
variable {w w' : World} {I I' : Nat -> Prop} {β β' : Places} {G : Gx} {s : PSt} {a : Act} {st st' : List PBlk}
theorem Post.of {Q : X -> PSt -> Prop} {x : X} {s' : PSt} {w0 : World} (hq : Q x s') {a' : Act} (hR : Rel G I' β' s' a' w') (hg : Goes I β s w0 I' β' s' w') : Post G s I β w0 Q (X.e x) a' w' :=
 ⟨x,s',I',β',rfl,hq,hR,hg.ext,hg.base,hg.rl,hg.n,hg.low⟩
theorem Post.goes {Q : X -> PSt -> Prop} {e : Exit} {a' : Act} (h : Post G s I β w Q e a' w') : ∃ x s' I' β',e = X.e x /\ Q x s' /\ Rel G I' β' s' a' w' /\ Goes I β s w I' β' s' w' :=
 let ⟨x,s',I',β',he,hq,hR,h1,h2,h3,h4,h5⟩:=h; ⟨x,s',I',β',he,hq,hR,h1,h2,h3,h4,h5⟩
theorem SW.intro {c : Code} {Q : X -> PSt -> Prop} (h : ∀ I β a w,Rel G I β s a w -> c.wp G.cx.P (Post G s I β w Q) a w) : SW G c Q s:=by unfold SW; exact h
theorem SW.run {c : Code} {Q : X -> PSt -> Prop} (h : SW G c Q s) (hR : Rel G I β s a w) : c.wp G.cx.P (Post G s I β w Q) a w:=by unfold SW at h; exact h I β a w hR
theorem SW.from {c : Code} {Q : X -> PSt -> Prop} {s0 : PSt} {I0 : Nat -> Prop} {β0 : Places} {w0 : World} (h : SW G c Q s) (hR : Rel G I β s a w) (hg : Goes I0 β0 s0 w0 I β s w) : c.wp G.cx.P (Post G s0 I0 β0 w0 Q) a w :=
 wp_mono (h.run hR) fun e a' w' hp=>by
  obtain ⟨x,s',I',β',rfl,hq,hR',hg'⟩:=hp.goes
  exact Post.of hq hR' (hg.trans hg')
theorem Ext.ofHeap (hh : w'.heap = w.heap) (h1 : w'.os = w.os) (h2 : w'.tape = w.tape) (h3 : w'.output = w.output) : Ext I β st w I β st w' :=
 ⟨h1,h2,h3,by rw [hh]; exact Nat.le_refl _,fun g _ _=>by rw [hh],fun _ _ h=>h,fun _ h=>h,fun _ _ h=>.inl h⟩
theorem HeapOk.ofHeap (h : HeapOk I β st w) (hh : w'.heap = w.heap) : HeapOk I β st w' :=
 ⟨h.far,fun l b hl hlive=>(h.blk l b hl hlive).mono (fun _ h=>h) (fun _ _=>by rw [hh]) (fun _ _ h=>h) fun p g o hp ha=>⟨by rw [hh],fun hr=>by
  obtain ⟨_,_,fr,_,ho⟩:=(h.blk l b hl hlive).place hp ha
  exact ⟨(ho.1 hr).2.1,(ho.1 hr).2.2⟩⟩⟩
theorem store_self (s : PSt) : s.store s.st = s:=by cases s; rfl
theorem Rel.ofHeap (hR : Rel G I β s a w) (hh : w'.heap = w.heap) (h1 : w'.os = w.os) (h2 : w'.tape = w.tape) (h3 : w'.output = w.output) : Rel G I β s a w':=by
 have:=hR.grow (hR.heap.ofHeap hh) (Ext.ofHeap hh h1 h2 h3) (fun _ _ h=>h) (Nat.le_refl _) (fun g hg=>by rw [hh]; exact hR.imm.imm g hg)
 rwa [store_self] at this
theorem condK_ok {c : Operand} {t e : PSt -> Prop} (hR : Rel G I β s a w) (h : condK s c t e) : ∃ b s',a.eval c = .bool b /\ (if b then t s' else e s') /\ SameBut s s' /\ Rel G I β s' a w:=by
 have same : SameBut s s:=⟨rfl,rfl,rfl,rfl⟩
 unfold condK at h
 cases c with
 | tmp i =>
  replace h:=need_ok h
  obtain ⟨x,hx,h⟩:=h
  obtain ⟨v,hv,hi⟩:=hR.get i x hx
  have he : a.eval (.tmp i) = v:=by simp only [Act.eval,Array.getD_eq_getD_getElem?,hv,Option.getD_some]
  rw [he]
  split at h <;> try simp only [PV.Is] at hi
  ·exact ⟨true,s,hi,h,same,hR⟩
  ·exact ⟨false,s,hi,h,same,hR⟩
  ·rename_i p
   by_cases hp : p
   ·obtain ⟨s',hk,hs,hr⟩:=PSt.refine_ok hR hv (x:=.tt) (by rw [hi,pb_true hp]; exact Is.tt) (h.1 hp)
    exact ⟨true,s',by rw [hi,pb_true hp],hk,hs,hr⟩
   ·obtain ⟨s',hk,hs,hr⟩:=PSt.refine_ok hR hv (x:=.ff) (by rw [hi,pb_false hp]; exact Is.ff) (h.2 hp)
    exact ⟨false,s',by rw [hi,pb_false hp],hk,hs,hr⟩
  ·exact h.elim
 | _ =>
  replace h:=PSt.ev_ok hR h
  obtain ⟨x,h,hx⟩:=h
  split at h <;> try simp only [PV.Is] at hx
  ·exact ⟨true,s,hx,h,same,hR⟩
  ·exact ⟨false,s,hx,h,same,hR⟩
  ·rename_i p
   by_cases hp : p
   ·exact ⟨true,s,by rw [hx,pb_true hp],h.1 hp,same,hR⟩
   ·exact ⟨false,s,by rw [hx,pb_false hp],h.2 hp,same,hR⟩
  ·exact h.elim
theorem pw_ok (hG : GOk G) {R : List (Nat × Plan)} : ∀ (n : Nat) (c : Code) (Q : X -> PSt -> Prop) (s : PSt),planAll R c = true -> pw G R n c Q s -> SW G c Q s
 | 0,_,_,_,_,h=>h.elim
 | n + 1,c,Q,s,hc,h=>by
  cases c with
  | skip=>exact SW.intro fun I β a w hR=>wp_skip (Post.of (x:=.nml) h hR (Goes.same ⟨rfl,rfl,rfl,rfl⟩))
  | label l=>exact SW.intro fun I β a w hR=>wp_label (Post.of (x:=.nml) h hR (Goes.same ⟨rfl,rfl,rfl,rfl⟩))
  | ret=>exact SW.intro fun I β a w hR=>wp_ret (Post.of (x:=.ret) h hR (Goes.same ⟨rfl,rfl,rfl,rfl⟩))
  | exit id=>exact SW.intro fun I β a w hR=>wp_exit (Post.of (x:=.exit id) h hR (Goes.same ⟨rfl,rfl,rfl,rfl⟩))
  | seq x y =>
   simp only [planAll,Bool.and_eq_true] at hc
   have h1:=pw_ok hG n x _ s hc.1 h
   refine SW.intro fun I β a w hR=>wp_seq (wp_mono (h1.run hR) fun e a' w' hp=>?_)
   obtain ⟨x',s',I',β',rfl,hq,hR',hg⟩:=hp.goes
   cases x' with
   | nml=>exact (pw_ok hG n y Q s' hc.2 hq).from hR' hg
   | exit id=>exact Post.of (Q:=Q) (x:=.exit id) hq hR' hg
   | ret=>exact Post.of (Q:=Q) (x:=.ret) hq hR' hg
  | cond c x y =>
   simp only [planAll,Bool.and_eq_true] at hc
   refine SW.intro fun I β a w hR=>?_
   obtain ⟨b,s',he,hk,hs,hR'⟩:=condK_ok hR h
   refine wp_cond he ?_
   cases b with
   | true=>exact (pw_ok hG n x Q s' hc.1 hk).from hR' (Goes.same hs)
   | false=>exact (pw_ok hG n y Q s' hc.2 hk).from hR' (Goes.same hs)
  | block id c =>
   have h1:=pw_ok hG n c _ s hc h
   refine SW.intro fun I β a w hR=>wp_block (wp_mono (h1.run hR) fun e a' w' hp=>?_)
   obtain ⟨x',s',I',β',rfl,hq,hR',hg⟩:=hp.goes
   cases x' with
   | nml=>exact Post.of (Q:=Q) (x:=.nml) hq hR' hg
   | exit j =>
    show Exit.inBlock id _ (.exit j) a' w'
    simp only [Exit.inBlock]
    by_cases hj : j = id
    ·subst hj
     rw [if_pos rfl]
     have hq' : Q .nml s':=by simpa [blockK,Nat.beq_refl] using hq
     exact Post.of (x:=.nml) hq' hR' hg
    ·have hb' : Nat.beq j id = false:=by rw [Bool.eq_false_iff]; exact fun e=>hj (Nat.eq_of_beq_eq_true e)
     rw [if_neg hj]
     have hq' : Q (.exit j) s':=by simpa [blockK,hb'] using hq
     exact Post.of (x:=.exit j) hq' hR' hg
   | ret=>exact Post.of (Q:=Q) (x:=.ret) hq hR' hg
  | scope c =>
   have h1:=pw_ok hG n c _ s hc h
   refine SW.intro fun I β a w hR=>wp_scope_straight (wp_mono (h1.run hR) fun e a' w' hp=>?_)
   obtain ⟨x',s',I',β',rfl,hq,hR',hg⟩:=hp.goes
   cases x' with
   | nml=>exact Post.of (Q:=Q) (x:=.nml) hq hR' hg
   | exit j=>exact Post.of (Q:=Q) (x:=.exit j) hq hR' hg
   | ret=>exact Post.of (Q:=Q) (x:=.ret) hq hR' hg
  | loop c=>exact h
  | rangeFunc f ps a b=>exact h
  | region id ops draw =>
   refine SW.intro fun I β a w hR=>?_
   cases draw with
   | true =>
    obtain ⟨p,hp,h⟩:=need_ok h
    unfold planAll at hc
    rw [hp] at hc
    simp only [Bool.and_eq_true] at hc
    have hR' : Rel G I β s a { w with drawn:=w.drawn + 1 }:=hR.ofHeap rfl rfl rfl rfl
    have hd : Goes I β s w I β s { w with drawn:=w.drawn + 1 }:=⟨Ext.ofHeap rfl rfl rfl rfl,rfl,rfl,rfl,fun _ _ _=>rfl⟩
    have hA:=runPlan_ok hG hc.1 ops.size p (Post G s I β w Q) _ s a I β _ [] [] _ hc.2 h hR' (fun y hy=>by cases hy) fun s' I' β' a' w' hk hR2 hg=>Post.of (Q:=Q) (x:=.nml) hk hR2 (hd.trans hg)
    exact wp_region_any hG.ok.mix (AnyP.sound _ _ _ _ _ _ hA rfl)
   | false=>exact wp_region_list (pops_ok hG _ h hR fun x s' I' β' a' w' hq hR' hg=>Post.of hq hR' hg)
  | _=>exact h.elim
def backK (k : PSt -> Prop) (Q : X -> PSt -> Prop) (x : X) (s : PSt) : Prop:=match x with
 | .nml=>k s
 | x=>Q x s
def rnd (G : Gx) (R : List (Nat × Plan)) (N : Nat) (c : Code) (Q : X -> PSt -> Prop) : Nat -> PSt -> Prop
 | 0,_=>False
 | n + 1,s=>pw G R N c (backK (rnd G R N c Q n) Q) s
theorem SW.rounds (hG : GOk G) (R : List (Nat × Plan)) {N : Nat} {c : Code} {Q : X -> PSt -> Prop} (hc : planAll R c = true) (n : Nat) (h : rnd G R N c Q n s) : SW G (.loop c) Q s:=by
 have key : ∀ (n : Nat) (s0 s : PSt) (I0 I : Nat -> Prop) (β0 β : Places) (w0 w : World) (a : Act),rnd G R N c Q n s -> Rel G I β s a w -> Goes I0 β0 s0 w0 I β s w -> Code.rounds G.cx.P c (Post G s0 I0 β0 w0 Q) n a w:=by
  intro n
  induction n with
  | zero=>intro s0 s I0 I β0 β w0 w a h _ _; exact h.elim
  | succ n ih =>
   intro s0 s I0 I β0 β w0 w a h hR hg
   rw [rounds_succ]
   refine wp_mono ((pw_ok hG N c _ s hc h).run hR) fun e a' w' hp=>?_
   obtain ⟨x',s',I',β',rfl,hq,hR',hg'⟩:=hp.goes
   cases x' with
   | nml=>exact ih s0 s' I0 I' β0 β' w0 w' a' hq hR' (hg.trans hg')
   | exit id=>exact Post.of (Q:=Q) (x:=.exit id) hq hR' (hg.trans hg')
   | ret=>exact Post.of (Q:=Q) (x:=.ret) hq hR' (hg.trans hg')
 exact SW.intro fun I β a w hR=>wp_loop_rounds n (key n s s I I β β w w a h hR (Goes.same ⟨rfl,rfl,rfl,rfl⟩))
theorem Sub.refl : Sub G s s:=fun I β _ _ hR=>⟨I,β,hR,Goes.same ⟨rfl,rfl,rfl,rfl⟩⟩
theorem SW.inv (hG : GOk G) {R : List (Nat × Plan)} {α : Type} (inv : α -> PSt) (μ : α -> Nat) {N : Nat} {c : Code} {Q : X -> PSt -> Prop} (hc : planAll R c = true) (x0 : α) (h0 : Sub G s (inv x0)) (K : α -> PSt -> Prop) (hK : ∀ x s',K x s' -> ∃ y,μ y < μ x /\ Sub G s' (inv y))
  (h : ∀ x,pw G R N c (backK (K x) Q) (inv x)) : SW G (.loop c) Q s:=by
 refine SW.intro fun I0 β0 a w hR=>?_
 obtain ⟨I,β,hR1,hg1⟩:=h0 I0 β0 a w hR
 let J : Nat -> Act -> World -> Prop:=fun m a w'=>∃ x I β,μ x = m /\ Rel G I β (inv x) a w' /\ Goes I0 β0 s w I β (inv x) w'
 have key : ∀ (m : Nat) (a : Act) (w' : World),J m a w' -> ∀ (b : Frame) (k : List Item) (cs : List Frame),∃ e a' w'',Post G s I0 β0 w Q e a' w'' /\ Arrives G.cx.P (lone (b.at a (.code c :: .inLoop c :: k)) cs w') b k cs e a' w'':=by
  intro m
  induction m using Nat.strongRecOn with
  | _ m ih =>
   rintro a w' ⟨x,I,β,hx,hR,hg⟩ b k cs
   obtain ⟨e,a₁,w₁,hp,harr⟩:=(pw_ok hG N c _ _ hc (h x)).run hR b (.inLoop c :: k) cs
   obtain ⟨x',s',I',β',rfl,hq,hR',hg'⟩:=hp.goes
   cases x' with
   | nml =>
    obtain ⟨y,hy,hs⟩:=hK x s' hq
    obtain ⟨I2,β2,hR2,hg2⟩:=hs I' β' a₁ w₁ hR'
    obtain ⟨e₂,a₂,w₂,hq₂,harr₂⟩:=ih (μ y) (by omega) a₁ w₁ ⟨y,I2,β2,rfl,hR2,(hg.trans hg').trans hg2⟩ b k cs
    exact ⟨e₂,a₂,w₂,hq₂,.of_steps (Steps.trans harr (.one step_inLoop)) harr₂⟩
   | exit id=>exact ⟨_,a₁,w₁,Post.of (Q:=Q) (x:=.exit id) hq hR' (hg.trans hg'),.pass (x:=.inLoop c) rfl (fun _ _=>.inl (by simp [X.e])) harr⟩
   | ret=>exact ⟨_,a₁,w₁,Post.of (Q:=Q) (x:=.ret) hq hR' (hg.trans hg'),.pass (x:=.inLoop c) rfl (fun _ _=>.inl (by simp [X.e])) harr⟩
 intro b k cs
 obtain ⟨e,a',w',hq,harr⟩:=key (μ x0) a w ⟨x0,I,β,rfl,hR1,hg1⟩ b k cs
 exact ⟨e,a',w',hq,.of_steps (.one step_loop) harr⟩
end
end Go.Proofs.YtnbngokbamifbaaGreatDoor.Pw

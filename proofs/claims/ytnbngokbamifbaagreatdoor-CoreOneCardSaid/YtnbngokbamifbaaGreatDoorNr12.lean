/- What this claim is proved with: no condition. -/
import Derived.Test.YtnbngokbamifbaaGreatDoorNr11
import Derived.RangeFuncNested
import Derived.RangeFuncBound
import Derived.RangeFuncCalls
import Derived.RangeFuncLeaves
import Derived.RangeFuncFrom
import Derived.TacticsIn
import Derived.Maps.Views
import Derived.Carry
set_option linter.unusedVariables false
set_option linter.unusedSimpArgs false
namespace Go.Proofs.YtnbngokbamifbaaGreatDoor.Pw
open Go Go.RowKit
section
variable {w w':World} {I I':Nat->Prop} {β aN:ay} {G:Gx} {s:aV} {a:Act} {st dY:List au}
def qJ (st:List au):Bool:=st.all fun b=>match b.k with
 | .mp=>false
 | _=>true
theorem xa (h:qJ st=true) {l:Nat} {b:au} (hl:st[l]?=some b):b.k≠.mp:=fun e=>by
 unfold qJ at h
 rw[List.all_eq_true] at h
 have:=h b (List.mem_of_getElem? hl)
 rw[e] at this
 cases this
theorem gb.cells {l:Nat} {b:au} (h:gb I β st w l b) (hk:b.k≠.mp) {p:ph} {g o:Nat} (hp:β l=some p) (ha:p.a=some (g,o)):∃ arr ty fr,w.heap[g]?=some (.cells arr ty fr):=by
 obtain⟨q,hq,hm⟩:=h
 rw[hp] at hq
 cases hq
 split at hm
 ·obtain⟨g',o',arr,ty,fr,dv,hh,_⟩:=hm
  rw[ha] at dv; cases dv; exact⟨_,_,_,hh⟩
 ·obtain⟨g',arr,fr,dv,hh,_⟩:=hm
  rw[ha] at dv; cases dv; exact⟨_,_,_,hh⟩
 ·obtain⟨_,hm⟩:=hm
  rcases hm with ⟨dv,_⟩|⟨g',arr,fr,dv,hh,_⟩
  ·rw[ha] at dv; cases dv
  ·rw[ha] at dv; cases dv; exact⟨_,_,_,hh⟩
 ·rename_i cP
  exact absurd cP hk
structure lh (L:Nat) (w w':World):Prop where
 os:w'.os=w.os
 tape:w'.tape=w.tape
 output:w'.output=w.output
 size:w.heap.size<=w'.heap.size
 same:∀ g,g < w.heap.size->g≠L->w'.heap[g]?=w.heap[g]?
def E4 (L:Nat) (w:World):Prop:=∀ arr ty fr,w.heap[L]?≠some (.cells arr ty fr)
theorem lh.below (h:Below w.heap.size w w'):lh w.heap.size w w':=⟨h.os,h.tape,h.output,h.size,fun g hg _=>h.block g hg⟩
theorem lh.put (w:World) (L:Nat) (o:Obj):lh L w (w.putObj L o):=by
 have:=grownBy_putObj' w L o
 exact⟨this.os,this.tape,this.output,this.size,fun g _ dt=>World.putObj_heap_other dt⟩
theorem IC (w:World):E4 w.heap.size w:=fun arr ty fr h=>by
 have:=(Array.getElem?_eq_some_iff.1 h).1
 omega
theorem aE.m4 {L:Nat} (hH:aE I β st w) (rY:qJ st=true) (hM:∀ g,I g->g < w.heap.size) (hL:¬ I L) (hb:E4 L w) (ht:lh L w w'):aE I β st w':=by
 refine⟨hH.qS,fun l b hl aH=>?_⟩
 have DU:=hH.gA l b hl aH
 refine DU.mono (fun _ h=>h) (fun g hg=>ht.same g (hM g hg) (fun e=>hL (e ▸ hg))) (fun _ _ h=>h) fun p g o hp ha=>?_
 obtain⟨arr,ty,fr,hc⟩:=DU.cells (xa rY hl) hp ha
 obtain⟨_,_,_,_,ho⟩:=DU.place hp ha
 exact⟨ht.same g (bR hc) (fun e=>hb _ _ _ (e ▸ hc)),fun hr=>⟨(ho.1 hr).2.1,(ho.1 hr).2.2⟩⟩
theorem dd.m4 {L:Nat} (hM:dd G I w) (hL:¬ I L) (ht:lh L w w'):dd G I w':=by
 have hs:∀ g,I g->w'.heap[g]?=w.heap[g]?:=fun g hg=>ht.same g (hM.av g hg) (fun e=>hL (e ▸ hg))
 exact⟨fun g hg=>Nat.lt_of_lt_of_le (hM.av g hg) ht.size,fun g cs h=>⟨(hM.nY g cs h).1,dc.mono (fun _ h=>h) hs _ _ _ (hs g (hM.nY g cs h).1) (hM.nY g cs h).2⟩,fun g cs h=>by
  obtain⟨arr,ty,fr,h1,h2⟩:=hM.row g cs h
  exact⟨arr,ty,fr,(hs g (hM.nY g cs h).1).trans h1,h2⟩⟩
theorem Rel.m4 {L:Nat} (hR:Rel G I β s a w) (rY:qJ s.st=true) (hL:¬ I L) (hb:E4 L w) (ht:lh L w w'):Rel G I β s a w' :=
 ⟨hR.small,hR.defers,hR.size,hR.base,fun t x hx=>by
  obtain⟨v,hv,hi⟩:=hR.get t x hx
  exact⟨v,hv,PV.Is.mono (fun _ h=>h) (fun g hg=>ht.same g (hR.av.av g hg) (fun e=>hL (e ▸ hg))) x β β v (fun _ _ _ h=>h) hi⟩,hR.heap.m4 rY hR.av.av hL hb ht,hR.av.m4 hL ht⟩
theorem Ext.m4 {I0:Nat->Prop} {fO:ay} {pd:List au} {w0:World} {L:Nat} (hE:Ext I0 fO pd w0 I β st w) (ht:lh L w w') (hL:w0.heap.size<=L):Ext I0 fO pd w0 I β st w' :=
 ⟨ht.os.trans hE.os,ht.tape.trans hE.tape,ht.output.trans hE.output,Nat.le_trans hE.size ht.size,fun g hg hw=>(ht.same g (Nat.lt_of_lt_of_le hg hE.size) (by omega)).trans (hE.block g hg hw),hE.wr,hE.av,hE.new⟩
theorem bU.m4 {I0:Nat->Prop} {fO:ay} {s0:aV} {w0:World} {L:Nat} (hg:bU I0 fO s0 w0 I β s w) (ht:lh L w w') (hL:w0.heap.size<=L):bU I0 fO s0 w0 I β s w':=⟨hg.ext.m4 ht hL,hg.base,hg.rl,hg.n,hg.low⟩
theorem bU.keeps {s':aV} (hg:bU I β s w I' aN s' w') (hH:aE I β s.st w) (rY:qJ s.st=true) (B:Nat):KeepsFrom B w w':=by
 refine⟨hg.ext.size,fun k o _ hk ho=>(hg.ext.block k (bR hk) fun ⟨l,b,p,o',h1,h2,_,h4,h5⟩=>?_).trans hk⟩
 obtain⟨arr,ty,fr,hc⟩:=(hH.gA l b h1 h2).cells (xa rY h1) h4 h5
 rw[hk] at hc
 cases hc
 cases ho
theorem bU.ID {s':aV} {L:Nat} (hg:bU I β s w I' aN s' w') (hH:aE I β s.st w) (rY:qJ s.st=true) (hL:¬ I L) (hb:E4 L w) (cI:L < w.heap.size):¬ I' L:=fun h=>by
 rcases hg.ext.new L cI h with h|⟨l,b,p,o',h1,h2,_,h4,h5⟩
 ·exact hL h
 ·obtain⟨arr,ty,fr,hc⟩:=(hH.gA l b h1 h2).cells (xa rY h1) h4 h5
  exact hb _ _ _ hc
abbrev IE (r:Option Nat):Fence:={ Fence.wide with round:=r }
def uZ (o:Oper):Bool:=match o.op with
 | .defer _=>false
 | _=>true
theorem IF {o:Oper} (h:uZ o=true):∀ c,o.op≠.defer c:=fun c e=>by
 unfold uZ at h
 rw[e] at h
 cases h
theorem E5 {P:Program} {r:Option Nat} {n:Nat} {o:Oper} {a:Act} {K:Value->World->Prop} {K':Act->World->Prop} {Q:Exit->Act->World->Prop} (hd:uZ o=true) (h:Ev.nX P K ((execOp a.eval o).run P w)) (hK:∀ v w',K v w'->K' (a.put o.dst v) w'):o.wpIn (IE r) n P a w K' Q:=by
 refine⟨fun f _=>trivial,?_⟩
 rw[show (IE r).round=r from rfl,Oper.semAt_eq r _ _ (IF hd)]
 generalize (execOp a.eval o).run P w=r at *
 cases r with
 | ok n w =>
  cases n<;>simp only[Ev.nX] at h
  case value u=>exact hK _ _ h
  case skip=>exact hK _ _ h
  case enter f args=>exact⟨fun h=>(by cases h),(callsIn_wide (n:=n - 1)).2 (h.mono fun e w' ⟨u,he,hu⟩=>by subst he; exact hK _ _ hu)⟩
 | halt x w=>exact h.elim
theorem oV (hG:nA G) {r:Option Nat} {n:Nat} {ops:Array Oper} {l2:List Oper} {Q:X->aV->Prop} {Q':Exit->Act->World->Prop}:∀ (l:List Oper) {s:aV} {a:Act} {I:Nat->Prop} {β:ay} {w:World},l.all uZ=true->xN G ops.toList Q l s->Rel G I β s a w ->
  (∀ s' I' aN a' w',Q .fL s'->Rel G I' aN s' a' w'->bU I β s w I' aN s' w'->wpListIn (IE r) n G.cx.P ops Q' l2 a' w')->wpListIn (IE r) n G.cx.P ops Q' (l++l2) a w
 | [],s,a,I,β,w,_,h,hR,hQ=>hQ s I β a w h hR (bU.same ⟨rfl,rfl,rfl,rfl⟩)
 | o::l,s,a,I,β,w,hn,h,hR,hQ=>by
  simp only[List.all_cons,Bool.and_eq_true] at hn
  rw[List.cons_append]
  unfold wpListIn
  rcases iK hR h with ⟨hw,s1,h1,mZ,gX⟩|⟨hw,s1,h1,mZ,gX⟩
  ·rw[hw,if_pos rfl]
   refine E5 hn.1 (vQ hG gX h1) fun v w' hp=>?_
   obtain⟨x,s2,I2,fU,h2,kP,hx,hE,e1,e2,e3,gx,_⟩:=hp
   obtain⟨s3,h3,nS,tW⟩:=aV.bT (G:=G) h2
   have g1:bU I β s w I2 fU s2 w':=(bU.same mZ).trans ⟨hE,e1,e2,e3,gx⟩
   exact oV hG l hn.2 h3 (tW _ _ _ _ v kP hx) fun s' I' aN a' xz hq dp hg=>hQ s' I' aN a' xz hq dp ((g1.trans (bU.same nS)).trans hg)
  ·rw[hw,if_neg (by simp)]
   obtain⟨s3,h3,nS,tW⟩:=aV.bT (G:=G) h1
   exact⟨fun f _=>trivial,oV hG l hn.2 h3 (tW _ _ _ _ _ gX Is.undef) fun s' I' aN a' xz hq dp hg=>hQ s' I' aN a' xz hq dp (((bU.same mZ).trans (bU.same nS)).trans hg)⟩
theorem u4 (hG:nA G) {r:Option Nat} {n:Nat} {ops:Array Oper} {Q:X->aV->Prop} {Q':Exit->Act->World->Prop} (l:List Oper) {s:aV} {a:Act} {I:Nat->Prop} {β:ay} {w:World} (hn:l.all uZ=true) (h:xN G ops.toList Q l s) (hR:Rel G I β s a w)
  (hQ:∀ s' I' aN a' w',Q .fL s'->Rel G I' aN s' a' w'->bU I β s w I' aN s' w'->Q' .normal a' w'):wpListIn (IE r) n G.cx.P ops Q' l a w:=by
 have:=oV (l2:=[]) (Q':=Q') (r:=r) (n:=n) hG l hn h hR fun s' I' aN a' w' hq dp hg=>hQ s' I' aN a' w' hq dp hg
 rwa [List.append_nil] at this
def kX:Code->Bool
 | .skip|.label _|.ret|.exit _=>true
 | .seq a b=>kX a && kX b
 | .cond _ a b=>kX a && kX b
 | .block _ c=>kX c
 | .region _ ops false=>ops.toList.all uZ
 | _=>false
def Vf (l:Option Nat) (n:Nat) (G:Gx) (c:Code) (Q:X->aV->Prop) (s:aV):Prop:=∀ I β a w,Rel G I β s a w->c.wpIn (IE l) n G.cx.P (dC G s I β w Q) a w
theorem Vf.from {l:Option Nat} {n:Nat} {c:Code} {Q:X->aV->Prop} {s0:aV} {I0:Nat->Prop} {fO:ay} {w0:World} (h:Vf l n G c Q s) (hR:Rel G I β s a w) (hg:bU I0 fO s0 w0 I β s w):c.wpIn (IE l) n G.cx.P (dC G s0 I0 fO w0 Q) a w :=
 wpIn_mono (h I β a w hR) fun e a' w' hp=>by
  obtain⟨x,s',I',aN,rfl,hq,dp,xD⟩:=hp.goes
  exact dC.of hq dp (hg.trans xD)
theorem kJ (hG:nA G) {R:List (Nat × aG)} {ln:Option Nat} {m:Nat}:∀ (n:Nat) (c:Code) (Q:X->aV->Prop) (s:aV),kX c=true->pw G R n c Q s->Vf ln m G c Q s
 | 0,_,_,_,_,h=>h.elim
 | n+1,c,Q,s,hc,h=>by
  intro I β a w hR
  cases c with
  | skip=>exact wpIn_skip (dC.of (x:=.fL) h hR (bU.same ⟨rfl,rfl,rfl,rfl⟩))
  | label l=>exact wpIn_label (dC.of (x:=.fL) h hR (bU.same ⟨rfl,rfl,rfl,rfl⟩))
  | ret=>exact wpIn_ret (dC.of (x:=.ret) h hR (bU.same ⟨rfl,rfl,rfl,rfl⟩))
  | exit id=>exact wpIn_exit (dC.of (x:=.exit id) h hR (bU.same ⟨rfl,rfl,rfl,rfl⟩))
  | seq x y =>
   simp only[kX,Bool.and_eq_true] at hc
   refine wpIn_seq (wpIn_mono (kJ hG n x _ s hc.1 h I β a w hR) fun e a' w' hp=>?_)
   obtain⟨x',s',I',aN,rfl,hq,dp,hg⟩:=hp.goes
   cases x' with
   | fL=>exact (kJ hG n y Q s' hc.2 hq).from dp hg
   | exit id=>exact dC.of (Q:=Q) (x:=.exit id) hq dp hg
   | ret=>exact dC.of (Q:=Q) (x:=.ret) hq dp hg
  | cond c x y =>
   simp only[kX,Bool.and_eq_true] at hc
   obtain⟨b,s',he,hk,hs,dp⟩:=ya hR h
   refine wpIn_cond he ?_
   cases b with
   | true=>exact (kJ hG n x Q s' hc.1 hk).from dp (bU.same hs)
   | false=>exact (kJ hG n y Q s' hc.2 hk).from dp (bU.same hs)
  | block id c =>
   refine wpIn_block (wpIn_mono (kJ hG n c _ s hc h I β a w hR) fun e a' w' hp=>?_)
   obtain⟨x',s',I',aN,rfl,hq,dp,hg⟩:=hp.goes
   cases x' with
   | fL=>exact dC.of (Q:=Q) (x:=.fL) hq dp hg
   | exit j =>
    show Exit.inBlock id _ (.exit j) a' w'
    simp only[Exit.inBlock]
    by_cases hj:j=id
    ·subst hj
     rw[if_pos rfl]
     have vN:Q .fL s':=by simpa [sa,Nat.beq_refl] using hq
     exact dC.of (x:=.fL) vN dp hg
    ·have di:Nat.beq j id=false:=by rw[Bool.eq_false_iff]; exact fun e=>hj (Nat.eq_of_beq_eq_true e)
     rw[if_neg hj]
     have vN:Q (.exit j) s':=by simpa [sa,di] using hq
     exact dC.of (x:=.exit j) vN dp hg
   | ret=>exact dC.of (Q:=Q) (x:=.ret) hq dp hg
  | region id ops draw =>
   cases draw with
   | true=>cases hc
   | false=>exact wpIn_region_list (u4 hG _ hc h hR fun s' I' aN a' w' hq dp hg=>dC.of (x:=.fL) hq dp hg)
  | _=>cases hc
def C6 {α:Type} (n:Nat) (P:Program) (g:Nat) (lb:Array Value) (E6:α->Array Value) (all:List α) (Fc:World->Prop):Prop :=
 ∀ (l:Nat) (J:List α->World->Prop) (W:World),(∀ pre W W',J pre W->Below W.heap.size W W'->J pre W')->Fc W ->
  (∀ pre x W1,pre++[x] <+: all->J pre W1->YieldAt Fence.wide (n - 1) P l (E6 x) W1 fun e W'=>e = .returned (.bool true)/\J (pre++[x]) W'/\Fc W') ->
  J [] W->CallsIn Fence.wide n P g (#[.func (.yield l) #[] #[]]++lb) W fun e W'=>(∃ v,e = .returned v)/\J all W'
def mark (D:Nat):Deferred:={ target:=.collected D,args:=#[] }
theorem Br {n:Nat} {P:Program} {α:Type} {g:Operand} {ps:Array Tmp} {assign body:Code} {Q:Exit->Act->World->Prop} {gf:Nat} {lb:Array Value}
  (hg:a.eval g = .func (.func gf) #[] lb) (eg:∀ args w,(callFunc gf args).run P w = .ok (.enter gf args) w) {E6:α->Array Value} {all:List α} {Fc:World->Prop}
  (IG:C6 (n - 1) P gf lb E6 all Fc) (VX:∀ x,(E6 x).size=ps.size) (Inv:List α->World->Prop) (ZO:∀ pre W W',Inv pre W->Below W.heap.size W W'->Inv pre W') (h0:Inv [] w)
  (ht:∀ pre W r r',Inv pre W->W.heap[w.heap.size+1]?=some (.loop r)->Inv pre (W.putObj (w.heap.size+1) (.loop r'))) (Pp:∀ pre W,Inv pre W->Fc W)
  (Ax:List α->α->Act->World->Prop) (htA:∀ pre x a' W r r',Ax pre x a' W->W.heap[w.heap.size+1]?=some (.loop r)->Ax pre x a' (W.putObj (w.heap.size+1) (.loop r')))
  (M3:∀ pre x W,pre++[x] <+: all->Inv pre W->(∃ r,W.heap[w.heap.size+1]?=some (.loop r))->W.heap[w.heap.size]?=some (.deferred (some []))->assign.wpIn (IE (some (w.heap.size+1))) (n - 1 - 1) P (Exit.then (fun a' W'=>KeepsFrom w.heap.size W W'/\Ax pre x a' W') (fun _ _ _=>False)) { tmps:=(ps.zip (E6 x)).foldl (fun t (p,v)=>t.setIfInBounds p v) a.tmps,defers:=[] } W)
  (ZP:∀ pre x a' W,pre++[x] <+: all->Ax pre x a' W->(∃ r,W.heap[w.heap.size+1]?=some (.loop r))->W.heap[w.heap.size]?=some (.deferred (some []))->body.wpIn (IE (some (w.heap.size+1))) (n - 1 - 1) P (fun e _ W'=>e = .normal/\KeepsFrom w.heap.size W W'/\Inv (pre++[x]) W') a' W)
  (IH:∀ W,Inv all W->W.heap[w.heap.size]?=some (.deferred (some []))->Q .normal { a with defers:=mark w.heap.size::a.defers } W) :
  (Code.rangeFunc g ps assign body).wpIn Fence.wide n P Q a w:=by
 refine wpIn_rangeFunc ?_
 intro fn ZQ
 obtain⟨rec,zw⟩:∃ rec:LoopState->Option Code->Loop,rec=fun st pe=>{ state:=st,pending:=pe,fn,tmps:=a.tmps,params:=ps,assign,body,defers:=w.heap.size }:=⟨_,rfl⟩
 obtain⟨W1,hW1⟩:∃ W1,(w.alloc (.deferred (some []))).alloc (.loop (rec .ready none))=W1:=⟨_,rfl⟩
 have hL1:W1.heap[w.heap.size+1]?=some (.loop (rec .ready none)):=by
  rw[← hW1]; have:=World.alloc_heap_new (w.alloc (.deferred (some []))) (.loop (rec .ready none)); rwa [World.size_alloc] at this
 have hK1:W1.heap[w.heap.size]?=some (.deferred (some [])):=by
  rw[← hW1]; exact (Below.heap_alloc _ _ _ (by simp)).trans (World.alloc_heap_new w _)
 have hI1:Inv [] W1:=by
  rw[← hW1]
  exact ZO _ _ _ h0 ((((Below.refl _ w).alloc (Nat.le_refl _) _).alloc (by simp) _))
 refine⟨w.heap.size+1,[mark w.heap.size],W1,{ target:=.fn (.func gf) lb,args:=#[.func (.yield (w.heap.size+1)) #[] #[]] },W1,gf,
  #[.func (.yield (w.heap.size+1)) #[] #[]]++lb,W1,?_,?_,fun _ _=>trivial,?_,fun h=>(by cases h),?_⟩
 ·rw[← hW1,zw]; exact run_enterLoop_outer _ _ _ _ _
 ·simp only[resolve,hg]
  simp[go_sem]
 ·simp[invoke,go_sem,eg]
 ·refine (IG (w.heap.size+1) (fun pre W=>Inv pre W/\W.heap[w.heap.size+1]?=some (.loop (rec .ready none))/\W.heap[w.heap.size]?=some (.deferred (some [])))
   W1 (fun pre W W' ⟨h1,h2,h3⟩ hB=>⟨ZO _ _ _ h1 hB,(hB.block _ (bR h2)).trans h2,(hB.block _ (bR h3)).trans h3⟩) (Pp _ _ hI1) ?_ ⟨hI1,hL1,hK1⟩).mono ?_
  ·rintro pre x W Bs ⟨hi,hl,hk⟩
   have hy:=run_yield (P:=P) (args:=E6 x) hl (by rw[zw]; exact VX x)
   rw[zw] at hy
   refine⟨fn,_,assign,body,hy,roundIn_of_wpIn ZQ (wpIn_mono (M3 pre x W Bs hi ⟨_,hl⟩ hk) ?_)⟩
   intro e a1 Wa hp
   cases e with
   | normal =>
    obtain⟨hka,hA⟩:=hp
    have hla:=hka.same _ _ (Nat.le_succ _) hl rfl
    have hda:=hka.same _ _ (Nat.le_refl _) hk rfl
    refine⟨_,run_beginRound hla (by rw[zw]),?_⟩
    have cI:=bR hla
    have fM:(Wa.putObj (w.heap.size+1) (.loop { rec .ready none with state:=.busy })).heap[w.heap.size+1]?=some (.loop { rec .ready none with state:=.busy }):=World.putObj_heap_same cI
    have vW:(Wa.putObj (w.heap.size+1) (.loop { rec .ready none with state:=.busy })).heap[w.heap.size]?=some (.deferred (some [])):=(World.putObj_heap_other (by omega)).trans hda
    refine wpIn_mono (ZP pre x a1 _ Bs (htA _ _ _ _ _ _ hA hla) ⟨_,fM⟩ vW) ?_
    rintro e a3 W3 ⟨rfl,hk3,Oo⟩
    have J5:=hk3.same _ _ (Nat.le_succ _) fM rfl
    have hr:=run_endRound (P:=P) none J5
    have hlt3:=bR J5
    have V0:=ht _ _ _ (rec .ready none) Oo J5
    rw[zw] at hr V0
    refine⟨_,_,hr,rfl,⟨V0,?_,?_⟩,Pp _ _ V0⟩
    ·rw[zw]; exact World.putObj_heap_same hlt3
    ·exact (World.putObj_heap_other (by omega)).trans (hk3.same _ _ (Nat.le_refl _) vW rfl)
   | _=>exact hp.elim
  ·rintro e W2 ⟨⟨v,rfl⟩,hi,hl,hk⟩
   exact⟨none,_,by have:=run_endLoop (P:=P) hl (by rw[zw]; simp); rw[zw] at this; exact this,IH _ (ht _ _ _ _ hi hl) ((World.putObj_heap_other (by omega)).trans hk)⟩
theorem Rel.outer {so s1 s2:aV} {a2:Act} {I1 I2:Nat->Prop} {lz fU:ay} {w1 w2:World} (hO:Rel G I1 lz (so.store s1.st) a w1) (hg:bU I1 lz s1 w1 I2 fU s2 w2) (hb:s1.base=s1.st.length) (hr:s1.rl = []) (h2:Rel G I2 fU s2 a2 w2):Rel G I2 fU (so.store s2.st) a w2:=by
 obtain⟨e1,e2,e3,e4,e5⟩:=aV.dT so s1.st
 obtain⟨f1,f2,f3,f4,f5⟩:=aV.dT so s2.st
 have hH1:aE I1 lz s1.st w1:=by have:=hO.heap; rwa [e3] at this
 have hlen:s1.st.length<=s2.st.length:=by have:=h2.base; rw[hg.base,hb] at this; exact this
 refine⟨by rw[f1,← e1]; exact hO.small,hO.defers,by rw[f1,← e1]; exact hO.size,by rw[f4,f3]; have:=hO.base; rw[e4,e3] at this; omega,fun t x hx=>?_,by rw[f3]; exact h2.heap,h2.av⟩
 rw[f2,← e2] at hx
 obtain⟨v,hv,hi⟩:=hO.get t x hx
 refine⟨v,hv,PV.Is.mono hg.ext.av (fun g tY=>hg.ext.block g (hO.av.av g tY) (fun hw=>hH1.lC hw tY)) x lz fU v (fun l p _ hp=>?_) hi⟩
 have hl:l < s1.st.length:=Nat.lt_of_not_le fun h=>by rw[hH1.qS l h] at hp; cases hp
 rw[hg.low l (by rw[hb]; exact hl) (by rw[hr]; simp)]
 exact hp
theorem bU.outer {so s1 s2:aV} {I0 I1 I2:Nat->Prop} {fO lz fU:ay} {w0 w1 w2:World} (h0:bU I0 fO so w0 I1 lz (so.store s1.st) w1) (hg:bU I1 lz s1 w1 I2 fU s2 w2) (hb:s1.base=s1.st.length) (hr:s1.rl = []) (hle:so.base<=s1.st.length):bU I0 fO so w0 I2 fU (so.store s2.st) w2:=by
 obtain⟨e1,e2,e3,e4,e5⟩:=aV.dT so s1.st
 obtain⟨f1,f2,f3,f4,f5⟩:=aV.dT so s2.st
 have hE:=h0.ext
 rw[e3] at hE
 refine⟨by rw[f3]; exact hE.trans hg.ext,f4,f5,f1,fun l hl hnr=>?_⟩
 rw[hg.low l (by rw[hb]; omega) (by rw[hr]; simp)]
 exact h0.low l hl hnr
theorem tc (s:aV) (st:List au):(s.store st).st=st:=(aV.dT s st).2.2.1
def RInv (G:Gx) (so:aV) (a:Act) (I0:Nat->Prop) (fO:ay) (w0:World) (st:List au) (W:World):Prop :=
 ∃ I β,Rel G I β (so.store st) a W/\bU I0 fO so w0 I β (so.store st) W/\¬ I w0.heap.size/\¬ I (w0.heap.size+1)
theorem j5 {W:World} {L:Nat} (h:∃ r,W.heap[L]?=some (.loop r)):E4 L W:=fun arr ty fr e=>by
 obtain⟨r,h⟩:=h
 rw[h] at e
 cases e
theorem oW {W:World} {L:Nat} {ds:Option (List Deferred)} (h:W.heap[L]?=some (.deferred ds)):E4 L W:=fun arr ty fr e=>by
 rw[h] at e
 cases e
def Bt (G:Gx) (N:Nat) (assign body:Code) (st dY:List au) (s:aV):Prop :=
 pw G [] N assign (fun e s3=>match e with
  | .fL=>s3.st=st/\pw G [] N body (fun e s4=>match e with
   | .fL=>∃ π,ee G.cx π s4 ⟨s4.n,.nil,dY,s4.base,s4.rl⟩
   | _=>False) s3
  | _=>False) s
set_option maxHeartbeats 1000000 in
theorem II (hG:nA G) (hd:G.Gg = []) {α:Type} {g:Operand} {p1 p2:Tmp} {assign body:Code} {Q:Exit->Act->World->Prop} {n N:Nat} {gf:Nat} {lb:Array Value} (X1 X2:α->PV) (V1 V2:α->Value) (hX:∀ x w I β,(X1 x).Is w I β (V1 x)/\(X2 x).Is w I β (V2 x)) {all:List α} {Fc:World->Prop}
  (hg:a.eval g = .func (.func gf) #[] lb) (eg:Ev.ia G.cx.P gf) (IG:C6 (n - 1) G.cx.P gf lb (fun x=>#[V1 x,V2 x]) all Fc) (st:List α->List au) (rY:∀ pre,qJ (st pre)=true) (hs:s.st=st []) (hR:Rel G I β s a w)
  (Pp:∀ pre W I' aN,Rel G I' aN (s.store (st pre)) a W->bU I β s w I' aN (s.store (st pre)) W->Fc W) (h1:kX assign=true) (h2:kX body=true)
  (te:∀ pre x,pre++[x] <+: all->aV.put ⟨s.n,s.t,st pre,(st pre).length,[]⟩ (some p1) (X1 x) fun s1=>s1.put (some p2) (X2 x) fun s2=>Bt G N assign body (st pre) (st (pre++[x])) s2)
  (IH:∀ I' aN W,Rel G I' aN (s.store (st all)) a W->bU I β s w I' aN (s.store (st all)) W->W.heap[w.heap.size]?=some (.deferred (some []))->¬ I' w.heap.size->Q .normal { a with defers:=mark w.heap.size::a.defers } W) :
  (Code.rangeFunc g #[p1,p2] assign body).wpIn Fence.wide n G.cx.P Q a w:=by
 refine Br hg eg IG (fun _=>rfl) (fun pre W=>RInv G s a I β w (st pre) W) ?inv ?h0 ?ht ?Pp (fun pre x a' W=>∃ s3 I' aN,(pw G [] N body (fun e s4=>match e with
   | .fL=>∃ π,ee G.cx π s4 ⟨s4.n,.nil,st (pre++[x]),s4.base,s4.rl⟩
   | _=>False) s3)/\Rel G I' aN s3 a' W/\Rel G I' aN (s.store s3.st) a W/\bU I β s w I' aN (s.store s3.st) W/\(¬ I' w.heap.size/\¬ I' (w.heap.size+1))/\s3.st=st pre/\s3.base=s3.st.length/\s3.rl = []) ?htA ?assign ?body ?done
 case inv =>
  rintro pre W W' ⟨I1,lz,gX,nE,n1,n2⟩ hB
  have hn:¬ I1 W.heap.size:=fun h=>by have:=gX.av.av _ h; omega
  exact⟨I1,lz,gX.m4 (by rw[tc]; exact rY _) hn (IC W) (lh.below hB),nE.m4 (lh.below hB) nE.ext.size,n1,n2⟩
 case h0 =>
  have e:s.store (st [])=s:=by rw[← hs]; exact sc s
  refine⟨I,β,by rw[e]; exact hR,by rw[e]; exact bU.same ⟨rfl,rfl,rfl,rfl⟩,fun h=>?_,fun h=>?_⟩
  ·have:=hR.av.av _ h; omega
  ·have:=hR.av.av _ h; omega
 case ht =>
  rintro pre W r r' ⟨I1,lz,gX,nE,n1,n2⟩ hl
  exact⟨I1,lz,gX.m4 (by rw[tc]; exact rY _) n2 (j5 ⟨r,hl⟩) (lh.put W _ _),nE.m4 (lh.put W _ _) (by omega),n1,n2⟩
 case Pp =>
  rintro pre W ⟨I1,lz,gX,nE,n1,n2⟩
  exact Pp pre W I1 lz gX nE
 case htA =>
  rintro pre x a' W r r' ⟨s3,I1,lz,hq,gX,hO1,nE,⟨n1,n2⟩,z7,hb,hr⟩ hl
  exact⟨s3,I1,lz,hq,gX.m4 (by rw[z7]; exact rY _) n2 (j5 ⟨r,hl⟩) (lh.put W _ _),hO1.m4 (by rw[tc,z7]; exact rY _) n2 (j5 ⟨r,hl⟩) (lh.put W _ _),nE.m4 (lh.put W _ _) (by omega),⟨n1,n2⟩,z7,hb,hr⟩
 case assign =>
  rintro pre x W Bs ⟨I1,lz,hO,nE,n1,n2⟩ hl hk
  obtain⟨e1,e2,e3,e4,e5⟩:=aV.dT s (st pre)
  have hRi:Rel G I1 lz ⟨s.n,s.t,st pre,(st pre).length,[]⟩ { tmps:=a.tmps,defers:=[] } W:=⟨by have:=hO.small; rw[e1] at this; exact this,hd.symm,by have:=hO.size; rw[e1] at this; exact this,Nat.le_refl _,fun t y hy=>hO.get t y (by rw[e2]; exact hy),by have:=hO.heap; rw[e3] at this; exact this,hO.av⟩
  obtain⟨s1,mZ,sb1,IJ⟩:=aV.bT (G:=G) (te pre x Bs)
  obtain⟨s2,Wi,sb2,Qu⟩:=aV.bT (G:=G) mZ
  have hRj:=Qu I1 lz _ W (V2 x) (IJ I1 lz _ W (V1 x) hRi (hX x W I1 lz).1) (hX x W I1 lz).2
  have ea:({ tmps:=(#[p1,p2].zip #[V1 x,V2 x]).foldl (fun t (p,v)=>t.setIfInBounds p v) a.tmps,defers:=[] }:Act)=Act.put (Act.put { tmps:=a.tmps,defers:=[] } (some p1) (V1 x)) (some p2) (V2 x):=by simp[Act.put]
  rw[ea]
  refine wpIn_mono (kJ hG N assign _ s2 h1 Wi I1 lz _ W hRj) fun e a' W' hp=>?_
  obtain⟨x',s3,I3,FT,rfl,hq,vV,OA⟩:=hp.goes
  cases x' with
  | fL =>
   obtain⟨z7,hq⟩:=hq
   have E7:bU I1 lz ⟨s.n,s.t,st pre,(st pre).length,[]⟩ W I3 FT s3 W':=((bU.same sb1).trans (bU.same sb2)).trans OA
   have hO3:=Rel.outer (so:=s) (s1:=⟨s.n,s.t,st pre,(st pre).length,[]⟩) hO E7 rfl rfl vV
   have hle:s.base<=(st pre).length:=by have:=hO.base; rw[e4,e3] at this; exact this
   exact⟨E7.keeps hRi.heap (rY pre) _,s3,I3,FT,hq,vV,hO3,bU.outer (s1:=⟨s.n,s.t,st pre,(st pre).length,[]⟩) nE E7 rfl rfl hle,⟨E7.ID hRi.heap (rY pre) n1 (oW hk) (bR hk),E7.ID hRi.heap (rY pre) n2 (j5 hl) (bR hl.choose_spec)⟩,z7,by rw[E7.base,z7],E7.rl⟩
  | exit id=>exact hq.elim
  | ret=>exact hq.elim
 case body =>
  rintro pre x a' W Bs ⟨s3,I3,FT,hq,vV,hO3,OA,⟨n1,n2⟩,z7,hb,hr⟩ hl hk
  refine wpIn_mono (kJ hG N body _ s3 h2 hq I3 FT a' W vV) fun e a4 W4 hp=>?_
  obtain⟨x',s4,I4,Vg,rfl,hq,M4,Kd⟩:=hp.goes
  cases x' with
  | fL =>
   obtain⟨π,nD⟩:=hq
   obtain⟨I5,Vh,Ke,FZ⟩:=da hG.ok nD I4 Vg a4 W4 M4
   have E7:=Kd.trans FZ
   have LV:qJ s3.st=true:=by rw[z7]; exact rY _
   have hle:s.base<=s3.st.length:=by
    obtain⟨e1,e2,e3,e4,e5⟩:=aV.dT s s3.st
    have:=hO3.base; rw[e4,e3] at this; exact this
   exact⟨rfl,E7.keeps vV.heap LV _,I5,Vh,Rel.outer hO3 E7 hb hr Ke,bU.outer OA E7 hb hr hle,E7.ID vV.heap LV n1 (oW hk) (bR hk),E7.ID vV.heap LV n2 (j5 hl) (bR hl.choose_spec)⟩
  | exit id=>exact hq.elim
  | ret=>exact hq.elim
 case done =>
  rintro W ⟨I1,lz,gX,nE,n1,n2⟩ hk
  exact IH I1 lz W gX nE hk n1
def C7:Nat->Code->Code
 | k+1,.seq a b=>.seq a (C7 k b)
 | _,_=>.skip
def tg:Nat->Code->Code
 | k+1,.seq a b=>tg k b
 | _,c=>c
def Vi:Nat->Code->Bool
 | 0,_=>true
 | k+1,.seq a b=>Vi k b
 | _,_=>false
theorem zx (hG:nA G) {R:List (Nat × aG)} {m:Nat} {Q:Exit->Act->World->Prop} {K:aV->Prop}:∀ (k n:Nat) (c:Code) (s:aV) (a:Act) (I:Nat->Prop) (β:ay) (w:World),Vi k c=true->cp R c=true ->
  pw G R n (C7 k c) (fun e s'=>match e with
   | .fL=>K s'
   | _=>False) s->Rel G I β s a w->(∀ s' I' aN a' w',K s'->Rel G I' aN s' a' w'->bU I β s w I' aN s' w'->(tg k c).wpIn Fence.wide m G.cx.P Q a' w')->c.wpIn Fence.wide m G.cx.P Q a w
 | _,0,_,_,_,_,_,_,_,_,h,_,_=>h.elim
 | 0,n+1,c,s,a,I,β,w,_,_,h,hR,hQ=>by
  have h':K s:=by cases c<;>exact h
  have:=hQ s I β a w h' hR (bU.same ⟨rfl,rfl,rfl,rfl⟩)
  cases c<;>exact this
 | k+1,n+1,c,s,a,I,β,w,hk,hp,h,hR,hQ=>by
  cases c with
  | seq A C =>
   simp only[cp,Bool.and_eq_true] at hp
   refine wpIn_seq (wpIn_mono (wpIn_wide.2 ((gk hG n A _ s hp.1 h).run hR)) fun e a' w' hq=>?_)
   obtain⟨x',s',I',aN,rfl,hq,dp,hg⟩:=hq.goes
   cases x' with
   | fL=>exact zx hG k n C s' a' I' aN w' hk hp.2 hq dp fun s2 I2 fU a2 w2 hK kP xB=>hQ s2 I2 fU a2 w2 hK kP (hg.trans xB)
   | exit id=>exact hq.elim
   | ret=>exact hq.elim
  | _=>cases hk
theorem Rel.Gg {d:List Deferred} (hR:Rel G I β s a w):Rel { G with Gg:=d } I β s { a with defers:=d } w:=⟨hR.small,rfl,hR.size,hR.base,hR.get,hR.heap,⟨hR.av.av,hR.av.nY,hR.av.row⟩⟩
theorem Rel.first {t:TM} {n:Nat} {args:List PV} {vals:List Value} {S:List au} {rl:List Nat} (hd:G.Gg = []) (hle:args.length<=n) (oq:n<=16777215) (ht:∀ m x,t.get m=some x->(∃ j,m=0+j/\args[j]?=some x)\/TM.nil.get m=some x) (hH:aE I β S w) (hM:dd G I w) (hA:bJ w I args β vals):Rel G I β ⟨n,t,S,S.length,rl⟩ { tmps:=vals.toArray++Array.replicate (n - vals.toArray.size) Go.undef,defers:=[] } w:=by
 have hal:=hA.length
 refine⟨oq,hd.symm,by simp; omega,Nat.le_refl _,fun n x hx=>?_,hH,hM⟩
 rcases ht n x hx with ⟨j,hj,hx⟩|hx
 ·rw[Nat.zero_add] at hj
  subst hj
  obtain⟨v,hv,hi⟩:=hA.get hx
  have cI:n < vals.length:=(List.getElem?_eq_some_iff.1 hv).1
  exact⟨v,by rw[Array.getElem?_append_left (by simpa using cI)]; simpa using hv,hi⟩
 ·cases hx
abbrev qo (G:Gx) (D:Nat):Gx:={ G with Gg:=[mark D] }
set_option maxHeartbeats 1000000 in
theorem Spec.Vj (hG:nA G) (R:List (Nat × aG)) {f:FuncId} {fn:Func} {c:Code} {args:List PV} {S:List au} {K:PV->List au->Prop} (N k:Nat) {i:Nat} {g:Operand} {p1 p2:Tmp} {assign body A B:Code} (hf:G.cx.P.funcs[f]?=some fn) (hb:fn.body=some c) (o_:cp R c=true) (hk:Vi k c=true) (htl:tg k c = .seq (.seq A (.block i (.rangeFunc g #[p1,p2] assign body))) B) (h1:kX assign=true) (h2:kX body=true)
  {α:Type} (X1 X2:α->PV) (V1 V2:α->Value) (hX:∀ x w I β,(X1 x).Is w I β (V1 x)/\(X2 x).Is w I β (V2 x)) (all:List α) (st:List α->List au) (rY:∀ pre,qJ (st pre)=true) (sv:List (Nat × PV))
  (Bs:bif Nat.ble args.length fn.ntmps && Nat.ble fn.ntmps 16777215 && !(fn.name == "runtime.NumGoroutine") then lD S 0 fun b=>AH args 0 .nil fun t=>pw G R N (C7 k c) (fun e s'=>match e with
   | .fL=>pw G R N A (fun e s'=>match e with
    | .fL=>∃ π,ee G.cx π s' ⟨fn.ntmps,ig sv .nil,st [],S.length,[]⟩
    | _=>False) s'
   | _=>False) ⟨fn.ntmps,t,S,b,[]⟩ else False)
  (Wg:∀ I β a w,Rel G I β ⟨fn.ntmps,ig sv .nil,st [],S.length,[]⟩ a w->∃ gf lb Fc,a.eval g = .func (.func gf) #[] lb/\Ev.ia G.cx.P gf/\C6 4 G.cx.P gf lb (fun x=>#[V1 x,V2 x]) all Fc/\∀ pre W I' aN,Rel G I' aN ⟨fn.ntmps,ig sv .nil,st pre,S.length,[]⟩ a W->bU I β ⟨fn.ntmps,ig sv .nil,st [],S.length,[]⟩ w I' aN ⟨fn.ntmps,ig sv .nil,st pre,S.length,[]⟩ W->Fc W)
  (te:∀ pre x,pre++[x] <+: all->aV.put ⟨fn.ntmps,ig sv .nil,st pre,(st pre).length,[]⟩ (some p1) (X1 x) fun s1=>s1.put (some p2) (X2 x) fun s2=>Bt G N assign body (st pre) (st (pre++[x])) s2)
  (hend:∀ D,pw (qo G D) R N B (fun e s'=>qJ s'.st=true/\DY (qo G D) fn.results.toList S.length K e s') ⟨fn.ntmps,ig sv .nil,st all,S.length,[]⟩) (hd:G.Gg = []:=by rfl):Spec G f args S [] K:=by
 obtain⟨hc,h⟩:=bp Bs
 simp only[Bool.and_eq_true,Bool.not_eq_true'] at hc
 obtain⟨⟨hle,oq⟩,yh⟩:=hc
 have hle:=Nat.le_of_ble_eq_true hle
 have oq:=Nat.le_of_ble_eq_true oq
 replace h:=gR h
 rw[Nat.zero_add] at h
 obtain⟨t,h,ht⟩:=oC h
 refine Spec.intro (Ev.mi hf hb yh) fun I β w vals hH hM hA=>(callsIn_wide (n:=5)).1 (callsIn_of_wp_marks hf hb trivial ?_ rfl)
 have hR:=Rel.first (rl:=[]) hd hle oq ht hH hM hA
 have M5:cp R (tg k c)=true:=by
  have key:∀ (k:Nat) (c:Code),cp R c=true->cp R (tg k c)=true:=by
   intro k
   induction k with
   | zero=>intro c h; cases c<;>exact h
   | succ k ih =>
    intro c h
    cases c with
    | seq a b =>
     simp only[cp,Bool.and_eq_true] at h
     exact ih b h.2
    | _=>exact h
  exact key k c o_
 rw[htl] at M5
 simp only[cp,Bool.and_eq_true] at M5
 have hplA:=M5.1.1
 have hplB:=M5.2
 refine zx hG k N c _ _ I β w hk o_ h hR fun s0 I0 fO a0 w0 Vk Wj hg0=>?_
 rw[htl]
 refine wpIn_seq (wpIn_seq (wpIn_mono (wpIn_wide.2 ((gk hG N A _ s0 hplA Vk).run Wj)) fun e a' w' hp=>?_))
 obtain⟨x',s',I',aN,rfl,hq,dp,xD⟩:=hp.goes
 have xD:=hg0.trans xD
 cases x' with
 | exit id=>exact hq.elim
 | ret=>exact hq.elim
 | fL =>
 obtain⟨π,nD⟩:=hq
 obtain⟨I1,lz,gX,nE⟩:=da hG.ok nD I' aN a' w' dp
 have nE:=xD.trans nE
 obtain⟨gf,lb,Fc,he,hen,IG,Pp⟩:=Wg I1 lz a' w' gX
 refine wpIn_block ?_
 refine II hG hd X1 X2 V1 V2 hX he hen IG st rY rfl gX (fun pre W I' aN h1 h2=>Pp pre W I' aN h1 h2) h1 h2 te fun I2 fU W kP xB hkD hnD=>?_
 have hgB:=nE.trans xB
 have hda:a'.defers = []:=gX.defers.trans hd
 have hG':nA (qo G w'.heap.size):=⟨hG.ok,hG.bG⟩
 show B.wpIn Fence.wide 5 G.cx.P (bodyPostM Fence.wide 5 G.cx.P fn _) { a' with defers:=mark w'.heap.size::a'.defers } W
 rw[hda]
 have vV:Rel (qo G w'.heap.size) I2 fU ⟨fn.ntmps,ig sv .nil,st all,S.length,[]⟩ { a' with defers:=[mark w'.heap.size] } W:=Rel.Gg kP
 refine wpIn_mono (wpIn_wide.2 ((gk hG' N B _ _ hplB (hend _)).run vV)) fun e a4 W4 hp=>?_
 obtain⟨x',s4,I4,Vg,rfl,⟨hm4,hq⟩,M4,Kd⟩:=hp.goes
 have hmA:qJ (st all)=true:=rY _
 have ZR:W4.heap[w'.heap.size]?=some (.deferred (some [])):=(Kd.keeps vV.heap hmA 0).same _ _ (Nat.zero_le _) hkD rfl
 have hnD4:¬ I4 w'.heap.size:=Kd.ID vV.heap hmA hnD (oW hkD) (bR hkD)
 have Ke:=M4.m4 hm4 hnD4 (oW ZR) (lh.put W4 w'.heap.size (.deferred none))
 have FZ:=(hgB.trans (show bU I2 fU ⟨fn.ntmps,ig sv .nil,st all,S.length,[]⟩ W I4 Vg s4 W4 from Kd)).m4 (lh.put W4 w'.heap.size (.deferred none)) xD.ext.size
 have oo:DY (qo G w'.heap.size) fn.results.toList S.length K .fL s4->bodyPostM Fence.wide 5 G.cx.P fn (fun e w'=>∃ v r S' I' aN,e = .returned v/\K r S'/\r.Is w' I' aN v/\aE I' aN S' w'/\dd G I' w'/\Ext I β S w I' aN S' w'/\S.length<=S'.length/\∀ l,l < S.length->l ∉ []->aN l=β l) .ret a4 W4:=fun hq=>by
  obtain⟨v,ck,v',r,S',I6,β6,hv,hK,hi,hH6,hM6,hE6,hl6,gx⟩:=yg (fn:=fn) hG' rfl rfl rfl Ke FZ hq
  show LeavesInM _ _ _ _ _ _ a4.defers _ _
  rw[show a4.defers = [mark w'.heap.size] from M4.defers]
  exact⟨by simp,.inl ⟨_,_,rfl,run_takeDeferred ZR,v,ck,v',r,S',I6,β6,hv,hK,hi,hH6,⟨hM6.av,hM6.nY,hM6.row⟩,hE6,hl6,gx⟩⟩
 cases x' with
 | fL=>exact oo hq
 | ret=>exact oo hq
 | exit id=>exact hq.elim
end
section
variable {w w':World} {I I':Nat->Prop} {β aN:ay} {G:Gx} {s:aV} {a:Act} {st dY:List au}
theorem IK {x:PV} {v:Value} {n:Bool × IntKind × Int} (h:x.num=some n) (hx:x.Is w I β v):v = .int n.2.1 n.2.2:=by
 cases x<;>simp only[PV.num] at h<;>first|cases h; simp only[PV.Is] at hx; exact hx|cases h
end
def IL (G:Gx) (s:aV) (o:Oper) (q:PV->aV->Prop):Prop:=match o.op with
 | .makeSlice t l c=>bD (G.cx.nq t) fun d=>match d with
  | .slice elem=>bD (Ev.dR G.cx elem) fun n=>bD (Ev.FM elem G.bt) fun bG=>pj G.cx elem fun z=>s.ev l fun l=>s.ev c fun c=>bD l.num fun n1=>bD c.num fun n2=>(match z with
   | [x]=>bif Nat.beq n 1 && x.pZ then ∃ N:Nat,n1.2.2=N/\n2.2.2=N/\n1.2.1 = .i64/\n2.2.1 = .i64/\bG*N<=281474976710656/\N<=maxLen/\n_ s ⟨.dyn,elem,1,.w,true,List.replicate N x.norm⟩ q else False
   | _=>False)
  | _=>False
 | _=>False
section
variable {w w':World} {I I':Nat->Prop} {β aN:ay} {G:Gx} {s:aV} {a:Act} {st dY:List au}
theorem mG (hG:nA G) {o:Oper} {q:PV->aV->Prop} (h:IL G s o q):rL G s o q:=rL.intro fun I β a w hR=>by
 unfold IL at h
 split at h
 ·rename_i t l c vR
  replace h:=az h
  obtain⟨d,hu,h⟩:=h
  split at h
  ·rename_i elem
   replace h:=az h
   obtain⟨n,hn,h⟩:=h
   replace h:=az h
   obtain⟨bG,Ol,h⟩:=h
   replace h:=jM (w:=w) (I:=I) (β:=β) hG.ok h
   obtain⟨z,i,v,h,hi,J4,vI⟩:=h
   replace h:=aV.cN hR h
   obtain⟨x,h,hx⟩:=h
   replace h:=aV.cN hR h
   obtain⟨y,h,hy⟩:=h
   replace h:=az h
   obtain⟨n1,lx,h⟩:=h
   replace h:=az h
   obtain⟨n2,hn2,h⟩:=h
   have hx:=IK lx hx
   have hy:=IK hn2 hy
   split at h
   ·rename_i x
    replace h:=bp h
    obtain⟨hc,N,e1,e2,k1,k2,h4,h5,h⟩:=h
    simp only[Bool.and_eq_true] at hc
    obtain⟨h3,h6⟩:=hc
    obtain rfl:=Nat.eq_of_beq_eq_true h3
    rw[e1,k1] at hx
    rw[e2,k2] at hy
    obtain⟨i2,uC,hib⟩:=hG.bG _ (Ev.jd Ol)
    rw[hi] at uC; cases uC
    obtain⟨i3,Oo,his⟩:=Ev.jJ hG.ok hn
    rw[hi] at Oo; cases Oo
    match hvc:v.cells.toList,vI with
    | [u],vI =>
     have hvc':v.cells = #[u]:=by rw[← Array.toArray_toList (xs:=v.cells),hvc]
     simp only[bJ,and_true] at vI
     have hu1:u.oneCell'=true:=by
      refine nZ (vI.flat (show x.lA=true from ?_))
      cases x<;>first|rfl|cases h6
     have hv1:v.cells = #[u]:=hvc'
     have ck:(execOp a.eval o).run G.cx.P w = .ok (.value (.slice (some ⟨w.heap.size,0,none⟩) N N)) (w.alloc (.cells (madeCells #[u] N) elem)):=by
      have h7:((bG*N:Nat):Int)<=281474976710656:=Int.ofNat_le.2 h4
      have h8:(i.bytes:Int)*(N:Int)<=281474976710656:=by rw[hib,← Int.natCast_mul]; exact h7
      have:=run_make (P:=G.cx.P) w t elem i v (hG.ok.un hu) hi J4 .i64 .i64 N N (by omega) (Int.le_refl _) h8 (by unfold maxLen at h5; omega)
      rw[show i.size=1 from his,hv1] at this
      simp only[Int.toNat_natCast,Nat.mul_one] at this
      unfold execOp
      rw[vR]
      simp only[hx,hy,Sem.run_bind,this,Result.andThen_ok,Sem.run_pure]
     rw[ck]
     replace h:=mo (gR h)
     rw[Nat.zero_add] at h
     have lH:=ay.jO hR.heap ⟨some (w.heap.size,0),N,N⟩
     have fA:(madeCells #[u] N).size=N:=size_madeCells _ _
     have hec:x.norm.cells = [x.norm]:=by cases x<;>first|rfl|cases h6
     have G3:cr (w.alloc (.cells (madeCells #[u] N) elem)) I (List.replicate N x.norm) 1 w.heap.size 0:=cr.of fun j e he=>by
      rw[List.getElem?_replicate] at he
      split at he
      ·rename_i hj
       cases he
       refine⟨by rw[hec]; rfl,dc.of fun j2 c hc=>?_⟩
       rw[hec] at hc
       match j2,hc with
       | 0,hc =>
        simp at hc; subst hc
        refine⟨u,?_,B9 ?_,hu1⟩
        ·rw[Ev.f_ (Ev.nW w _)]
         simp[madeCells,hj,Nat.mod_one]
        ·refine PV.Is.mono (fun _ h=>h) (fun g hg=>jg hR.heap hR.av.av _ g (.inr hg)) x β _ u (fun l p hl=>?_) vI
         exfalso
         cases x<;>first|(simp[PV.dx] at hl; done)|(simp[PV.pZ] at h6; done)
      ·cases he
     obtain⟨hH,hE⟩:=pr (vs:=madeCells #[u] N) (t:=elem) hR.heap hR.av.av (b:=⟨.dyn,elem,1,.w,true,List.replicate N x.norm⟩) (p:=⟨some (w.heap.size,0),N,N⟩) rfl (fun ho =>
      ⟨_,ay.eU ..,⟨Nat.zero_lt_one,List.length_replicate,Nat.le_refl _,h5⟩,.inr ⟨w.heap.size,madeCells #[u] N,(0,0),rfl,Ev.nW w _,G3,ho,by rw[fA,Nat.mul_one]⟩⟩) rfl
     refine dn.mk' hR h hH hE lH (by simp) (fun l hl=>if_neg (by omega)) ?_
     simp only[PV.Is]; exact⟨_,ay.eU ..,rfl⟩
    | [],vI=>simp only[bJ] at vI
    | _::_::_,vI=>simp only[bJ,and_false] at vI
   ·exact h.elim
  ·exact h.elim
 ·exact h.elim
end
end Go.Proofs.YtnbngokbamifbaaGreatDoor.Pw

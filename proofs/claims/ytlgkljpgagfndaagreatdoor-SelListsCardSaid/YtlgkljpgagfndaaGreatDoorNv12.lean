/- What this claim is proved with: no condition. -/
import Derived.Test.YtlgkljpgagfndaaGreatDoorNv11
import Derived.RangeFuncNested
import Derived.RangeFuncBound
import Derived.RangeFuncCalls
import Derived.RangeFuncLeaves
import Derived.RangeFuncFrom
import Derived.TacticsIn
import Derived.Test.YtlgkljpgagfndaaGreatDoorNv10
set_option linter.unusedVariables false
set_option linter.unusedSimpArgs false
namespace Go.Proofs.YtlgkljpgagfndaaGreatDoor.Pw
open Go Go.RowKit
section
variable {w w':World} {I I':Nat->Prop} {β aU:aB} {G:Gx} {s:bb} {a:Act} {st eA:List ak}
def se (st:List ak):Bool:=st.all fun b=>match b.k with
 | .mp=>false
 | _=>true
theorem vK (h:se st=true) {l:Nat} {b:ak} (hl:st[l]?=some b):b.k≠.mp:=fun e=>by
 unfold se at h
 rw[List.all_eq_true] at h
 have:=h b (List.mem_of_getElem? hl)
 rw[e] at this
 cases this
theorem gd.cells {l:Nat} {b:ak} (h:gd I β st w l b) (hk:b.k≠.mp) {p:ow} {g o:Nat} (hp:β l=some p) (ha:p.a=some (g,o)):∃ arr ty fr,w.heap[g]?=some (.cells arr ty fr):=by
 obtain⟨q,hq,hm⟩:=h
 rw[hp] at hq
 cases hq
 split at hm
 ·obtain⟨g',o',arr,ty,fr,dv,hh,_⟩:=hm
  rw[ha] at dv; cases dv; exact⟨_,_,_,hh⟩
 ·obtain⟨g',arr,fr,dv,hh,_⟩:=hm
  rw[ha] at dv; cases dv; exact⟨_,_,_,hh⟩
 ·obtain⟨_,hm⟩:=hm
  rcases hm with ⟨dv,_⟩|⟨g',arr,fr,dv,hh,_⟩
  ·rw[ha] at dv; cases dv
  ·rw[ha] at dv; cases dv; exact⟨_,_,_,hh⟩
 ·rename_i cM
  exact absurd cM hk
structure ko (L:Nat) (w w':World):Prop where
 os:w'.os=w.os
 tape:w'.tape=w.tape
 output:w'.output=w.output
 size:w.heap.size<=w'.heap.size
 same:∀ g,g < w.heap.size->g≠L->w'.heap[g]?=w.heap[g]?
def D3 (L:Nat) (w:World):Prop:=∀ arr ty fr,w.heap[L]?≠some (.cells arr ty fr)
theorem ko.below (h:Below w.heap.size w w'):ko w.heap.size w w':=⟨h.os,h.tape,h.output,h.size,fun g hg _=>h.block g hg⟩
theorem ko.put (w:World) (L:Nat) (o:Obj):ko L w (w.putObj L o):=by
 have:=grownBy_putObj' w L o
 exact⟨this.os,this.tape,this.output,this.size,fun g _ de=>World.putObj_heap_other de⟩
theorem IJ (w:World):D3 w.heap.size w:=fun arr ty fr h=>by
 have:=(Array.getElem?_eq_some_iff.1 h).1
 omega
theorem aO.l7 {L:Nat} (hH:aO I β st w) (qC:se st=true) (hM:∀ g,I g->g < w.heap.size) (hL:¬ I L) (hb:D3 L w) (ht:ko L w w'):aO I β st w':=by
 refine⟨hH.qo,fun l b hl aN=>?_⟩
 have B0:=hH.gw l b hl aN
 refine B0.mono (fun _ h=>h) (fun g hg=>ht.same g (hM g hg) (fun e=>hL (e ▸ hg))) (fun _ _ h=>h) fun p g o hp ha=>?_
 obtain⟨arr,ty,fr,hc⟩:=B0.cells (vK qC hl) hp ha
 obtain⟨_,_,_,_,ho⟩:=B0.place hp ha
 exact⟨ht.same g (bS hc) (fun e=>hb _ _ _ (e ▸ hc)),fun hr=>⟨(ho.1 hr).2.1,(ho.1 hr).2.2⟩⟩
theorem db.l7 {L:Nat} (hM:db G I w) (hL:¬ I L) (ht:ko L w w'):db G I w':=by
 have hs:∀ g,I g->w'.heap[g]?=w.heap[g]?:=fun g hg=>ht.same g (hM.az g hg) (fun e=>hL (e ▸ hg))
 exact⟨fun g hg=>Nat.lt_of_lt_of_le (hM.az g hg) ht.size,fun g cs h=>⟨(hM.m0 g cs h).1,dj.mono (fun _ h=>h) hs _ _ _ (hs g (hM.m0 g cs h).1) (hM.m0 g cs h).2⟩,fun g cs h=>by
  obtain⟨arr,ty,fr,h1,h2⟩:=hM.row g cs h
  exact⟨arr,ty,fr,(hs g (hM.m0 g cs h).1).trans h1,h2⟩⟩
theorem Rel.l7 {L:Nat} (hR:Rel G I β s a w) (qC:se s.st=true) (hL:¬ I L) (hb:D3 L w) (ht:ko L w w'):Rel G I β s a w' :=
 ⟨hR.small,hR.defers,hR.size,hR.base,fun t x hx=>by
  obtain⟨v,hv,hi⟩:=hR.get t x hx
  exact⟨v,hv,PV.Is.mono (fun _ h=>h) (fun g hg=>ht.same g (hR.az.az g hg) (fun e=>hL (e ▸ hg))) x β β v (fun _ _ _ h=>h) hi⟩,hR.heap.l7 qC hR.az.az hL hb ht,hR.az.l7 hL ht⟩
theorem Ext.l7 {I0:Nat->Prop} {fX:aB} {oq:List ak} {w0:World} {L:Nat} (hE:Ext I0 fX oq w0 I β st w) (ht:ko L w w') (hL:w0.heap.size<=L):Ext I0 fX oq w0 I β st w' :=
 ⟨ht.os.trans hE.os,ht.tape.trans hE.tape,ht.output.trans hE.output,Nat.le_trans hE.size ht.size,fun g hg hw=>(ht.same g (Nat.lt_of_lt_of_le hg hE.size) (by omega)).trans (hE.block g hg hw),hE.wr,hE.az,hE.new⟩
theorem bW.l7 {I0:Nat->Prop} {fX:aB} {s0:bb} {w0:World} {L:Nat} (hg:bW I0 fX s0 w0 I β s w) (ht:ko L w w') (hL:w0.heap.size<=L):bW I0 fX s0 w0 I β s w':=⟨hg.ext.l7 ht hL,hg.base,hg.rl,hg.n,hg.low⟩
theorem bW.keeps {s':bb} (hg:bW I β s w I' aU s' w') (hH:aO I β s.st w) (qC:se s.st=true) (B:Nat):KeepsFrom B w w':=by
 refine⟨hg.ext.size,fun k o _ hk ho=>(hg.ext.block k (bS hk) fun ⟨l,b,p,o',h1,h2,_,h4,h5⟩=>?_).trans hk⟩
 obtain⟨arr,ty,fr,hc⟩:=(hH.gw l b h1 h2).cells (vK qC h1) h4 h5
 rw[hk] at hc
 cases hc
 cases ho
theorem bW.IK {s':bb} {L:Nat} (hg:bW I β s w I' aU s' w') (hH:aO I β s.st w) (qC:se s.st=true) (hL:¬ I L) (hb:D3 L w) (cJ:L < w.heap.size):¬ I' L:=fun h=>by
 rcases hg.ext.new L cJ h with h|⟨l,b,p,o',h1,h2,_,h4,h5⟩
 ·exact hL h
 ·obtain⟨arr,ty,fr,hc⟩:=(hH.gw l b h1 h2).cells (vK qC h1) h4 h5
  exact hb _ _ _ hc
abbrev MP (r:Option Nat):Fence:={ Fence.wide with round:=r }
def um (o:Oper):Bool:=match o.op with
 | .defer _=>false
 | _=>true
theorem IL {o:Oper} (h:um o=true):∀ c,o.op≠.defer c:=fun c e=>by
 unfold um at h
 rw[e] at h
 cases h
theorem D4 {P:Program} {r:Option Nat} {n:Nat} {o:Oper} {a:Act} {K:Value->World->Prop} {K':Act->World->Prop} {Q:Exit->Act->World->Prop} (hd:um o=true) (h:Ev.mZ P K ((execOp a.eval o).run P w)) (hK:∀ v w',K v w'->K' (a.put o.dst v) w'):o.wpIn (MP r) n P a w K' Q:=by
 refine⟨fun f _=>trivial,?_⟩
 rw[show (MP r).round=r from rfl,Oper.semAt_eq r _ _ (IL hd)]
 generalize (execOp a.eval o).run P w=r at *
 cases r with
 | ok n w =>
  cases n<;>simp only[Ev.mZ] at h
  case value u=>exact hK _ _ h
  case skip=>exact hK _ _ h
  case enter f args=>exact⟨fun h=>(by cases h),(callsIn_wide (n:=n - 1)).2 (h.mono fun e w' ⟨u,he,hu⟩=>by subst he; exact hK _ _ hu)⟩
 | halt x w=>exact h.elim
theorem sg (hG:ma G) {r:Option Nat} {n:Nat} {ops:Array Oper} {l2:List Oper} {Q:X->bb->Prop} {Q':Exit->Act->World->Prop}:∀ (l:List Oper) {s:bb} {a:Act} {I:Nat->Prop} {β:aB} {w:World},l.all um=true->BM G ops.toList Q l s->Rel G I β s a w ->
  (∀ s' I' aU a' w',Q .iw s'->Rel G I' aU s' a' w'->bW I β s w I' aU s' w'->wpListIn (MP r) n G.cx.P ops Q' l2 a' w')->wpListIn (MP r) n G.cx.P ops Q' (l++l2) a w
 | [],s,a,I,β,w,_,h,hR,hQ=>hQ s I β a w h hR (bW.same ⟨rfl,rfl,rfl,rfl⟩)
 | o::l,s,a,I,β,w,hn,h,hR,hQ=>by
  simp only[List.all_cons,Bool.and_eq_true] at hn
  rw[List.cons_append]
  unfold wpListIn
  rcases jB hR h with ⟨hw,s1,h1,mv,iy⟩|⟨hw,s1,h1,mv,iy⟩
  ·rw[hw,if_pos rfl]
   refine D4 hn.1 (uM hG iy h1) fun v w' hp=>?_
   obtain⟨x,s2,I2,gx,h2,nj,hx,hE,e1,e2,e3,gu,_⟩:=hp
   obtain⟨s3,h3,mV,sG⟩:=bb.bU (G:=G) h2
   have g1:bW I β s w I2 gx s2 w':=(bW.same mv).trans ⟨hE,e1,e2,e3,gu⟩
   exact sg hG l hn.2 h3 (sG _ _ _ _ v nj hx) fun s' I' aU a' vN hq dt hg=>hQ s' I' aU a' vN hq dt ((g1.trans (bW.same mV)).trans hg)
  ·rw[hw,if_neg (by simp)]
   obtain⟨s3,h3,mV,sG⟩:=bb.bU (G:=G) h1
   exact⟨fun f _=>trivial,sg hG l hn.2 h3 (sG _ _ _ _ _ iy Is.undef) fun s' I' aU a' vN hq dt hg=>hQ s' I' aU a' vN hq dt (((bW.same mv).trans (bW.same mV)).trans hg)⟩
theorem D5 (hG:ma G) {r:Option Nat} {n:Nat} {ops:Array Oper} {Q:X->bb->Prop} {Q':Exit->Act->World->Prop} (l:List Oper) {s:bb} {a:Act} {I:Nat->Prop} {β:aB} {w:World} (hn:l.all um=true) (h:BM G ops.toList Q l s) (hR:Rel G I β s a w)
  (hQ:∀ s' I' aU a' w',Q .iw s'->Rel G I' aU s' a' w'->bW I β s w I' aU s' w'->Q' .normal a' w'):wpListIn (MP r) n G.cx.P ops Q' l a w:=by
 have:=sg (l2:=[]) (Q':=Q') (r:=r) (n:=n) hG l hn h hR fun s' I' aU a' w' hq dt hg=>hQ s' I' aU a' w' hq dt hg
 rwa [List.append_nil] at this
def kf:Code->Bool
 | .skip|.label _|.ret|.exit _=>true
 | .seq a b=>kf a && kf b
 | .cond _ a b=>kf a && kf b
 | .block _ c=>kf c
 | .region _ ops false=>ops.toList.all um
 | _=>false
def UH (l:Option Nat) (n:Nat) (G:Gx) (c:Code) (Q:X->bb->Prop) (s:bb):Prop:=∀ I β a w,Rel G I β s a w->c.wpIn (MP l) n G.cx.P (dK G s I β w Q) a w
theorem UH.from {l:Option Nat} {n:Nat} {c:Code} {Q:X->bb->Prop} {s0:bb} {I0:Nat->Prop} {fX:aB} {w0:World} (h:UH l n G c Q s) (hR:Rel G I β s a w) (hg:bW I0 fX s0 w0 I β s w):c.wpIn (MP l) n G.cx.P (dK G s0 I0 fX w0 Q) a w :=
 wpIn_mono (h I β a w hR) fun e a' w' hp=>by
  obtain⟨x,s',I',aU,rfl,hq,dt,vP⟩:=hp.goes
  exact dK.of hq dt (hg.trans vP)
theorem j' (hG:ma G) {R:List (Nat × aT)} {ln:Option Nat} {m:Nat}:∀ (n:Nat) (c:Code) (Q:X->bb->Prop) (s:bb),kf c=true->pw G R n c Q s->UH ln m G c Q s
 | 0,_,_,_,_,h=>h.elim
 | n+1,c,Q,s,hc,h=>by
  intro I β a w hR
  cases c with
  | skip=>exact wpIn_skip (dK.of (x:=.iw) h hR (bW.same ⟨rfl,rfl,rfl,rfl⟩))
  | label l=>exact wpIn_label (dK.of (x:=.iw) h hR (bW.same ⟨rfl,rfl,rfl,rfl⟩))
  | ret=>exact wpIn_ret (dK.of (x:=.ret) h hR (bW.same ⟨rfl,rfl,rfl,rfl⟩))
  | exit id=>exact wpIn_exit (dK.of (x:=.exit id) h hR (bW.same ⟨rfl,rfl,rfl,rfl⟩))
  | seq x y =>
   simp only[kf,Bool.and_eq_true] at hc
   refine wpIn_seq (wpIn_mono (j' hG n x _ s hc.1 h I β a w hR) fun e a' w' hp=>?_)
   obtain⟨x',s',I',aU,rfl,hq,dt,hg⟩:=hp.goes
   cases x' with
   | iw=>exact (j' hG n y Q s' hc.2 hq).from dt hg
   | exit id=>exact dK.of (Q:=Q) (x:=.exit id) hq dt hg
   | ret=>exact dK.of (Q:=Q) (x:=.ret) hq dt hg
  | cond c x y =>
   simp only[kf,Bool.and_eq_true] at hc
   obtain⟨b,s',he,hk,hs,dt⟩:=wD hR h
   refine wpIn_cond he ?_
   cases b with
   | true=>exact (j' hG n x Q s' hc.1 hk).from dt (bW.same hs)
   | false=>exact (j' hG n y Q s' hc.2 hk).from dt (bW.same hs)
  | block id c =>
   refine wpIn_block (wpIn_mono (j' hG n c _ s hc h I β a w hR) fun e a' w' hp=>?_)
   obtain⟨x',s',I',aU,rfl,hq,dt,hg⟩:=hp.goes
   cases x' with
   | iw=>exact dK.of (Q:=Q) (x:=.iw) hq dt hg
   | exit j =>
    show Exit.inBlock id _ (.exit j) a' w'
    simp only[Exit.inBlock]
    by_cases hj:j=id
    ·subst hj
     rw[if_pos rfl]
     have pr:Q .iw s':=by simpa [qL,Nat.beq_refl] using hq
     exact dK.of (x:=.iw) pr dt hg
    ·have dq:Nat.beq j id=false:=by rw[Bool.eq_false_iff]; exact fun e=>hj (Nat.eq_of_beq_eq_true e)
     rw[if_neg hj]
     have pr:Q (.exit j) s':=by simpa [qL,dq] using hq
     exact dK.of (x:=.exit j) pr dt hg
   | ret=>exact dK.of (Q:=Q) (x:=.ret) hq dt hg
  | region id ops draw =>
   cases draw with
   | true=>cases hc
   | false=>exact wpIn_region_list (D5 hG _ hc h hR fun s' I' aU a' w' hq dt hg=>dK.of (x:=.iw) hq dt hg)
  | _=>cases hc
def IM {α:Type} (n:Nat) (P:Program) (g:Nat) (lb:Array Value) (D6:α->Array Value) (all:List α) (Fc:World->Prop):Prop :=
 ∀ (l:Nat) (J:List α->World->Prop) (W:World),(∀ pre W W',J pre W->Below W.heap.size W W'->J pre W')->Fc W ->
  (∀ pre x W1,pre++[x] <+: all->J pre W1->YieldAt Fence.wide (n - 1) P l (D6 x) W1 fun e W'=>e = .returned (.bool true)/\J (pre++[x]) W'/\Fc W') ->
  J [] W->CallsIn Fence.wide n P g (#[.func (.yield l) #[] #[]]++lb) W fun e W'=>(∃ v,e = .returned v)/\J all W'
def mark (D:Nat):Deferred:={ target:=.collected D,args:=#[] }
theorem zY {n:Nat} {P:Program} {α:Type} {g:Operand} {ps:Array Tmp} {assign body:Code} {Q:Exit->Act->World->Prop} {gf:Nat} {lb:Array Value}
  (hg:a.eval g = .func (.func gf) #[] lb) (eg:∀ args w,(callFunc gf args).run P w = .ok (.enter gf args) w) {D6:α->Array Value} {all:List α} {Fc:World->Prop}
  (IP:IM (n - 1) P gf lb D6 all Fc) (UZ:∀ x,(D6 x).size=ps.size) (Inv:List α->World->Prop) (Z1:∀ pre W W',Inv pre W->Below W.heap.size W W'->Inv pre W') (h0:Inv [] w)
  (ht:∀ pre W r r',Inv pre W->W.heap[w.heap.size+1]?=some (.loop r)->Inv pre (W.putObj (w.heap.size+1) (.loop r'))) (NY:∀ pre W,Inv pre W->Fc W)
  (Ax:List α->α->Act->World->Prop) (htA:∀ pre x a' W r r',Ax pre x a' W->W.heap[w.heap.size+1]?=some (.loop r)->Ax pre x a' (W.putObj (w.heap.size+1) (.loop r')))
  (MQ:∀ pre x W,pre++[x] <+: all->Inv pre W->(∃ r,W.heap[w.heap.size+1]?=some (.loop r))->W.heap[w.heap.size]?=some (.deferred (some []))->assign.wpIn (MP (some (w.heap.size+1))) (n - 1 - 1) P (Exit.then (fun a' W'=>KeepsFrom w.heap.size W W'/\Ax pre x a' W') (fun _ _ _=>False)) { tmps:=(ps.zip (D6 x)).foldl (fun t (p,v)=>t.setIfInBounds p v) a.tmps,defers:=[] } W)
  (Z2:∀ pre x a' W,pre++[x] <+: all->Ax pre x a' W->(∃ r,W.heap[w.heap.size+1]?=some (.loop r))->W.heap[w.heap.size]?=some (.deferred (some []))->body.wpIn (MP (some (w.heap.size+1))) (n - 1 - 1) P (fun e _ W'=>e = .normal/\KeepsFrom w.heap.size W W'/\Inv (pre++[x]) W') a' W)
  (IQ:∀ W,Inv all W->W.heap[w.heap.size]?=some (.deferred (some []))->Q .normal { a with defers:=mark w.heap.size::a.defers } W) :
  (Code.rangeFunc g ps assign body).wpIn Fence.wide n P Q a w:=by
 refine wpIn_rangeFunc ?_
 intro fn hfn
 obtain⟨rec,yh⟩:∃ rec:LoopState->Option Code->Loop,rec=fun st pe=>{ state:=st,pending:=pe,fn,tmps:=a.tmps,params:=ps,assign,body,defers:=w.heap.size }:=⟨_,rfl⟩
 obtain⟨W1,hW1⟩:∃ W1,(w.alloc (.deferred (some []))).alloc (.loop (rec .ready none))=W1:=⟨_,rfl⟩
 have hL1:W1.heap[w.heap.size+1]?=some (.loop (rec .ready none)):=by
  rw[← hW1]; have:=World.alloc_heap_new (w.alloc (.deferred (some []))) (.loop (rec .ready none)); rwa [World.size_alloc] at this
 have hK1:W1.heap[w.heap.size]?=some (.deferred (some [])):=by
  rw[← hW1]; exact (Below.heap_alloc _ _ _ (by simp)).trans (World.alloc_heap_new w _)
 have hI1:Inv [] W1:=by
  rw[← hW1]
  exact Z1 _ _ _ h0 ((((Below.refl _ w).alloc (Nat.le_refl _) _).alloc (by simp) _))
 refine⟨w.heap.size+1,[mark w.heap.size],W1,{ target:=.fn (.func gf) lb,args:=#[.func (.yield (w.heap.size+1)) #[] #[]] },W1,gf,
  #[.func (.yield (w.heap.size+1)) #[] #[]]++lb,W1,?_,?_,fun _ _=>trivial,?_,fun h=>(by cases h),?_⟩
 ·rw[← hW1,yh]; exact run_enterLoop_outer _ _ _ _ _
 ·simp only[resolve,hg]
  simp[go_sem]
 ·simp[invoke,go_sem,eg]
 ·refine (IP (w.heap.size+1) (fun pre W=>Inv pre W/\W.heap[w.heap.size+1]?=some (.loop (rec .ready none))/\W.heap[w.heap.size]?=some (.deferred (some [])))
   W1 (fun pre W W' ⟨h1,h2,h3⟩ hB=>⟨Z1 _ _ _ h1 hB,(hB.block _ (bS h2)).trans h2,(hB.block _ (bS h3)).trans h3⟩) (NY _ _ hI1) ?_ ⟨hI1,hL1,hK1⟩).mono ?_
  ·rintro pre x W zZ ⟨hi,hl,hk⟩
   have hy:=run_yield (P:=P) (args:=D6 x) hl (by rw[yh]; exact UZ x)
   rw[yh] at hy
   refine⟨fn,_,assign,body,hy,roundIn_of_wpIn hfn (wpIn_mono (MQ pre x W zZ hi ⟨_,hl⟩ hk) ?_)⟩
   intro e a1 Wa hp
   cases e with
   | normal =>
    obtain⟨hka,hA⟩:=hp
    have hla:=hka.same _ _ (Nat.le_succ _) hl rfl
    have WE:=hka.same _ _ (Nat.le_refl _) hk rfl
    refine⟨_,run_beginRound hla (by rw[yh]),?_⟩
    have cJ:=bS hla
    have fZ:(Wa.putObj (w.heap.size+1) (.loop { rec .ready none with state:=.busy })).heap[w.heap.size+1]?=some (.loop { rec .ready none with state:=.busy }):=World.putObj_heap_same cJ
    have sI:(Wa.putObj (w.heap.size+1) (.loop { rec .ready none with state:=.busy })).heap[w.heap.size]?=some (.deferred (some [])):=(World.putObj_heap_other (by omega)).trans WE
    refine wpIn_mono (Z2 pre x a1 _ zZ (htA _ _ _ _ _ _ hA hla) ⟨_,fZ⟩ sI) ?_
    rintro e a3 W3 ⟨rfl,hk3,Ng⟩
    have Jg:=hk3.same _ _ (Nat.le_succ _) fZ rfl
    have hr:=run_endRound (P:=P) none Jg
    have hlt3:=bS Jg
    have U2:=ht _ _ _ (rec .ready none) Ng Jg
    rw[yh] at hr U2
    refine⟨_,_,hr,rfl,⟨U2,?_,?_⟩,NY _ _ U2⟩
    ·rw[yh]; exact World.putObj_heap_same hlt3
    ·exact (World.putObj_heap_other (by omega)).trans (hk3.same _ _ (Nat.le_refl _) sI rfl)
   | _=>exact hp.elim
  ·rintro e W2 ⟨⟨v,rfl⟩,hi,hl,hk⟩
   exact⟨none,_,by have:=run_endLoop (P:=P) hl (by rw[yh]; simp); rw[yh] at this; exact this,IQ _ (ht _ _ _ _ hi hl) ((World.putObj_heap_other (by omega)).trans hk)⟩
theorem Rel.outer {so s1 s2:bb} {a2:Act} {I1 I2:Nat->Prop} {mi gx:aB} {w1 w2:World} (hO:Rel G I1 mi (so.store s1.st) a w1) (hg:bW I1 mi s1 w1 I2 gx s2 w2) (hb:s1.base=s1.st.length) (hr:s1.rl = []) (h2:Rel G I2 gx s2 a2 w2):Rel G I2 gx (so.store s2.st) a w2:=by
 obtain⟨e1,e2,e3,e4,e5⟩:=bb.eD so s1.st
 obtain⟨f1,f2,f3,f4,f5⟩:=bb.eD so s2.st
 have hH1:aO I1 mi s1.st w1:=by have:=hO.heap; rwa [e3] at this
 have hlen:s1.st.length<=s2.st.length:=by have:=h2.base; rw[hg.base,hb] at this; exact this
 refine⟨by rw[f1,← e1]; exact hO.small,hO.defers,by rw[f1,← e1]; exact hO.size,by rw[f4,f3]; have:=hO.base; rw[e4,e3] at this; omega,fun t x hx=>?_,by rw[f3]; exact h2.heap,h2.az⟩
 rw[f2,← e2] at hx
 obtain⟨v,hv,hi⟩:=hO.get t x hx
 refine⟨v,hv,PV.Is.mono hg.ext.az (fun g sJ=>hg.ext.block g (hO.az.az g sJ) (fun hw=>hH1.kG hw sJ)) x mi gx v (fun l p _ hp=>?_) hi⟩
 have hl:l < s1.st.length:=Nat.lt_of_not_le fun h=>by rw[hH1.qo l h] at hp; cases hp
 rw[hg.low l (by rw[hb]; exact hl) (by rw[hr]; simp)]
 exact hp
theorem bW.outer {so s1 s2:bb} {I0 I1 I2:Nat->Prop} {fX mi gx:aB} {w0 w1 w2:World} (h0:bW I0 fX so w0 I1 mi (so.store s1.st) w1) (hg:bW I1 mi s1 w1 I2 gx s2 w2) (hb:s1.base=s1.st.length) (hr:s1.rl = []) (hle:so.base<=s1.st.length):bW I0 fX so w0 I2 gx (so.store s2.st) w2:=by
 obtain⟨e1,e2,e3,e4,e5⟩:=bb.eD so s1.st
 obtain⟨f1,f2,f3,f4,f5⟩:=bb.eD so s2.st
 have hE:=h0.ext
 rw[e3] at hE
 refine⟨by rw[f3]; exact hE.trans hg.ext,f4,f5,f1,fun l hl hnr=>?_⟩
 rw[hg.low l (by rw[hb]; omega) (by rw[hr]; simp)]
 exact h0.low l hl hnr
theorem si (s:bb) (st:List ak):(s.store st).st=st:=(bb.eD s st).2.2.1
def RInv (G:Gx) (so:bb) (a:Act) (I0:Nat->Prop) (fX:aB) (w0:World) (st:List ak) (W:World):Prop :=
 ∃ I β,Rel G I β (so.store st) a W/\bW I0 fX so w0 I β (so.store st) W/\¬ I w0.heap.size/\¬ I (w0.heap.size+1)
theorem jP {W:World} {L:Nat} (h:∃ r,W.heap[L]?=some (.loop r)):D3 L W:=fun arr ty fr e=>by
 obtain⟨r,h⟩:=h
 rw[h] at e
 cases e
theorem og {W:World} {L:Nat} {ds:Option (List Deferred)} (h:W.heap[L]?=some (.deferred ds)):D3 L W:=fun arr ty fr e=>by
 rw[h] at e
 cases e
def IS (G:Gx) (N:Nat) (assign body:Code) (st eA:List ak) (s:bb):Prop :=
 pw G [] N assign (fun e s3=>match e with
  | .iw=>s3.st=st/\pw G [] N body (fun e s4=>match e with
   | .iw=>∃ π,gC G.cx π s4 ⟨s4.n,.nil,eA,s4.base,s4.rl⟩
   | _=>False) s3
  | _=>False) s
set_option maxHeartbeats 1000000 in
theorem IT (hG:ma G) (hd:G.EB = []) {α:Type} {g:Operand} {p1 p2:Tmp} {assign body:Code} {Q:Exit->Act->World->Prop} {n N:Nat} {gf:Nat} {lb:Array Value} (X1 X2:α->PV) (V1 V2:α->Value) (hX:∀ x w I β,(X1 x).Is w I β (V1 x)/\(X2 x).Is w I β (V2 x)) {all:List α} {Fc:World->Prop}
  (hg:a.eval g = .func (.func gf) #[] lb) (eg:Ev.gX G.cx.P gf) (IP:IM (n - 1) G.cx.P gf lb (fun x=>#[V1 x,V2 x]) all Fc) (st:List α->List ak) (qC:∀ pre,se (st pre)=true) (hs:s.st=st []) (hR:Rel G I β s a w)
  (NY:∀ pre W I' aU,Rel G I' aU (s.store (st pre)) a W->bW I β s w I' aU (s.store (st pre)) W->Fc W) (h1:kf assign=true) (h2:kf body=true)
  (z3:∀ pre x,pre++[x] <+: all->bb.put ⟨s.n,s.t,st pre,(st pre).length,[]⟩ (some p1) (X1 x) fun s1=>s1.put (some p2) (X2 x) fun s2=>IS G N assign body (st pre) (st (pre++[x])) s2)
  (IQ:∀ I' aU W,Rel G I' aU (s.store (st all)) a W->bW I β s w I' aU (s.store (st all)) W->W.heap[w.heap.size]?=some (.deferred (some []))->¬ I' w.heap.size->Q .normal { a with defers:=mark w.heap.size::a.defers } W) :
  (Code.rangeFunc g #[p1,p2] assign body).wpIn Fence.wide n G.cx.P Q a w:=by
 refine zY hg eg IP (fun _=>rfl) (fun pre W=>RInv G s a I β w (st pre) W) ?inv ?h0 ?ht ?NY (fun pre x a' W=>∃ s3 I' aU,(pw G [] N body (fun e s4=>match e with
   | .iw=>∃ π,gC G.cx π s4 ⟨s4.n,.nil,st (pre++[x]),s4.base,s4.rl⟩
   | _=>False) s3)/\Rel G I' aU s3 a' W/\Rel G I' aU (s.store s3.st) a W/\bW I β s w I' aU (s.store s3.st) W/\(¬ I' w.heap.size/\¬ I' (w.heap.size+1))/\s3.st=st pre/\s3.base=s3.st.length/\s3.rl = []) ?htA ?assign ?body ?done
 case inv =>
  rintro pre W W' ⟨I1,mi,iy,pP,n1,n2⟩ hB
  have hn:¬ I1 W.heap.size:=fun h=>by have:=iy.az.az _ h; omega
  exact⟨I1,mi,iy.l7 (by rw[si]; exact qC _) hn (IJ W) (ko.below hB),pP.l7 (ko.below hB) pP.ext.size,n1,n2⟩
 case h0 =>
  have e:s.store (st [])=s:=by rw[← hs]; exact qM s
  refine⟨I,β,by rw[e]; exact hR,by rw[e]; exact bW.same ⟨rfl,rfl,rfl,rfl⟩,fun h=>?_,fun h=>?_⟩
  ·have:=hR.az.az _ h; omega
  ·have:=hR.az.az _ h; omega
 case ht =>
  rintro pre W r r' ⟨I1,mi,iy,pP,n1,n2⟩ hl
  exact⟨I1,mi,iy.l7 (by rw[si]; exact qC _) n2 (jP ⟨r,hl⟩) (ko.put W _ _),pP.l7 (ko.put W _ _) (by omega),n1,n2⟩
 case NY =>
  rintro pre W ⟨I1,mi,iy,pP,n1,n2⟩
  exact NY pre W I1 mi iy pP
 case htA =>
  rintro pre x a' W r r' ⟨s3,I1,mi,hq,iy,hO1,pP,⟨n1,n2⟩,uL,hb,hr⟩ hl
  exact⟨s3,I1,mi,hq,iy.l7 (by rw[uL]; exact qC _) n2 (jP ⟨r,hl⟩) (ko.put W _ _),hO1.l7 (by rw[si,uL]; exact qC _) n2 (jP ⟨r,hl⟩) (ko.put W _ _),pP.l7 (ko.put W _ _) (by omega),⟨n1,n2⟩,uL,hb,hr⟩
 case assign =>
  rintro pre x W zZ ⟨I1,mi,hO,pP,n1,n2⟩ hl hk
  obtain⟨e1,e2,e3,e4,e5⟩:=bb.eD s (st pre)
  have hRi:Rel G I1 mi ⟨s.n,s.t,st pre,(st pre).length,[]⟩ { tmps:=a.tmps,defers:=[] } W:=⟨by have:=hO.small; rw[e1] at this; exact this,hd.symm,by have:=hO.size; rw[e1] at this; exact this,Nat.le_refl _,fun t y hy=>hO.get t y (by rw[e2]; exact hy),by have:=hO.heap; rw[e3] at this; exact this,hO.az⟩
  obtain⟨s1,mv,sb1,hr1⟩:=bb.bU (G:=G) (z3 pre x zZ)
  obtain⟨s2,hs2,sb2,YT⟩:=bb.bU (G:=G) mv
  have hRj:=YT I1 mi _ W (V2 x) (hr1 I1 mi _ W (V1 x) hRi (hX x W I1 mi).1) (hX x W I1 mi).2
  have ea:({ tmps:=(#[p1,p2].zip #[V1 x,V2 x]).foldl (fun t (p,v)=>t.setIfInBounds p v) a.tmps,defers:=[] }:Act)=Act.put (Act.put { tmps:=a.tmps,defers:=[] } (some p1) (V1 x)) (some p2) (V2 x):=by simp[Act.put]
  rw[ea]
  refine wpIn_mono (j' hG N assign _ s2 h1 hs2 I1 mi _ W hRj) fun e a' W' hp=>?_
  obtain⟨x',s3,I3,U7,rfl,hq,yQ,VZ⟩:=hp.goes
  cases x' with
  | iw =>
   obtain⟨uL,hq⟩:=hq
   have D7:bW I1 mi ⟨s.n,s.t,st pre,(st pre).length,[]⟩ W I3 U7 s3 W':=((bW.same sb1).trans (bW.same sb2)).trans VZ
   have hO3:=Rel.outer (so:=s) (s1:=⟨s.n,s.t,st pre,(st pre).length,[]⟩) hO D7 rfl rfl yQ
   have hle:s.base<=(st pre).length:=by have:=hO.base; rw[e4,e3] at this; exact this
   exact⟨D7.keeps hRi.heap (qC pre) _,s3,I3,U7,hq,yQ,hO3,bW.outer (s1:=⟨s.n,s.t,st pre,(st pre).length,[]⟩) pP D7 rfl rfl hle,⟨D7.IK hRi.heap (qC pre) n1 (og hk) (bS hk),D7.IK hRi.heap (qC pre) n2 (jP hl) (bS hl.choose_spec)⟩,uL,by rw[D7.base,uL],D7.rl⟩
  | exit id=>exact hq.elim
  | ret=>exact hq.elim
 case body =>
  rintro pre x a' W zZ ⟨s3,I3,U7,hq,yQ,hO3,VZ,⟨n1,n2⟩,uL,hb,hr⟩ hl hk
  refine wpIn_mono (j' hG N body _ s3 h2 hq I3 U7 a' W yQ) fun e a4 W4 hp=>?_
  obtain⟨x',s4,I4,β4,rfl,hq,hR4,Z3⟩:=hp.goes
  cases x' with
  | iw =>
   obtain⟨π,pO⟩:=hq
   obtain⟨I5,β5,hR5,hg5⟩:=eZ hG.ok pO I4 β4 a4 W4 hR4
   have D7:=Z3.trans hg5
   have Lk:se s3.st=true:=by rw[uL]; exact qC _
   have hle:s.base<=s3.st.length:=by
    obtain⟨e1,e2,e3,e4,e5⟩:=bb.eD s s3.st
    have:=hO3.base; rw[e4,e3] at this; exact this
   exact⟨rfl,D7.keeps yQ.heap Lk _,I5,β5,Rel.outer hO3 D7 hb hr hR5,bW.outer VZ D7 hb hr hle,D7.IK yQ.heap Lk n1 (og hk) (bS hk),D7.IK yQ.heap Lk n2 (jP hl) (bS hl.choose_spec)⟩
  | exit id=>exact hq.elim
  | ret=>exact hq.elim
 case done =>
  rintro W ⟨I1,mi,iy,pP,n1,n2⟩ hk
  exact IQ I1 mi W iy pP hk n1
def IU:Nat->Code->Code
 | k+1,.seq a b=>.seq a (IU k b)
 | _,_=>.skip
def yi:Nat->Code->Code
 | k+1,.seq a b=>yi k b
 | _,c=>c
def UI:Nat->Code->Bool
 | 0,_=>true
 | k+1,.seq a b=>UI k b
 | _,_=>false
theorem yj (hG:ma G) {R:List (Nat × aT)} {m:Nat} {Q:Exit->Act->World->Prop} {K:bb->Prop}:∀ (k n:Nat) (c:Code) (s:bb) (a:Act) (I:Nat->Prop) (β:aB) (w:World),UI k c=true->cr R c=true ->
  pw G R n (IU k c) (fun e s'=>match e with
   | .iw=>K s'
   | _=>False) s->Rel G I β s a w->(∀ s' I' aU a' w',K s'->Rel G I' aU s' a' w'->bW I β s w I' aU s' w'->(yi k c).wpIn Fence.wide m G.cx.P Q a' w')->c.wpIn Fence.wide m G.cx.P Q a w
 | _,0,_,_,_,_,_,_,_,_,h,_,_=>h.elim
 | 0,n+1,c,s,a,I,β,w,_,_,h,hR,hQ=>by
  have h':K s:=by cases c<;>exact h
  have:=hQ s I β a w h' hR (bW.same ⟨rfl,rfl,rfl,rfl⟩)
  cases c<;>exact this
 | k+1,n+1,c,s,a,I,β,w,hk,hp,h,hR,hQ=>by
  cases c with
  | seq A C =>
   simp only[cr,Bool.and_eq_true] at hp
   refine wpIn_seq (wpIn_mono (wpIn_wide.2 ((jD hG n A _ s hp.1 h).run hR)) fun e a' w' hq=>?_)
   obtain⟨x',s',I',aU,rfl,hq,dt,hg⟩:=hq.goes
   cases x' with
   | iw=>exact yj hG k n C s' a' I' aU w' hk hp.2 hq dt fun s2 I2 gx a2 w2 hK nj BX=>hQ s2 I2 gx a2 w2 hK nj (hg.trans BX)
   | exit id=>exact hq.elim
   | ret=>exact hq.elim
  | _=>cases hk
theorem Rel.EB {d:List Deferred} (hR:Rel G I β s a w):Rel { G with EB:=d } I β s { a with defers:=d } w:=⟨hR.small,rfl,hR.size,hR.base,hR.get,hR.heap,⟨hR.az.az,hR.az.m0,hR.az.row⟩⟩
theorem Rel.first {t:TM} {n:Nat} {args:List PV} {bs:List Value} {S:List ak} {rl:List Nat} (hd:G.EB = []) (hle:args.length<=n) (ni:n<=16777215) (ht:∀ m x,t.get m=some x->(∃ j,m=0+j/\args[j]?=some x)\/TM.nil.get m=some x) (hH:aO I β S w) (hM:db G I w) (hA:bH w I args β bs):Rel G I β ⟨n,t,S,S.length,rl⟩ { tmps:=bs.toArray++Array.replicate (n - bs.toArray.size) Go.undef,defers:=[] } w:=by
 have hal:=hA.length
 refine⟨ni,hd.symm,by simp; omega,Nat.le_refl _,fun n x hx=>?_,hH,hM⟩
 rcases ht n x hx with ⟨j,hj,hx⟩|hx
 ·rw[Nat.zero_add] at hj
  subst hj
  obtain⟨v,hv,hi⟩:=hA.get hx
  have cJ:n < bs.length:=(List.getElem?_eq_some_iff.1 hv).1
  exact⟨v,by rw[Array.getElem?_append_left (by simpa using cJ)]; simpa using hv,hi⟩
 ·cases hx
abbrev yk (G:Gx) (D:Nat):Gx:={ G with EB:=[mark D] }
set_option maxHeartbeats 1000000 in
theorem Spec.enterH (hG:ma G) (R:List (Nat × aT)) {f:FuncId} {fn:Func} {c:Code} {args:List PV} {S:List ak} {K:PV->List ak->Prop} (N k:Nat) {i:Nat} {g:Operand} {p1 p2:Tmp} {assign body A B:Code} (hf:G.cx.P.funcs[f]?=some fn) (hb:fn.body=some c) (pk:cr R c=true) (hk:UI k c=true) (Z4:yi k c = .seq (.seq A (.block i (.rangeFunc g #[p1,p2] assign body))) B) (h1:kf assign=true) (h2:kf body=true)
  {α:Type} (X1 X2:α->PV) (V1 V2:α->Value) (hX:∀ x w I β,(X1 x).Is w I β (V1 x)/\(X2 x).Is w I β (V2 x)) (all:List α) (st:List α->List ak) (qC:∀ pre,se (st pre)=true) (sv:List (Nat × PV))
  (zZ:bif Nat.ble args.length fn.ntmps && Nat.ble fn.ntmps 16777215 && !(fn.name == "runtime.NumGoroutine") then lS S 0 fun b=>Fj args 0 .nil fun t=>pw G R N (IU k c) (fun e s'=>match e with
   | .iw=>pw G R N A (fun e s'=>match e with
    | .iw=>∃ π,gC G.cx π s' ⟨fn.ntmps,kQ sv .nil,st [],S.length,[]⟩
    | _=>False) s'
   | _=>False) ⟨fn.ntmps,t,S,b,[]⟩ else False)
  (hit:∀ I β a w,Rel G I β ⟨fn.ntmps,kQ sv .nil,st [],S.length,[]⟩ a w->∃ gf lb Fc,a.eval g = .func (.func gf) #[] lb/\Ev.gX G.cx.P gf/\IM 4 G.cx.P gf lb (fun x=>#[V1 x,V2 x]) all Fc/\∀ pre W I' aU,Rel G I' aU ⟨fn.ntmps,kQ sv .nil,st pre,S.length,[]⟩ a W->bW I β ⟨fn.ntmps,kQ sv .nil,st [],S.length,[]⟩ w I' aU ⟨fn.ntmps,kQ sv .nil,st pre,S.length,[]⟩ W->Fc W)
  (z3:∀ pre x,pre++[x] <+: all->bb.put ⟨fn.ntmps,kQ sv .nil,st pre,(st pre).length,[]⟩ (some p1) (X1 x) fun s1=>s1.put (some p2) (X2 x) fun s2=>IS G N assign body (st pre) (st (pre++[x])) s2)
  (hend:∀ D,pw (yk G D) R N B (fun e s'=>se s'.st=true/\Fk (yk G D) fn.results.toList S.length K e s') ⟨fn.ntmps,kQ sv .nil,st all,S.length,[]⟩) (hd:G.EB = []:=by rfl):Spec G f args S [] K:=by
 obtain⟨hc,h⟩:=bp zZ
 simp only[Bool.and_eq_true,Bool.not_eq_true'] at hc
 obtain⟨⟨hle,ni⟩,wJ⟩:=hc
 have hle:=Nat.le_of_ble_eq_true hle
 have ni:=Nat.le_of_ble_eq_true ni
 replace h:=gG h
 rw[Nat.zero_add] at h
 obtain⟨t,h,ht⟩:=qa h
 refine Spec.intro (Ev.lq hf hb wJ) fun I β w bs hH hM hA=>(callsIn_wide (n:=5)).1 (callsIn_of_wp_marks hf hb trivial ?_ rfl)
 have hR:=Rel.first (rl:=[]) hd hle ni ht hH hM hA
 have MR:cr R (yi k c)=true:=by
  have key:∀ (k:Nat) (c:Code),cr R c=true->cr R (yi k c)=true:=by
   intro k
   induction k with
   | zero=>intro c h; cases c<;>exact h
   | succ k ih =>
    intro c h
    cases c with
    | seq a b =>
     simp only[cr,Bool.and_eq_true] at h
     exact ih b h.2
    | _=>exact h
  exact key k c pk
 rw[Z4] at MR
 simp only[cr,Bool.and_eq_true] at MR
 have hplA:=MR.1.1
 have hplB:=MR.2
 refine yj hG k N c _ _ I β w hk pk h hR fun s0 I0 fX a0 w0 hA0 hR0 hg0=>?_
 rw[Z4]
 refine wpIn_seq (wpIn_seq (wpIn_mono (wpIn_wide.2 ((jD hG N A _ s0 hplA hA0).run hR0)) fun e a' w' hp=>?_))
 obtain⟨x',s',I',aU,rfl,hq,dt,vP⟩:=hp.goes
 have vP:=hg0.trans vP
 cases x' with
 | exit id=>exact hq.elim
 | ret=>exact hq.elim
 | iw =>
 obtain⟨π,pO⟩:=hq
 obtain⟨I1,mi,iy,pP⟩:=eZ hG.ok pO I' aU a' w' dt
 have pP:=vP.trans pP
 obtain⟨gf,lb,Fc,he,hen,IP,NY⟩:=hit I1 mi a' w' iy
 refine wpIn_block ?_
 refine IT hG hd X1 X2 V1 V2 hX he hen IP st qC rfl iy (fun pre W I' aU h1 h2=>NY pre W I' aU h1 h2) h1 h2 z3 fun I2 gx W nj BX hkD hnD=>?_
 have hgB:=pP.trans BX
 have WE:a'.defers = []:=iy.defers.trans hd
 have hG':ma (yk G w'.heap.size):=⟨hG.ok,hG.bG⟩
 show B.wpIn Fence.wide 5 G.cx.P (bodyPostM Fence.wide 5 G.cx.P fn _) { a' with defers:=mark w'.heap.size::a'.defers } W
 rw[WE]
 have yQ:Rel (yk G w'.heap.size) I2 gx ⟨fn.ntmps,kQ sv .nil,st all,S.length,[]⟩ { a' with defers:=[mark w'.heap.size] } W:=Rel.EB nj
 refine wpIn_mono (wpIn_wide.2 ((jD hG' N B _ _ hplB (hend _)).run yQ)) fun e a4 W4 hp=>?_
 obtain⟨x',s4,I4,β4,rfl,⟨hm4,hq⟩,hR4,Z3⟩:=hp.goes
 have hmA:se (st all)=true:=qC _
 have Z5:W4.heap[w'.heap.size]?=some (.deferred (some [])):=(Z3.keeps yQ.heap hmA 0).same _ _ (Nat.zero_le _) hkD rfl
 have hnD4:¬ I4 w'.heap.size:=Z3.IK yQ.heap hmA hnD (og hkD) (bS hkD)
 have hR5:=hR4.l7 hm4 hnD4 (og Z5) (ko.put W4 w'.heap.size (.deferred none))
 have hg5:=(hgB.trans (show bW I2 gx ⟨fn.ntmps,kQ sv .nil,st all,S.length,[]⟩ W I4 β4 s4 W4 from Z3)).l7 (ko.put W4 w'.heap.size (.deferred none)) vP.ext.size
 have qB:Fk (yk G w'.heap.size) fn.results.toList S.length K .iw s4->bodyPostM Fence.wide 5 G.cx.P fn (fun e w'=>∃ v r S' I' aU,e = .returned v/\K r S'/\r.Is w' I' aU v/\aO I' aU S' w'/\db G I' w'/\Ext I β S w I' aU S' w'/\S.length<=S'.length/\∀ l,l < S.length->l ∉ []->aU l=β l) .ret a4 W4:=fun hq=>by
  obtain⟨v,cg,v',r,S',I6,β6,hv,hK,hi,hH6,hM6,hE6,hl6,gu⟩:=wI (fn:=fn) hG' rfl rfl rfl hR5 hg5 hq
  show LeavesInM _ _ _ _ _ _ a4.defers _ _
  rw[show a4.defers = [mark w'.heap.size] from hR4.defers]
  exact⟨by simp,.inl ⟨_,_,rfl,run_takeDeferred Z5,v,cg,v',r,S',I6,β6,hv,hK,hi,hH6,⟨hM6.az,hM6.m0,hM6.row⟩,hE6,hl6,gu⟩⟩
 cases x' with
 | iw=>exact qB hq
 | ret=>exact qB hq
 | exit id=>exact hq.elim
end
def IV (G:Gx) (s:bb) (o:Oper) (q:PV->bb->Prop):Prop:=match o.op with
 | .call { callee:=.builtin .copy,args:=⟨[d,x]⟩,argTypes:=⟨t::_⟩ }=>bu (G.cx.l9 t) fun td=>match td with
  | .slice elem=>bu (Ev.dZ G.cx elem) fun n=>bif Nat.beq n 1 then s.ev d fun d=>s.ev x fun x=>(match d with
   | .ref l off len=>bu s.st[l]? fun b=>bif b.mem && b.can then JA G.cx s.st 1 x fun src=>bu (fL false 1 src) fun fs=>(∀ e∈fs,∃ k n,e = .int k n)/\0 < len/\len<=fs.length/\∃ cs,vW b.cs (fs.take len) off=some cs/\uA s.st l (b.gg cs) fun st=>q (.int .i64 (len:Nat)) (s.store st) else False
   | _=>False) else False
  | _=>False
 | _=>False
section
variable {w w':World} {I I':Nat->Prop} {β aU:aB} {G:Gx} {s:bb} {a:Act} {st eA:List ak}
theorem D8 (hG:ma G) {o:Oper} {q:PV->bb->Prop} (h:IV G s o q):pK G s o q:=pK.intro fun I β a w hR=>by
 unfold IV at h
 have hh:=hR.heap
 split at h
 ·rename_i od ox t r sF
  replace h:=aA h
  obtain⟨d,hu,h⟩:=h
  split at h
  ·rename_i elem
   replace h:=aA h
   obtain⟨n,hn,h⟩:=h
   replace h:=bp h
   obtain⟨kp,h⟩:=h
   obtain rfl:=Nat.eq_of_beq_eq_true kp
   replace h:=bb.cI hR h
   obtain⟨d,h,hd⟩:=h
   replace h:=bb.cI hR h
   obtain⟨x,h,hx⟩:=h
   split at h
   ·rename_i l off len
    replace h:=aA h
    obtain⟨b,hb,h⟩:=h
    replace h:=bp h
    obtain⟨E1,h⟩:=h
    simp only[Bool.and_eq_true] at E1
    obtain⟨gM,sD⟩:=E1
    obtain⟨aN,hm⟩:=qx sD
    obtain⟨src,ad,UJ,c,news,h,hxv,nh,Ap,Ni,U9⟩:=Ao hG.ok hh (Nat.zero_lt_one) h hx
    replace h:=aA h
    obtain⟨fs,Oi,hints,BT,hlf,cs,gr,h⟩:=h
    replace h:=jU h
    obtain⟨cJ,h⟩:=h
    obtain⟨hfl,nf⟩:=fQ (Nat.zero_lt_one) (.inr rfl) Oi nh Ap
    simp only[PV.Is] at hd
    obtain⟨p,g,o,cap,hp,ha,hdv,hcap⟩:=hd
    obtain⟨arr,ty,fr,h_,oG,fu⟩:=iq hh hb gM hp ha
    have yq:fr=(0,0):=(fu.1 (by rw[hm]; decide)).1
    subst yq
    rw[Nat.mul_one] at Ap
    have Aq:∀ v∈news.take len,v.oneCell'=true:=fun v hv=>nh.BS v (List.mem_of_mem_take hv)
    have Z4:(news.take len).length=len:=by rw[List.length_take]; omega
    have hyc:bH w I (fs.take len) β (news.take len):=by
     refine bH.of (by rw[List.length_take,List.length_take,Ap,hfl]) fun i e he=>?_
     rw[List.getElem?_take] at he
     split at he
     ·rename_i hi
      obtain⟨k,z,rfl⟩:=hints e (List.mem_of_getElem? he)
      obtain⟨_,h3⟩:=nf.2 i _ he
      obtain⟨v,hv,hvi,_⟩:=h3 0 (.int k z) rfl
      rw[Nat.mul_one,Nat.add_zero] at hv
      refine⟨v,by rw[List.getElem?_take,if_pos hi]; exact hv,?_⟩
      simp only[PV.Is] at hvi ⊢
      exact hvi
     ·cases he
    have hle:off+len<=b.cs.length:=by
     unfold vW at gr
     split at gr
     ·rename_i hle
      have:=Nat.le_of_ble_eq_true hle
      rw[List.length_take] at this; omega
     ·cases gr
    have fF:o+off+(news.take len).length<=arr.size:=by
     obtain⟨z,hz,_⟩:=oG _ _ (List.getElem?_eq_getElem (show off+len - 1 < b.cs.length by omega))
     have:=(Array.getElem?_eq_some_iff.1 hz).1
     rw[Z4]
     omega
    have uL:=run_storeCells_at (P:=G.cx.P) g (o+off) ty (news.take len) 0 arr w h_ (by simpa using fF) Aq
    have hfc:(Builtin.firstCells 1 len (.slice ad UJ c)).run G.cx.P w = .ok (news.take len).toArray w:=by
     rcases Ni with h0|⟨g',o',rfl⟩
     ·omega
     ·refine run_firstCells_some w 1 len ⟨g',o',none⟩ UJ c _ (by rw[Z4,Nat.mul_one]) fun j v hv=>?_
      have hv':news[j]?=some v:=by
       rw[List.getElem?_take] at hv
       split at hv
       ·exact hv
       ·cases hv
      have h0:=U9 g' o' rfl j v hv'
      by_cases hj:j=0<;>simpa [Addr.add,hj] using h0
    obtain⟨arr',IW⟩:∃ A,A=(arr.toList.take (o+off)++news.take len++arr.toList.drop (o+off+(news.take len).length)).toArray:=⟨_,rfl⟩
    rw[Nat.add_zero,← IW] at uL
    have Ov:arr'.size=arr.size:=by
     rw[IW]
     simp only[List.size_toArray,List.length_append,List.length_take,List.length_drop,Array.length_toList]
     rw[List.length_take] at fF
     omega
    have cg:(execOp a.eval ‹Oper›).run G.cx.P w = .ok (.value (.int .i64 (len:Nat))) (w.setRow g arr'):=by
     have VQ:∀ ty,(Builtin.copy_ (t::r).toArray ty #[a.eval od,a.eval ox]).run G.cx.P w = .ok (.int .i64 (len:Nat)) (w.setRow g arr'):=fun ty=>by
      rw[hdv,hxv]
      have pA:Nat.min UJ len=len:=Nat.min_eq_right (by omega)
      simp[Builtin.copy_,run_underlying (hG.ok.un hu),Builtin.lenOf,pA,Ev.dQ hG.ok hn,hfc,uL,goInt]
     unfold execOp
     rw[sF]
     simp[resolve,invoke,builtin,VQ]
    rw[cg]
    obtain⟨k1,k2,k3,k4,k5,k6⟩:=nd b cs
    have JP:cs.length=b.cs.length:=by
     unfold vW at gr
     split at gr
     ·cases gr; simp only[List.length_append,List.length_take,List.length_drop]; omega
     ·cases gr
    have uK:=Ak gr oG hyc Aq fF
    rw[← IW] at uK
    obtain⟨hH,hE⟩:=hh.write (b':=b.gg cs) hb aN hm hp ha h_ (by rw[k5]; exact aN) (by rw[k4]; exact hm) (arr':=arr') (fun hI hO=>by
     have nf:=setRow_heap w g arr arr' ty (0,0) h_
     obtain⟨q',pr,hk⟩:=hh.gw l b hb aN
     rw[hp] at pr
     cases pr
     refine⟨p,hp,?_⟩
     rw[k1]
     unfold ak.mem at gM
     split at hk
     ·rename_i cM
      refine⟨g,o,_,ty,(0,0),ha,nf,?_,hO⟩
      rw[k6]; exact uK.mono (fun _ h=>h) hI (fun _ _ h=>h)
     ·rename_i cM
      obtain⟨g',arr2,fr',dv,Nf,_,_,h1,h2,h3,h4,h5⟩:=hk
      rw[ha] at dv; cases dv
      rw[h_] at Nf; cases Nf
      refine⟨g,_,(0,0),ha,by rw[k2]; exact nf,?_,hO,by rw[k6,k3,JP]; exact h1,h2,h3,by rw[k3,Ov]; exact h4,by rw[k3]; exact h5⟩
      rw[k6]; exact uK.mono (fun _ h=>h) hI (fun _ _ h=>h)
     ·rename_i cM
      rw[cM] at gM; simp at gM
     ·rename_i cM
      rw[cM] at gM; simp at gM)
    refine c9.mk' hR h hH hE (fun _ _ h=>h) (by simp) (fun _ _=>rfl) ?_
    simp only[PV.Is]
   ·exact h.elim
  ·exact h.elim
 ·exact h.elim
end
end Go.Proofs.YtlgkljpgagfndaaGreatDoor.Pw
